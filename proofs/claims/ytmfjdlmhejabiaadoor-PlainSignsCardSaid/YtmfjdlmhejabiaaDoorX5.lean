/- targumlaw20.text: of a seed, the signs that its numbers name, one behind the other. -/
import Derived.Test.YtmfjdlmhejabiaaDoorX4
import Derived.Great.Walk
import Derived.ChangeKeysEq
import Derived.Deep.WholeRow
namespace Go.Proofs.YtmfjdlmhejabiaaDoor.X
open Go.RowKit Go.Proofs.YtmfjdlmhejabiaaDoorW.PrintWords Go.Proofs.Tg Go.Great
set_option linter.unusedVariables false
set_option linter.unusedSimpArgs false

/-- Signs by their numbers. -/
def pickS (T : List ByteArray) (i : Nat) : ByteArray := T.getD i ByteArray.empty
/-- A seed's signs, one behind the other. -/
def pickAll (T : List ByteArray) (m : Int) (l : List Int) : ByteArray := l.foldl (fun s x => s ++ pickS T (Int.tmod x m).toNat) ⟨#[]⟩
theorem pickAll_snoc (T : List ByteArray) (m : Int) (l : List Int) (x : Int) : pickAll T m (l ++ [x]) = pickAll T m l ++ pickS T (Int.tmod x m).toNat := by
  unfold pickAll; rw [List.foldl_append]; rfl
theorem take_rd (l : List Int) (k : Nat) (h : k < l.length) : l.take (k + 1) = l.take k ++ [rd l k] := by
  rw [List.take_succ_eq_append_getElem h]
  unfold rd
  rw [Int.toNat_natCast, List.getD_eq_getElem?_getD, List.getElem?_eq_getElem h]; rfl
def cellsOf (T : List ByteArray) : Array Value := (T.map Value.string).toArray
theorem cell_pick {w : World} {g t : Nat} {fr : Nat × Nat} {T : List ByteArray} (hg : w.heap[g]? = some (.cells (cellsOf T) t fr)) (i : Nat) (hi : i < T.length) : w.cell? ⟨g, i, none⟩ = some (.string (pickS T i)) := by
  rw [cell_of_row w g i _ t fr hg]
  unfold cellsOf pickS
  rw [List.getElem?_toArray, List.getElem?_map, List.getD_eq_getElem?_getD, List.getElem?_eq_getElem hi]; rfl
def small (l : List Int) : Bool := decide (l.length ≤ 100000) && l.all (fun x => decide (0 ≤ x) && decide (x ≤ 255))
theorem small_rd {l : List Int} (h : small l = true) (k : Nat) (hk : k < l.length) : 0 ≤ rd l k ∧ rd l k ≤ 255 := by
  unfold small at h
  simp only [Bool.and_eq_true, List.all_eq_true, decide_eq_true_eq] at h
  have hm : rd l k ∈ l := by
    unfold rd
    rw [Int.toNat_natCast, List.getD_eq_getElem?_getD, List.getElem?_eq_getElem hk]; exact List.getElem_mem hk
  exact h.2 _ hm
theorem small_len {l : List Int} (h : small l = true) : l.length ≤ 100000 := by
  unfold small at h; simp only [Bool.and_eq_true, decide_eq_true_eq] at h; exact h.1
theorem pickS_le (T : List ByteArray) (m : Nat) (hT : ∀ t ∈ T, t.size ≤ m) (i : Nat) : (pickS T i).size ≤ m := by
  unfold pickS
  rw [List.getD_eq_getElem?_getD]
  by_cases h : i < T.length
  · rw [List.getElem?_eq_getElem h]; exact hT _ (List.getElem_mem h)
  · rw [List.getElem?_eq_none (by omega)]; exact Nat.zero_le _
theorem pickAll_le (T : List ByteArray) (M : Int) (m : Nat) (hT : ∀ t ∈ T, t.size ≤ m) (l : List Int) : (pickAll T M l).size ≤ m * l.length := by
  unfold pickAll
  have key : ∀ (l : List Int) (s : ByteArray), (l.foldl (fun s x => s ++ pickS T (Int.tmod x M).toNat) s).size ≤ s.size + m * l.length := by
    intro l
    induction l with
    | nil => intro s; simp
    | cons x l ih =>
      intro s
      rw [List.foldl_cons]
      have h1 := ih (s ++ pickS T (Int.tmod x M).toNat)
      have h2 := pickS_le T m hT (Int.tmod x M).toNat
      rw [ByteArray.size_append] at h1
      rw [List.length_cons, Nat.mul_succ]
      omega
  have := key l ⟨#[]⟩
  have hz : (⟨#[]⟩ : ByteArray).size = 0 := rfl
  omega

/-- An array of strings, indexed. -/
theorem idx_run {P : Program} {a : Act} {o : Oper} {w : World} {t e : TypeId} {x y : Operand} {T : List ByteArray} {k : IntKind} {i : Int} (ho : o.op = .index t x y) (hu : P.underlying t = some (.array T.length e)) (hs : ((P.info? e).isSome && P.cellsOf e == 1 && P.plainKey e) = true)
    (hx : a.eval x = .agg (cellsOf T)) (hy : a.eval y = .int k i) (h0 : decide (0 ≤ i) = true) (h1 : decide (i < (T.length : Int)) = true) : (execOp a.eval o).run P w = .ok (.value (.string (pickS T i.toNat))) w := by
  have h0' := of_decide_eq_true h0
  have h1' := of_decide_eq_true h1
  simp only [Bool.and_eq_true, beq_iff_eq] at hs
  obtain ⟨inf, hinf⟩ := Option.isSome_iff_exists.mp hs.1.1
  have hlt : i.toNat < T.length := by omega
  have hcell : (cellsOf T)[i.toNat * 1]? = some (.string (pickS T i.toNat)) := by
    unfold cellsOf pickS
    rw [Nat.mul_one, List.getElem?_toArray, List.getElem?_map, List.getD_eq_getElem?_getD, List.getElem?_eq_getElem hlt]; rfl
  have hp := run_part_plain (P := P) hs.2 hcell (w := w)
  unfold execOp
  rw [ho]
  simp only [hx, hy]
  unfold Instr.index
  simp [run_underlying hu, asIntOf, h0', h1', run_sizeOf w hinf, hs.1.2, Nat.mul_one] at hp ⊢
  rw [hp]; rfl

def text20T : List ByteArray := [⟨#[97]⟩, ⟨#[98]⟩, ⟨#[32]⟩, ⟨#[9]⟩, ⟨#[10]⟩, ⟨#[13]⟩, ⟨#[10, 32]⟩, ⟨#[10, 32, 32]⟩, ⟨#[10, 10]⟩, ⟨#[194, 133, 32]⟩, ⟨#[226, 128, 168]⟩, ⟨#[58]⟩, ⟨#[58, 32]⟩, ⟨#[35]⟩, ⟨#[32, 35]⟩, ⟨#[44]⟩, ⟨#[91]⟩, ⟨#[93]⟩, ⟨#[123]⟩, ⟨#[125]⟩, ⟨#[45]⟩, ⟨#[45, 32]⟩, ⟨#[63]⟩, ⟨#[39]⟩, ⟨#[34]⟩, ⟨#[37]⟩, ⟨#[45, 45, 45]⟩, ⟨#[10, 45, 45, 45, 10]⟩, ⟨#[46, 46, 46]⟩, ⟨#[38]⟩, ⟨#[33]⟩, ⟨#[195, 169]⟩]
def zeros32 : Array Value := Array.replicate 32 (.string ⟨#[]⟩)
def targumlaw20_text.f (l0 : List Int) : Option ByteArray := if small l0 = true then some (pickAll text20T 32 l0) else none

def TextRel (T : List ByteArray) (m : Int) (l : List Int) (v4 v5 : Value) : Prop := ∃ k : Nat, k ≤ l.length ∧ v5 = .int .i64 k ∧ v4 = .string (pickAll T m (l.take k))

theorem alloc_text (w : World) (a : Act) (o : Oper) (ho : o.op = .alloc 64) : (execOp a.eval o).run Tryd.prog w = .ok (.value (.pointer (some ⟨w.heap.size, 0, none⟩))) (w.alloc (.cells zeros32 64)) := by
  unfold execOp; rw [ho]; kernel_rfl

set_option maxHeartbeats 1000000 in
set_option maxRecDepth 100000 in
theorem targumlaw20_text.calls (A0 : Option Addr) (c0 : Nat) (l0 : List Int) (r : ByteArray) (w : World) (hr0 : Kd.C (Kd.int .u8) w A0 l0.length l0) (hc0 : l0.length ≤ c0) (h : targumlaw20_text.f l0 = some r) :
    Calls Tryd.prog 18 #[.slice A0 l0.length c0] w fun e w' => e = .returned (.string r) ∧ Below w.heap.size w w' := by
  unfold targumlaw20_text.f at h
  split at h
  · rename_i hs
    cases h
    have HS := Aside0.mk hs
    have hl := small_len hs
    clear hs
    have HR := Aside0.mk hr0
    clear hr0
    go_enter Tryd.func18, Tryd.ntmps18
    go_wp2_with (first
      | (refine wpList_buildTo rfl 64 _ rfl _ rfl (cellsOf text20T) (by as_aux_lemma => kernel_rfl) ?_)
      | (refine wpList_allocTo rfl _ rfl _ _ (alloc_text _ _ _ rfl) ?_)
      | (refine wpList_store_rowTo rfl 64 _ _ rfl rfl _ (cellsOf text20T) rfl rfl 64 zeros32 (heap_alloc_new _ _) (by as_aux_lemma => kernel_rfl) (by as_aux_lemma => kernel_rfl) (by as_aux_lemma => kernel_rfl) ?_))
    rw [World.setRow_alloc_new]
    have hbk : (w.alloc (.cells (cellsOf text20T) 64)).heap[w.heap.size]? = some (.cells (cellsOf text20T) 64 (0, 0)) := heap_alloc_new _ _
    have hbl := (Below.refl w.heap.size w).alloc (Nat.le_refl _) (.cells (cellsOf text20T) 64)
    have hcl := Kd.C_alloc HR.out (.cells (cellsOf text20T) 64)
    generalize w.alloc (.cells (cellsOf text20T) 64) = w1 at *
    have HB := Aside0.mk hbk
    have HL := Aside0.mk hbl
    have HC := Aside0.mk hcl
    clear hbk hbl hcl
    go_loop [4, 5] (TextRel text20T 32 l0) (fun _ i => l0.length - (intOf i).toNat)
    case atStart => exact ⟨0, Nat.zero_le _, rfl, rfl⟩
    case round =>
      obtain ⟨k, hk, rfl, rfl⟩ := hrel
      by_cases hlt : k < l0.length
      · have hx := small_rd HS.out k hlt
        obtain ⟨ad, e1, e2⟩ := Kd.at_int HC.out k (by omega) (by omega)
        rw [Int.toNat_natCast] at e2
        cases e1
        have hsn := pickAll_snoc text20T 32 (l0.take k) (rd l0 k)
        rw [← take_rd l0 k hlt] at hsn
        have hsz1 := pickAll_le text20T 32 5 (by decide) (l0.take k)
        rw [List.length_take] at hsz1
        generalize rd l0 k = x at *
        have hm : 0 ≤ Int.tmod x 32 ∧ Int.tmod x 32 < 32 := by rw [Int.tmod_eq_emod_of_nonneg hx.1]; omega
        rw [Int.tmod_eq_emod_of_nonneg hx.1] at hm hsn
        have hcell := cell_pick HB.out (x % 32).toNat (by show _ < 32; omega)
        have hsz2 := pickS_le text20T 5 (by decide) (x % 32).toNat
        have HSN := Aside0.mk hsn
        clear hsn
        go_wp2
        go_round
        case rel => exact ⟨k + 1, by omega, by go_num, by rw [HSN.out]⟩
        case measure => simp [intOf]; omega
      · go_wp2
        go_ret
        have hte : l0.take k = l0 := List.take_of_length_le (by omega)
        exact ⟨show Ending.returned (.string (pickAll text20T 32 (l0.take k))) = .returned (.string (pickAll text20T 32 l0)) from by rw [hte], HL.out⟩
  · cases h
end Go.Proofs.YtmfjdlmhejabiaaDoor.X
