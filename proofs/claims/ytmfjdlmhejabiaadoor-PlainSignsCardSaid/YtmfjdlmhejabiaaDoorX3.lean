/- plain.on: where a plain text goes on behind a part. -/
import Derived.Test.YtmfjdlmhejabiaaDoorX2
import Derived.Test.YtmfjdlmhejabiaaDoorM2
namespace Go.Proofs.YtmfjdlmhejabiaaDoor.X
open Go.RowKit Go.Proofs.YtmfjdlmhejabiaaDoorW.PrintWords Go.Proofs.Tg Go.Proofs.YtmfjdlmhejabiaaDoor.PB Go.Proofs.YtmfjdlmhejabiaaDoor.M
set_option linter.unusedVariables false
set_option linter.unusedSimpArgs false

theorem over_any (s : ByteArray) (n : Nat) (w : World) (hs : s.size ≤ 140737488355328) :
    Calls Tryd.prog 65 #[.string s, .int .i64 n] w fun e w' => e = .returned (.int .i64 (n + nbl (suf s n) : Nat)) ∧ Drawn0 w w' :=
  rows_Over.calls (s.size + 1) s n _ w (over_eq s n _ hs (by omega))
theorem line_any (v : Int) (s : ByteArray) (n : Nat) (w : World) (hs : s.size ≤ 140737488355328) (hn : n ≤ s.size) :
    Calls Tryd.prog 77 #[.int .i64 v, .string s, .int .i64 n] w fun e w' => e = .returned (.agg #[.int .i64 n, .int .i64 (lEnd v s n : Nat), .int .i64 (lNext v s n : Nat)]) ∧ Below w.heap.size w w' :=
  rows_Line.calls (s.size + 1) v s n _ _ _ w (line_eq v s n _ hs hn (by omega))
theorem lText_eq (v : Int) (s : ByteArray) (n : Nat) : (suf s n).take (lEnd v s n - n) = lText v s n := by
  unfold lText lEnd; rw [Nat.add_sub_cancel_left]
theorem blankline_any (v : Int) (s : ByteArray) (n : Nat) (w : World) (hs : s.size ≤ 140737488355328) (hn : n ≤ s.size) :
    Calls Tryd.prog 78 #[.string s, .agg #[.int .i64 n, .int .i64 (lEnd v s n : Nat), .int .i64 (lNext v s n : Nat)]] w fun e w' => e = .returned (.bool ((lText v s n).all isBl)) ∧ Below w.heap.size w w' :=
  brk_Blank.calls s n _ _ _ w (by rw [blankline_eq s n _ _ (lEnd_le v s n hn).1 (lNext_le v s n hn).1 (lNext_le v s n hn).2 hs, lText_eq])
theorem indent_any (v : Int) (s : ByteArray) (n : Nat) (w : World) (hs : s.size ≤ 140737488355328) (hn : n ≤ s.size) :
    Calls Tryd.prog 79 #[.string s, .agg #[.int .i64 n, .int .i64 (lEnd v s n : Nat), .int .i64 (lNext v s n : Nat)]] w fun e w' => e = .returned (.int .i64 (nsp (lText v s n) : Nat)) ∧ Below w.heap.size w w' :=
  brk_Indent.calls s n _ _ _ w (by rw [indent_eq s n _ _ (lEnd_le v s n hn).1 (lNext_le v s n hn).1 (lNext_le v s n hn).2 hs, lText_eq])
theorem marker_any (v : Int) (s : ByteArray) (n : Nat) (w : World) (hs : s.size ≤ 140737488355328) (hn : n ≤ s.size) :
    Calls Tryd.prog 80 #[.string s, .agg #[.int .i64 n, .int .i64 (lEnd v s n : Nat), .int .i64 (lNext v s n : Nat)]] w fun e w' => e = .returned (.int .i64 (marker (lText v s n) : Nat)) ∧ Below w.heap.size w w' :=
  brk_Marker.calls 1 s n _ _ _ w (by rw [marker_eq s n _ _ 1 (lEnd_le v s n hn).1 (lNext_le v s n hn).1 (lNext_le v s n hn).2 (by omega), lText_eq])

/-- Where a plain text goes on from the line at nx on, m lines having been passed by. -/
def onF (v : Int) (s : ByteArray) (p : Int) : Nat → Nat → Nat → Int × Int
  | 0, _, _ => (-1, 0)
  | k + 1, m, nx =>
    if s.size ≤ nx then (-1, 0)
    else if (lText v s nx).all isBl = true then onF v s p k (m + 1) (lNext v s nx)
    else if (nsp (lText v s nx) : Int) ≤ p ∨ 0 < marker (lText v s nx) ∨ (suf s (nx + nbl (suf s nx))).head? = some 35 ∨
      ((suf s (nx + nbl (suf s nx))).head? = some 58 ∧ stop (decide (v = 11)) false (suf s (nx + nbl (suf s nx) + 1)) = true) then (-1, 0)
    else (((nx + nbl (suf s nx) : Nat) : Int), (m : Int))

theorem next_lt (v : Int) (s : ByteArray) (n : Nat) (h : n < s.size) : n < lNext v s n := by
  unfold lNext lEnd
  rw [suf_cons s n h]
  by_cases hb : brk (decide (v = 11)) (s[n] :: suf s (n + 1)) = 0
  · have : lend (decide (v = 11)) (s[n] :: suf s (n + 1)) = lend (decide (v = 11)) (suf s (n + 1)) + 1 := if_pos hb
    omega
  · have : lend (decide (v = 11)) (s[n] :: suf s (n + 1)) = 0 := if_neg hb
    rw [this, Nat.add_zero, suf_cons s n h]; omega

section
variable {p ns : Int} {mk : Nat} {c : Int} {st : Bool}
theorem on_no1 (h1 : p < ns) (h2 : mk = 0) (h3 : c = 35) : ns ≤ p ∨ 0 < mk ∨ c = 35 ∨ (c = 58 ∧ st = true) := .inr (.inr (.inl h3))
theorem on_no2 (h1 : p < ns) (h2 : mk = 0) (h3 : c = 58) (h4 : ns ≤ p ∨ st = true) : ns ≤ p ∨ 0 < mk ∨ c = 35 ∨ (c = 58 ∧ st = true) := by
  rcases h4 with h | h
  · exact .inl h
  · exact .inr (.inr (.inr ⟨h3, h⟩))
theorem on_no3 (h2 : ¬ mk = 0) : ns ≤ p ∨ 0 < mk ∨ c = 35 ∨ (c = 58 ∧ st = true) := .inr (.inl (by omega))
theorem on_no4 (h2 : ns ≤ p) : ns ≤ p ∨ 0 < mk ∨ c = 35 ∨ (c = 58 ∧ st = true) := .inl h2
theorem on_yes1 (h2 : mk = 0) (h3 : ¬ c = 35) (h4 : c = 58) (h5 : p < ns ∧ st = false) : ¬ (ns ≤ p ∨ 0 < mk ∨ c = 35 ∨ (c = 58 ∧ st = true)) := by
  rintro (h | h | h | h)
  · omega
  · omega
  · exact h3 h
  · rw [h5.2] at h; exact absurd h.2 (by decide)
theorem on_yes2 (h1 : p < ns) (h2 : mk = 0) (h3 : ¬ c = 35) (h4 : ¬ c = 58) : ¬ (ns ≤ p ∨ 0 < mk ∨ c = 35 ∨ (c = 58 ∧ st = true)) := by
  rintro (h | h | h | h)
  · omega
  · omega
  · exact h3 h
  · exact h4 h.1
theorem on_never (h1 : p < ns) (h3 : ¬ c = 35) (h4 : ns ≤ p ∨ (c == 35) = true) : False := by
  rcases h4 with h | h
  · omega
  · exact h3 (by simpa using h)
end

/-- Where a plain text goes on behind byte i, and how many lines are between. -/
def onT (v : Int) (s : ByteArray) (p : Int) (i : Nat) : Int × Int :=
  if lend (decide (v = 11)) (suf s (i + nbl (suf s i))) = 0 then onF v s p (s.size + 1) 0 (lNext v s (i + nbl (suf s i))) else (-1, 0)

/-- A scope with labels, what holds at the jumps being told by x. -/
theorem wp_scope_x {P : Program} {a : Act} {w : World} {Q : Exit → Act → World → Prop} {c : Code} {X : Type} (N L : X → Nat) (A : X → Act) (I : X → World → Prop)
    (first : ∀ K : Nat → Act → World → Prop, (∀ x w', I x w' → K (L x) (A x) w') → (∀ x w', I x w' → ∃ r, findLabel c (L x) = some (.seq .skip r) ∧ r.wp P (jumps K Q) (A x) w') → c.wp P (jumps K Q) a w)
    (pass : ∀ x w, I x w → ∃ r, findLabel c (L x) = some (.seq .skip r) ∧ ∀ K : Nat → Act → World → Prop, (∀ x' w', N x' < N x → I x' w' → K (L x') (A x') w') → r.wp P (jumps K Q) (A x) w) :
    (Code.scope c).wp P Q a w := by
  refine wp_scope_labels (fun n l a w => ∃ x, n = N x ∧ l = L x ∧ a = A x ∧ I x w) ?_ ?_
  · intro K h1 h2
    exact first K (fun x w' h => h1 _ _ _ _ ⟨x, rfl, rfl, rfl, h⟩) (fun x w' h => h2 _ _ _ _ ⟨x, rfl, rfl, rfl, h⟩)
  · rintro n l a w ⟨x, rfl, rfl, rfl, h⟩
    obtain ⟨r, hr, hp⟩ := pass x w h
    exact ⟨r, hr, fun K hK => hp K (fun x' w' h1 h2 => hK _ _ _ _ h1 ⟨x', rfl, rfl, rfl, h2⟩)⟩

structure OnX where
  n : Nat
  gb : Nat
  m : Nat
  an : Nat
  en : Nat
  nx : Nat
  u : Nat → Value
def OnA (v : Int) (s : ByteArray) (i : Nat) (p : Int) (x : OnX) : Act :=
  { tmps := #[.int .i64 v, .string s, .int .i64 (i : Nat), .int .i64 p, undef, undef, undef, undef, .int .i64 0, .int .i64 0, .pointer (some ⟨x.gb, 0, none⟩), .int .i64 (x.m : Nat), x.u 12, x.u 13, x.u 14, x.u 15, x.u 16, x.u 17, x.u 18, x.u 19, x.u 20, x.u 21, x.u 22, x.u 23, x.u 24, x.u 25, x.u 26, x.u 27, x.u 28, x.u 29, x.u 30, x.u 31, x.u 32, x.u 33, x.u 34, x.u 35, x.u 36, x.u 37, x.u 38, x.u 39, x.u 40, x.u 41, x.u 42, x.u 43, x.u 44, x.u 45, x.u 46, x.u 47, x.u 48, x.u 49, x.u 50, x.u 51, x.u 52, x.u 53, x.u 54, x.u 55, x.u 56, x.u 57, x.u 58, x.u 59, x.u 60, x.u 61, x.u 62, x.u 63, x.u 64, x.u 65, x.u 66, x.u 67, x.u 68, x.u 69, x.u 70, x.u 71, x.u 72, x.u 73, x.u 74], defers := [] }
def OnI (v : Int) (s : ByteArray) (p : Int) (R1 R2 : Int) (w : World) (x : OnX) (w' : World) : Prop :=
  onF v s p x.n x.m x.nx = (R1, R2) ∧ s.size - x.nx < x.n ∧ x.nx ≤ s.size ∧ x.m ≤ x.nx ∧ w.heap.size ≤ x.gb ∧ w'.heap[x.gb]? = some (.cells #[.int .i64 (x.an : Nat), .int .i64 (x.en : Nat), .int .i64 (x.nx : Nat)] 59 (0, 0)) ∧ Below w.heap.size w w'

theorem nbl_lt (v : Int) (s : ByteArray) (n : Nat) (hn : n ≤ s.size) (h : (lText v s n).all isBl = false) : n + nbl (suf s n) < lEnd v s n := by
  unfold lText at h; unfold lEnd
  have key : ∀ (k : Nat) (l : List UInt8), (l.take k).all isBl = false → nbl l < k := by
    intro k
    induction k with
    | zero => intro l h; simp at h
    | succ k ih =>
      intro l h
      cases l with
      | nil => simp at h
      | cons c l =>
        unfold nbl
        by_cases hc : isBl c = true
        · rw [if_pos hc]
          have := ih l (by simpa [hc] using h)
          omega
        · rw [if_neg hc]; omega
  have := key _ _ h
  omega

set_option maxHeartbeats 4000000 in
set_option maxRecDepth 100000 in
theorem on_any (v : Int) (s : ByteArray) (i : Nat) (p : Int) (w : World) (hs : s.size ≤ 140737488355328) (hi : i ≤ s.size) :
    Calls Tryd.prog 42 #[.int .i64 v, .string s, .int .i64 i, .int .i64 p] w fun e w' =>
      e = .returned (.tuple #[.int .i64 (onT v s p i).1, .int .i64 (onT v s p i).2]) ∧ Below w.heap.size w w' := by
  obtain ⟨R1, R2, hRT⟩ : ∃ R1 R2, onT v s p i = (R1, R2) := ⟨_, _, rfl⟩
  rw [hRT]
  have HRT := Aside0.mk hRT
  clear hRT
  have hu59 := Tryd.underlying59
  have hnb := nbl_le (suf s i)
  rw [suf_length] at hnb
  obtain ⟨b, hb0⟩ : ∃ b, i + nbl (suf s i) = b := ⟨_, rfl⟩
  have hbs : b ≤ s.size := by omega
  have hov0 : ∀ w, Calls Tryd.prog 65 #[.string s, .int .i64 i] w fun e w' => e = .returned (.int .i64 b) ∧ Drawn0 w w' := fun w => hb0 ▸ over_any s i w hs
  have HOV := Aside0.mk hov0
  clear hov0
  go_enter Tryd.func42, Tryd.ntmps42
  go_wp2
  refine wp_scope_x OnX.n (fun _ => 0) (OnA v s i p) (OnI v s p R1 R2 w) ?_ ?_
  · intro K hK hpass
    have HP := Aside0.mk hpass
    clear hpass hK
    have hRT := HRT.out
    unfold onT at hRT
    rw [hb0] at hRT
    have hle := lNext_le v s b hbs
    have hle2 := lEnd_le v s b hbs
    by_cases hl0 : lend (decide (v = 11)) (suf s b) = 0
    · rw [if_pos hl0] at hRT
      have HR := Aside0.mk hRT
      clear hRT
      have he : lEnd v s b = b := by unfold lEnd; omega
      have hg : ¬ b < lEnd v s b := by omega
      have HE := Aside0.mk he
      clear he
      go_wp2_with (first | (go_at_call 65; (with_reducible refine (HOV.out _).mono ?_); rintro e w' ⟨rfl, ⟨nd, rfl⟩⟩) | (go_at_call 77; (with_reducible refine (line_any v s b _ hs hbs).mono ?_); rintro e w1 ⟨rfl, hb1⟩; have HB1 := Aside0.mk hb1; clear hb1))
      go_step3
      obtain ⟨r, hr, hp⟩ := HP.out ⟨s.size + 1, w1.heap.size, 0, b, lEnd v s b, lNext v s b, fun j => [_, _, _, _, _, _, _, _, _, _, _, _, _, _, _, _, _, _, _, _, _, _, _, _, _, _, _, _, _, _, _, _, _, _, _, _, _, _, _, _, _, _, _, _, _, _, _, _, _, _, _, _, _, _, _, _, _, _, _, _, _, _, _].getD (j - 12) undef⟩ _ ⟨HR.out, by dsimp only; omega, hle.2, Nat.zero_le _, HB1.out.size, blk_new w1 _, below_alloc (below_then (pw_below_drewN (Below.refl _ _) nd) (Nat.le_refl _) HB1.out) _⟩
      cases hr
      rename_i hk_
      exact hk_ _ _ hp
    · rw [if_neg hl0] at hRT
      injection hRT with h1 h2
      subst h1 h2
      have hg : b < lEnd v s b := by unfold lEnd; omega
      go_wp2_with (first | (go_at_call 65; (with_reducible refine (HOV.out _).mono ?_); rintro e w' ⟨rfl, ⟨nd, rfl⟩⟩) | (go_at_call 77; (with_reducible refine (line_any v s b _ hs hbs).mono ?_); rintro e w1 ⟨rfl, hb1⟩; have HB1 := Aside0.mk hb1; clear hb1))
      rw [jumps_ret]
      go_ret2
      exact ⟨rfl, below_alloc (below_then (pw_below_drewN (Below.refl _ _) _) (Nat.le_refl _) HB1.out) _⟩
  rintro ⟨n, gb, m, an, en, nx, u⟩ w' ⟨hR, hn, hnx, hm, hgb, hbk, hbel⟩
  dsimp only at hR hn hnx hm hgb hbk
  dsimp only [OnA]
  refine ⟨_, rfl, ?_⟩
  intro K hK
  have HK := Aside0.mk hK
  have HR := Aside0.mk hR
  have HBK := Aside0.mk hbk
  have HB := Aside0.mk hbel
  have hlt := blk_lt hbk
  have c2 : w'.cell? ⟨gb, 2, none⟩ = some (.int .i64 (nx : Nat)) := (blk_cell hbk 2).trans rfl
  clear hK hR hbk hbel
  have hle := lNext_le v s nx hnx
  have hle2 := lEnd_le v s nx hnx
  obtain ⟨k, rfl⟩ : ∃ k, n = k + 1 := ⟨n - 1, by omega⟩
  by_cases hge : s.size ≤ nx
  · have hRR := HR.out
    unfold onF at hRR
    rw [if_pos hge] at hRR
    injection hRR with hr1 hr2
    subst hr1 hr2
    go_wp2_with (first | (go_at_call 77; (with_reducible refine (line_any v s nx _ hs hnx).mono ?_); rintro e w1 ⟨rfl, hb1⟩; have hk1 := Aside0.mk (blk_below HBK.out hb1); have z0 : w1.cell? ⟨gb, 0, none⟩ = some (.int .i64 (an : Nat)) := (blk_cell hk1.out 0).trans rfl; have z1 : w1.cell? ⟨gb, 1, none⟩ = some (.int .i64 (en : Nat)) := (blk_cell hk1.out 1).trans rfl; have z2 : w1.cell? ⟨gb, 2, none⟩ = some (.int .i64 (nx : Nat)) := (blk_cell hk1.out 2).trans rfl; have f0 := blk_frozen hk1.out 0; have f1 := blk_frozen hk1.out 1; have f2 := blk_frozen hk1.out 2; have HB1 := Aside0.mk (below_then HB.out HB.out.size hb1); have HK2 := Aside0.mk (blk_put (blk_put (blk_put hk1.out 0 (.int .i64 (nx : Nat)) rfl) 1 (.int .i64 (lEnd v s nx : Nat)) rfl) 2 (.int .i64 (lNext v s nx : Nat)) rfl); have HB1' := Aside0.mk (below_set (below_set (below_set HB1.out hgb (j := 0) (v := .int .i64 (nx : Nat))) hgb (j := 1) (v := .int .i64 (lEnd v s nx : Nat))) hgb (j := 2) (v := .int .i64 (lNext v s nx : Nat))); clear hb1))
    rw [jumps_ret]
    go_ret2
    exact ⟨rfl, HB1'.out⟩
  · have hlt2 : nx < s.size := by omega
    by_cases hbl : (lText v s nx).all isBl = true
    · have hRR : onF v s p k (m + 1) (lNext v s nx) = (R1, R2) := by
        have := HR.out; unfold onF at this; rw [if_neg hge, if_pos hbl] at this; exact this
      have HR2 := Aside0.mk hRR
      clear hRR
      have hprog : nx < lNext v s nx := next_lt v s nx hlt2
      have hm2 : (m : Int) ≤ 140737488355328 := by omega
      go_wp2_with (first | (go_at_call 77; (with_reducible refine (line_any v s nx _ hs hnx).mono ?_); rintro e w1 ⟨rfl, hb1⟩; have hk1 := Aside0.mk (blk_below HBK.out hb1); have z0 : w1.cell? ⟨gb, 0, none⟩ = some (.int .i64 (an : Nat)) := (blk_cell hk1.out 0).trans rfl; have z1 : w1.cell? ⟨gb, 1, none⟩ = some (.int .i64 (en : Nat)) := (blk_cell hk1.out 1).trans rfl; have z2 : w1.cell? ⟨gb, 2, none⟩ = some (.int .i64 (nx : Nat)) := (blk_cell hk1.out 2).trans rfl; have f0 := blk_frozen hk1.out 0; have f1 := blk_frozen hk1.out 1; have f2 := blk_frozen hk1.out 2; have HB1 := Aside0.mk (below_then HB.out HB.out.size hb1); have HK2 := Aside0.mk (blk_put (blk_put (blk_put hk1.out 0 (.int .i64 (nx : Nat)) rfl) 1 (.int .i64 (lEnd v s nx : Nat)) rfl) 2 (.int .i64 (lNext v s nx : Nat)) rfl); have HB1' := Aside0.mk (below_set (below_set (below_set HB1.out hgb (j := 0) (v := .int .i64 (nx : Nat))) hgb (j := 1) (v := .int .i64 (lEnd v s nx : Nat))) hgb (j := 2) (v := .int .i64 (lNext v s nx : Nat))); clear hb1) | (go_at_call 78; (with_reducible refine (blankline_any v s nx _ hs hnx).mono ?_); rintro e w2 ⟨rfl, hb_⟩; have HK3 := Aside0.mk (blk_below HK2.out hb_); have y0w2 : w2.cell? ⟨gb, 0, none⟩ = some (.int .i64 (nx : Nat)) := (blk_cell HK3.out 0).trans rfl; have y1w2 : w2.cell? ⟨gb, 1, none⟩ = some (.int .i64 (lEnd v s nx : Nat)) := (blk_cell HK3.out 1).trans rfl; have y2w2 : w2.cell? ⟨gb, 2, none⟩ = some (.int .i64 (lNext v s nx : Nat)) := (blk_cell HK3.out 2).trans rfl; have HB3 := Aside0.mk (below_then HB1'.out HB1'.out.size hb_); clear hb_))
      go_step3
      first | refine jumpsG ?_ | refine thenG ?_
      exact HK.out ⟨k, gb, m + 1, nx, lEnd v s nx, lNext v s nx, fun j => [_, _, _, _, _, _, _, _, _, _, _, _, _, _, _, _, _, _, _, _, _, _, _, _, _, _, _, _, _, _, _, _, _, _, _, _, _, _, _, _, _, _, _, _, _, _, _, _, _, _, _, _, _, _, _, _, _, _, _, _, _, _, _].getD (j - 12) undef⟩ _ (Nat.lt_succ_self k) ⟨HR2.out, by dsimp only; omega, by dsimp only; omega, by dsimp only; omega, hgb, HK3.out, HB3.out⟩
    · have hbl' : (lText v s nx).all isBl = false := by simpa using hbl
      have hq0 := nbl_lt v s nx hnx hbl'
      obtain ⟨q, hq⟩ : ∃ q, nx + nbl (suf s nx) = q := ⟨_, rfl⟩
      have hov : ∀ w, Calls Tryd.prog 65 #[.string s, .int .i64 nx] w fun e w' => e = .returned (.int .i64 q) ∧ Drawn0 w w' := fun w => hq ▸ over_any s nx w hs
      have hRR : (if (nsp (lText v s nx) : Int) ≤ p ∨ 0 < marker (lText v s nx) ∨ (suf s q).head? = some 35 ∨ ((suf s q).head? = some 58 ∧ stop (decide (v = 11)) false (suf s (q + 1)) = true) then ((-1, 0) : Int × Int) else ((q : Int), (m : Int))) = (R1, R2) := by
        have := HR.out; unfold onF at this; rw [if_neg hge, if_neg hbl, hq] at this; exact this
      rw [hq] at hq0
      have hqs : q < s.size := by omega
      have e35 : (suf s q).head? = some 35 ↔ (s[q].toNat : Int) = 35 := by
        rw [suf_cons s q hqs]; simp only [List.head?_cons, Option.some.injEq]; exact (iff_of_eq (u8_eq s[q] 35 (by decide))).symm
      have e58 : (suf s q).head? = some 58 ↔ (s[q].toNat : Int) = 58 := by
        rw [suf_cons s q hqs]; simp only [List.head?_cons, Option.some.injEq]; exact (iff_of_eq (u8_eq s[q] 58 (by decide))).symm
      simp only [e35, e58] at hRR
      have HR2 := Aside0.mk hRR
      clear hRR e35 e58 hq
      go_wp2_with (first | (go_at_call 77; (with_reducible refine (line_any v s nx _ hs hnx).mono ?_); rintro e w1 ⟨rfl, hb1⟩; have hk1 := Aside0.mk (blk_below HBK.out hb1); have z0 : w1.cell? ⟨gb, 0, none⟩ = some (.int .i64 (an : Nat)) := (blk_cell hk1.out 0).trans rfl; have z1 : w1.cell? ⟨gb, 1, none⟩ = some (.int .i64 (en : Nat)) := (blk_cell hk1.out 1).trans rfl; have z2 : w1.cell? ⟨gb, 2, none⟩ = some (.int .i64 (nx : Nat)) := (blk_cell hk1.out 2).trans rfl; have f0 := blk_frozen hk1.out 0; have f1 := blk_frozen hk1.out 1; have f2 := blk_frozen hk1.out 2; have HB1 := Aside0.mk (below_then HB.out HB.out.size hb1); have HK2 := Aside0.mk (blk_put (blk_put (blk_put hk1.out 0 (.int .i64 (nx : Nat)) rfl) 1 (.int .i64 (lEnd v s nx : Nat)) rfl) 2 (.int .i64 (lNext v s nx : Nat)) rfl); have HB1' := Aside0.mk (below_set (below_set (below_set HB1.out hgb (j := 0) (v := .int .i64 (nx : Nat))) hgb (j := 1) (v := .int .i64 (lEnd v s nx : Nat))) hgb (j := 2) (v := .int .i64 (lNext v s nx : Nat))); clear hb1) | (go_at_call 78; (with_reducible refine (blankline_any v s nx _ hs hnx).mono ?_); rintro e w2 ⟨rfl, hb_⟩; have HK3 := Aside0.mk (blk_below HK2.out hb_); have y0w2 : w2.cell? ⟨gb, 0, none⟩ = some (.int .i64 (nx : Nat)) := (blk_cell HK3.out 0).trans rfl; have y1w2 : w2.cell? ⟨gb, 1, none⟩ = some (.int .i64 (lEnd v s nx : Nat)) := (blk_cell HK3.out 1).trans rfl; have y2w2 : w2.cell? ⟨gb, 2, none⟩ = some (.int .i64 (lNext v s nx : Nat)) := (blk_cell HK3.out 2).trans rfl; have HB3 := Aside0.mk (below_then HB1'.out HB1'.out.size hb_); clear hb_) | (go_at_call 65; (with_reducible refine (hov _).mono ?_); rintro e w' ⟨rfl, ⟨nd, rfl⟩⟩) | (go_at_call 79; (with_reducible refine (indent_any v s nx _ hs hnx).mono ?_); rintro e w3 ⟨rfl, hb_⟩; have HK4 := Aside0.mk (blk_below (Aside0.mk (blk_drewN HK3.out nd)).out hb_); have y0w3 : w3.cell? ⟨gb, 0, none⟩ = some (.int .i64 (nx : Nat)) := (blk_cell HK4.out 0).trans rfl; have y1w3 : w3.cell? ⟨gb, 1, none⟩ = some (.int .i64 (lEnd v s nx : Nat)) := (blk_cell HK4.out 1).trans rfl; have y2w3 : w3.cell? ⟨gb, 2, none⟩ = some (.int .i64 (lNext v s nx : Nat)) := (blk_cell HK4.out 2).trans rfl; have HB4 := Aside0.mk (below_then (Aside0.mk (pw_below_drewN HB3.out nd)).out (Aside0.mk (pw_below_drewN HB3.out nd)).out.size hb_); clear hb_) | (go_at_call 80; (with_reducible refine (marker_any v s nx _ hs hnx).mono ?_); rintro e w4 ⟨rfl, hb_⟩; have HK5 := Aside0.mk (blk_below HK4.out hb_); have y0w4 : w4.cell? ⟨gb, 0, none⟩ = some (.int .i64 (nx : Nat)) := (blk_cell HK5.out 0).trans rfl; have y1w4 : w4.cell? ⟨gb, 1, none⟩ = some (.int .i64 (lEnd v s nx : Nat)) := (blk_cell HK5.out 1).trans rfl; have y2w4 : w4.cell? ⟨gb, 2, none⟩ = some (.int .i64 (lNext v s nx : Nat)) := (blk_cell HK5.out 2).trans rfl; have HB5 := Aside0.mk (below_then HB4.out HB4.out.size hb_); clear hb_) | (go_at_call 81; (with_reducible refine (stop_succ v s q false _).mono ?_); rintro e w' ⟨rfl, ⟨nd2, rfl⟩⟩))
      all_goals (
        rw [jumps_ret]
        go_ret2
        go_light
        have hRR := HR2.out
        refine ⟨?_, by repeat (first | exact HB5.out | exact HB4.out | exact HB3.out | apply pw_below_drewN | apply below_drew)⟩
        first
        | (rw [if_pos (on_no1 ‹_› ‹_› ‹_›)] at hRR; injection hRR with h1 h2; subst h1 h2; rfl)
        | (rw [if_pos (on_no2 ‹_› ‹_› ‹_› ‹_›)] at hRR; injection hRR with h1 h2; subst h1 h2; rfl)
        | (rw [if_pos (on_no3 ‹_›)] at hRR; injection hRR with h1 h2; subst h1 h2; rfl)
        | (rw [if_pos (on_no4 ‹_›)] at hRR; injection hRR with h1 h2; subst h1 h2; rfl)
        | (rw [if_neg (on_yes1 ‹_› ‹_› ‹_› ‹_›)] at hRR; injection hRR with h1 h2; subst h1 h2; rfl)
        | (rw [if_neg (on_yes2 ‹_› ‹_› ‹_› ‹_›)] at hRR; injection hRR with h1 h2; subst h1 h2; rfl)
        | (exfalso; exact on_never ‹_› ‹_› ‹_›))
end Go.Proofs.YtmfjdlmhejabiaaDoor.X
