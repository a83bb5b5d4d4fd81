/- plain.Part, plain.Read: what they answer. -/
import Derived.Test.YtmfjdlmhejabiaaDoorM3
namespace Go.Proofs.YtmfjdlmhejabiaaDoor.X
open Go.RowKit Go.Proofs.YtmfjdlmhejabiaaDoorW.PrintWords Go.Proofs.Tg Go.Proofs.YtmfjdlmhejabiaaDoor.PB Go.Proofs.YtmfjdlmhejabiaaDoor.M
set_option linter.unusedVariables false
set_option linter.unusedSimpArgs false

theorem ends_nat (v : Int) (s : ByteArray) (i : Nat) (flow : Bool) (w : World) (hs : s.size ≤ 140737488355328) (hi : i ≤ s.size) :
    Calls Tryd.prog 43 #[.int .i64 v, .string s, .int .i64 i, .bool flow] w fun e w' =>
      e = .returned (.int .i64 (ends (decide (v = 11)) flow (prevBl s i) i i (suf s i) : Nat)) ∧ Drawn0 w w' := by
  cases flow
  · exact ends_false v s i w hs hi
  · exact ends_true v s i w hs hi

theorem opens_lt {old flow : Bool} {s : ByteArray} {n : Nat} (h : opens old flow (suf s n) = true) : n < s.size := by
  rcases Nat.lt_or_ge n s.size with h1 | h1
  · exact h1
  · rw [suf_nil s n h1] at h; simp [opens] at h

set_option maxHeartbeats 1000000 in
theorem part_any (v : Int) (s : ByteArray) (i : Int) (flow : Bool) (w : World) (hs : s.size ≤ 140737488355328) :
    Calls Tryd.prog 23 #[.int .i64 v, .string s, .int .i64 i, .bool flow] w fun e w' => e = .returned (.int .i64 (partI v s i flow)) ∧ Drawn0 w w' := by
  by_cases h0 : i < 0
  · have hb : ∀ w, Calls Tryd.prog 54 #[.int .i64 v, .string s, .int .i64 i, .bool flow] w fun e w' => e = .returned (.bool false) ∧ Drawn0 w w' := fun w => plain_begins.calls 1 v s i flow false w (begins_neg v s i 1 flow h0 (by omega))
    have e : partI v s i flow = -1 := by unfold partI; rw [if_pos h0]
    rw [e]
    have HB := Aside0.mk hb
    clear hb e
    go_enter Tryd.func23, Tryd.ntmps23
    go_wp2_with (first | (go_at_call 54; (with_reducible refine (HB.out _).mono ?_); rintro e w' ⟨rfl, ⟨nd, rfl⟩⟩))
    go_ret
    exact ⟨rfl, by repeat (first | exact Drawn0.refl _ | apply Drawn0.step)⟩
  · obtain ⟨n, rfl⟩ : ∃ n : Nat, i = (n : Int) := ⟨i.toNat, by omega⟩
    have hb : ∀ w, Calls Tryd.prog 54 #[.int .i64 v, .string s, .int .i64 n, .bool flow] w fun e w' => e = .returned (.bool (opens (decide (v = 11)) flow (suf s n))) ∧ Drawn0 w w' := fun w => plain_begins.calls 1 v s n flow _ w (begins_eq v s n 1 flow hs (by omega))
    by_cases ho : opens (decide (v = 11)) flow (suf s n) = true
    · have hn : n < s.size := opens_lt ho
      have he : ∀ w, Calls Tryd.prog 43 #[.int .i64 v, .string s, .int .i64 n, .bool flow] w fun e w' => e = .returned (.int .i64 (ends (decide (v = 11)) flow (prevBl s n) n n (suf s n) : Nat)) ∧ Drawn0 w w' := fun w => ends_nat v s n flow w hs (by omega)
      have e : partI v s n flow = (ends (decide (v = 11)) flow (prevBl s n) n n (suf s n) : Nat) := by
        unfold partI; rw [if_neg h0, Int.toNat_natCast, if_pos ho]
      rw [e]
      rw [ho] at hb
      have HB := Aside0.mk hb
      have HE := Aside0.mk he
      clear hb he e ho h0
      go_enter Tryd.func23, Tryd.ntmps23
      go_wp2_with (first | (go_at_call 54; (with_reducible refine (HB.out _).mono ?_); rintro e w' ⟨rfl, ⟨nd, rfl⟩⟩) | (go_at_call 43; (with_reducible refine (HE.out _).mono ?_); rintro e w' ⟨rfl, ⟨nd2, rfl⟩⟩))
      go_ret
      exact ⟨rfl, by repeat (first | exact Drawn0.refl _ | apply Drawn0.step)⟩
    · have e : partI v s n flow = -1 := by
        unfold partI; rw [if_neg h0, Int.toNat_natCast, if_neg ho]
      rw [e]
      have ho' : opens (decide (v = 11)) flow (suf s n) = false := by simpa using ho
      rw [ho'] at hb
      have HB := Aside0.mk hb
      clear hb e ho ho' h0
      go_enter Tryd.func23, Tryd.ntmps23
      go_wp2_with (first | (go_at_call 54; (with_reducible refine (HB.out _).mono ?_); rintro e w' ⟨rfl, ⟨nd, rfl⟩⟩))
      go_ret
      exact ⟨rfl, by repeat (first | exact Drawn0.refl _ | apply Drawn0.step)⟩

theorem write_any (B b : Nat) (acc : List UInt8) (t : ByteArray) (w : World) (h : Lib.IsBuilder 67 5 B b (Lib.byteCells acc) w) (hlen : acc.length + t.size ≤ 140737488355328) (hB : B ≤ w.heap.size) :
    Calls Tryd.prog 41 #[.pointer (some ⟨b, 0, none⟩), .string t] w fun e w' => e = .returned (.tuple #[.int .i64 t.size, .nilIface]) ∧ Lib.IsBuilder 67 5 B b (Lib.byteCells (acc ++ t.data.toList)) w' ∧ Below B w w' :=
  (Any.Builder_WriteString { Tryd.lays154 with } Tryd.Builder_Extra_154 B b (Lib.byteCells acc) t w h (by rw [Lib.byteCells_length]; exact hlen) hB).mono fun e w' ⟨he, h1, h2⟩ => ⟨he, .inr (by rw [Lib.byteCells_append]; exact h1), h2⟩
theorem bld_below {T e : TypeId} {B b : Nat} {bs : List Value} {W W' : World} (h : Lib.IsBuilder T e B b bs W) (hb : Below W.heap.size W W') : Lib.IsBuilder T e B b bs W' := by
  have key : ∀ p, Lib.BuilderAt T e B b p bs W → Lib.BuilderAt T e B b p bs W' := by
    rintro p ⟨hB, v, hk, hown, hne⟩
    exact ⟨hB, v, blk_below hk hb, hown.kept (row := none) (grown_of_below hb none) (by
      cases h : v.ownBlock with
      | none => exact .inl rfl
      | some k => exact .inr (by simp)), hne⟩
  rcases h with h | h
  · exact .inl (key _ h)
  · exact .inr (key _ h)
theorem folded_any (n : Nat) (w : World) (h : n < 140737488355328) :
    Calls Tryd.prog 44 #[.int .i64 ((n : Int) + 1)] w fun e w' => e = .returned (.string ⟨(foldedL (n + 1)).toArray⟩) ∧ Below w.heap.size w w' :=
  rows_Folded.calls ((n : Int) + 1) _ w (by have := folded_eq (n + 1) (by omega); exact this)
theorem foldedL_len (n : Nat) : (foldedL (n + 1)).length ≤ n + 1 := by
  unfold foldedL; split <;> simp

theorem readF_step (v : Int) (s : ByteArray) (p : Int) (k e : Nat) (acc : List UInt8) (a n : Nat) (h : onT v s p e = ((a : Int), (n : Int))) :
    readF v s p (k + 1) e acc = readF v s p k (ends (decide (v = 11)) false (prevBl s a) a a (suf s a)) (acc ++ foldedL (n + 1) ++ (suf s a).take (ends (decide (v = 11)) false (prevBl s a) a a (suf s a) - a)) := by
  rw [readF, h, if_neg (by simp)]
  simp only [Int.toNat_natCast]

def ReadRel (v : Int) (s : ByteArray) (p : Int) (R1 : List UInt8) (R2 : Nat) (w : World) (k : Nat) (v10 v12 v13 : Value) (wr : World) : Prop :=
  ∃ (e : Nat) (acc : List UInt8), v10 = .int .i64 (e : Nat) ∧ v12 = .int .i64 (onT v s p e).1 ∧ v13 = .int .i64 (onT v s p e).2 ∧ readF v s p k e acc = (R1, R2) ∧ s.size - e < k ∧ e ≤ s.size ∧ acc.length ≤ e ∧
    Lib.IsBuilder 67 5 w.heap.size w.heap.size (Lib.byteCells acc) wr ∧ Below w.heap.size w wr

set_option maxHeartbeats 4000000 in
set_option maxRecDepth 100000 in
theorem read_on (v : Int) (s : ByteArray) (i e0 : Nat) (p : Int) (w : World) (hs : s.size ≤ 35184372088832) (hp : partI v s i false = (e0 : Int)) (h1 : i ≤ e0) (h2 : e0 ≤ s.size) :
    Calls Tryd.prog 21 #[.int .i64 v, .string s, .int .i64 i, .int .i64 p] w fun e w' =>
      e = .returned (.tuple #[.string ⟨(readF v s p (s.size + 1) e0 ((suf s i).take (e0 - i))).1.toArray⟩, .int .i64 ((readF v s p (s.size + 1) e0 ((suf s i).take (e0 - i))).2 : Nat)]) ∧ Below w.heap.size w w' := by
  obtain ⟨R1, R2, hRF⟩ : ∃ R1 R2, readF v s p (s.size + 1) e0 ((suf s i).take (e0 - i)) = (R1, R2) := ⟨_, _, rfl⟩
  rw [hRF]
  have hpart : ∀ w, Calls Tryd.prog 23 #[.int .i64 v, .string s, .int .i64 i, .bool false] w fun e w' => e = .returned (.int .i64 e0) ∧ Drawn0 w w' := fun w => hp ▸ part_any v s i false w (by omega)
  have ht := extract_suf s i e0
  have HP := Aside0.mk hpart
  have HRF := Aside0.mk hRF
  have HT := Aside0.mk ht
  have hsz : (s.extract i e0).size ≤ e0 := by rw [ByteArray.size_extract]; omega
  clear hpart hRF ht hp
  have hu66 := Tryd.underlying67
  go_enter Tryd.func21, Tryd.ntmps21
  go_wp2_with (first | (go_at_call 23; (with_reducible refine (HP.out _).mono ?_); rintro e w' ⟨rfl, ⟨nd, rfl⟩⟩) | (go_at_call 41; (with_reducible refine (write_any w.heap.size w.heap.size [] (s.extract i e0) _ ?h1 ?h2 ?h3).mono ?_); (case h1 => exact Lib.fresh_isBuilder 67 5 (w.drewN nd)); (case h2 => simp; omega); (case h3 => simp); rintro e w1 ⟨rfl, hb1, hbel1⟩; have HB1 := Aside0.mk hb1; have HE1 := Aside0.mk ((below_alloc (pw_below_drewN (Below.refl _ w) nd) (.cells #[.pointer none, .slice none 0 0] 67)).trans hbel1); clear hb1 hbel1) | (go_at_call 42; (with_reducible refine (on_any v s e0 p _ (by omega) h2).mono ?_); rintro e w2 ⟨rfl, hbel2⟩; have HB2 := Aside0.mk (bld_below HB1.out hbel2); have HE2 := Aside0.mk (below_then HE1.out HE1.out.size hbel2); clear hbel2))
  go_loopg [10, 12, 13] (s.size + 1) (fun k v10 v12 v13 wr => ReadRel v s p R1 R2 w k v10 v12 v13 wr)
  case atStart =>
    exact ⟨e0, _, rfl, rfl, rfl, HRF.out, by omega, h2, by have := hsz; rw [← HT.out]; exact this, by have := HB2.out; rw [List.nil_append, HT.out] at this; exact this, HE2.out⟩
  case round =>
    obtain ⟨e, acc, rfl, rfl, rfl, hR, hk, he, hacc, hb, hbel⟩ := hrel
    have HB := Aside0.mk hb
    have HE := Aside0.mk hbel
    obtain ⟨k, rfl⟩ : ∃ k, gk = k + 1 := ⟨gk - 1, by omega⟩
    clear HB1 HE1 HB2 HE2 HRF HP HT hb hbel
    by_cases hneg : (onT v s p e).1 < 0
    · have hRR : (acc, e) = (R1, R2) := by rw [readF, if_pos hneg] at hR; exact hR
      injection hRR with hr1 hr2
      subst hr1 hr2
      clear hR
      go_wp2_with (first | (go_at_call 45; (with_reducible refine (Tryd.Builder_String_any w.heap.size w.heap.size acc _ HB.out HE.out.size).mono ?_); rintro e w3 ⟨rfl, hb3⟩; have HE3 := Aside0.mk (HE.out.trans hb3); clear hb3))
      go_ret2
      exact ⟨rfl, HE3.out⟩
    · obtain ⟨a, n, hT⟩ : ∃ a n : Nat, onT v s p e = ((a : Int), (n : Int)) := by
        obtain ⟨x, y, hxy⟩ : ∃ x y, onT v s p e = (x, y) := ⟨_, _, rfl⟩
        rw [hxy] at hneg
        have := onT_bd v s p e x y he hxy (by simpa using hneg)
        exact ⟨x.toNat, y.toNat, by rw [hxy]; congr 1 <;> omega⟩
      have hbd := onT_bd v s p e a n he hT (by omega)
      have hRR := readF_step v s p k e acc a n hT
      rw [hR] at hRR
      rw [hT]
      clear hneg hR hT
      obtain ⟨e1, he1⟩ : ∃ e1, ends (decide (v = 11)) false (prevBl s a) a a (suf s a) = e1 := ⟨_, rfl⟩
      have hel := ends_le (decide (v = 11)) false (suf s a) (prevBl s a) a a (Nat.le_refl _)
      rw [suf_length] at hel
      have hends : ∀ w, Calls Tryd.prog 43 #[.int .i64 v, .string s, .int .i64 a, .bool false] w fun e w' => e = .returned (.int .i64 e1) ∧ Drawn0 w w' := fun w => he1 ▸ ends_nat v s a false w (by omega) (by omega)
      rw [he1] at hRR hel
      have HR := Aside0.mk hRR
      have HEN := Aside0.mk hends
      have HT := Aside0.mk (extract_suf s a e1)
      have hfl := foldedL_len n
      have hsz2 : (s.extract a e1).size ≤ e1 - a := by rw [ByteArray.size_extract]; omega
      have hx1 : a ≤ e1 := hel.1
      have hx2 : e1 ≤ s.size := by omega
      clear hRR hends he1 hel
      go_wp2_with (first | (go_at_call 43; (with_reducible refine (HEN.out _).mono ?_); rintro e w' ⟨rfl, ⟨nd2, rfl⟩⟩) | (go_at_call 44; (with_reducible refine (folded_any n _ (by omega)).mono ?_); rintro e w3 ⟨rfl, hb3⟩; have HB3 := Aside0.mk (bld_below (show Lib.IsBuilder _ _ _ _ _ (World.drewN wr nd2) from HB.out) hb3); have HE3 := Aside0.mk (below_then (pw_below_drewN HE.out nd2) HE.out.size hb3); clear hb3) | (go_at_call 41; (with_reducible refine (write_any w.heap.size w.heap.size acc ⟨(foldedL (n + 1)).toArray⟩ _ ?k1 ?k2 ?k3).mono ?_); (case k1 => exact HB3.out); (case k2 => show acc.length + (foldedL (n + 1)).length ≤ _; omega); (case k3 => exact HE3.out.size); rintro e w4 ⟨rfl, hb4, hbel4⟩; have HB4 := Aside0.mk hb4; have HE4 := Aside0.mk (HE3.out.trans hbel4); clear hb4 hbel4) | (go_at_call 41; (with_reducible refine (write_any w.heap.size w.heap.size (acc ++ foldedL (n + 1)) (s.extract a e1) _ ?m1 ?m2 ?m3).mono ?_); (case m1 => exact HB4.out); (case m2 => rw [List.length_append]; omega); (case m3 => exact HE4.out.size); rintro e w5 ⟨rfl, hb5, hbel5⟩; have HB5 := Aside0.mk hb5; have HE5 := Aside0.mk (HE4.out.trans hbel5); clear hb5 hbel5) | (go_at_call 42; (with_reducible refine (on_any v s e1 p _ (by omega) (by omega)).mono ?_); rintro e w6 ⟨rfl, hb6⟩; have HB6 := Aside0.mk (bld_below HB5.out hb6); have HE6 := Aside0.mk (below_then HE5.out HE5.out.size hb6); clear hb6))
      go_roundg k
      case measure => omega
      case rel => exact ⟨e1, acc ++ foldedL (n + 1) ++ (suf s a).take (e1 - a), rfl, rfl, rfl, HR.out.symm, by omega, by omega, by rw [List.length_append, List.length_append, ← HT.out]; have hz : (s.extract a e1).data.toList.length = (s.extract a e1).size := rfl; omega, by have := HB6.out; rw [HT.out] at this; exact this, HE6.out⟩

set_option maxHeartbeats 1000000 in
theorem read_no (v : Int) (s : ByteArray) (i : Int) (p : Int) (w : World) (hs : s.size ≤ 35184372088832) (hp : partI v s i false < 0) :
    Calls Tryd.prog 21 #[.int .i64 v, .string s, .int .i64 i, .int .i64 p] w fun e w' =>
      e = .returned (.tuple #[.string ⟨#[]⟩, .int .i64 (-1)]) ∧ Below w.heap.size w w' := by
  have hpart : ∀ w, Calls Tryd.prog 23 #[.int .i64 v, .string s, .int .i64 i, .bool false] w fun e w' => e = .returned (.int .i64 (partI v s i false)) ∧ Drawn0 w w' := fun w => part_any v s i false w (by omega)
  generalize partI v s i false = r at *
  have HP := Aside0.mk hpart
  clear hpart
  go_enter Tryd.func21, Tryd.ntmps21
  go_wp2_with (first | (go_at_call 23; (with_reducible refine (HP.out _).mono ?_); rintro e w' ⟨rfl, ⟨nd, rfl⟩⟩))
  go_ret2
  exact ⟨rfl, pw_below_drewN (Below.refl _ _) nd⟩

theorem partI_bd (v : Int) (s : ByteArray) (i : Int) (flow : Bool) : partI v s i flow = -1 ∨ ∃ n e : Nat, i = (n : Int) ∧ partI v s i flow = (e : Int) ∧ n ≤ e ∧ e ≤ s.size ∧ n < s.size := by
  unfold partI
  by_cases h0 : i < 0
  · rw [if_pos h0]; exact .inl rfl
  · rw [if_neg h0]
    obtain ⟨n, rfl⟩ : ∃ n : Nat, i = (n : Int) := ⟨i.toNat, by omega⟩
    simp only [Int.toNat_natCast]
    by_cases ho : opens (decide (v = 11)) flow (suf s n) = true
    · rw [if_pos ho]
      have hl := opens_lt ho
      have := ends_le (decide (v = 11)) flow (suf s n) (prevBl s n) n n (Nat.le_refl _)
      rw [suf_length] at this
      exact .inr ⟨n, _, rfl, rfl, this.1, by omega, hl⟩
    · rw [if_neg ho]; exact .inl rfl

/-- plain.Read, for every text, place and column. -/
theorem read_any (v : Int) (s : ByteArray) (i : Int) (p : Int) (w : World) (hs : s.size ≤ 35184372088832) :
    Calls Tryd.prog 21 #[.int .i64 v, .string s, .int .i64 i, .int .i64 p] w fun e w' =>
      e = .returned (.tuple #[.string ⟨(readI v s i p).1.toArray⟩, .int .i64 (readI v s i p).2]) ∧ Below w.heap.size w w' := by
  rcases partI_bd v s i false with h | ⟨n, e, rfl, he, h1, h2, _⟩
  · have hn : partI v s i false < 0 := by omega
    have hr : readI v s i p = ([], -1) := by unfold readI; rw [if_pos hn]
    rw [hr]
    exact read_no v s i p w hs hn
  · have hr : readI v s n p = ((readF v s p (s.size + 1) e ((suf s n).take (e - n))).1, ((readF v s p (s.size + 1) e ((suf s n).take (e - n))).2 : Int)) := by
      unfold readI; rw [if_neg (by omega), he]; rfl
    rw [hr]
    exact read_on v s n e p w hs he h1 h2

/-! What the print asks for. -/
def plain_ends.f (a0 : Int) (a1 : ByteArray) (a2 : Int) (a3 : Bool) : Option Int := if a1.size ≤ 35184372088832 then (if 0 ≤ a2 then (if a2 ≤ a1.size then some (ends (decide (a0 = 11)) a3 (prevBl a1 a2.toNat) a2.toNat a2.toNat (suf a1 a2.toNat) : Nat) else none) else none) else none
theorem plain_ends.calls (a0 : Int) (a1 : ByteArray) (a2 : Int) (a3 : Bool) (r : Int) (w : World) (h : plain_ends.f a0 a1 a2 a3 = some r) :
    Calls Tryd.prog 43 #[.int .i64 a0, .string a1, .int .i64 a2, .bool a3] w fun e w' => e = .returned (.int .i64 r) ∧ Drawn0 w w' := by
  unfold plain_ends.f at h
  split at h
  · rename_i hs
    split at h
    · rename_i h0
      split at h
      · rename_i h1
        cases h
        obtain ⟨n, rfl⟩ : ∃ n : Nat, a2 = (n : Int) := ⟨a2.toNat, by omega⟩
        exact ends_nat a0 a1 n a3 w (by omega) (by omega)
      · cases h
    · cases h
  · cases h
def plain_Part.f (a0 : Int) (a1 : ByteArray) (a2 : Int) (a3 : Bool) : Option Int := if a1.size ≤ 35184372088832 then some (partI a0 a1 a2 a3) else none
theorem plain_Part.calls (a0 : Int) (a1 : ByteArray) (a2 : Int) (a3 : Bool) (r : Int) (w : World) (h : plain_Part.f a0 a1 a2 a3 = some r) :
    Calls Tryd.prog 23 #[.int .i64 a0, .string a1, .int .i64 a2, .bool a3] w fun e w' => e = .returned (.int .i64 r) ∧ Drawn0 w w' := by
  unfold plain_Part.f at h
  split at h
  · rename_i hs
    cases h
    exact part_any a0 a1 a2 a3 w (by omega)
  · cases h
def plain_Read.f (a0 : Int) (a1 : ByteArray) (a2 a3 : Int) : Option (ByteArray × Int) := if a1.size ≤ 35184372088832 then some (⟨(readI a0 a1 a2 a3).1.toArray⟩, (readI a0 a1 a2 a3).2) else none
theorem plain_Read.calls (a0 : Int) (a1 : ByteArray) (a2 a3 : Int) (r1 : ByteArray) (r2 : Int) (w : World) (h : plain_Read.f a0 a1 a2 a3 = some (r1, r2)) :
    Calls Tryd.prog 21 #[.int .i64 a0, .string a1, .int .i64 a2, .int .i64 a3] w fun e w' => e = .returned (.tuple #[.string r1, .int .i64 r2]) ∧ Below w.heap.size w w' := by
  unfold plain_Read.f at h
  split at h
  · rename_i hs
    cases h
    exact read_any a0 a1 a2 a3 w hs
  · cases h
end Go.Proofs.YtmfjdlmhejabiaaDoor.X
