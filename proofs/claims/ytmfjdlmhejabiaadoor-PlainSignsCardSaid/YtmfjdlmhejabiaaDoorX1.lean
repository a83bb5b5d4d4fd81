/- brk.Break: what it answers, for every text and place. -/
import Derived.Test.YtmfjdlmhejabiaaDoorX0
import Derived.Test.YtmfjdlmhejabiaaDoorM0
namespace Go.Proofs.YtmfjdlmhejabiaaDoor.X
open Go.RowKit Go.Proofs.YtmfjdlmhejabiaaDoorW.PrintWords Go.Proofs.Tg
set_option linter.unusedVariables false
set_option linter.unusedSimpArgs false

theorem ret_int {k : IntKind} {a b : Int} (h : a = b) : Ending.returned (.int k a) = .returned (.int k b) := by rw [h]
theorem ret_bool {a b : Bool} (h : a = b) : Ending.returned (.bool a) = .returned (.bool b) := by rw [h]

theorem hp_any (s p : ByteArray) (w : World) : Calls Tryd.prog 64 #[.string s, .string p] w fun e w' => e = .returned (.bool (Lib.hasPrefix s.data.toList p.data.toList)) ∧ w = w' :=
  (Tryd.strings_HasPrefix s p w).mono fun e w' ⟨he, hw⟩ => ⟨he, hw.symm⟩

theorem u8_13 (c : UInt8) : ((c.toNat : Int) == 13) = (c == 13) := by
  rw [Bool.eq_iff_iff, beq_iff_eq, beq_iff_eq, ← UInt8.toNat_inj]; exact ⟨fun h => by have : (13 : UInt8).toNat = 13 := rfl; omega, fun h => by rw [h]; rfl⟩
theorem u8_10 (c : UInt8) : ((c.toNat : Int) == 10) = (c == 10) := by
  rw [Bool.eq_iff_iff, beq_iff_eq, beq_iff_eq, ← UInt8.toNat_inj]; exact ⟨fun h => by have : (10 : UInt8).toNat = 10 := rfl; omega, fun h => by rw [h]; rfl⟩
/-- brk.Break's answer. -/
def brkI (v : Int) (s : ByteArray) (i : Int) : Int := if i < 0 then 0 else (brk (decide (v = 11)) (suf s i.toNat) : Nat)

theorem brkI_nat (v : Int) (s : ByteArray) (n : Nat) : brkI v s (n : Int) = (brk (decide (v = 11)) (suf s n) : Nat) := by
  unfold brkI; rw [if_neg (by omega)]; rfl

set_option maxHeartbeats 1000000 in
theorem break_in (v : Int) (s : ByteArray) (n : Nat) (w : World) (hi : n < s.size) :
    Calls Tryd.prog 66 #[.int .i64 v, .string s, .int .i64 n] w fun e w' => e = .returned (.int .i64 (brk (decide (v = 11)) (suf s n))) ∧ w = w' := by
  have ht := suf_take s n
  have hc : ∀ h : 0 < (s.extract n s.size).size, (suf s n).head? = some ((s.extract n s.size)[0]'h) := fun h => by
    rw [suf_cons s n hi]; simp [ByteArray.getElem_extract]
  obtain ⟨l, hl⟩ : ∃ l, suf s n = l := ⟨_, rfl⟩
  rw [hl] at ht hc ⊢
  have HC := Aside0.mk hc
  clear hc hl
  go_enter Tryd.func66, Tryd.ntmps66
  go_wp2_with (first | (go_at_call 64; refine (hp_any _ _ _).mono ?_; rintro e w' ⟨rfl, rfl⟩))
  all_goals (
    go_ret
    refine ⟨ret_int ?_, rfl⟩
    unfold Lib.hasPrefix at *
    first
    | (unfold brk; simp_all; done)
    | (have h0 : 0 < (s.extract n s.size).size := by simp; omega
       have hc := HC.out h0
       clear HC
       generalize (s.extract n s.size)[0]'h0 = c at *
       simp only [u8_13, u8_10] at *
       unfold brk
       simp_all
       done))

/-- brk.Break: what the print asks for. -/
def brk_Break.f (a0 : Int) (a1 : ByteArray) (a2 : Int) : Option Int := some (brkI a0 a1 a2)
set_option maxHeartbeats 1000000 in
theorem brk_Break.calls (a0 : Int) (a1 : ByteArray) (a2 r : Int) (w : World) (h : brk_Break.f a0 a1 a2 = some r) :
    Calls Tryd.prog 66 #[.int .i64 a0, .string a1, .int .i64 a2] w fun e w' => e = .returned (.int .i64 r) ∧ w = w' := by
  cases h
  by_cases h0 : a2 < 0
  · have e : brkI a0 a1 a2 = 0 := by unfold brkI; rw [if_pos h0]
    rw [e]
    go_enter Tryd.func66, Tryd.ntmps66
    go_wp2
    go_ret
    exact ⟨rfl, rfl⟩
  · obtain ⟨n, rfl⟩ : ∃ n : Nat, a2 = (n : Int) := ⟨a2.toNat, by omega⟩
    rw [brkI_nat]
    by_cases hi : n < a1.size
    · exact (break_in a0 a1 n w hi).mono fun e w' ⟨he, hw⟩ => ⟨he, hw⟩
    · have e : brk (decide (a0 = 11)) (suf a1 n) = 0 := by rw [suf_nil a1 n (by omega)]; simp [brk]
      rw [e]
      have hge : a1.size ≤ n := by omega
      clear hi e
      go_enter Tryd.func66, Tryd.ntmps66
      go_wp2
      go_ret
      exact ⟨rfl, rfl⟩
end Go.Proofs.YtmfjdlmhejabiaaDoor.X
