-- Written by wip/myprint.py (a program of this session's) over the kit's print.
import Derived.Test.YtmfjdlmhejabiaaDoorPLx0
import Derived.Test.YtmfjdlmhejabiaaDoorPLx4
import Derived.Test.YtmfjdlmhejabiaaDoorPLx5
namespace Go.Proofs.YtmfjdlmhejabiaaDoor.PL
open Go.Proofs.YtmfjdlmhejabiaaDoor.X
open Go.RowKit Go.Proofs.YtmfjdlmhejabiaaDoorW.PrintWords Go.Proofs.YtmfjdlmhejabiaaDoorW.PrintLast Go.Proofs.YtmfjdlmhejabiaaDoorW.PrintMore
attribute [local go_sem] max2_int min2_int max_two min_two max_three min_three max_four min_four   -- for this text's walks alone
set_option linter.unusedVariables false
set_option linter.unusedSimpArgs false

/-! ### targumref17_Sign: function 87 -/
def targumref17_Sign.f (a0 : Int) : Option (Bool) := if a0 = 44 then (some true) else (if a0 = 91 then (some true) else (if a0 = 93 then (some true) else (if a0 = 123 then (some true) else (some (a0 == 125)))))
set_option maxHeartbeats 8000000 in
set_option maxRecDepth 100000 in
theorem targumref17_Sign.calls (a0 : Int) (r : Bool) (w : World) (h : targumref17_Sign.f a0 = some r) :
    Calls Tryd.prog 87 #[.int .u8 a0] w fun e w' => e = .returned (.bool r) ∧ Drawn0 w w' := by
  have H : (if a0 = 44 then (some true) else (if a0 = 91 then (some true) else (if a0 = 93 then (some true) else (if a0 = 123 then (some true) else (some (a0 == 125)))))) = some r := h
  clear h
  by_cases c2 : a0 = 44
  · rw [if_pos c2] at H
    have c2b0 : (a0 == 44) = true := beq_iff_eq.mpr c2
    have c2b1 : (a0 != 44) = false := bne_eq_false_iff_eq.mpr c2
    clear c2
    obtain rfl := Option.some.inj H
    go_enter Tryd.func87, Tryd.ntmps87
    go_wp2
    go_ret
    exact ⟨by first | rfl | (simp; done) | (simp [*]; done), by repeat (first | exact Drawn0.refl _ | apply Drawn0.step)⟩
  · rw [if_neg c2] at H
    have c2b0 : (a0 == 44) = false := beq_eq_false_iff_ne.mpr c2
    have c2b1 : (a0 != 44) = true := bne_iff_ne.mpr c2
    by_cases c3 : a0 = 91
    · rw [if_pos c3] at H
      have c3b0 : (a0 == 91) = true := beq_iff_eq.mpr c3
      have c3b1 : (a0 != 91) = false := bne_eq_false_iff_eq.mpr c3
      clear c3
      obtain rfl := Option.some.inj H
      go_enter Tryd.func87, Tryd.ntmps87
      go_wp2
      go_ret
      exact ⟨by first | rfl | (simp; done) | (simp [*]; done), by repeat (first | exact Drawn0.refl _ | apply Drawn0.step)⟩
    · rw [if_neg c3] at H
      have c3b0 : (a0 == 91) = false := beq_eq_false_iff_ne.mpr c3
      have c3b1 : (a0 != 91) = true := bne_iff_ne.mpr c3
      by_cases c4 : a0 = 93
      · rw [if_pos c4] at H
        have c4b0 : (a0 == 93) = true := beq_iff_eq.mpr c4
        have c4b1 : (a0 != 93) = false := bne_eq_false_iff_eq.mpr c4
        clear c4
        obtain rfl := Option.some.inj H
        go_enter Tryd.func87, Tryd.ntmps87
        go_wp2
        go_ret
        exact ⟨by first | rfl | (simp; done) | (simp [*]; done), by repeat (first | exact Drawn0.refl _ | apply Drawn0.step)⟩
      · rw [if_neg c4] at H
        have c4b0 : (a0 == 93) = false := beq_eq_false_iff_ne.mpr c4
        have c4b1 : (a0 != 93) = true := bne_iff_ne.mpr c4
        by_cases c5 : a0 = 123
        · rw [if_pos c5] at H
          have c5b0 : (a0 == 123) = true := beq_iff_eq.mpr c5
          have c5b1 : (a0 != 123) = false := bne_eq_false_iff_eq.mpr c5
          clear c5
          obtain rfl := Option.some.inj H
          go_enter Tryd.func87, Tryd.ntmps87
          go_wp2
          go_ret
          exact ⟨by first | rfl | (simp; done) | (simp [*]; done), by repeat (first | exact Drawn0.refl _ | apply Drawn0.step)⟩
        · rw [if_neg c5] at H
          have c5b0 : (a0 == 123) = false := beq_eq_false_iff_ne.mpr c5
          have c5b1 : (a0 != 123) = true := bne_iff_ne.mpr c5
          obtain rfl := Option.some.inj H
          go_enter Tryd.func87, Tryd.ntmps87
          go_wp2
          go_ret
          exact ⟨by first | rfl | (simp; done) | (simp [*]; done), by repeat (first | exact Drawn0.refl _ | apply Drawn0.step)⟩

/-! ### targumref17_Stop: function 51 -/
def targumref17_Stop.f (k : Nat) (a0 : Int) (a1 : ByteArray) (a2 : Int) (a3 : Bool) : Option (Bool) := if a2 ≥ (a1.size : Int) then (some true) else ((targumref1_IsBlank.f a1 a2).bind fun t120 => (if t120 = true then (some true) else ((targumref1_Break.f k a0 a1 a2).bind fun t121 => (if t121 > 0 then (some true) else (if a3 = true then (if 0 ≤ a2 then (if a2 < (a1.size : Int) then ((targumref17_Sign.f (bt a1 a2)).bind fun t122 => (some t122)) else (none)) else (none)) else (some false))))))
theorem targumref17_Stop.mono : ∀ a0 a1 a2 a3 k, LeO (targumref17_Stop.f k a0 a1 a2 a3) (targumref17_Stop.f (k + 1) a0 a1 a2 a3) := by
  intro a0 a1 a2 a3 k
  unfold targumref17_Stop.f
  repeat' first
      | (with_reducible exact targumref1_Break.mono _ _ _ _)
      | (with_reducible exact LeO.refl _)
      | (with_reducible exact LeO.none _)
      | (with_reducible refine LeO.ite ?_ ?_)
      | (with_reducible refine LeO.bind ?_ (fun _ => ?_))
      | exact targumref1_Break.mono _ _ _ _
      | exact LeO.none _
      | refine LeO.ite ?_ ?_
      | refine LeO.bind ?_ (fun _ => ?_)
set_option maxHeartbeats 8000000 in
set_option maxRecDepth 100000 in
theorem targumref17_Stop.calls (k : Nat) (a0 : Int) (a1 : ByteArray) (a2 : Int) (a3 : Bool) (r : Bool) (w : World) (h : targumref17_Stop.f k a0 a1 a2 a3 = some r) :
    Calls Tryd.prog 51 #[.int .i64 a0, .string a1, .int .i64 a2, .bool a3] w fun e w' => e = .returned (.bool r) ∧ Drawn0 w w' := by
  have H : (if a2 ≥ (a1.size : Int) then (some true) else ((targumref1_IsBlank.f a1 a2).bind fun t120 => (if t120 = true then (some true) else ((targumref1_Break.f k a0 a1 a2).bind fun t121 => (if t121 > 0 then (some true) else (if a3 = true then (if 0 ≤ a2 then (if a2 < (a1.size : Int) then ((targumref17_Sign.f (bt a1 a2)).bind fun t122 => (some t122)) else (none)) else (none)) else (some false))))))) = some r := h
  clear h
  by_cases c5 : a2 ≥ (a1.size : Int)
  · rw [if_pos c5] at H
    have c5b0 : decide ((a1.size : Int) ≤ a2) = true := decide_eq_true c5
    clear c5
    obtain rfl := Option.some.inj H
    go_enter Tryd.func51, Tryd.ntmps51
    go_wp2
    go_ret
    exact ⟨by first | rfl | (simp; done) | (simp [*]; done), by repeat (first | exact Drawn0.refl _ | apply Drawn0.step)⟩
  · rw [if_neg c5] at H
    have c5b0 : decide ((a1.size : Int) ≤ a2) = false := decide_eq_false c5
    clear c5
    replace H := Option.bind_eq_some_iff.mp H
    obtain ⟨t120, A60, H⟩ := H
    replace H : (if t120 = true then (some true) else ((targumref1_Break.f k a0 a1 a2).bind fun t121 => (if t121 > 0 then (some true) else (if a3 = true then (if 0 ≤ a2 then (if a2 < (a1.size : Int) then ((targumref17_Sign.f (bt a1 a2)).bind fun t122 => (some t122)) else (none)) else (none)) else (some false))))) = some r := H
    have A6 := Aside0.mk A60
    clear A60
    by_cases c7 : t120 = true
    · subst c7
      have H1 : (some true) = some r := by rw [if_pos rfl] at H; exact H
      clear H
      have H := H1
      clear H1
      obtain rfl := Option.some.inj H
      go_enter Tryd.func51, Tryd.ntmps51
      go_wp2_with (first | (go_at_call 26; (with_reducible refine (targumref1_IsBlank.calls a1 a2 true _ A6.out).mono ?_); rintro e w' ⟨rfl, ⟨nd, rfl⟩⟩))
      go_ret
      exact ⟨by first | rfl | (simp; done) | (simp [*]; done), by repeat (first | exact Drawn0.refl _ | apply Drawn0.step)⟩
    · replace c7 := Bool.eq_false_iff.mpr c7
      subst c7
      have H1 : ((targumref1_Break.f k a0 a1 a2).bind fun t121 => (if t121 > 0 then (some true) else (if a3 = true then (if 0 ≤ a2 then (if a2 < (a1.size : Int) then ((targumref17_Sign.f (bt a1 a2)).bind fun t122 => (some t122)) else (none)) else (none)) else (some false)))) = some r := by rw [if_neg (show ¬ (false = true) by decide)] at H; exact H
      clear H
      have H := H1
      clear H1
      replace H := Option.bind_eq_some_iff.mp H
      obtain ⟨t121, A80, H⟩ := H
      replace H : (if t121 > 0 then (some true) else (if a3 = true then (if 0 ≤ a2 then (if a2 < (a1.size : Int) then ((targumref17_Sign.f (bt a1 a2)).bind fun t122 => (some t122)) else (none)) else (none)) else (some false))) = some r := H
      have A8 := Aside0.mk A80
      clear A80
      by_cases c9 : t121 > 0
      · rw [if_pos c9] at H
        have c9b0 : decide (0 < t121) = true := decide_eq_true c9
        clear c9
        obtain rfl := Option.some.inj H
        go_enter Tryd.func51, Tryd.ntmps51
        go_wp2_with (first | (go_at_call 26; (with_reducible refine (targumref1_IsBlank.calls a1 a2 false _ A6.out).mono ?_); rintro e w' ⟨rfl, ⟨nd, rfl⟩⟩) | (go_at_call 47; (with_reducible refine (targumref1_Break.calls k a0 a1 a2 t121 _ A8.out).mono ?_); rintro e w' ⟨rfl, ⟨nd, rfl⟩⟩))
        go_ret
        exact ⟨by first | rfl | (simp; done) | (simp [*]; done), by repeat (first | exact Drawn0.refl _ | apply Drawn0.step)⟩
      · rw [if_neg c9] at H
        have c9b0 : decide (0 < t121) = false := decide_eq_false c9
        clear c9
        by_cases c10 : a3 = true
        · subst c10
          have H1 : (if 0 ≤ a2 then (if a2 < (a1.size : Int) then ((targumref17_Sign.f (bt a1 a2)).bind fun t122 => (some t122)) else (none)) else (none)) = some r := by rw [if_pos rfl] at H; exact H
          clear H
          have H := H1
          clear H1
          by_cases c11 : 0 ≤ a2
          · rw [if_pos c11] at H
            have c11b0 : decide (0 ≤ a2) = true := decide_eq_true c11
            clear c11
            by_cases c12 : a2 < (a1.size : Int)
            · rw [if_pos c12] at H
              have c12b0 : decide (a2 < (a1.size : Int)) = true := decide_eq_true c12
              clear c12
              replace H := Option.bind_eq_some_iff.mp H
              obtain ⟨t122, A140, H⟩ := H
              replace H : (some t122) = some r := H
              have A14 := Aside0.mk A140
              clear A140
              obtain rfl := Option.some.inj H
              go_enter Tryd.func51, Tryd.ntmps51
              go_wp2_with (first | (go_at_call 26; (with_reducible refine (targumref1_IsBlank.calls a1 a2 false _ A6.out).mono ?_); rintro e w' ⟨rfl, ⟨nd, rfl⟩⟩) | (go_at_call 47; (with_reducible refine (targumref1_Break.calls k a0 a1 a2 t121 _ A8.out).mono ?_); rintro e w' ⟨rfl, ⟨nd, rfl⟩⟩; have p13 : 0 ≤ (a2 : Int) := of_decide_eq_true (by first | (with_reducible assumption) | assumption); have q13 : a2 < (a1.size : Int) := of_decide_eq_true (by first | (with_reducible assumption) | assumption); have hx13 := bt_at a1 a2; replace p13 := eq_true p13; replace q13 := eq_true q13) | (go_at_call 87; (with_reducible refine (targumref17_Sign.calls (bt a1 a2) t122 _ A14.out).mono ?_); rintro e w' ⟨rfl, ⟨nd, rfl⟩⟩))
              go_ret
              exact ⟨by first | rfl | (simp; done) | (simp [*]; done), by repeat (first | exact Drawn0.refl _ | apply Drawn0.step)⟩
            · rw [if_neg c12] at H
              exact absurd H (by simp)
          · rw [if_neg c11] at H
            exact absurd H (by simp)
        · replace c10 := Bool.eq_false_iff.mpr c10
          subst c10
          have H1 : (some false) = some r := by rw [if_neg (show ¬ (false = true) by decide)] at H; exact H
          clear H
          have H := H1
          clear H1
          obtain rfl := Option.some.inj H
          go_enter Tryd.func51, Tryd.ntmps51
          go_wp2_with (first | (go_at_call 26; (with_reducible refine (targumref1_IsBlank.calls a1 a2 false _ A6.out).mono ?_); rintro e w' ⟨rfl, ⟨nd, rfl⟩⟩) | (go_at_call 47; (with_reducible refine (targumref1_Break.calls k a0 a1 a2 t121 _ A8.out).mono ?_); rintro e w' ⟨rfl, ⟨nd, rfl⟩⟩))
          go_ret
          exact ⟨by first | rfl | (simp; done) | (simp [*]; done), by repeat (first | exact Drawn0.refl _ | apply Drawn0.step)⟩

end Go.Proofs.YtmfjdlmhejabiaaDoor.PL
