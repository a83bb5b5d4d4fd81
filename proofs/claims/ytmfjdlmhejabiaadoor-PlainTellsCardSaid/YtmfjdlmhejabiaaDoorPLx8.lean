-- Written by wip/myprint.py (a program of this session's) over the kit's print.
import Derived.Test.YtmfjdlmhejabiaaDoorPLx0
import Derived.Test.YtmfjdlmhejabiaaDoorPLx6
namespace Go.Proofs.YtmfjdlmhejabiaaDoor.PL
open Go.Proofs.YtmfjdlmhejabiaaDoor.X
open Go.RowKit Go.Proofs.YtmfjdlmhejabiaaDoorW.PrintWords Go.Proofs.YtmfjdlmhejabiaaDoorW.PrintLast Go.Proofs.YtmfjdlmhejabiaaDoorW.PrintMore
attribute [local go_sem] max2_int min2_int max_two min_two max_three min_three max_four min_four   -- for this text's walks alone
set_option linter.unusedVariables false
set_option linter.unusedSimpArgs false

/-! ### targumref17_opens: function 55 -/
mutual
def targumref17_opens.j0 : Nat → Int → ByteArray → Int → Bool → Bool → Option (Bool)
  | 0, _, _, _, _, _ => none
  | k + 1, x0, x1, x2, x3, x22 => if x22 = true then (some false) else (if 0 ≤ x2 then (if x2 < (x1.size : Int) then (if (bt x1 x2) = 35 then (targumref17_opens.j1 k x0 x1 x2 x3 (bt x1 x2) ((bt x1 x2) == 35)) else (if (bt x1 x2) = 38 then (targumref17_opens.j1 k x0 x1 x2 x3 (bt x1 x2) ((bt x1 x2) == 38)) else (if (bt x1 x2) = 42 then (targumref17_opens.j1 k x0 x1 x2 x3 (bt x1 x2) ((bt x1 x2) == 42)) else (if (bt x1 x2) = 33 then (targumref17_opens.j1 k x0 x1 x2 x3 (bt x1 x2) ((bt x1 x2) == 33)) else (if (bt x1 x2) = 124 then (targumref17_opens.j1 k x0 x1 x2 x3 (bt x1 x2) ((bt x1 x2) == 124)) else (if (bt x1 x2) = 62 then (targumref17_opens.j1 k x0 x1 x2 x3 (bt x1 x2) ((bt x1 x2) == 62)) else (if (bt x1 x2) = 39 then (targumref17_opens.j1 k x0 x1 x2 x3 (bt x1 x2) ((bt x1 x2) == 39)) else (if (bt x1 x2) = 34 then (targumref17_opens.j1 k x0 x1 x2 x3 (bt x1 x2) ((bt x1 x2) == 34)) else (if (bt x1 x2) = 37 then (targumref17_opens.j1 k x0 x1 x2 x3 (bt x1 x2) ((bt x1 x2) == 37)) else (if (bt x1 x2) = 64 then (targumref17_opens.j1 k x0 x1 x2 x3 (bt x1 x2) ((bt x1 x2) == 64)) else (targumref17_opens.j1 k x0 x1 x2 x3 (bt x1 x2) ((bt x1 x2) == 96)))))))))))) else (none)) else (none))
def targumref17_opens.j1 : Nat → Int → ByteArray → Int → Bool → Int → Bool → Option (Bool)
  | 0, _, _, _, _, _, _ => none
  | k + 1, x0, x1, x2, x3, x25, x26 => if x26 = true then (some false) else (if x25 = 45 then ((targumref17_Stop.f k x0 x1 (wrap64 (x2 + 1)) x3).bind fun t137 => (some (!t137))) else (if x25 = 63 then ((targumref17_Stop.f k x0 x1 (wrap64 (x2 + 1)) x3).bind fun t138 => (some (!t138))) else (if x25 = 58 then ((targumref17_Stop.f k x0 x1 (wrap64 (x2 + 1)) x3).bind fun t139 => (some (!t139))) else (some true))))
end
def targumref17_opens.f (k : Nat) (a0 : Int) (a1 : ByteArray) (a2 : Int) (a3 : Bool) : Option (Bool) := if a2 < 0 then (targumref17_opens.j0 k a0 a1 a2 a3 true) else ((targumref17_Stop.f k a0 a1 a2 false).bind fun t135 => (if t135 = true then (targumref17_opens.j0 k a0 a1 a2 a3 true) else (if 0 ≤ a2 then (if a2 < (a1.size : Int) then ((targumref17_Sign.f (bt a1 a2)).bind fun t136 => (targumref17_opens.j0 k a0 a1 a2 a3 t136)) else (none)) else (none))))
theorem targumref17_opens.mono_l : ∀ k, (∀ y0 y1 y2 y3 y4, LeO (targumref17_opens.j0 k y0 y1 y2 y3 y4) (targumref17_opens.j0 (k + 1) y0 y1 y2 y3 y4)) ∧ (∀ y0 y1 y2 y3 y4 y5, LeO (targumref17_opens.j1 k y0 y1 y2 y3 y4 y5) (targumref17_opens.j1 (k + 1) y0 y1 y2 y3 y4 y5))
  | 0 => ⟨fun _ _ _ _ _ r h => by simp [targumref17_opens.j0] at h, fun _ _ _ _ _ _ r h => by simp [targumref17_opens.j1] at h⟩
  | k + 1 => by
    obtain ⟨ih0, ih1⟩ := targumref17_opens.mono_l k
    refine ⟨?_, ?_⟩
    · intro y0 y1 y2 y3 y4
      unfold targumref17_opens.j0
      repeat' first
      | (with_reducible exact ih0 _ _ _ _ _)
      | (with_reducible exact ih1 _ _ _ _ _ _)
      | (with_reducible exact targumref17_Stop.mono _ _ _ _ _)
      | (with_reducible exact LeO.refl _)
      | (with_reducible exact LeO.none _)
      | (with_reducible refine LeO.ite ?_ ?_)
      | (with_reducible refine LeO.bind ?_ (fun _ => ?_))
      | exact ih0 _ _ _ _ _
      | exact ih1 _ _ _ _ _ _
      | exact targumref17_Stop.mono _ _ _ _ _
      | exact LeO.none _
      | refine LeO.ite ?_ ?_
      | refine LeO.bind ?_ (fun _ => ?_)
    · intro y0 y1 y2 y3 y4 y5
      unfold targumref17_opens.j1
      repeat' first
      | (with_reducible exact ih0 _ _ _ _ _)
      | (with_reducible exact ih1 _ _ _ _ _ _)
      | (with_reducible exact targumref17_Stop.mono _ _ _ _ _)
      | (with_reducible exact LeO.refl _)
      | (with_reducible exact LeO.none _)
      | (with_reducible refine LeO.ite ?_ ?_)
      | (with_reducible refine LeO.bind ?_ (fun _ => ?_))
      | exact ih0 _ _ _ _ _
      | exact ih1 _ _ _ _ _ _
      | exact targumref17_Stop.mono _ _ _ _ _
      | exact LeO.none _
      | refine LeO.ite ?_ ?_
      | refine LeO.bind ?_ (fun _ => ?_)
theorem targumref17_opens.mono : ∀ a0 a1 a2 a3 k, LeO (targumref17_opens.f k a0 a1 a2 a3) (targumref17_opens.f (k + 1) a0 a1 a2 a3) := by
  intro a0 a1 a2 a3 k
  obtain ⟨ih0, ih1⟩ := targumref17_opens.mono_l k
  unfold targumref17_opens.f
  repeat' first
      | (with_reducible exact ih0 _ _ _ _ _)
      | (with_reducible exact ih1 _ _ _ _ _ _)
      | (with_reducible exact targumref17_Stop.mono _ _ _ _ _)
      | (with_reducible exact LeO.refl _)
      | (with_reducible exact LeO.none _)
      | (with_reducible refine LeO.ite ?_ ?_)
      | (with_reducible refine LeO.bind ?_ (fun _ => ?_))
      | exact ih0 _ _ _ _ _
      | exact ih1 _ _ _ _ _ _
      | exact targumref17_Stop.mono _ _ _ _ _
      | exact LeO.none _
      | refine LeO.ite ?_ ?_
      | refine LeO.bind ?_ (fun _ => ?_)
set_option maxHeartbeats 8000000 in
set_option maxRecDepth 100000 in
theorem targumref17_opens.calls (k : Nat) (a0 : Int) (a1 : ByteArray) (a2 : Int) (a3 : Bool) (r : Bool) (w : World) (h : targumref17_opens.f k a0 a1 a2 a3 = some r) :
    Calls Tryd.prog 55 #[.int .i64 a0, .string a1, .int .i64 a2, .bool a3] w fun e w' => e = .returned (.bool r) ∧ Drawn0 w w' := by
  have H : (if a2 < 0 then (targumref17_opens.j0 k a0 a1 a2 a3 true) else ((targumref17_Stop.f k a0 a1 a2 false).bind fun t135 => (if t135 = true then (targumref17_opens.j0 k a0 a1 a2 a3 true) else (if 0 ≤ a2 then (if a2 < (a1.size : Int) then ((targumref17_Sign.f (bt a1 a2)).bind fun t136 => (targumref17_opens.j0 k a0 a1 a2 a3 t136)) else (none)) else (none))))) = some r := h
  clear h
  have HC5 := Aside0.mk H
  clear H
  go_enter Tryd.func55, Tryd.ntmps55
  go_upto_region 1 with (fail)
  go_cut [22] (fun v22 wc => ∃ (kq : Nat) (x22_4 : Bool), v22 = .bool x22_4 ∧ Aside0 (targumref17_opens.j0 kq a0 a1 a2 a3 x22_4 = some r) ∧ Aside0 (kq ≤ k) ∧ Drawn0 w wc)
  case first =>
    have H := HC5.out
    clear HC5
    by_cases c6 : a2 < 0
    · rw [if_pos c6] at H
      have c6b0 : decide (a2 < 0) = true := decide_eq_true c6
      clear c6
      (first | rw [c6b0] | (simp only [i64_w, i32_w]; rw [c6b0]) | skip)
      have H' := Aside0.mk H
      clear H
      go_wp2
      go_meet
      case rel => exact ⟨_, (true), (by first | rfl | (simp; done) | (simp [*]; done)), H', ⟨by first | omega | exact Nat.le_refl _⟩, by repeat (first | exact Drawn0.refl _ | apply Drawn0.step)⟩
    · rw [if_neg c6] at H
      have c6b0 : decide (a2 < 0) = false := decide_eq_false c6
      clear c6
      (first | rw [c6b0] | (simp only [i64_w, i32_w]; rw [c6b0]) | skip)
      replace H := Option.bind_eq_some_iff.mp H
      obtain ⟨t135, A70, H⟩ := H
      replace H : (if t135 = true then (targumref17_opens.j0 k a0 a1 a2 a3 true) else (if 0 ≤ a2 then (if a2 < (a1.size : Int) then ((targumref17_Sign.f (bt a1 a2)).bind fun t136 => (targumref17_opens.j0 k a0 a1 a2 a3 t136)) else (none)) else (none))) = some r := H
      have A7 := Aside0.mk A70
      clear A70
      by_cases c8 : t135 = true
      · subst c8
        have H1 : (targumref17_opens.j0 k a0 a1 a2 a3 true) = some r := by rw [if_pos rfl] at H; exact H
        clear H
        have H := H1
        clear H1
        have H' := Aside0.mk H
        clear H
        go_wp2_with (first | (go_at_call 51; (with_reducible refine (targumref17_Stop.calls k a0 a1 a2 false true _ A7.out).mono ?_); rintro e w' ⟨rfl, ⟨nd, rfl⟩⟩))
        go_meet
        case rel => exact ⟨_, (true), (by first | rfl | (simp; done) | (simp [*]; done)), H', ⟨by first | omega | exact Nat.le_refl _⟩, by repeat (first | exact Drawn0.refl _ | apply Drawn0.step)⟩
      · replace c8 := Bool.eq_false_iff.mpr c8
        subst c8
        have H1 : (if 0 ≤ a2 then (if a2 < (a1.size : Int) then ((targumref17_Sign.f (bt a1 a2)).bind fun t136 => (targumref17_opens.j0 k a0 a1 a2 a3 t136)) else (none)) else (none)) = some r := by rw [if_neg (show ¬ (false = true) by decide)] at H; exact H
        clear H
        have H := H1
        clear H1
        by_cases c9 : 0 ≤ a2
        · rw [if_pos c9] at H
          have c9b0 : decide (0 ≤ a2) = true := decide_eq_true c9
          clear c9
          by_cases c10 : a2 < (a1.size : Int)
          · rw [if_pos c10] at H
            have c10b0 : decide (a2 < (a1.size : Int)) = true := decide_eq_true c10
            clear c10
            replace H := Option.bind_eq_some_iff.mp H
            obtain ⟨t136, A120, H⟩ := H
            replace H : (targumref17_opens.j0 k a0 a1 a2 a3 t136) = some r := H
            have A12 := Aside0.mk A120
            clear A120
            have H' := Aside0.mk H
            clear H
            go_wp2_with (first | (go_at_call 51; (with_reducible refine (targumref17_Stop.calls k a0 a1 a2 false false _ A7.out).mono ?_); rintro e w' ⟨rfl, ⟨nd, rfl⟩⟩; have p11 : 0 ≤ (a2 : Int) := of_decide_eq_true (by first | (with_reducible assumption) | assumption); have q11 : a2 < (a1.size : Int) := of_decide_eq_true (by first | (with_reducible assumption) | assumption); have hx11 := bt_at a1 a2; replace p11 := eq_true p11; replace q11 := eq_true q11) | (go_at_call 87; (with_reducible refine (targumref17_Sign.calls (bt a1 a2) t136 _ A12.out).mono ?_); rintro e w' ⟨rfl, ⟨nd, rfl⟩⟩))
            go_meet
            case rel => exact ⟨_, (t136), (by first | rfl | (simp; done) | (simp [*]; done)), H', ⟨by first | omega | exact Nat.le_refl _⟩, by repeat (first | exact Drawn0.refl _ | apply Drawn0.step)⟩
          · rw [if_neg c10] at H
            exact absurd H (by simp)
        · rw [if_neg c9] at H
          exact absurd H (by simp)
  case rest =>
    clear HC5
    try clear c1
    try clear p1
    try clear q1
    try clear hx1
    try clear p2
    try clear c5
    try clear c6
    try clear c6b0
    try clear c8
    try clear c9
    try clear c9b0
    try clear c10
    try clear c10b0
    try clear p11
    try clear q11
    try clear hx11
    try clear p11
    try clear q11
    obtain ⟨kq, x22_4, rfl, HA, HJ4, ⟨mc4, rfl⟩⟩ := hcut
    cases kq with
    | zero => exact absurd HA.out (by simp [targumref17_opens.j0])
    | succ kj4 =>
      have H := HA.out
      clear HA
      simp only [targumref17_opens.j0] at H
      by_cases c13 : x22_4 = true
      · subst c13
        have H1 : (some false) = some r := by rw [if_pos rfl] at H; exact H
        clear H
        have H := H1
        clear H1
        obtain rfl := Option.some.inj H
        go_wp2
        go_ret
        exact ⟨by first | rfl | (simp; done) | (simp [*]; done), by repeat (first | exact Drawn0.refl _ | apply Drawn0.step)⟩
      · replace c13 := Bool.eq_false_iff.mpr c13
        subst c13
        have H1 : (if 0 ≤ a2 then (if a2 < (a1.size : Int) then (if (bt a1 a2) = 35 then (targumref17_opens.j1 kj4 a0 a1 a2 a3 (bt a1 a2) ((bt a1 a2) == 35)) else (if (bt a1 a2) = 38 then (targumref17_opens.j1 kj4 a0 a1 a2 a3 (bt a1 a2) ((bt a1 a2) == 38)) else (if (bt a1 a2) = 42 then (targumref17_opens.j1 kj4 a0 a1 a2 a3 (bt a1 a2) ((bt a1 a2) == 42)) else (if (bt a1 a2) = 33 then (targumref17_opens.j1 kj4 a0 a1 a2 a3 (bt a1 a2) ((bt a1 a2) == 33)) else (if (bt a1 a2) = 124 then (targumref17_opens.j1 kj4 a0 a1 a2 a3 (bt a1 a2) ((bt a1 a2) == 124)) else (if (bt a1 a2) = 62 then (targumref17_opens.j1 kj4 a0 a1 a2 a3 (bt a1 a2) ((bt a1 a2) == 62)) else (if (bt a1 a2) = 39 then (targumref17_opens.j1 kj4 a0 a1 a2 a3 (bt a1 a2) ((bt a1 a2) == 39)) else (if (bt a1 a2) = 34 then (targumref17_opens.j1 kj4 a0 a1 a2 a3 (bt a1 a2) ((bt a1 a2) == 34)) else (if (bt a1 a2) = 37 then (targumref17_opens.j1 kj4 a0 a1 a2 a3 (bt a1 a2) ((bt a1 a2) == 37)) else (if (bt a1 a2) = 64 then (targumref17_opens.j1 kj4 a0 a1 a2 a3 (bt a1 a2) ((bt a1 a2) == 64)) else (targumref17_opens.j1 kj4 a0 a1 a2 a3 (bt a1 a2) ((bt a1 a2) == 96)))))))))))) else (none)) else (none)) = some r := by rw [if_neg (show ¬ (false = true) by decide)] at H; exact H
        clear H
        have H := H1
        clear H1
        by_cases c14 : 0 ≤ a2
        · rw [if_pos c14] at H
          have c14b0 : decide (0 ≤ a2) = true := decide_eq_true c14
          clear c14
          by_cases c15 : a2 < (a1.size : Int)
          · rw [if_pos c15] at H
            have c15b0 : decide (a2 < (a1.size : Int)) = true := decide_eq_true c15
            clear c15
            have HC17 := Aside0.mk H
            clear H
            have p16 : 0 ≤ (a2 : Int) := of_decide_eq_true (by first | (with_reducible assumption) | assumption)
            have q16 : a2 < (a1.size : Int) := of_decide_eq_true (by first | (with_reducible assumption) | assumption)
            have hx16 := bt_at a1 a2
            replace p16 := eq_true p16
            replace q16 := eq_true q16
            go_upto_if 26 with (fail)
            go_cut [26] (fun v26 wc => ∃ (kq : Nat) (x26_16 : Bool), v26 = .bool x26_16 ∧ Aside0 (targumref17_opens.j1 kq a0 a1 a2 a3 (bt a1 a2) x26_16 = some r) ∧ Aside0 (kq ≤ kj4) ∧ Drawn0 w wc)
            case first =>
              have H := HC17.out
              clear HC17
              by_cases c18 : (bt a1 a2) = 35
              · rw [if_pos c18] at H
                have c18b0 : ((bt a1 a2) == 35) = true := beq_iff_eq.mpr c18
                have c18b1 : ((bt a1 a2) != 35) = false := bne_eq_false_iff_eq.mpr c18
                clear c18
                (first | rw [c18b0] | (simp only [i64_w, i32_w]; rw [c18b0]) | skip)
                have H' := Aside0.mk H
                clear H
                go_wp2
                go_meet
                case rel => exact ⟨_, (((bt a1 a2) == 35)), (by first | rfl | (simp; done) | (simp [*]; done)), H', ⟨by have := HJ4.out; first | omega | exact Nat.le_refl _⟩, by repeat (first | exact Drawn0.refl _ | apply Drawn0.step)⟩
              · rw [if_neg c18] at H
                have c18b0 : ((bt a1 a2) == 35) = false := beq_eq_false_iff_ne.mpr c18
                have c18b1 : ((bt a1 a2) != 35) = true := bne_iff_ne.mpr c18
                (first | rw [c18b0] | (simp only [i64_w, i32_w]; rw [c18b0]) | skip)
                by_cases c19 : (bt a1 a2) = 38
                · rw [if_pos c19] at H
                  have c19b0 : ((bt a1 a2) == 38) = true := beq_iff_eq.mpr c19
                  have c19b1 : ((bt a1 a2) != 38) = false := bne_eq_false_iff_eq.mpr c19
                  clear c19
                  have H' := Aside0.mk H
                  clear H
                  go_wp2
                  go_meet
                  case rel => exact ⟨_, (((bt a1 a2) == 38)), (by first | rfl | (simp; done) | (simp [*]; done)), H', ⟨by have := HJ4.out; first | omega | exact Nat.le_refl _⟩, by repeat (first | exact Drawn0.refl _ | apply Drawn0.step)⟩
                · rw [if_neg c19] at H
                  have c19b0 : ((bt a1 a2) == 38) = false := beq_eq_false_iff_ne.mpr c19
                  have c19b1 : ((bt a1 a2) != 38) = true := bne_iff_ne.mpr c19
                  by_cases c20 : (bt a1 a2) = 42
                  · rw [if_pos c20] at H
                    have c20b0 : ((bt a1 a2) == 42) = true := beq_iff_eq.mpr c20
                    have c20b1 : ((bt a1 a2) != 42) = false := bne_eq_false_iff_eq.mpr c20
                    clear c20
                    have H' := Aside0.mk H
                    clear H
                    go_wp2
                    go_meet
                    case rel => exact ⟨_, (((bt a1 a2) == 42)), (by first | rfl | (simp; done) | (simp [*]; done)), H', ⟨by have := HJ4.out; first | omega | exact Nat.le_refl _⟩, by repeat (first | exact Drawn0.refl _ | apply Drawn0.step)⟩
                  · rw [if_neg c20] at H
                    have c20b0 : ((bt a1 a2) == 42) = false := beq_eq_false_iff_ne.mpr c20
                    have c20b1 : ((bt a1 a2) != 42) = true := bne_iff_ne.mpr c20
                    by_cases c21 : (bt a1 a2) = 33
                    · rw [if_pos c21] at H
                      have c21b0 : ((bt a1 a2) == 33) = true := beq_iff_eq.mpr c21
                      have c21b1 : ((bt a1 a2) != 33) = false := bne_eq_false_iff_eq.mpr c21
                      clear c21
                      have H' := Aside0.mk H
                      clear H
                      go_wp2
                      go_meet
                      case rel => exact ⟨_, (((bt a1 a2) == 33)), (by first | rfl | (simp; done) | (simp [*]; done)), H', ⟨by have := HJ4.out; first | omega | exact Nat.le_refl _⟩, by repeat (first | exact Drawn0.refl _ | apply Drawn0.step)⟩
                    · rw [if_neg c21] at H
                      have c21b0 : ((bt a1 a2) == 33) = false := beq_eq_false_iff_ne.mpr c21
                      have c21b1 : ((bt a1 a2) != 33) = true := bne_iff_ne.mpr c21
                      by_cases c22 : (bt a1 a2) = 124
                      · rw [if_pos c22] at H
                        have c22b0 : ((bt a1 a2) == 124) = true := beq_iff_eq.mpr c22
                        have c22b1 : ((bt a1 a2) != 124) = false := bne_eq_false_iff_eq.mpr c22
                        clear c22
                        have H' := Aside0.mk H
                        clear H
                        go_wp2
                        go_meet
                        case rel => exact ⟨_, (((bt a1 a2) == 124)), (by first | rfl | (simp; done) | (simp [*]; done)), H', ⟨by have := HJ4.out; first | omega | exact Nat.le_refl _⟩, by repeat (first | exact Drawn0.refl _ | apply Drawn0.step)⟩
                      · rw [if_neg c22] at H
                        have c22b0 : ((bt a1 a2) == 124) = false := beq_eq_false_iff_ne.mpr c22
                        have c22b1 : ((bt a1 a2) != 124) = true := bne_iff_ne.mpr c22
                        by_cases c23 : (bt a1 a2) = 62
                        · rw [if_pos c23] at H
                          have c23b0 : ((bt a1 a2) == 62) = true := beq_iff_eq.mpr c23
                          have c23b1 : ((bt a1 a2) != 62) = false := bne_eq_false_iff_eq.mpr c23
                          clear c23
                          have H' := Aside0.mk H
                          clear H
                          go_wp2
                          go_meet
                          case rel => exact ⟨_, (((bt a1 a2) == 62)), (by first | rfl | (simp; done) | (simp [*]; done)), H', ⟨by have := HJ4.out; first | omega | exact Nat.le_refl _⟩, by repeat (first | exact Drawn0.refl _ | apply Drawn0.step)⟩
                        · rw [if_neg c23] at H
                          have c23b0 : ((bt a1 a2) == 62) = false := beq_eq_false_iff_ne.mpr c23
                          have c23b1 : ((bt a1 a2) != 62) = true := bne_iff_ne.mpr c23
                          by_cases c24 : (bt a1 a2) = 39
                          · rw [if_pos c24] at H
                            have c24b0 : ((bt a1 a2) == 39) = true := beq_iff_eq.mpr c24
                            have c24b1 : ((bt a1 a2) != 39) = false := bne_eq_false_iff_eq.mpr c24
                            clear c24
                            have H' := Aside0.mk H
                            clear H
                            go_wp2
                            go_meet
                            case rel => exact ⟨_, (((bt a1 a2) == 39)), (by first | rfl | (simp; done) | (simp [*]; done)), H', ⟨by have := HJ4.out; first | omega | exact Nat.le_refl _⟩, by repeat (first | exact Drawn0.refl _ | apply Drawn0.step)⟩
                          · rw [if_neg c24] at H
                            have c24b0 : ((bt a1 a2) == 39) = false := beq_eq_false_iff_ne.mpr c24
                            have c24b1 : ((bt a1 a2) != 39) = true := bne_iff_ne.mpr c24
                            by_cases c25 : (bt a1 a2) = 34
                            · rw [if_pos c25] at H
                              have c25b0 : ((bt a1 a2) == 34) = true := beq_iff_eq.mpr c25
                              have c25b1 : ((bt a1 a2) != 34) = false := bne_eq_false_iff_eq.mpr c25
                              clear c25
                              have H' := Aside0.mk H
                              clear H
                              go_wp2
                              go_meet
                              case rel => exact ⟨_, (((bt a1 a2) == 34)), (by first | rfl | (simp; done) | (simp [*]; done)), H', ⟨by have := HJ4.out; first | omega | exact Nat.le_refl _⟩, by repeat (first | exact Drawn0.refl _ | apply Drawn0.step)⟩
                            · rw [if_neg c25] at H
                              have c25b0 : ((bt a1 a2) == 34) = false := beq_eq_false_iff_ne.mpr c25
                              have c25b1 : ((bt a1 a2) != 34) = true := bne_iff_ne.mpr c25
                              by_cases c26 : (bt a1 a2) = 37
                              · rw [if_pos c26] at H
                                have c26b0 : ((bt a1 a2) == 37) = true := beq_iff_eq.mpr c26
                                have c26b1 : ((bt a1 a2) != 37) = false := bne_eq_false_iff_eq.mpr c26
                                clear c26
                                have H' := Aside0.mk H
                                clear H
                                go_wp2
                                go_meet
                                case rel => exact ⟨_, (((bt a1 a2) == 37)), (by first | rfl | (simp; done) | (simp [*]; done)), H', ⟨by have := HJ4.out; first | omega | exact Nat.le_refl _⟩, by repeat (first | exact Drawn0.refl _ | apply Drawn0.step)⟩
                              · rw [if_neg c26] at H
                                have c26b0 : ((bt a1 a2) == 37) = false := beq_eq_false_iff_ne.mpr c26
                                have c26b1 : ((bt a1 a2) != 37) = true := bne_iff_ne.mpr c26
                                by_cases c27 : (bt a1 a2) = 64
                                · rw [if_pos c27] at H
                                  have c27b0 : ((bt a1 a2) == 64) = true := beq_iff_eq.mpr c27
                                  have c27b1 : ((bt a1 a2) != 64) = false := bne_eq_false_iff_eq.mpr c27
                                  clear c27
                                  have H' := Aside0.mk H
                                  clear H
                                  go_wp2
                                  go_meet
                                  case rel => exact ⟨_, (((bt a1 a2) == 64)), (by first | rfl | (simp; done) | (simp [*]; done)), H', ⟨by have := HJ4.out; first | omega | exact Nat.le_refl _⟩, by repeat (first | exact Drawn0.refl _ | apply Drawn0.step)⟩
                                · rw [if_neg c27] at H
                                  have c27b0 : ((bt a1 a2) == 64) = false := beq_eq_false_iff_ne.mpr c27
                                  have c27b1 : ((bt a1 a2) != 64) = true := bne_iff_ne.mpr c27
                                  have H' := Aside0.mk H
                                  clear H
                                  go_wp2
                                  go_meet
                                  case rel => exact ⟨_, (((bt a1 a2) == 96)), (by first | rfl | (simp; done) | (simp [*]; done)), H', ⟨by have := HJ4.out; first | omega | exact Nat.le_refl _⟩, by repeat (first | exact Drawn0.refl _ | apply Drawn0.step)⟩
            case rest =>
              clear HC17
              try clear c1
              try clear p1
              try clear q1
              try clear hx1
              try clear c2
              try clear p2
              try clear c4
              try clear c5
              try clear c6
              try clear c6b0
              try clear c8
              try clear c9
              try clear c9b0
              try clear c10
              try clear c10b0
              try clear p11
              try clear q11
              try clear hx11
              try clear c13
              try clear c14
              try clear c14b0
              try clear c15
              try clear c15b0
              try clear p16
              try clear q16
              try clear hx16
              try clear c18
              try clear c18b0
              try clear c18b1
              try clear c19
              try clear c19b0
              try clear c19b1
              try clear c20
              try clear c20b0
              try clear c20b1
              try clear c21
              try clear c21b0
              try clear c21b1
              try clear c22
              try clear c22b0
              try clear c22b1
              try clear c23
              try clear c23b0
              try clear c23b1
              try clear c24
              try clear c24b0
              try clear c24b1
              try clear c25
              try clear c25b0
              try clear c25b1
              try clear c26
              try clear c26b0
              try clear c26b1
              try clear c27
              try clear c27b0
              try clear c27b1
              try clear p1
              try clear p11
              try clear p16
              try clear p2
              try clear q1
              try clear q11
              try clear q16
              obtain ⟨kq, x26_16, rfl, HA, HJ16, ⟨mc16, rfl⟩⟩ := hcut
              cases kq with
              | zero => exact absurd HA.out (by simp [targumref17_opens.j1])
              | succ kj16 =>
                have H := HA.out
                clear HA
                simp only [targumref17_opens.j1] at H
                by_cases c28 : x26_16 = true
                · subst c28
                  have H1 : (some false) = some r := by rw [if_pos rfl] at H; exact H
                  clear H
                  have H := H1
                  clear H1
                  obtain rfl := Option.some.inj H
                  go_wp2
                  go_ret
                  exact ⟨by first | rfl | (simp; done) | (simp [*]; done), by repeat (first | exact Drawn0.refl _ | apply Drawn0.step)⟩
                · replace c28 := Bool.eq_false_iff.mpr c28
                  subst c28
                  have H1 : (if (bt a1 a2) = 45 then ((targumref17_Stop.f kj16 a0 a1 (wrap64 (a2 + 1)) a3).bind fun t137 => (some (!t137))) else (if (bt a1 a2) = 63 then ((targumref17_Stop.f kj16 a0 a1 (wrap64 (a2 + 1)) a3).bind fun t138 => (some (!t138))) else (if (bt a1 a2) = 58 then ((targumref17_Stop.f kj16 a0 a1 (wrap64 (a2 + 1)) a3).bind fun t139 => (some (!t139))) else (some true)))) = some r := by rw [if_neg (show ¬ (false = true) by decide)] at H; exact H
                  clear H
                  have H := H1
                  clear H1
                  by_cases c29 : (bt a1 a2) = 45
                  · rw [if_pos c29] at H
                    have c29b0 : ((bt a1 a2) == 45) = true := beq_iff_eq.mpr c29
                    have c29b1 : ((bt a1 a2) != 45) = false := bne_eq_false_iff_eq.mpr c29
                    clear c29
                    replace H := Option.bind_eq_some_iff.mp H
                    obtain ⟨t137, A300, H⟩ := H
                    replace H : (some (!t137)) = some r := H
                    have A30 := Aside0.mk A300
                    clear A300
                    obtain rfl := Option.some.inj H
                    go_wp2_with (first | ((with_reducible refine gate_callee (f := 51) rfl ?_); refine goesL_ (some 47) rfl rfl Tryd.func51 (by kernel_rfl) rfl #[.int .i64 a0, .string a1, .int .i64 (wrap64 (a2 + 1)), .bool a3] rfl (by (try simp only [List.map_toArray, List.map_cons, List.map_nil]); first | done | rfl | (simp only [List.length_drop, List.length_take]; rfl)) ?_; (with_reducible refine (targumref17_Stop.calls kj16 a0 a1 (wrap64 (a2 + 1)) a3 t137 _ A30.out).mono ?_); rintro e w' ⟨rfl, ⟨nd, rfl⟩⟩; refine ⟨_, rfl, ?_⟩))
                    go_ret
                    exact ⟨by first | rfl | (simp; done) | (simp [*]; done), by repeat (first | exact Drawn0.refl _ | apply Drawn0.step)⟩
                  · rw [if_neg c29] at H
                    have c29b0 : ((bt a1 a2) == 45) = false := beq_eq_false_iff_ne.mpr c29
                    have c29b1 : ((bt a1 a2) != 45) = true := bne_iff_ne.mpr c29
                    by_cases c31 : (bt a1 a2) = 63
                    · rw [if_pos c31] at H
                      have c31b0 : ((bt a1 a2) == 63) = true := beq_iff_eq.mpr c31
                      have c31b1 : ((bt a1 a2) != 63) = false := bne_eq_false_iff_eq.mpr c31
                      clear c31
                      replace H := Option.bind_eq_some_iff.mp H
                      obtain ⟨t138, A320, H⟩ := H
                      replace H : (some (!t138)) = some r := H
                      have A32 := Aside0.mk A320
                      clear A320
                      obtain rfl := Option.some.inj H
                      go_wp2_with (first | ((with_reducible refine gate_callee (f := 51) rfl ?_); refine goesL_ (some 47) rfl rfl Tryd.func51 (by kernel_rfl) rfl #[.int .i64 a0, .string a1, .int .i64 (wrap64 (a2 + 1)), .bool a3] rfl (by (try simp only [List.map_toArray, List.map_cons, List.map_nil]); first | done | rfl | (simp only [List.length_drop, List.length_take]; rfl)) ?_; (with_reducible refine (targumref17_Stop.calls kj16 a0 a1 (wrap64 (a2 + 1)) a3 t138 _ A32.out).mono ?_); rintro e w' ⟨rfl, ⟨nd, rfl⟩⟩; refine ⟨_, rfl, ?_⟩))
                      go_ret
                      exact ⟨by first | rfl | (simp; done) | (simp [*]; done), by repeat (first | exact Drawn0.refl _ | apply Drawn0.step)⟩
                    · rw [if_neg c31] at H
                      have c31b0 : ((bt a1 a2) == 63) = false := beq_eq_false_iff_ne.mpr c31
                      have c31b1 : ((bt a1 a2) != 63) = true := bne_iff_ne.mpr c31
                      by_cases c33 : (bt a1 a2) = 58
                      · rw [if_pos c33] at H
                        have c33b0 : ((bt a1 a2) == 58) = true := beq_iff_eq.mpr c33
                        have c33b1 : ((bt a1 a2) != 58) = false := bne_eq_false_iff_eq.mpr c33
                        clear c33
                        replace H := Option.bind_eq_some_iff.mp H
                        obtain ⟨t139, A340, H⟩ := H
                        replace H : (some (!t139)) = some r := H
                        have A34 := Aside0.mk A340
                        clear A340
                        obtain rfl := Option.some.inj H
                        go_wp2_with (first | ((with_reducible refine gate_callee (f := 51) rfl ?_); refine goesL_ (some 47) rfl rfl Tryd.func51 (by kernel_rfl) rfl #[.int .i64 a0, .string a1, .int .i64 (wrap64 (a2 + 1)), .bool a3] rfl (by (try simp only [List.map_toArray, List.map_cons, List.map_nil]); first | done | rfl | (simp only [List.length_drop, List.length_take]; rfl)) ?_; (with_reducible refine (targumref17_Stop.calls kj16 a0 a1 (wrap64 (a2 + 1)) a3 t139 _ A34.out).mono ?_); rintro e w' ⟨rfl, ⟨nd, rfl⟩⟩; refine ⟨_, rfl, ?_⟩))
                        go_ret
                        exact ⟨by first | rfl | (simp; done) | (simp [*]; done), by repeat (first | exact Drawn0.refl _ | apply Drawn0.step)⟩
                      · rw [if_neg c33] at H
                        have c33b0 : ((bt a1 a2) == 58) = false := beq_eq_false_iff_ne.mpr c33
                        have c33b1 : ((bt a1 a2) != 58) = true := bne_iff_ne.mpr c33
                        obtain rfl := Option.some.inj H
                        go_wp2
                        go_ret
                        exact ⟨by first | rfl | (simp; done) | (simp [*]; done), by repeat (first | exact Drawn0.refl _ | apply Drawn0.step)⟩
          · rw [if_neg c15] at H
            exact absurd H (by simp)
        · rw [if_neg c14] at H
          exact absurd H (by simp)

end Go.Proofs.YtmfjdlmhejabiaaDoor.PL
