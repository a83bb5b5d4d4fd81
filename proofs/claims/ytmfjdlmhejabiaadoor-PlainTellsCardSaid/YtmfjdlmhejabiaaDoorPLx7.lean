-- Written by wip/myprint.py (a program of this session's) over the kit's print.
import Derived.Test.YtmfjdlmhejabiaaDoorPLx0
import Derived.Test.YtmfjdlmhejabiaaDoorPLx4
import Derived.Test.YtmfjdlmhejabiaaDoorPLx5
import Derived.Test.YtmfjdlmhejabiaaDoorPLx6
namespace Go.Proofs.YtmfjdlmhejabiaaDoor.PL
open Go.Proofs.YtmfjdlmhejabiaaDoor.X
open Go.RowKit Go.Proofs.YtmfjdlmhejabiaaDoorW.PrintWords Go.Proofs.YtmfjdlmhejabiaaDoorW.PrintLast Go.Proofs.YtmfjdlmhejabiaaDoorW.PrintMore
attribute [local go_sem] max2_int min2_int max_two min_two max_three min_three max_four min_four   -- for this text's walks alone
set_option linter.unusedVariables false
set_option linter.unusedSimpArgs false

/-! ### targumref17_ends: function 52 -/
mutual
def targumref17_ends.j2 : Nat → ByteArray → Int → Int → Option (Int)
  | 0, _, _, _ => none
  | k + 1, x1, x2, x9 => targumref17_ends.l1 k x1 x2 x9
def targumref17_ends.l1 : Nat → ByteArray → Int → Int → Option (Int)
  | 0, _, _, _ => none
  | k + 1, x1, x2, x9 => if x9 > x2 then ((targumref1_IsBlank.f x1 (wrap64 (x9 - 1))).bind fun t134 => (if t134 = true then (targumref17_ends.l1 k x1 x2 (wrap64 (x9 - 1))) else (some x9))) else (some x9)
def targumref17_ends.l0 : Nat → Int → ByteArray → Int → Bool → Int → Option (Int)
  | 0, _, _, _, _, _ => none
  | k + 1, x0, x1, x2, x3, x9 => if x9 < (x1.size : Int) then ((targumref1_Break.f k x0 x1 x9).bind fun t123 => (targumref17_ends.j1 k x0 x1 x2 x3 x9 (t123 == 0))) else (targumref17_ends.j1 k x0 x1 x2 x3 x9 false)
def targumref17_ends.j1 : Nat → Int → ByteArray → Int → Bool → Int → Bool → Option (Int)
  | 0, _, _, _, _, _, _ => none
  | k + 1, x0, x1, x2, x3, x9, x21 => if x21 = true then (if 0 ≤ x9 then (if x9 < (x1.size : Int) then (if (bt x1 x9) = 35 then (if x9 > x2 then ((targumref1_IsBlank.f x1 (wrap64 (x9 - 1))).bind fun t124 => (if t124 = true then (targumref17_ends.j2 k x1 x2 x9) else (if (bt x1 x9) = 58 then ((targumref17_Stop.f k x0 x1 (wrap64 (x9 + 1)) x3).bind fun t125 => (if t125 = true then (targumref17_ends.j2 k x1 x2 x9) else (if x3 = true then ((targumref17_Sign.f (bt x1 x9)).bind fun t126 => (if t126 = true then (targumref17_ends.j2 k x1 x2 x9) else (targumref17_ends.l0 k x0 x1 x2 x3 (wrap64 (x9 + 1))))) else (targumref17_ends.l0 k x0 x1 x2 x3 (wrap64 (x9 + 1)))))) else (if x3 = true then ((targumref17_Sign.f (bt x1 x9)).bind fun t127 => (if t127 = true then (targumref17_ends.j2 k x1 x2 x9) else (targumref17_ends.l0 k x0 x1 x2 x3 (wrap64 (x9 + 1))))) else (targumref17_ends.l0 k x0 x1 x2 x3 (wrap64 (x9 + 1))))))) else (if (bt x1 x9) = 58 then ((targumref17_Stop.f k x0 x1 (wrap64 (x9 + 1)) x3).bind fun t128 => (if t128 = true then (targumref17_ends.j2 k x1 x2 x9) else (if x3 = true then ((targumref17_Sign.f (bt x1 x9)).bind fun t129 => (if t129 = true then (targumref17_ends.j2 k x1 x2 x9) else (targumref17_ends.l0 k x0 x1 x2 x3 (wrap64 (x9 + 1))))) else (targumref17_ends.l0 k x0 x1 x2 x3 (wrap64 (x9 + 1)))))) else (if x3 = true then ((targumref17_Sign.f (bt x1 x9)).bind fun t130 => (if t130 = true then (targumref17_ends.j2 k x1 x2 x9) else (targumref17_ends.l0 k x0 x1 x2 x3 (wrap64 (x9 + 1))))) else (targumref17_ends.l0 k x0 x1 x2 x3 (wrap64 (x9 + 1)))))) else (if (bt x1 x9) = 58 then ((targumref17_Stop.f k x0 x1 (wrap64 (x9 + 1)) x3).bind fun t131 => (if t131 = true then (targumref17_ends.j2 k x1 x2 x9) else (if x3 = true then ((targumref17_Sign.f (bt x1 x9)).bind fun t132 => (if t132 = true then (targumref17_ends.j2 k x1 x2 x9) else (targumref17_ends.l0 k x0 x1 x2 x3 (wrap64 (x9 + 1))))) else (targumref17_ends.l0 k x0 x1 x2 x3 (wrap64 (x9 + 1)))))) else (if x3 = true then ((targumref17_Sign.f (bt x1 x9)).bind fun t133 => (if t133 = true then (targumref17_ends.j2 k x1 x2 x9) else (targumref17_ends.l0 k x0 x1 x2 x3 (wrap64 (x9 + 1))))) else (targumref17_ends.l0 k x0 x1 x2 x3 (wrap64 (x9 + 1)))))) else (none)) else (none)) else (targumref17_ends.j2 k x1 x2 x9)
end
def targumref17_ends.f (k : Nat) (a0 : Int) (a1 : ByteArray) (a2 : Int) (a3 : Bool) : Option (Int) := targumref17_ends.l0 k a0 a1 a2 a3 a2
theorem targumref17_ends.mono_l : ∀ k, (∀ y0 y1 y2, LeO (targumref17_ends.j2 k y0 y1 y2) (targumref17_ends.j2 (k + 1) y0 y1 y2)) ∧ (∀ y0 y1 y2, LeO (targumref17_ends.l1 k y0 y1 y2) (targumref17_ends.l1 (k + 1) y0 y1 y2)) ∧ (∀ y0 y1 y2 y3 y4, LeO (targumref17_ends.l0 k y0 y1 y2 y3 y4) (targumref17_ends.l0 (k + 1) y0 y1 y2 y3 y4)) ∧ (∀ y0 y1 y2 y3 y4 y5, LeO (targumref17_ends.j1 k y0 y1 y2 y3 y4 y5) (targumref17_ends.j1 (k + 1) y0 y1 y2 y3 y4 y5))
  | 0 => ⟨fun _ _ _ r h => by simp [targumref17_ends.j2] at h, fun _ _ _ r h => by simp [targumref17_ends.l1] at h, fun _ _ _ _ _ r h => by simp [targumref17_ends.l0] at h, fun _ _ _ _ _ _ r h => by simp [targumref17_ends.j1] at h⟩
  | k + 1 => by
    obtain ⟨ih0, ih1, ih2, ih3⟩ := targumref17_ends.mono_l k
    refine ⟨?_, ?_, ?_, ?_⟩
    · intro y0 y1 y2
      unfold targumref17_ends.j2
      repeat' first
      | (with_reducible exact ih0 _ _ _)
      | (with_reducible exact ih1 _ _ _)
      | (with_reducible exact ih2 _ _ _ _ _)
      | (with_reducible exact ih3 _ _ _ _ _ _)
      | (with_reducible exact targumref17_Stop.mono _ _ _ _ _)
      | (with_reducible exact targumref1_Break.mono _ _ _ _)
      | (with_reducible exact LeO.refl _)
      | (with_reducible exact LeO.none _)
      | (with_reducible refine LeO.ite ?_ ?_)
      | (with_reducible refine LeO.bind ?_ (fun _ => ?_))
      | exact ih0 _ _ _
      | exact ih1 _ _ _
      | exact ih2 _ _ _ _ _
      | exact ih3 _ _ _ _ _ _
      | exact targumref17_Stop.mono _ _ _ _ _
      | exact targumref1_Break.mono _ _ _ _
      | exact LeO.none _
      | refine LeO.ite ?_ ?_
      | refine LeO.bind ?_ (fun _ => ?_)
    · intro y0 y1 y2
      unfold targumref17_ends.l1
      repeat' first
      | (with_reducible exact ih0 _ _ _)
      | (with_reducible exact ih1 _ _ _)
      | (with_reducible exact ih2 _ _ _ _ _)
      | (with_reducible exact ih3 _ _ _ _ _ _)
      | (with_reducible exact targumref17_Stop.mono _ _ _ _ _)
      | (with_reducible exact targumref1_Break.mono _ _ _ _)
      | (with_reducible exact LeO.refl _)
      | (with_reducible exact LeO.none _)
      | (with_reducible refine LeO.ite ?_ ?_)
      | (with_reducible refine LeO.bind ?_ (fun _ => ?_))
      | exact ih0 _ _ _
      | exact ih1 _ _ _
      | exact ih2 _ _ _ _ _
      | exact ih3 _ _ _ _ _ _
      | exact targumref17_Stop.mono _ _ _ _ _
      | exact targumref1_Break.mono _ _ _ _
      | exact LeO.none _
      | refine LeO.ite ?_ ?_
      | refine LeO.bind ?_ (fun _ => ?_)
    · intro y0 y1 y2 y3 y4
      unfold targumref17_ends.l0
      repeat' first
      | (with_reducible exact ih0 _ _ _)
      | (with_reducible exact ih1 _ _ _)
      | (with_reducible exact ih2 _ _ _ _ _)
      | (with_reducible exact ih3 _ _ _ _ _ _)
      | (with_reducible exact targumref17_Stop.mono _ _ _ _ _)
      | (with_reducible exact targumref1_Break.mono _ _ _ _)
      | (with_reducible exact LeO.refl _)
      | (with_reducible exact LeO.none _)
      | (with_reducible refine LeO.ite ?_ ?_)
      | (with_reducible refine LeO.bind ?_ (fun _ => ?_))
      | exact ih0 _ _ _
      | exact ih1 _ _ _
      | exact ih2 _ _ _ _ _
      | exact ih3 _ _ _ _ _ _
      | exact targumref17_Stop.mono _ _ _ _ _
      | exact targumref1_Break.mono _ _ _ _
      | exact LeO.none _
      | refine LeO.ite ?_ ?_
      | refine LeO.bind ?_ (fun _ => ?_)
    · intro y0 y1 y2 y3 y4 y5
      unfold targumref17_ends.j1
      repeat' first
      | (with_reducible exact ih0 _ _ _)
      | (with_reducible exact ih1 _ _ _)
      | (with_reducible exact ih2 _ _ _ _ _)
      | (with_reducible exact ih3 _ _ _ _ _ _)
      | (with_reducible exact targumref17_Stop.mono _ _ _ _ _)
      | (with_reducible exact targumref1_Break.mono _ _ _ _)
      | (with_reducible exact LeO.refl _)
      | (with_reducible exact LeO.none _)
      | (with_reducible refine LeO.ite ?_ ?_)
      | (with_reducible refine LeO.bind ?_ (fun _ => ?_))
      | exact ih0 _ _ _
      | exact ih1 _ _ _
      | exact ih2 _ _ _ _ _
      | exact ih3 _ _ _ _ _ _
      | exact targumref17_Stop.mono _ _ _ _ _
      | exact targumref1_Break.mono _ _ _ _
      | exact LeO.none _
      | refine LeO.ite ?_ ?_
      | refine LeO.bind ?_ (fun _ => ?_)
theorem targumref17_ends.mono : ∀ a0 a1 a2 a3 k, LeO (targumref17_ends.f k a0 a1 a2 a3) (targumref17_ends.f (k + 1) a0 a1 a2 a3) := by
  intro a0 a1 a2 a3 k
  obtain ⟨ih0, ih1, ih2, ih3⟩ := targumref17_ends.mono_l k
  unfold targumref17_ends.f
  repeat' first
      | (with_reducible exact ih0 _ _ _)
      | (with_reducible exact ih1 _ _ _)
      | (with_reducible exact ih2 _ _ _ _ _)
      | (with_reducible exact ih3 _ _ _ _ _ _)
      | (with_reducible exact targumref17_Stop.mono _ _ _ _ _)
      | (with_reducible exact targumref1_Break.mono _ _ _ _)
      | (with_reducible exact LeO.refl _)
      | (with_reducible exact LeO.none _)
      | (with_reducible refine LeO.ite ?_ ?_)
      | (with_reducible refine LeO.bind ?_ (fun _ => ?_))
      | exact ih0 _ _ _
      | exact ih1 _ _ _
      | exact ih2 _ _ _ _ _
      | exact ih3 _ _ _ _ _ _
      | exact targumref17_Stop.mono _ _ _ _ _
      | exact targumref1_Break.mono _ _ _ _
      | exact LeO.none _
      | refine LeO.ite ?_ ?_
      | refine LeO.bind ?_ (fun _ => ?_)
set_option maxHeartbeats 8000000 in
set_option maxRecDepth 100000 in
theorem targumref17_ends.calls (k : Nat) (a0 : Int) (a1 : ByteArray) (a2 : Int) (a3 : Bool) (r : Int) (w : World) (h : targumref17_ends.f k a0 a1 a2 a3 = some r) :
    Calls Tryd.prog 52 #[.int .i64 a0, .string a1, .int .i64 a2, .bool a3] w fun e w' => e = .returned (.int .i64 r) ∧ Drawn0 w w' := by
  have H : (targumref17_ends.l0 k a0 a1 a2 a3 a2) = some r := h
  clear h
  have HC5 := Aside0.mk H
  clear H
  go_enter Tryd.func52, Tryd.ntmps52
  go_upto_block 0 with (fail)
  go_cut [9] (fun v9 wc => ∃ (kq : Nat) (x9_4 : Int), v9 = .int .i64 x9_4 ∧ Aside0 (targumref17_ends.j2 kq a1 a2 x9_4 = some r) ∧ Aside0 (kq ≤ k) ∧ Drawn0 w wc)
  case first =>
    have H := HC5.out
    clear HC5
    have H' := Aside0.mk H
    clear H
    go_wp2
    go_loopg [9] k (fun kq v9 w' => ∃ (x9_1 : Int), v9 = .int .i64 x9_1 ∧ Aside0 (targumref17_ends.l0 kq a0 a1 a2 a3 x9_1 = some r) ∧ Aside0 (kq ≤ k) ∧ Drawn0 w w')
    case atStart => exact ⟨(a2), (by first | rfl | (simp; done) | (simp [*]; done)), H', ⟨Nat.le_refl _⟩, by repeat (first | exact Drawn0.refl _ | apply Drawn0.step)⟩
    case round =>
      clear H'
      try clear p2
      try clear c5
      obtain ⟨x9_1, rfl, HA, HK1, ⟨m1, rfl⟩⟩ := hrel
      cases gk with
      | zero => exact absurd HA.out (by simp [targumref17_ends.l0])
      | succ k1 =>
        have H := HA.out
        clear HA
        simp only [targumref17_ends.l0] at H
        have HC6 := Aside0.mk H
        clear H
        go_upto_region 2 with (fail)
        go_cut [21] (fun v21 wc => ∃ (kq : Nat) (x21_5 : Bool), v21 = .bool x21_5 ∧ Aside0 (targumref17_ends.j1 kq a0 a1 a2 a3 x9_1 x21_5 = some r) ∧ Aside0 (kq ≤ k1) ∧ Drawn0 w wc)
        case first =>
          have H := HC6.out
          clear HC6
          by_cases c7 : x9_1 < (a1.size : Int)
          · rw [if_pos c7] at H
            have c7b0 : decide (x9_1 < (a1.size : Int)) = true := decide_eq_true c7
            clear c7
            (first | rw [c7b0] | (simp only [i64_w, i32_w]; rw [c7b0]) | skip)
            replace H := Option.bind_eq_some_iff.mp H
            obtain ⟨t123, A80, H⟩ := H
            replace H : (targumref17_ends.j1 k1 a0 a1 a2 a3 x9_1 (t123 == 0)) = some r := H
            have A8 := Aside0.mk A80
            clear A80
            have H' := Aside0.mk H
            clear H
            go_wp2_with (first | (go_at_call 47; (with_reducible refine (targumref1_Break.calls k1 a0 a1 x9_1 t123 _ A8.out).mono ?_); rintro e w' ⟨rfl, ⟨nd, rfl⟩⟩))
            go_meet
            case rel => exact ⟨_, ((t123 == 0)), (by first | rfl | (simp; done) | (simp [*]; done)), H', ⟨by have := HK1.out; first | omega | exact Nat.le_refl _⟩, by repeat (first | exact Drawn0.refl _ | apply Drawn0.step)⟩
          · rw [if_neg c7] at H
            have c7b0 : decide (x9_1 < (a1.size : Int)) = false := decide_eq_false c7
            clear c7
            (first | rw [c7b0] | (simp only [i64_w, i32_w]; rw [c7b0]) | skip)
            have H' := Aside0.mk H
            clear H
            go_wp2
            go_meet
            case rel => exact ⟨_, (false), (by first | rfl | (simp; done) | (simp [*]; done)), H', ⟨by have := HK1.out; first | omega | exact Nat.le_refl _⟩, by repeat (first | exact Drawn0.refl _ | apply Drawn0.step)⟩
        case rest =>
          clear HC6
          try clear p2
          try clear c5
          try clear c7
          try clear c7b0
          try clear p2
          obtain ⟨kq, x21_5, rfl, HA, HJ5, ⟨mc5, rfl⟩⟩ := hcut
          cases kq with
          | zero => exact absurd HA.out (by simp [targumref17_ends.j1])
          | succ kj5 =>
            have H := HA.out
            clear HA
            simp only [targumref17_ends.j1] at H
            by_cases c9 : x21_5 = true
            · subst c9
              have H1 : (if 0 ≤ x9_1 then (if x9_1 < (a1.size : Int) then (if (bt a1 x9_1) = 35 then (if x9_1 > a2 then ((targumref1_IsBlank.f a1 (wrap64 (x9_1 - 1))).bind fun t124 => (if t124 = true then (targumref17_ends.j2 kj5 a1 a2 x9_1) else (if (bt a1 x9_1) = 58 then ((targumref17_Stop.f kj5 a0 a1 (wrap64 (x9_1 + 1)) a3).bind fun t125 => (if t125 = true then (targumref17_ends.j2 kj5 a1 a2 x9_1) else (if a3 = true then ((targumref17_Sign.f (bt a1 x9_1)).bind fun t126 => (if t126 = true then (targumref17_ends.j2 kj5 a1 a2 x9_1) else (targumref17_ends.l0 kj5 a0 a1 a2 a3 (wrap64 (x9_1 + 1))))) else (targumref17_ends.l0 kj5 a0 a1 a2 a3 (wrap64 (x9_1 + 1)))))) else (if a3 = true then ((targumref17_Sign.f (bt a1 x9_1)).bind fun t127 => (if t127 = true then (targumref17_ends.j2 kj5 a1 a2 x9_1) else (targumref17_ends.l0 kj5 a0 a1 a2 a3 (wrap64 (x9_1 + 1))))) else (targumref17_ends.l0 kj5 a0 a1 a2 a3 (wrap64 (x9_1 + 1))))))) else (if (bt a1 x9_1) = 58 then ((targumref17_Stop.f kj5 a0 a1 (wrap64 (x9_1 + 1)) a3).bind fun t128 => (if t128 = true then (targumref17_ends.j2 kj5 a1 a2 x9_1) else (if a3 = true then ((targumref17_Sign.f (bt a1 x9_1)).bind fun t129 => (if t129 = true then (targumref17_ends.j2 kj5 a1 a2 x9_1) else (targumref17_ends.l0 kj5 a0 a1 a2 a3 (wrap64 (x9_1 + 1))))) else (targumref17_ends.l0 kj5 a0 a1 a2 a3 (wrap64 (x9_1 + 1)))))) else (if a3 = true then ((targumref17_Sign.f (bt a1 x9_1)).bind fun t130 => (if t130 = true then (targumref17_ends.j2 kj5 a1 a2 x9_1) else (targumref17_ends.l0 kj5 a0 a1 a2 a3 (wrap64 (x9_1 + 1))))) else (targumref17_ends.l0 kj5 a0 a1 a2 a3 (wrap64 (x9_1 + 1)))))) else (if (bt a1 x9_1) = 58 then ((targumref17_Stop.f kj5 a0 a1 (wrap64 (x9_1 + 1)) a3).bind fun t131 => (if t131 = true then (targumref17_ends.j2 kj5 a1 a2 x9_1) else (if a3 = true then ((targumref17_Sign.f (bt a1 x9_1)).bind fun t132 => (if t132 = true then (targumref17_ends.j2 kj5 a1 a2 x9_1) else (targumref17_ends.l0 kj5 a0 a1 a2 a3 (wrap64 (x9_1 + 1))))) else (targumref17_ends.l0 kj5 a0 a1 a2 a3 (wrap64 (x9_1 + 1)))))) else (if a3 = true then ((targumref17_Sign.f (bt a1 x9_1)).bind fun t133 => (if t133 = true then (targumref17_ends.j2 kj5 a1 a2 x9_1) else (targumref17_ends.l0 kj5 a0 a1 a2 a3 (wrap64 (x9_1 + 1))))) else (targumref17_ends.l0 kj5 a0 a1 a2 a3 (wrap64 (x9_1 + 1)))))) else (none)) else (none)) = some r := by rw [if_pos rfl] at H; exact H
              clear H
              have H := H1
              clear H1
              by_cases c10 : 0 ≤ x9_1
              · rw [if_pos c10] at H
                have c10b0 : decide (0 ≤ x9_1) = true := decide_eq_true c10
                clear c10
                by_cases c11 : x9_1 < (a1.size : Int)
                · rw [if_pos c11] at H
                  have c11b0 : decide (x9_1 < (a1.size : Int)) = true := decide_eq_true c11
                  clear c11
                  by_cases c13 : (bt a1 x9_1) = 35
                  · rw [if_pos c13] at H
                    have c13b0 : ((bt a1 x9_1) == 35) = true := beq_iff_eq.mpr c13
                    have c13b1 : ((bt a1 x9_1) != 35) = false := bne_eq_false_iff_eq.mpr c13
                    clear c13
                    by_cases c14 : x9_1 > a2
                    · rw [if_pos c14] at H
                      have c14b0 : decide (a2 < x9_1) = true := decide_eq_true c14
                      clear c14
                      replace H := Option.bind_eq_some_iff.mp H
                      obtain ⟨t124, A150, H⟩ := H
                      replace H : (if t124 = true then (targumref17_ends.j2 kj5 a1 a2 x9_1) else (if (bt a1 x9_1) = 58 then ((targumref17_Stop.f kj5 a0 a1 (wrap64 (x9_1 + 1)) a3).bind fun t125 => (if t125 = true then (targumref17_ends.j2 kj5 a1 a2 x9_1) else (if a3 = true then ((targumref17_Sign.f (bt a1 x9_1)).bind fun t126 => (if t126 = true then (targumref17_ends.j2 kj5 a1 a2 x9_1) else (targumref17_ends.l0 kj5 a0 a1 a2 a3 (wrap64 (x9_1 + 1))))) else (targumref17_ends.l0 kj5 a0 a1 a2 a3 (wrap64 (x9_1 + 1)))))) else (if a3 = true then ((targumref17_Sign.f (bt a1 x9_1)).bind fun t127 => (if t127 = true then (targumref17_ends.j2 kj5 a1 a2 x9_1) else (targumref17_ends.l0 kj5 a0 a1 a2 a3 (wrap64 (x9_1 + 1))))) else (targumref17_ends.l0 kj5 a0 a1 a2 a3 (wrap64 (x9_1 + 1)))))) = some r := H
                      have A15 := Aside0.mk A150
                      clear A150
                      by_cases c16 : t124 = true
                      · subst c16
                        have H1 : (targumref17_ends.j2 kj5 a1 a2 x9_1) = some r := by rw [if_pos rfl] at H; exact H
                        clear H
                        have H := H1
                        clear H1
                        have H' := Aside0.mk H
                        clear H
                        have p12 : 0 ≤ (x9_1 : Int) := of_decide_eq_true (by first | (with_reducible assumption) | assumption)
                        have q12 : x9_1 < (a1.size : Int) := of_decide_eq_true (by first | (with_reducible assumption) | assumption)
                        have hx12 := bt_at a1 x9_1
                        replace p12 := eq_true p12
                        replace q12 := eq_true q12
                        go_wp2_with (first | (go_at_call 26; (with_reducible refine (targumref1_IsBlank.calls a1 (wrap64 (x9_1 - 1)) true _ A15.out).mono ?_); rintro e w' ⟨rfl, ⟨nd, rfl⟩⟩))
                        go_meet
                        case rel => exact ⟨_, (x9_1), (by first | rfl | (simp; done) | (simp [*]; done)), H', ⟨by have := HK1.out; have := HJ5.out; first | omega | exact Nat.le_refl _⟩, by repeat (first | exact Drawn0.refl _ | apply Drawn0.step)⟩
                      · replace c16 := Bool.eq_false_iff.mpr c16
                        subst c16
                        have H1 : (if (bt a1 x9_1) = 58 then ((targumref17_Stop.f kj5 a0 a1 (wrap64 (x9_1 + 1)) a3).bind fun t125 => (if t125 = true then (targumref17_ends.j2 kj5 a1 a2 x9_1) else (if a3 = true then ((targumref17_Sign.f (bt a1 x9_1)).bind fun t126 => (if t126 = true then (targumref17_ends.j2 kj5 a1 a2 x9_1) else (targumref17_ends.l0 kj5 a0 a1 a2 a3 (wrap64 (x9_1 + 1))))) else (targumref17_ends.l0 kj5 a0 a1 a2 a3 (wrap64 (x9_1 + 1)))))) else (if a3 = true then ((targumref17_Sign.f (bt a1 x9_1)).bind fun t127 => (if t127 = true then (targumref17_ends.j2 kj5 a1 a2 x9_1) else (targumref17_ends.l0 kj5 a0 a1 a2 a3 (wrap64 (x9_1 + 1))))) else (targumref17_ends.l0 kj5 a0 a1 a2 a3 (wrap64 (x9_1 + 1))))) = some r := by rw [if_neg (show ¬ (false = true) by decide)] at H; exact H
                        clear H
                        have H := H1
                        clear H1
                        by_cases c18 : (bt a1 x9_1) = 58
                        · rw [if_pos c18] at H
                          have c18b0 : ((bt a1 x9_1) == 58) = true := beq_iff_eq.mpr c18
                          have c18b1 : ((bt a1 x9_1) != 58) = false := bne_eq_false_iff_eq.mpr c18
                          clear c18
                          replace H := Option.bind_eq_some_iff.mp H
                          obtain ⟨t125, A190, H⟩ := H
                          replace H : (if t125 = true then (targumref17_ends.j2 kj5 a1 a2 x9_1) else (if a3 = true then ((targumref17_Sign.f (bt a1 x9_1)).bind fun t126 => (if t126 = true then (targumref17_ends.j2 kj5 a1 a2 x9_1) else (targumref17_ends.l0 kj5 a0 a1 a2 a3 (wrap64 (x9_1 + 1))))) else (targumref17_ends.l0 kj5 a0 a1 a2 a3 (wrap64 (x9_1 + 1))))) = some r := H
                          have A19 := Aside0.mk A190
                          clear A190
                          by_cases c20 : t125 = true
                          · subst c20
                            have H1 : (targumref17_ends.j2 kj5 a1 a2 x9_1) = some r := by rw [if_pos rfl] at H; exact H
                            clear H
                            have H := H1
                            clear H1
                            have H' := Aside0.mk H
                            clear H
                            have p12 : 0 ≤ (x9_1 : Int) := of_decide_eq_true (by first | (with_reducible assumption) | assumption)
                            have q12 : x9_1 < (a1.size : Int) := of_decide_eq_true (by first | (with_reducible assumption) | assumption)
                            have hx12 := bt_at a1 x9_1
                            replace p12 := eq_true p12
                            replace q12 := eq_true q12
                            go_wp2_with (first | (go_at_call 26; (with_reducible refine (targumref1_IsBlank.calls a1 (wrap64 (x9_1 - 1)) false _ A15.out).mono ?_); rintro e w' ⟨rfl, ⟨nd, rfl⟩⟩; have p17 : 0 ≤ (x9_1 : Int) := of_decide_eq_true (by first | (with_reducible assumption) | assumption); have q17 : x9_1 < (a1.size : Int) := of_decide_eq_true (by first | (with_reducible assumption) | assumption); have hx17 := bt_at a1 x9_1; replace p17 := eq_true p17; replace q17 := eq_true q17) | (go_at_call 51; (with_reducible refine (targumref17_Stop.calls kj5 a0 a1 (wrap64 (x9_1 + 1)) a3 true _ A19.out).mono ?_); rintro e w' ⟨rfl, ⟨nd, rfl⟩⟩))
                            go_meet
                            case rel => exact ⟨_, (x9_1), (by first | rfl | (simp; done) | (simp [*]; done)), H', ⟨by have := HK1.out; have := HJ5.out; first | omega | exact Nat.le_refl _⟩, by repeat (first | exact Drawn0.refl _ | apply Drawn0.step)⟩
                          · replace c20 := Bool.eq_false_iff.mpr c20
                            subst c20
                            have H1 : (if a3 = true then ((targumref17_Sign.f (bt a1 x9_1)).bind fun t126 => (if t126 = true then (targumref17_ends.j2 kj5 a1 a2 x9_1) else (targumref17_ends.l0 kj5 a0 a1 a2 a3 (wrap64 (x9_1 + 1))))) else (targumref17_ends.l0 kj5 a0 a1 a2 a3 (wrap64 (x9_1 + 1)))) = some r := by rw [if_neg (show ¬ (false = true) by decide)] at H; exact H
                            clear H
                            have H := H1
                            clear H1
                            by_cases c21 : a3 = true
                            · subst c21
                              have H1 : ((targumref17_Sign.f (bt a1 x9_1)).bind fun t126 => (if t126 = true then (targumref17_ends.j2 kj5 a1 a2 x9_1) else (targumref17_ends.l0 kj5 a0 a1 a2 true (wrap64 (x9_1 + 1))))) = some r := by rw [if_pos rfl] at H; exact H
                              clear H
                              have H := H1
                              clear H1
                              replace H := Option.bind_eq_some_iff.mp H
                              obtain ⟨t126, A230, H⟩ := H
                              replace H : (if t126 = true then (targumref17_ends.j2 kj5 a1 a2 x9_1) else (targumref17_ends.l0 kj5 a0 a1 a2 true (wrap64 (x9_1 + 1)))) = some r := H
                              have A23 := Aside0.mk A230
                              clear A230
                              by_cases c24 : t126 = true
                              · subst c24
                                have H1 : (targumref17_ends.j2 kj5 a1 a2 x9_1) = some r := by rw [if_pos rfl] at H; exact H
                                clear H
                                have H := H1
                                clear H1
                                have H' := Aside0.mk H
                                clear H
                                have p12 : 0 ≤ (x9_1 : Int) := of_decide_eq_true (by first | (with_reducible assumption) | assumption)
                                have q12 : x9_1 < (a1.size : Int) := of_decide_eq_true (by first | (with_reducible assumption) | assumption)
                                have hx12 := bt_at a1 x9_1
                                replace p12 := eq_true p12
                                replace q12 := eq_true q12
                                go_wp2_with (first | (go_at_call 26; (with_reducible refine (targumref1_IsBlank.calls a1 (wrap64 (x9_1 - 1)) false _ A15.out).mono ?_); rintro e w' ⟨rfl, ⟨nd, rfl⟩⟩; have p17 : 0 ≤ (x9_1 : Int) := of_decide_eq_true (by first | (with_reducible assumption) | assumption); have q17 : x9_1 < (a1.size : Int) := of_decide_eq_true (by first | (with_reducible assumption) | assumption); have hx17 := bt_at a1 x9_1; replace p17 := eq_true p17; replace q17 := eq_true q17) | (go_at_call 51; (with_reducible refine (targumref17_Stop.calls kj5 a0 a1 (wrap64 (x9_1 + 1)) true false _ A19.out).mono ?_); rintro e w' ⟨rfl, ⟨nd, rfl⟩⟩; have p22 : 0 ≤ (x9_1 : Int) := of_decide_eq_true (by first | (with_reducible assumption) | assumption); have q22 : x9_1 < (a1.size : Int) := of_decide_eq_true (by first | (with_reducible assumption) | assumption); have hx22 := bt_at a1 x9_1; replace p22 := eq_true p22; replace q22 := eq_true q22) | (go_at_call 87; (with_reducible refine (targumref17_Sign.calls (bt a1 x9_1) true _ A23.out).mono ?_); rintro e w' ⟨rfl, ⟨nd, rfl⟩⟩))
                                go_meet
                                case rel => exact ⟨_, (x9_1), (by first | rfl | (simp; done) | (simp [*]; done)), H', ⟨by have := HK1.out; have := HJ5.out; first | omega | exact Nat.le_refl _⟩, by repeat (first | exact Drawn0.refl _ | apply Drawn0.step)⟩
                              · replace c24 := Bool.eq_false_iff.mpr c24
                                subst c24
                                have H1 : (targumref17_ends.l0 kj5 a0 a1 a2 true (wrap64 (x9_1 + 1))) = some r := by rw [if_neg (show ¬ (false = true) by decide)] at H; exact H
                                clear H
                                have H := H1
                                clear H1
                                have H' := Aside0.mk H
                                clear H
                                have p12 : 0 ≤ (x9_1 : Int) := of_decide_eq_true (by first | (with_reducible assumption) | assumption)
                                have q12 : x9_1 < (a1.size : Int) := of_decide_eq_true (by first | (with_reducible assumption) | assumption)
                                have hx12 := bt_at a1 x9_1
                                replace p12 := eq_true p12
                                replace q12 := eq_true q12
                                go_wp2_with (first | (go_at_call 26; (with_reducible refine (targumref1_IsBlank.calls a1 (wrap64 (x9_1 - 1)) false _ A15.out).mono ?_); rintro e w' ⟨rfl, ⟨nd, rfl⟩⟩; have p17 : 0 ≤ (x9_1 : Int) := of_decide_eq_true (by first | (with_reducible assumption) | assumption); have q17 : x9_1 < (a1.size : Int) := of_decide_eq_true (by first | (with_reducible assumption) | assumption); have hx17 := bt_at a1 x9_1; replace p17 := eq_true p17; replace q17 := eq_true q17) | (go_at_call 51; (with_reducible refine (targumref17_Stop.calls kj5 a0 a1 (wrap64 (x9_1 + 1)) true false _ A19.out).mono ?_); rintro e w' ⟨rfl, ⟨nd, rfl⟩⟩; have p22 : 0 ≤ (x9_1 : Int) := of_decide_eq_true (by first | (with_reducible assumption) | assumption); have q22 : x9_1 < (a1.size : Int) := of_decide_eq_true (by first | (with_reducible assumption) | assumption); have hx22 := bt_at a1 x9_1; replace p22 := eq_true p22; replace q22 := eq_true q22) | (go_at_call 87; (with_reducible refine (targumref17_Sign.calls (bt a1 x9_1) false _ A23.out).mono ?_); rintro e w' ⟨rfl, ⟨nd, rfl⟩⟩))
                                go_roundg kj5
                                case measure => have := HK1.out; have := HJ5.out; omega
                                case rel => exact ⟨(wrap64 (x9_1 + 1)), (by first | rfl | (simp; done) | (simp [*]; done)), H', ⟨by have := HK1.out; have := HJ5.out; omega⟩, by repeat (first | exact Drawn0.refl _ | apply Drawn0.step)⟩
                            · replace c21 := Bool.eq_false_iff.mpr c21
                              subst c21
                              have H1 : (targumref17_ends.l0 kj5 a0 a1 a2 false (wrap64 (x9_1 + 1))) = some r := by rw [if_neg (show ¬ (false = true) by decide)] at H; exact H
                              clear H
                              have H := H1
                              clear H1
                              have H' := Aside0.mk H
                              clear H
                              have p12 : 0 ≤ (x9_1 : Int) := of_decide_eq_true (by first | (with_reducible assumption) | assumption)
                              have q12 : x9_1 < (a1.size : Int) := of_decide_eq_true (by first | (with_reducible assumption) | assumption)
                              have hx12 := bt_at a1 x9_1
                              replace p12 := eq_true p12
                              replace q12 := eq_true q12
                              go_wp2_with (first | (go_at_call 26; (with_reducible refine (targumref1_IsBlank.calls a1 (wrap64 (x9_1 - 1)) false _ A15.out).mono ?_); rintro e w' ⟨rfl, ⟨nd, rfl⟩⟩; have p17 : 0 ≤ (x9_1 : Int) := of_decide_eq_true (by first | (with_reducible assumption) | assumption); have q17 : x9_1 < (a1.size : Int) := of_decide_eq_true (by first | (with_reducible assumption) | assumption); have hx17 := bt_at a1 x9_1; replace p17 := eq_true p17; replace q17 := eq_true q17) | (go_at_call 51; (with_reducible refine (targumref17_Stop.calls kj5 a0 a1 (wrap64 (x9_1 + 1)) false false _ A19.out).mono ?_); rintro e w' ⟨rfl, ⟨nd, rfl⟩⟩))
                              go_roundg kj5
                              case measure => have := HK1.out; have := HJ5.out; omega
                              case rel => exact ⟨(wrap64 (x9_1 + 1)), (by first | rfl | (simp; done) | (simp [*]; done)), H', ⟨by have := HK1.out; have := HJ5.out; omega⟩, by repeat (first | exact Drawn0.refl _ | apply Drawn0.step)⟩
                        · rw [if_neg c18] at H
                          have c18b0 : ((bt a1 x9_1) == 58) = false := beq_eq_false_iff_ne.mpr c18
                          have c18b1 : ((bt a1 x9_1) != 58) = true := bne_iff_ne.mpr c18
                          by_cases c25 : a3 = true
                          · subst c25
                            have H1 : ((targumref17_Sign.f (bt a1 x9_1)).bind fun t127 => (if t127 = true then (targumref17_ends.j2 kj5 a1 a2 x9_1) else (targumref17_ends.l0 kj5 a0 a1 a2 true (wrap64 (x9_1 + 1))))) = some r := by rw [if_pos rfl] at H; exact H
                            clear H
                            have H := H1
                            clear H1
                            replace H := Option.bind_eq_some_iff.mp H
                            obtain ⟨t127, A270, H⟩ := H
                            replace H : (if t127 = true then (targumref17_ends.j2 kj5 a1 a2 x9_1) else (targumref17_ends.l0 kj5 a0 a1 a2 true (wrap64 (x9_1 + 1)))) = some r := H
                            have A27 := Aside0.mk A270
                            clear A270
                            by_cases c28 : t127 = true
                            · subst c28
                              have H1 : (targumref17_ends.j2 kj5 a1 a2 x9_1) = some r := by rw [if_pos rfl] at H; exact H
                              clear H
                              have H := H1
                              clear H1
                              have H' := Aside0.mk H
                              clear H
                              have p12 : 0 ≤ (x9_1 : Int) := of_decide_eq_true (by first | (with_reducible assumption) | assumption)
                              have q12 : x9_1 < (a1.size : Int) := of_decide_eq_true (by first | (with_reducible assumption) | assumption)
                              have hx12 := bt_at a1 x9_1
                              replace p12 := eq_true p12
                              replace q12 := eq_true q12
                              go_wp2_with (first | (go_at_call 26; (with_reducible refine (targumref1_IsBlank.calls a1 (wrap64 (x9_1 - 1)) false _ A15.out).mono ?_); rintro e w' ⟨rfl, ⟨nd, rfl⟩⟩; have p17 : 0 ≤ (x9_1 : Int) := of_decide_eq_true (by first | (with_reducible assumption) | assumption); have q17 : x9_1 < (a1.size : Int) := of_decide_eq_true (by first | (with_reducible assumption) | assumption); have hx17 := bt_at a1 x9_1; replace p17 := eq_true p17; replace q17 := eq_true q17; have p26 : 0 ≤ (x9_1 : Int) := of_decide_eq_true (by first | (with_reducible assumption) | assumption); have q26 : x9_1 < (a1.size : Int) := of_decide_eq_true (by first | (with_reducible assumption) | assumption); have hx26 := bt_at a1 x9_1; replace p26 := eq_true p26; replace q26 := eq_true q26) | (go_at_call 87; (with_reducible refine (targumref17_Sign.calls (bt a1 x9_1) true _ A27.out).mono ?_); rintro e w' ⟨rfl, ⟨nd, rfl⟩⟩))
                              go_meet
                              case rel => exact ⟨_, (x9_1), (by first | rfl | (simp; done) | (simp [*]; done)), H', ⟨by have := HK1.out; have := HJ5.out; first | omega | exact Nat.le_refl _⟩, by repeat (first | exact Drawn0.refl _ | apply Drawn0.step)⟩
                            · replace c28 := Bool.eq_false_iff.mpr c28
                              subst c28
                              have H1 : (targumref17_ends.l0 kj5 a0 a1 a2 true (wrap64 (x9_1 + 1))) = some r := by rw [if_neg (show ¬ (false = true) by decide)] at H; exact H
                              clear H
                              have H := H1
                              clear H1
                              have H' := Aside0.mk H
                              clear H
                              have p12 : 0 ≤ (x9_1 : Int) := of_decide_eq_true (by first | (with_reducible assumption) | assumption)
                              have q12 : x9_1 < (a1.size : Int) := of_decide_eq_true (by first | (with_reducible assumption) | assumption)
                              have hx12 := bt_at a1 x9_1
                              replace p12 := eq_true p12
                              replace q12 := eq_true q12
                              go_wp2_with (first | (go_at_call 26; (with_reducible refine (targumref1_IsBlank.calls a1 (wrap64 (x9_1 - 1)) false _ A15.out).mono ?_); rintro e w' ⟨rfl, ⟨nd, rfl⟩⟩; have p17 : 0 ≤ (x9_1 : Int) := of_decide_eq_true (by first | (with_reducible assumption) | assumption); have q17 : x9_1 < (a1.size : Int) := of_decide_eq_true (by first | (with_reducible assumption) | assumption); have hx17 := bt_at a1 x9_1; replace p17 := eq_true p17; replace q17 := eq_true q17; have p26 : 0 ≤ (x9_1 : Int) := of_decide_eq_true (by first | (with_reducible assumption) | assumption); have q26 : x9_1 < (a1.size : Int) := of_decide_eq_true (by first | (with_reducible assumption) | assumption); have hx26 := bt_at a1 x9_1; replace p26 := eq_true p26; replace q26 := eq_true q26) | (go_at_call 87; (with_reducible refine (targumref17_Sign.calls (bt a1 x9_1) false _ A27.out).mono ?_); rintro e w' ⟨rfl, ⟨nd, rfl⟩⟩))
                              go_roundg kj5
                              case measure => have := HK1.out; have := HJ5.out; omega
                              case rel => exact ⟨(wrap64 (x9_1 + 1)), (by first | rfl | (simp; done) | (simp [*]; done)), H', ⟨by have := HK1.out; have := HJ5.out; omega⟩, by repeat (first | exact Drawn0.refl _ | apply Drawn0.step)⟩
                          · replace c25 := Bool.eq_false_iff.mpr c25
                            subst c25
                            have H1 : (targumref17_ends.l0 kj5 a0 a1 a2 false (wrap64 (x9_1 + 1))) = some r := by rw [if_neg (show ¬ (false = true) by decide)] at H; exact H
                            clear H
                            have H := H1
                            clear H1
                            have H' := Aside0.mk H
                            clear H
                            have p12 : 0 ≤ (x9_1 : Int) := of_decide_eq_true (by first | (with_reducible assumption) | assumption)
                            have q12 : x9_1 < (a1.size : Int) := of_decide_eq_true (by first | (with_reducible assumption) | assumption)
                            have hx12 := bt_at a1 x9_1
                            replace p12 := eq_true p12
                            replace q12 := eq_true q12
                            go_wp2_with (first | (go_at_call 26; (with_reducible refine (targumref1_IsBlank.calls a1 (wrap64 (x9_1 - 1)) false _ A15.out).mono ?_); rintro e w' ⟨rfl, ⟨nd, rfl⟩⟩; have p17 : 0 ≤ (x9_1 : Int) := of_decide_eq_true (by first | (with_reducible assumption) | assumption); have q17 : x9_1 < (a1.size : Int) := of_decide_eq_true (by first | (with_reducible assumption) | assumption); have hx17 := bt_at a1 x9_1; replace p17 := eq_true p17; replace q17 := eq_true q17))
                            go_roundg kj5
                            case measure => have := HK1.out; have := HJ5.out; omega
                            case rel => exact ⟨(wrap64 (x9_1 + 1)), (by first | rfl | (simp; done) | (simp [*]; done)), H', ⟨by have := HK1.out; have := HJ5.out; omega⟩, by repeat (first | exact Drawn0.refl _ | apply Drawn0.step)⟩
                    · rw [if_neg c14] at H
                      have c14b0 : decide (a2 < x9_1) = false := decide_eq_false c14
                      clear c14
                      by_cases c30 : (bt a1 x9_1) = 58
                      · rw [if_pos c30] at H
                        have c30b0 : ((bt a1 x9_1) == 58) = true := beq_iff_eq.mpr c30
                        have c30b1 : ((bt a1 x9_1) != 58) = false := bne_eq_false_iff_eq.mpr c30
                        clear c30
                        replace H := Option.bind_eq_some_iff.mp H
                        obtain ⟨t128, A310, H⟩ := H
                        replace H : (if t128 = true then (targumref17_ends.j2 kj5 a1 a2 x9_1) else (if a3 = true then ((targumref17_Sign.f (bt a1 x9_1)).bind fun t129 => (if t129 = true then (targumref17_ends.j2 kj5 a1 a2 x9_1) else (targumref17_ends.l0 kj5 a0 a1 a2 a3 (wrap64 (x9_1 + 1))))) else (targumref17_ends.l0 kj5 a0 a1 a2 a3 (wrap64 (x9_1 + 1))))) = some r := H
                        have A31 := Aside0.mk A310
                        clear A310
                        by_cases c32 : t128 = true
                        · subst c32
                          have H1 : (targumref17_ends.j2 kj5 a1 a2 x9_1) = some r := by rw [if_pos rfl] at H; exact H
                          clear H
                          have H := H1
                          clear H1
                          have H' := Aside0.mk H
                          clear H
                          have p12 : 0 ≤ (x9_1 : Int) := of_decide_eq_true (by first | (with_reducible assumption) | assumption)
                          have q12 : x9_1 < (a1.size : Int) := of_decide_eq_true (by first | (with_reducible assumption) | assumption)
                          have hx12 := bt_at a1 x9_1
                          replace p12 := eq_true p12
                          replace q12 := eq_true q12
                          have p29 : 0 ≤ (x9_1 : Int) := of_decide_eq_true (by first | (with_reducible assumption) | assumption)
                          have q29 : x9_1 < (a1.size : Int) := of_decide_eq_true (by first | (with_reducible assumption) | assumption)
                          have hx29 := bt_at a1 x9_1
                          replace p29 := eq_true p29
                          replace q29 := eq_true q29
                          go_wp2_with (first | (go_at_call 51; (with_reducible refine (targumref17_Stop.calls kj5 a0 a1 (wrap64 (x9_1 + 1)) a3 true _ A31.out).mono ?_); rintro e w' ⟨rfl, ⟨nd, rfl⟩⟩))
                          go_meet
                          case rel => exact ⟨_, (x9_1), (by first | rfl | (simp; done) | (simp [*]; done)), H', ⟨by have := HK1.out; have := HJ5.out; first | omega | exact Nat.le_refl _⟩, by repeat (first | exact Drawn0.refl _ | apply Drawn0.step)⟩
                        · replace c32 := Bool.eq_false_iff.mpr c32
                          subst c32
                          have H1 : (if a3 = true then ((targumref17_Sign.f (bt a1 x9_1)).bind fun t129 => (if t129 = true then (targumref17_ends.j2 kj5 a1 a2 x9_1) else (targumref17_ends.l0 kj5 a0 a1 a2 a3 (wrap64 (x9_1 + 1))))) else (targumref17_ends.l0 kj5 a0 a1 a2 a3 (wrap64 (x9_1 + 1)))) = some r := by rw [if_neg (show ¬ (false = true) by decide)] at H; exact H
                          clear H
                          have H := H1
                          clear H1
                          by_cases c33 : a3 = true
                          · subst c33
                            have H1 : ((targumref17_Sign.f (bt a1 x9_1)).bind fun t129 => (if t129 = true then (targumref17_ends.j2 kj5 a1 a2 x9_1) else (targumref17_ends.l0 kj5 a0 a1 a2 true (wrap64 (x9_1 + 1))))) = some r := by rw [if_pos rfl] at H; exact H
                            clear H
                            have H := H1
                            clear H1
                            replace H := Option.bind_eq_some_iff.mp H
                            obtain ⟨t129, A350, H⟩ := H
                            replace H : (if t129 = true then (targumref17_ends.j2 kj5 a1 a2 x9_1) else (targumref17_ends.l0 kj5 a0 a1 a2 true (wrap64 (x9_1 + 1)))) = some r := H
                            have A35 := Aside0.mk A350
                            clear A350
                            by_cases c36 : t129 = true
                            · subst c36
                              have H1 : (targumref17_ends.j2 kj5 a1 a2 x9_1) = some r := by rw [if_pos rfl] at H; exact H
                              clear H
                              have H := H1
                              clear H1
                              have H' := Aside0.mk H
                              clear H
                              have p12 : 0 ≤ (x9_1 : Int) := of_decide_eq_true (by first | (with_reducible assumption) | assumption)
                              have q12 : x9_1 < (a1.size : Int) := of_decide_eq_true (by first | (with_reducible assumption) | assumption)
                              have hx12 := bt_at a1 x9_1
                              replace p12 := eq_true p12
                              replace q12 := eq_true q12
                              have p29 : 0 ≤ (x9_1 : Int) := of_decide_eq_true (by first | (with_reducible assumption) | assumption)
                              have q29 : x9_1 < (a1.size : Int) := of_decide_eq_true (by first | (with_reducible assumption) | assumption)
                              have hx29 := bt_at a1 x9_1
                              replace p29 := eq_true p29
                              replace q29 := eq_true q29
                              go_wp2_with (first | (go_at_call 51; (with_reducible refine (targumref17_Stop.calls kj5 a0 a1 (wrap64 (x9_1 + 1)) true false _ A31.out).mono ?_); rintro e w' ⟨rfl, ⟨nd, rfl⟩⟩; have p34 : 0 ≤ (x9_1 : Int) := of_decide_eq_true (by first | (with_reducible assumption) | assumption); have q34 : x9_1 < (a1.size : Int) := of_decide_eq_true (by first | (with_reducible assumption) | assumption); have hx34 := bt_at a1 x9_1; replace p34 := eq_true p34; replace q34 := eq_true q34) | (go_at_call 87; (with_reducible refine (targumref17_Sign.calls (bt a1 x9_1) true _ A35.out).mono ?_); rintro e w' ⟨rfl, ⟨nd, rfl⟩⟩))
                              go_meet
                              case rel => exact ⟨_, (x9_1), (by first | rfl | (simp; done) | (simp [*]; done)), H', ⟨by have := HK1.out; have := HJ5.out; first | omega | exact Nat.le_refl _⟩, by repeat (first | exact Drawn0.refl _ | apply Drawn0.step)⟩
                            · replace c36 := Bool.eq_false_iff.mpr c36
                              subst c36
                              have H1 : (targumref17_ends.l0 kj5 a0 a1 a2 true (wrap64 (x9_1 + 1))) = some r := by rw [if_neg (show ¬ (false = true) by decide)] at H; exact H
                              clear H
                              have H := H1
                              clear H1
                              have H' := Aside0.mk H
                              clear H
                              have p12 : 0 ≤ (x9_1 : Int) := of_decide_eq_true (by first | (with_reducible assumption) | assumption)
                              have q12 : x9_1 < (a1.size : Int) := of_decide_eq_true (by first | (with_reducible assumption) | assumption)
                              have hx12 := bt_at a1 x9_1
                              replace p12 := eq_true p12
                              replace q12 := eq_true q12
                              have p29 : 0 ≤ (x9_1 : Int) := of_decide_eq_true (by first | (with_reducible assumption) | assumption)
                              have q29 : x9_1 < (a1.size : Int) := of_decide_eq_true (by first | (with_reducible assumption) | assumption)
                              have hx29 := bt_at a1 x9_1
                              replace p29 := eq_true p29
                              replace q29 := eq_true q29
                              go_wp2_with (first | (go_at_call 51; (with_reducible refine (targumref17_Stop.calls kj5 a0 a1 (wrap64 (x9_1 + 1)) true false _ A31.out).mono ?_); rintro e w' ⟨rfl, ⟨nd, rfl⟩⟩; have p34 : 0 ≤ (x9_1 : Int) := of_decide_eq_true (by first | (with_reducible assumption) | assumption); have q34 : x9_1 < (a1.size : Int) := of_decide_eq_true (by first | (with_reducible assumption) | assumption); have hx34 := bt_at a1 x9_1; replace p34 := eq_true p34; replace q34 := eq_true q34) | (go_at_call 87; (with_reducible refine (targumref17_Sign.calls (bt a1 x9_1) false _ A35.out).mono ?_); rintro e w' ⟨rfl, ⟨nd, rfl⟩⟩))
                              go_roundg kj5
                              case measure => have := HK1.out; have := HJ5.out; omega
                              case rel => exact ⟨(wrap64 (x9_1 + 1)), (by first | rfl | (simp; done) | (simp [*]; done)), H', ⟨by have := HK1.out; have := HJ5.out; omega⟩, by repeat (first | exact Drawn0.refl _ | apply Drawn0.step)⟩
                          · replace c33 := Bool.eq_false_iff.mpr c33
                            subst c33
                            have H1 : (targumref17_ends.l0 kj5 a0 a1 a2 false (wrap64 (x9_1 + 1))) = some r := by rw [if_neg (show ¬ (false = true) by decide)] at H; exact H
                            clear H
                            have H := H1
                            clear H1
                            have H' := Aside0.mk H
                            clear H
                            have p12 : 0 ≤ (x9_1 : Int) := of_decide_eq_true (by first | (with_reducible assumption) | assumption)
                            have q12 : x9_1 < (a1.size : Int) := of_decide_eq_true (by first | (with_reducible assumption) | assumption)
                            have hx12 := bt_at a1 x9_1
                            replace p12 := eq_true p12
                            replace q12 := eq_true q12
                            have p29 : 0 ≤ (x9_1 : Int) := of_decide_eq_true (by first | (with_reducible assumption) | assumption)
                            have q29 : x9_1 < (a1.size : Int) := of_decide_eq_true (by first | (with_reducible assumption) | assumption)
                            have hx29 := bt_at a1 x9_1
                            replace p29 := eq_true p29
                            replace q29 := eq_true q29
                            go_wp2_with (first | (go_at_call 51; (with_reducible refine (targumref17_Stop.calls kj5 a0 a1 (wrap64 (x9_1 + 1)) false false _ A31.out).mono ?_); rintro e w' ⟨rfl, ⟨nd, rfl⟩⟩))
                            go_roundg kj5
                            case measure => have := HK1.out; have := HJ5.out; omega
                            case rel => exact ⟨(wrap64 (x9_1 + 1)), (by first | rfl | (simp; done) | (simp [*]; done)), H', ⟨by have := HK1.out; have := HJ5.out; omega⟩, by repeat (first | exact Drawn0.refl _ | apply Drawn0.step)⟩
                      · rw [if_neg c30] at H
                        have c30b0 : ((bt a1 x9_1) == 58) = false := beq_eq_false_iff_ne.mpr c30
                        have c30b1 : ((bt a1 x9_1) != 58) = true := bne_iff_ne.mpr c30
                        by_cases c37 : a3 = true
                        · subst c37
                          have H1 : ((targumref17_Sign.f (bt a1 x9_1)).bind fun t130 => (if t130 = true then (targumref17_ends.j2 kj5 a1 a2 x9_1) else (targumref17_ends.l0 kj5 a0 a1 a2 true (wrap64 (x9_1 + 1))))) = some r := by rw [if_pos rfl] at H; exact H
                          clear H
                          have H := H1
                          clear H1
                          replace H := Option.bind_eq_some_iff.mp H
                          obtain ⟨t130, A390, H⟩ := H
                          replace H : (if t130 = true then (targumref17_ends.j2 kj5 a1 a2 x9_1) else (targumref17_ends.l0 kj5 a0 a1 a2 true (wrap64 (x9_1 + 1)))) = some r := H
                          have A39 := Aside0.mk A390
                          clear A390
                          by_cases c40 : t130 = true
                          · subst c40
                            have H1 : (targumref17_ends.j2 kj5 a1 a2 x9_1) = some r := by rw [if_pos rfl] at H; exact H
                            clear H
                            have H := H1
                            clear H1
                            have H' := Aside0.mk H
                            clear H
                            have p12 : 0 ≤ (x9_1 : Int) := of_decide_eq_true (by first | (with_reducible assumption) | assumption)
                            have q12 : x9_1 < (a1.size : Int) := of_decide_eq_true (by first | (with_reducible assumption) | assumption)
                            have hx12 := bt_at a1 x9_1
                            replace p12 := eq_true p12
                            replace q12 := eq_true q12
                            have p29 : 0 ≤ (x9_1 : Int) := of_decide_eq_true (by first | (with_reducible assumption) | assumption)
                            have q29 : x9_1 < (a1.size : Int) := of_decide_eq_true (by first | (with_reducible assumption) | assumption)
                            have hx29 := bt_at a1 x9_1
                            replace p29 := eq_true p29
                            replace q29 := eq_true q29
                            have p38 : 0 ≤ (x9_1 : Int) := of_decide_eq_true (by first | (with_reducible assumption) | assumption)
                            have q38 : x9_1 < (a1.size : Int) := of_decide_eq_true (by first | (with_reducible assumption) | assumption)
                            have hx38 := bt_at a1 x9_1
                            replace p38 := eq_true p38
                            replace q38 := eq_true q38
                            go_wp2_with (first | (go_at_call 87; (with_reducible refine (targumref17_Sign.calls (bt a1 x9_1) true _ A39.out).mono ?_); rintro e w' ⟨rfl, ⟨nd, rfl⟩⟩))
                            go_meet
                            case rel => exact ⟨_, (x9_1), (by first | rfl | (simp; done) | (simp [*]; done)), H', ⟨by have := HK1.out; have := HJ5.out; first | omega | exact Nat.le_refl _⟩, by repeat (first | exact Drawn0.refl _ | apply Drawn0.step)⟩
                          · replace c40 := Bool.eq_false_iff.mpr c40
                            subst c40
                            have H1 : (targumref17_ends.l0 kj5 a0 a1 a2 true (wrap64 (x9_1 + 1))) = some r := by rw [if_neg (show ¬ (false = true) by decide)] at H; exact H
                            clear H
                            have H := H1
                            clear H1
                            have H' := Aside0.mk H
                            clear H
                            have p12 : 0 ≤ (x9_1 : Int) := of_decide_eq_true (by first | (with_reducible assumption) | assumption)
                            have q12 : x9_1 < (a1.size : Int) := of_decide_eq_true (by first | (with_reducible assumption) | assumption)
                            have hx12 := bt_at a1 x9_1
                            replace p12 := eq_true p12
                            replace q12 := eq_true q12
                            have p29 : 0 ≤ (x9_1 : Int) := of_decide_eq_true (by first | (with_reducible assumption) | assumption)
                            have q29 : x9_1 < (a1.size : Int) := of_decide_eq_true (by first | (with_reducible assumption) | assumption)
                            have hx29 := bt_at a1 x9_1
                            replace p29 := eq_true p29
                            replace q29 := eq_true q29
                            have p38 : 0 ≤ (x9_1 : Int) := of_decide_eq_true (by first | (with_reducible assumption) | assumption)
                            have q38 : x9_1 < (a1.size : Int) := of_decide_eq_true (by first | (with_reducible assumption) | assumption)
                            have hx38 := bt_at a1 x9_1
                            replace p38 := eq_true p38
                            replace q38 := eq_true q38
                            go_wp2_with (first | (go_at_call 87; (with_reducible refine (targumref17_Sign.calls (bt a1 x9_1) false _ A39.out).mono ?_); rintro e w' ⟨rfl, ⟨nd, rfl⟩⟩))
                            go_roundg kj5
                            case measure => have := HK1.out; have := HJ5.out; omega
                            case rel => exact ⟨(wrap64 (x9_1 + 1)), (by first | rfl | (simp; done) | (simp [*]; done)), H', ⟨by have := HK1.out; have := HJ5.out; omega⟩, by repeat (first | exact Drawn0.refl _ | apply Drawn0.step)⟩
                        · replace c37 := Bool.eq_false_iff.mpr c37
                          subst c37
                          have H1 : (targumref17_ends.l0 kj5 a0 a1 a2 false (wrap64 (x9_1 + 1))) = some r := by rw [if_neg (show ¬ (false = true) by decide)] at H; exact H
                          clear H
                          have H := H1
                          clear H1
                          have H' := Aside0.mk H
                          clear H
                          have p12 : 0 ≤ (x9_1 : Int) := of_decide_eq_true (by first | (with_reducible assumption) | assumption)
                          have q12 : x9_1 < (a1.size : Int) := of_decide_eq_true (by first | (with_reducible assumption) | assumption)
                          have hx12 := bt_at a1 x9_1
                          replace p12 := eq_true p12
                          replace q12 := eq_true q12
                          have p29 : 0 ≤ (x9_1 : Int) := of_decide_eq_true (by first | (with_reducible assumption) | assumption)
                          have q29 : x9_1 < (a1.size : Int) := of_decide_eq_true (by first | (with_reducible assumption) | assumption)
                          have hx29 := bt_at a1 x9_1
                          replace p29 := eq_true p29
                          replace q29 := eq_true q29
                          go_wp2
                          go_roundg kj5
                          case measure => have := HK1.out; have := HJ5.out; omega
                          case rel => exact ⟨(wrap64 (x9_1 + 1)), (by first | rfl | (simp; done) | (simp [*]; done)), H', ⟨by have := HK1.out; have := HJ5.out; omega⟩, by repeat (first | exact Drawn0.refl _ | apply Drawn0.step)⟩
                  · rw [if_neg c13] at H
                    have c13b0 : ((bt a1 x9_1) == 35) = false := beq_eq_false_iff_ne.mpr c13
                    have c13b1 : ((bt a1 x9_1) != 35) = true := bne_iff_ne.mpr c13
                    by_cases c42 : (bt a1 x9_1) = 58
                    · rw [if_pos c42] at H
                      have c42b0 : ((bt a1 x9_1) == 58) = true := beq_iff_eq.mpr c42
                      have c42b1 : ((bt a1 x9_1) != 58) = false := bne_eq_false_iff_eq.mpr c42
                      clear c42
                      replace H := Option.bind_eq_some_iff.mp H
                      obtain ⟨t131, A430, H⟩ := H
                      replace H : (if t131 = true then (targumref17_ends.j2 kj5 a1 a2 x9_1) else (if a3 = true then ((targumref17_Sign.f (bt a1 x9_1)).bind fun t132 => (if t132 = true then (targumref17_ends.j2 kj5 a1 a2 x9_1) else (targumref17_ends.l0 kj5 a0 a1 a2 a3 (wrap64 (x9_1 + 1))))) else (targumref17_ends.l0 kj5 a0 a1 a2 a3 (wrap64 (x9_1 + 1))))) = some r := H
                      have A43 := Aside0.mk A430
                      clear A430
                      by_cases c44 : t131 = true
                      · subst c44
                        have H1 : (targumref17_ends.j2 kj5 a1 a2 x9_1) = some r := by rw [if_pos rfl] at H; exact H
                        clear H
                        have H := H1
                        clear H1
                        have H' := Aside0.mk H
                        clear H
                        have p12 : 0 ≤ (x9_1 : Int) := of_decide_eq_true (by first | (with_reducible assumption) | assumption)
                        have q12 : x9_1 < (a1.size : Int) := of_decide_eq_true (by first | (with_reducible assumption) | assumption)
                        have hx12 := bt_at a1 x9_1
                        replace p12 := eq_true p12
                        replace q12 := eq_true q12
                        have p41 : 0 ≤ (x9_1 : Int) := of_decide_eq_true (by first | (with_reducible assumption) | assumption)
                        have q41 : x9_1 < (a1.size : Int) := of_decide_eq_true (by first | (with_reducible assumption) | assumption)
                        have hx41 := bt_at a1 x9_1
                        replace p41 := eq_true p41
                        replace q41 := eq_true q41
                        go_wp2_with (first | (go_at_call 51; (with_reducible refine (targumref17_Stop.calls kj5 a0 a1 (wrap64 (x9_1 + 1)) a3 true _ A43.out).mono ?_); rintro e w' ⟨rfl, ⟨nd, rfl⟩⟩))
                        go_meet
                        case rel => exact ⟨_, (x9_1), (by first | rfl | (simp; done) | (simp [*]; done)), H', ⟨by have := HK1.out; have := HJ5.out; first | omega | exact Nat.le_refl _⟩, by repeat (first | exact Drawn0.refl _ | apply Drawn0.step)⟩
                      · replace c44 := Bool.eq_false_iff.mpr c44
                        subst c44
                        have H1 : (if a3 = true then ((targumref17_Sign.f (bt a1 x9_1)).bind fun t132 => (if t132 = true then (targumref17_ends.j2 kj5 a1 a2 x9_1) else (targumref17_ends.l0 kj5 a0 a1 a2 a3 (wrap64 (x9_1 + 1))))) else (targumref17_ends.l0 kj5 a0 a1 a2 a3 (wrap64 (x9_1 + 1)))) = some r := by rw [if_neg (show ¬ (false = true) by decide)] at H; exact H
                        clear H
                        have H := H1
                        clear H1
                        by_cases c45 : a3 = true
                        · subst c45
                          have H1 : ((targumref17_Sign.f (bt a1 x9_1)).bind fun t132 => (if t132 = true then (targumref17_ends.j2 kj5 a1 a2 x9_1) else (targumref17_ends.l0 kj5 a0 a1 a2 true (wrap64 (x9_1 + 1))))) = some r := by rw [if_pos rfl] at H; exact H
                          clear H
                          have H := H1
                          clear H1
                          replace H := Option.bind_eq_some_iff.mp H
                          obtain ⟨t132, A470, H⟩ := H
                          replace H : (if t132 = true then (targumref17_ends.j2 kj5 a1 a2 x9_1) else (targumref17_ends.l0 kj5 a0 a1 a2 true (wrap64 (x9_1 + 1)))) = some r := H
                          have A47 := Aside0.mk A470
                          clear A470
                          by_cases c48 : t132 = true
                          · subst c48
                            have H1 : (targumref17_ends.j2 kj5 a1 a2 x9_1) = some r := by rw [if_pos rfl] at H; exact H
                            clear H
                            have H := H1
                            clear H1
                            have H' := Aside0.mk H
                            clear H
                            have p12 : 0 ≤ (x9_1 : Int) := of_decide_eq_true (by first | (with_reducible assumption) | assumption)
                            have q12 : x9_1 < (a1.size : Int) := of_decide_eq_true (by first | (with_reducible assumption) | assumption)
                            have hx12 := bt_at a1 x9_1
                            replace p12 := eq_true p12
                            replace q12 := eq_true q12
                            have p41 : 0 ≤ (x9_1 : Int) := of_decide_eq_true (by first | (with_reducible assumption) | assumption)
                            have q41 : x9_1 < (a1.size : Int) := of_decide_eq_true (by first | (with_reducible assumption) | assumption)
                            have hx41 := bt_at a1 x9_1
                            replace p41 := eq_true p41
                            replace q41 := eq_true q41
                            go_wp2_with (first | (go_at_call 51; (with_reducible refine (targumref17_Stop.calls kj5 a0 a1 (wrap64 (x9_1 + 1)) true false _ A43.out).mono ?_); rintro e w' ⟨rfl, ⟨nd, rfl⟩⟩; have p46 : 0 ≤ (x9_1 : Int) := of_decide_eq_true (by first | (with_reducible assumption) | assumption); have q46 : x9_1 < (a1.size : Int) := of_decide_eq_true (by first | (with_reducible assumption) | assumption); have hx46 := bt_at a1 x9_1; replace p46 := eq_true p46; replace q46 := eq_true q46) | (go_at_call 87; (with_reducible refine (targumref17_Sign.calls (bt a1 x9_1) true _ A47.out).mono ?_); rintro e w' ⟨rfl, ⟨nd, rfl⟩⟩))
                            go_meet
                            case rel => exact ⟨_, (x9_1), (by first | rfl | (simp; done) | (simp [*]; done)), H', ⟨by have := HK1.out; have := HJ5.out; first | omega | exact Nat.le_refl _⟩, by repeat (first | exact Drawn0.refl _ | apply Drawn0.step)⟩
                          · replace c48 := Bool.eq_false_iff.mpr c48
                            subst c48
                            have H1 : (targumref17_ends.l0 kj5 a0 a1 a2 true (wrap64 (x9_1 + 1))) = some r := by rw [if_neg (show ¬ (false = true) by decide)] at H; exact H
                            clear H
                            have H := H1
                            clear H1
                            have H' := Aside0.mk H
                            clear H
                            have p12 : 0 ≤ (x9_1 : Int) := of_decide_eq_true (by first | (with_reducible assumption) | assumption)
                            have q12 : x9_1 < (a1.size : Int) := of_decide_eq_true (by first | (with_reducible assumption) | assumption)
                            have hx12 := bt_at a1 x9_1
                            replace p12 := eq_true p12
                            replace q12 := eq_true q12
                            have p41 : 0 ≤ (x9_1 : Int) := of_decide_eq_true (by first | (with_reducible assumption) | assumption)
                            have q41 : x9_1 < (a1.size : Int) := of_decide_eq_true (by first | (with_reducible assumption) | assumption)
                            have hx41 := bt_at a1 x9_1
                            replace p41 := eq_true p41
                            replace q41 := eq_true q41
                            go_wp2_with (first | (go_at_call 51; (with_reducible refine (targumref17_Stop.calls kj5 a0 a1 (wrap64 (x9_1 + 1)) true false _ A43.out).mono ?_); rintro e w' ⟨rfl, ⟨nd, rfl⟩⟩; have p46 : 0 ≤ (x9_1 : Int) := of_decide_eq_true (by first | (with_reducible assumption) | assumption); have q46 : x9_1 < (a1.size : Int) := of_decide_eq_true (by first | (with_reducible assumption) | assumption); have hx46 := bt_at a1 x9_1; replace p46 := eq_true p46; replace q46 := eq_true q46) | (go_at_call 87; (with_reducible refine (targumref17_Sign.calls (bt a1 x9_1) false _ A47.out).mono ?_); rintro e w' ⟨rfl, ⟨nd, rfl⟩⟩))
                            go_roundg kj5
                            case measure => have := HK1.out; have := HJ5.out; omega
                            case rel => exact ⟨(wrap64 (x9_1 + 1)), (by first | rfl | (simp; done) | (simp [*]; done)), H', ⟨by have := HK1.out; have := HJ5.out; omega⟩, by repeat (first | exact Drawn0.refl _ | apply Drawn0.step)⟩
                        · replace c45 := Bool.eq_false_iff.mpr c45
                          subst c45
                          have H1 : (targumref17_ends.l0 kj5 a0 a1 a2 false (wrap64 (x9_1 + 1))) = some r := by rw [if_neg (show ¬ (false = true) by decide)] at H; exact H
                          clear H
                          have H := H1
                          clear H1
                          have H' := Aside0.mk H
                          clear H
                          have p12 : 0 ≤ (x9_1 : Int) := of_decide_eq_true (by first | (with_reducible assumption) | assumption)
                          have q12 : x9_1 < (a1.size : Int) := of_decide_eq_true (by first | (with_reducible assumption) | assumption)
                          have hx12 := bt_at a1 x9_1
                          replace p12 := eq_true p12
                          replace q12 := eq_true q12
                          have p41 : 0 ≤ (x9_1 : Int) := of_decide_eq_true (by first | (with_reducible assumption) | assumption)
                          have q41 : x9_1 < (a1.size : Int) := of_decide_eq_true (by first | (with_reducible assumption) | assumption)
                          have hx41 := bt_at a1 x9_1
                          replace p41 := eq_true p41
                          replace q41 := eq_true q41
                          go_wp2_with (first | (go_at_call 51; (with_reducible refine (targumref17_Stop.calls kj5 a0 a1 (wrap64 (x9_1 + 1)) false false _ A43.out).mono ?_); rintro e w' ⟨rfl, ⟨nd, rfl⟩⟩))
                          go_roundg kj5
                          case measure => have := HK1.out; have := HJ5.out; omega
                          case rel => exact ⟨(wrap64 (x9_1 + 1)), (by first | rfl | (simp; done) | (simp [*]; done)), H', ⟨by have := HK1.out; have := HJ5.out; omega⟩, by repeat (first | exact Drawn0.refl _ | apply Drawn0.step)⟩
                    · rw [if_neg c42] at H
                      have c42b0 : ((bt a1 x9_1) == 58) = false := beq_eq_false_iff_ne.mpr c42
                      have c42b1 : ((bt a1 x9_1) != 58) = true := bne_iff_ne.mpr c42
                      by_cases c49 : a3 = true
                      · subst c49
                        have H1 : ((targumref17_Sign.f (bt a1 x9_1)).bind fun t133 => (if t133 = true then (targumref17_ends.j2 kj5 a1 a2 x9_1) else (targumref17_ends.l0 kj5 a0 a1 a2 true (wrap64 (x9_1 + 1))))) = some r := by rw [if_pos rfl] at H; exact H
                        clear H
                        have H := H1
                        clear H1
                        replace H := Option.bind_eq_some_iff.mp H
                        obtain ⟨t133, A510, H⟩ := H
                        replace H : (if t133 = true then (targumref17_ends.j2 kj5 a1 a2 x9_1) else (targumref17_ends.l0 kj5 a0 a1 a2 true (wrap64 (x9_1 + 1)))) = some r := H
                        have A51 := Aside0.mk A510
                        clear A510
                        by_cases c52 : t133 = true
                        · subst c52
                          have H1 : (targumref17_ends.j2 kj5 a1 a2 x9_1) = some r := by rw [if_pos rfl] at H; exact H
                          clear H
                          have H := H1
                          clear H1
                          have H' := Aside0.mk H
                          clear H
                          have p12 : 0 ≤ (x9_1 : Int) := of_decide_eq_true (by first | (with_reducible assumption) | assumption)
                          have q12 : x9_1 < (a1.size : Int) := of_decide_eq_true (by first | (with_reducible assumption) | assumption)
                          have hx12 := bt_at a1 x9_1
                          replace p12 := eq_true p12
                          replace q12 := eq_true q12
                          have p41 : 0 ≤ (x9_1 : Int) := of_decide_eq_true (by first | (with_reducible assumption) | assumption)
                          have q41 : x9_1 < (a1.size : Int) := of_decide_eq_true (by first | (with_reducible assumption) | assumption)
                          have hx41 := bt_at a1 x9_1
                          replace p41 := eq_true p41
                          replace q41 := eq_true q41
                          have p50 : 0 ≤ (x9_1 : Int) := of_decide_eq_true (by first | (with_reducible assumption) | assumption)
                          have q50 : x9_1 < (a1.size : Int) := of_decide_eq_true (by first | (with_reducible assumption) | assumption)
                          have hx50 := bt_at a1 x9_1
                          replace p50 := eq_true p50
                          replace q50 := eq_true q50
                          go_wp2_with (first | (go_at_call 87; (with_reducible refine (targumref17_Sign.calls (bt a1 x9_1) true _ A51.out).mono ?_); rintro e w' ⟨rfl, ⟨nd, rfl⟩⟩))
                          go_meet
                          case rel => exact ⟨_, (x9_1), (by first | rfl | (simp; done) | (simp [*]; done)), H', ⟨by have := HK1.out; have := HJ5.out; first | omega | exact Nat.le_refl _⟩, by repeat (first | exact Drawn0.refl _ | apply Drawn0.step)⟩
                        · replace c52 := Bool.eq_false_iff.mpr c52
                          subst c52
                          have H1 : (targumref17_ends.l0 kj5 a0 a1 a2 true (wrap64 (x9_1 + 1))) = some r := by rw [if_neg (show ¬ (false = true) by decide)] at H; exact H
                          clear H
                          have H := H1
                          clear H1
                          have H' := Aside0.mk H
                          clear H
                          have p12 : 0 ≤ (x9_1 : Int) := of_decide_eq_true (by first | (with_reducible assumption) | assumption)
                          have q12 : x9_1 < (a1.size : Int) := of_decide_eq_true (by first | (with_reducible assumption) | assumption)
                          have hx12 := bt_at a1 x9_1
                          replace p12 := eq_true p12
                          replace q12 := eq_true q12
                          have p41 : 0 ≤ (x9_1 : Int) := of_decide_eq_true (by first | (with_reducible assumption) | assumption)
                          have q41 : x9_1 < (a1.size : Int) := of_decide_eq_true (by first | (with_reducible assumption) | assumption)
                          have hx41 := bt_at a1 x9_1
                          replace p41 := eq_true p41
                          replace q41 := eq_true q41
                          have p50 : 0 ≤ (x9_1 : Int) := of_decide_eq_true (by first | (with_reducible assumption) | assumption)
                          have q50 : x9_1 < (a1.size : Int) := of_decide_eq_true (by first | (with_reducible assumption) | assumption)
                          have hx50 := bt_at a1 x9_1
                          replace p50 := eq_true p50
                          replace q50 := eq_true q50
                          go_wp2_with (first | (go_at_call 87; (with_reducible refine (targumref17_Sign.calls (bt a1 x9_1) false _ A51.out).mono ?_); rintro e w' ⟨rfl, ⟨nd, rfl⟩⟩))
                          go_roundg kj5
                          case measure => have := HK1.out; have := HJ5.out; omega
                          case rel => exact ⟨(wrap64 (x9_1 + 1)), (by first | rfl | (simp; done) | (simp [*]; done)), H', ⟨by have := HK1.out; have := HJ5.out; omega⟩, by repeat (first | exact Drawn0.refl _ | apply Drawn0.step)⟩
                      · replace c49 := Bool.eq_false_iff.mpr c49
                        subst c49
                        have H1 : (targumref17_ends.l0 kj5 a0 a1 a2 false (wrap64 (x9_1 + 1))) = some r := by rw [if_neg (show ¬ (false = true) by decide)] at H; exact H
                        clear H
                        have H := H1
                        clear H1
                        have H' := Aside0.mk H
                        clear H
                        have p12 : 0 ≤ (x9_1 : Int) := of_decide_eq_true (by first | (with_reducible assumption) | assumption)
                        have q12 : x9_1 < (a1.size : Int) := of_decide_eq_true (by first | (with_reducible assumption) | assumption)
                        have hx12 := bt_at a1 x9_1
                        replace p12 := eq_true p12
                        replace q12 := eq_true q12
                        have p41 : 0 ≤ (x9_1 : Int) := of_decide_eq_true (by first | (with_reducible assumption) | assumption)
                        have q41 : x9_1 < (a1.size : Int) := of_decide_eq_true (by first | (with_reducible assumption) | assumption)
                        have hx41 := bt_at a1 x9_1
                        replace p41 := eq_true p41
                        replace q41 := eq_true q41
                        go_wp2
                        go_roundg kj5
                        case measure => have := HK1.out; have := HJ5.out; omega
                        case rel => exact ⟨(wrap64 (x9_1 + 1)), (by first | rfl | (simp; done) | (simp [*]; done)), H', ⟨by have := HK1.out; have := HJ5.out; omega⟩, by repeat (first | exact Drawn0.refl _ | apply Drawn0.step)⟩
                · rw [if_neg c11] at H
                  exact absurd H (by simp)
              · rw [if_neg c10] at H
                exact absurd H (by simp)
            · replace c9 := Bool.eq_false_iff.mpr c9
              subst c9
              have H1 : (targumref17_ends.j2 kj5 a1 a2 x9_1) = some r := by rw [if_neg (show ¬ (false = true) by decide)] at H; exact H
              clear H
              have H := H1
              clear H1
              have H' := Aside0.mk H
              clear H
              go_wp2
              go_meet
              case rel => exact ⟨_, (x9_1), (by first | rfl | (simp; done) | (simp [*]; done)), H', ⟨by have := HK1.out; have := HJ5.out; first | omega | exact Nat.le_refl _⟩, by repeat (first | exact Drawn0.refl _ | apply Drawn0.step)⟩
  case rest =>
    clear HC5
    try clear c1
    try clear p1
    try clear q1
    try clear hx1
    try clear c2
    try clear p2
    try clear q2
    try clear hx2
    try clear c3
    try clear p3
    try clear q3
    try clear hx3
    try clear c4
    try clear p4
    try clear q4
    try clear hx4
    try clear c5
    try clear p5
    try clear q5
    try clear hx5
    try clear p6
    try clear c9
    try clear c10
    try clear c11
    try clear p12
    try clear q12
    try clear hx12
    try clear c13
    try clear c13b0
    try clear c13b1
    try clear c14
    try clear c14b0
    try clear c16
    try clear p17
    try clear q17
    try clear hx17
    try clear c18
    try clear c18b0
    try clear c18b1
    try clear c20
    try clear c21
    try clear p22
    try clear q22
    try clear hx22
    try clear c24
    try clear c25
    try clear p26
    try clear q26
    try clear hx26
    try clear c28
    try clear p29
    try clear q29
    try clear hx29
    try clear c30
    try clear c30b0
    try clear c30b1
    try clear c32
    try clear c33
    try clear p34
    try clear q34
    try clear hx34
    try clear c36
    try clear c37
    try clear p38
    try clear q38
    try clear hx38
    try clear c40
    try clear p41
    try clear q41
    try clear hx41
    try clear c42
    try clear c42b0
    try clear c42b1
    try clear c44
    try clear c45
    try clear p46
    try clear q46
    try clear hx46
    try clear c48
    try clear c49
    try clear p50
    try clear q50
    try clear hx50
    try clear c52
    try clear p12
    try clear p17
    try clear p22
    try clear p26
    try clear p29
    try clear p34
    try clear p38
    try clear p41
    try clear p46
    try clear p50
    try clear q12
    try clear q17
    try clear q22
    try clear q26
    try clear q29
    try clear q34
    try clear q38
    try clear q41
    try clear q46
    try clear q50
    obtain ⟨kq, x9_4, rfl, HA, HJ4, ⟨mc4, rfl⟩⟩ := hcut
    cases kq with
    | zero => exact absurd HA.out (by simp [targumref17_ends.j2])
    | succ kj4 =>
      have H := HA.out
      clear HA
      simp only [targumref17_ends.j2] at H
      have H' := Aside0.mk H
      clear H
      go_wp2
      go_loopg [9] kj4 (fun kq v9 w' => ∃ (x9_2 : Int), v9 = .int .i64 x9_2 ∧ Aside0 (targumref17_ends.l1 kq a1 a2 x9_2 = some r) ∧ Aside0 (kq ≤ kj4) ∧ Drawn0 w w')
      case atStart => exact ⟨(x9_4), (by first | rfl | (simp; done) | (simp [*]; done)), H', ⟨Nat.le_refl _⟩, by repeat (first | exact Drawn0.refl _ | apply Drawn0.step)⟩
      case round =>
        clear H'
        try clear c1
        try clear p1
        try clear q1
        try clear hx1
        try clear c2
        try clear p2
        try clear q2
        try clear hx2
        try clear c3
        try clear p3
        try clear q3
        try clear hx3
        try clear c4
        try clear p4
        try clear q4
        try clear hx4
        try clear c5
        try clear p5
        try clear q5
        try clear hx5
        try clear p6
        try clear c9
        try clear c10
        try clear c11
        try clear p12
        try clear q12
        try clear hx12
        try clear c13
        try clear c13b0
        try clear c13b1
        try clear c14
        try clear c14b0
        try clear c16
        try clear p17
        try clear q17
        try clear hx17
        try clear c18
        try clear c18b0
        try clear c18b1
        try clear c20
        try clear c21
        try clear p22
        try clear q22
        try clear hx22
        try clear c24
        try clear c25
        try clear p26
        try clear q26
        try clear hx26
        try clear c28
        try clear p29
        try clear q29
        try clear hx29
        try clear c30
        try clear c30b0
        try clear c30b1
        try clear c32
        try clear c33
        try clear p34
        try clear q34
        try clear hx34
        try clear c36
        try clear c37
        try clear p38
        try clear q38
        try clear hx38
        try clear c40
        try clear p41
        try clear q41
        try clear hx41
        try clear c42
        try clear c42b0
        try clear c42b1
        try clear c44
        try clear c45
        try clear p46
        try clear q46
        try clear hx46
        try clear c48
        try clear c49
        try clear p50
        try clear q50
        try clear hx50
        try clear c52
        try clear p1
        try clear p12
        try clear p17
        try clear p2
        try clear p22
        try clear p26
        try clear p29
        try clear p3
        try clear p34
        try clear p38
        try clear p4
        try clear p41
        try clear p46
        try clear p5
        try clear p50
        try clear p6
        try clear q1
        try clear q12
        try clear q17
        try clear q2
        try clear q22
        try clear q26
        try clear q29
        try clear q3
        try clear q34
        try clear q38
        try clear q4
        try clear q41
        try clear q46
        try clear q5
        try clear q50
        obtain ⟨x9_2, rfl, HA, HK2, ⟨m2, rfl⟩⟩ := hrel
        cases gk with
        | zero => exact absurd HA.out (by simp [targumref17_ends.l1])
        | succ k2 =>
          have H := HA.out
          clear HA
          simp only [targumref17_ends.l1] at H
          by_cases c53 : x9_2 > a2
          · rw [if_pos c53] at H
            have c53b0 : decide (a2 < x9_2) = true := decide_eq_true c53
            clear c53
            replace H := Option.bind_eq_some_iff.mp H
            obtain ⟨t134, A540, H⟩ := H
            replace H : (if t134 = true then (targumref17_ends.l1 k2 a1 a2 (wrap64 (x9_2 - 1))) else (some x9_2)) = some r := H
            have A54 := Aside0.mk A540
            clear A540
            by_cases c55 : t134 = true
            · subst c55
              have H1 : (targumref17_ends.l1 k2 a1 a2 (wrap64 (x9_2 - 1))) = some r := by rw [if_pos rfl] at H; exact H
              clear H
              have H := H1
              clear H1
              have H' := Aside0.mk H
              clear H
              go_wp2_with (first | (go_at_call 26; (with_reducible refine (targumref1_IsBlank.calls a1 (wrap64 (x9_2 - 1)) true _ A54.out).mono ?_); rintro e w' ⟨rfl, ⟨nd, rfl⟩⟩))
              go_roundg k2
              case measure => have := HJ4.out; have := HK2.out; omega
              case rel => exact ⟨(wrap64 (x9_2 - 1)), (by first | rfl | (simp; done) | (simp [*]; done)), H', ⟨by have := HJ4.out; have := HK2.out; omega⟩, by repeat (first | exact Drawn0.refl _ | apply Drawn0.step)⟩
            · replace c55 := Bool.eq_false_iff.mpr c55
              subst c55
              have H1 : (some x9_2) = some r := by rw [if_neg (show ¬ (false = true) by decide)] at H; exact H
              clear H
              have H := H1
              clear H1
              obtain rfl := Option.some.inj H
              go_wp2_with (first | (go_at_call 26; (with_reducible refine (targumref1_IsBlank.calls a1 (wrap64 (x9_2 - 1)) false _ A54.out).mono ?_); rintro e w' ⟨rfl, ⟨nd, rfl⟩⟩))
              go_ret
              exact ⟨by first | rfl | (simp; done) | (simp [*]; done), by repeat (first | exact Drawn0.refl _ | apply Drawn0.step)⟩
          · rw [if_neg c53] at H
            have c53b0 : decide (a2 < x9_2) = false := decide_eq_false c53
            clear c53
            obtain rfl := Option.some.inj H
            go_wp2
            go_ret
            exact ⟨by first | rfl | (simp; done) | (simp [*]; done), by repeat (first | exact Drawn0.refl _ | apply Drawn0.step)⟩

end Go.Proofs.YtmfjdlmhejabiaaDoor.PL
