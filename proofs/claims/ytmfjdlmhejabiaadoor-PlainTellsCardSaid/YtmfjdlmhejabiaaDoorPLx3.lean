-- Written by wip/myprint.py (a program of this session's) over the kit's print.
import Derived.Test.YtmfjdlmhejabiaaDoorPLx0
import Derived.Test.YtmfjdlmhejabiaaDoorPLx2
namespace Go.Proofs.YtmfjdlmhejabiaaDoor.PL
open Go.Proofs.YtmfjdlmhejabiaaDoor.X
open Go.RowKit Go.Proofs.YtmfjdlmhejabiaaDoorW.PrintWords Go.Proofs.YtmfjdlmhejabiaaDoorW.PrintLast Go.Proofs.YtmfjdlmhejabiaaDoorW.PrintMore
attribute [local go_sem] max2_int min2_int max_two min_two max_three min_three max_four min_four   -- for this text's walks alone
set_option linter.unusedVariables false
set_option linter.unusedSimpArgs false

/-! ### targumref1_May: function 75 -/
def targumref1_May.j0 : Nat → Int → Int → Bool → Option (Int)
  | 0, _, _, _ => none
  | k + 1, x5, x6, x13 => if x13 = true then (some x6) else (if x5 ≥ 160 then (if x5 ≤ 65533 then (if x5 = 65279 then (if x5 ≥ 65536 then (some x6) else (some 0)) else (some x6)) else (if x5 ≥ 65536 then (some x6) else (some 0))) else (if x5 ≥ 65536 then (some x6) else (some 0)))
def targumref1_May.f (k : Nat) (a0 : ByteArray) (a1 : Int) : Option (Int) := (targumref1_Next.f k a0 a1).bind fun bt114 => (if bt114.1 = 9 then (targumref1_May.j0 k bt114.1 bt114.2 true) else (if bt114.1 = 10 then (targumref1_May.j0 k bt114.1 bt114.2 true) else (if bt114.1 = 13 then (targumref1_May.j0 k bt114.1 bt114.2 true) else (if bt114.1 ≥ 32 then (if bt114.1 ≤ 126 then (targumref1_May.j0 k bt114.1 bt114.2 true) else (targumref1_May.j0 k bt114.1 bt114.2 (bt114.1 == 133))) else (targumref1_May.j0 k bt114.1 bt114.2 (bt114.1 == 133))))))
theorem targumref1_May.mono_l : ∀ k, (∀ y0 y1 y2, LeO (targumref1_May.j0 k y0 y1 y2) (targumref1_May.j0 (k + 1) y0 y1 y2))
  | 0 => fun _ _ _ r h => by simp [targumref1_May.j0] at h
  | k + 1 => by
    have ih0 := targumref1_May.mono_l k
    · intro y0 y1 y2
      unfold targumref1_May.j0
      repeat' first
      | (with_reducible exact ih0 _ _ _)
      | (with_reducible exact targumref1_Next.mono _ _ _)
      | (with_reducible exact LeO.refl _)
      | (with_reducible exact LeO.none _)
      | (with_reducible refine LeO.ite ?_ ?_)
      | (with_reducible refine LeO.bind ?_ (fun _ => ?_))
      | exact ih0 _ _ _
      | exact targumref1_Next.mono _ _ _
      | exact LeO.none _
      | refine LeO.ite ?_ ?_
      | refine LeO.bind ?_ (fun _ => ?_)
theorem targumref1_May.mono : ∀ a0 a1 k, LeO (targumref1_May.f k a0 a1) (targumref1_May.f (k + 1) a0 a1) := by
  intro a0 a1 k
  have ih0 := targumref1_May.mono_l k
  unfold targumref1_May.f
  repeat' first
      | (with_reducible exact ih0 _ _ _)
      | (with_reducible exact targumref1_Next.mono _ _ _)
      | (with_reducible exact LeO.refl _)
      | (with_reducible exact LeO.none _)
      | (with_reducible refine LeO.ite ?_ ?_)
      | (with_reducible refine LeO.bind ?_ (fun _ => ?_))
      | exact ih0 _ _ _
      | exact targumref1_Next.mono _ _ _
      | exact LeO.none _
      | refine LeO.ite ?_ ?_
      | refine LeO.bind ?_ (fun _ => ?_)
set_option maxHeartbeats 8000000 in
set_option maxRecDepth 100000 in
theorem targumref1_May.calls (k : Nat) (a0 : ByteArray) (a1 : Int) (r : Int) (w : World) (h : targumref1_May.f k a0 a1 = some r) :
    Calls Tryd.prog 75 #[.string a0, .int .i64 a1] w fun e w' => e = .returned (.int .i64 r) ∧ Drawn0 w w' := by
  have H : ((targumref1_Next.f k a0 a1).bind fun bt114 => (if bt114.1 = 9 then (targumref1_May.j0 k bt114.1 bt114.2 true) else (if bt114.1 = 10 then (targumref1_May.j0 k bt114.1 bt114.2 true) else (if bt114.1 = 13 then (targumref1_May.j0 k bt114.1 bt114.2 true) else (if bt114.1 ≥ 32 then (if bt114.1 ≤ 126 then (targumref1_May.j0 k bt114.1 bt114.2 true) else (targumref1_May.j0 k bt114.1 bt114.2 (bt114.1 == 133))) else (targumref1_May.j0 k bt114.1 bt114.2 (bt114.1 == 133))))))) = some r := h
  clear h
  replace H := Option.bind_eq_some_iff.mp H
  obtain ⟨⟨t114, t115⟩, A30, H⟩ := H
  replace H : (if t114 = 9 then (targumref1_May.j0 k t114 t115 true) else (if t114 = 10 then (targumref1_May.j0 k t114 t115 true) else (if t114 = 13 then (targumref1_May.j0 k t114 t115 true) else (if t114 ≥ 32 then (if t114 ≤ 126 then (targumref1_May.j0 k t114 t115 true) else (targumref1_May.j0 k t114 t115 (t114 == 133))) else (targumref1_May.j0 k t114 t115 (t114 == 133)))))) = some r := H
  have A3 := Aside0.mk A30
  clear A30
  have HC4 := Aside0.mk H
  clear H
  go_enter Tryd.func75, Tryd.ntmps75
  go_upto_region 2 with (first | ((with_reducible refine gate_callee (f := 85) rfl ?_); refine goesL_ (some 10) rfl rfl Tryd.func85 (by kernel_rfl) rfl #[.string a0, .int .i64 a1] rfl (by (try simp only [List.map_toArray, List.map_cons, List.map_nil]); first | done | rfl | (simp only [List.length_drop, List.length_take]; rfl)) ?_; (with_reducible refine (targumref1_Next.calls k a0 a1 t114 t115 _ A3.out).mono ?_); rintro e w' ⟨rfl, ⟨nd, rfl⟩⟩; refine ⟨_, rfl, ?_⟩))
  (try simp only [Act.put, List.setIfInBounds_toArray, List.set_cons_zero, List.set_cons_succ])
  go_cut [13] (fun v13 wc => ∃ (kq : Nat) (x13_3 : Bool), v13 = .bool x13_3 ∧ Aside0 (targumref1_May.j0 kq t114 t115 x13_3 = some r) ∧ Aside0 (kq ≤ k) ∧ Drawn0 w wc)
  case first =>
    have H := HC4.out
    clear HC4
    by_cases c5 : t114 = 9
    · rw [if_pos c5] at H
      have c5b0 : (t114 == 9) = true := beq_iff_eq.mpr c5
      have c5b1 : (t114 != 9) = false := bne_eq_false_iff_eq.mpr c5
      clear c5
      (first | rw [c5b0] | (simp only [i64_w, i32_w]; rw [c5b0]) | skip)
      have H' := Aside0.mk H
      clear H
      go_wp2
      go_meet
      case rel => exact ⟨_, (true), (by first | rfl | (simp; done) | (simp [*]; done)), H', ⟨by first | omega | exact Nat.le_refl _⟩, by repeat (first | exact Drawn0.refl _ | apply Drawn0.step)⟩
    · rw [if_neg c5] at H
      have c5b0 : (t114 == 9) = false := beq_eq_false_iff_ne.mpr c5
      have c5b1 : (t114 != 9) = true := bne_iff_ne.mpr c5
      (first | rw [c5b0] | (simp only [i64_w, i32_w]; rw [c5b0]) | skip)
      by_cases c6 : t114 = 10
      · rw [if_pos c6] at H
        have c6b0 : (t114 == 10) = true := beq_iff_eq.mpr c6
        have c6b1 : (t114 != 10) = false := bne_eq_false_iff_eq.mpr c6
        clear c6
        have H' := Aside0.mk H
        clear H
        go_wp2
        go_meet
        case rel => exact ⟨_, (true), (by first | rfl | (simp; done) | (simp [*]; done)), H', ⟨by first | omega | exact Nat.le_refl _⟩, by repeat (first | exact Drawn0.refl _ | apply Drawn0.step)⟩
      · rw [if_neg c6] at H
        have c6b0 : (t114 == 10) = false := beq_eq_false_iff_ne.mpr c6
        have c6b1 : (t114 != 10) = true := bne_iff_ne.mpr c6
        by_cases c7 : t114 = 13
        · rw [if_pos c7] at H
          have c7b0 : (t114 == 13) = true := beq_iff_eq.mpr c7
          have c7b1 : (t114 != 13) = false := bne_eq_false_iff_eq.mpr c7
          clear c7
          have H' := Aside0.mk H
          clear H
          go_wp2
          go_meet
          case rel => exact ⟨_, (true), (by first | rfl | (simp; done) | (simp [*]; done)), H', ⟨by first | omega | exact Nat.le_refl _⟩, by repeat (first | exact Drawn0.refl _ | apply Drawn0.step)⟩
        · rw [if_neg c7] at H
          have c7b0 : (t114 == 13) = false := beq_eq_false_iff_ne.mpr c7
          have c7b1 : (t114 != 13) = true := bne_iff_ne.mpr c7
          by_cases c8 : t114 ≥ 32
          · rw [if_pos c8] at H
            have c8b0 : decide (32 ≤ t114) = true := decide_eq_true c8
            clear c8
            by_cases c9 : t114 ≤ 126
            · rw [if_pos c9] at H
              have c9b0 : decide (t114 ≤ 126) = true := decide_eq_true c9
              clear c9
              have H' := Aside0.mk H
              clear H
              go_wp2
              go_meet
              case rel => exact ⟨_, (true), (by first | rfl | (simp; done) | (simp [*]; done)), H', ⟨by first | omega | exact Nat.le_refl _⟩, by repeat (first | exact Drawn0.refl _ | apply Drawn0.step)⟩
            · rw [if_neg c9] at H
              have c9b0 : decide (t114 ≤ 126) = false := decide_eq_false c9
              clear c9
              have H' := Aside0.mk H
              clear H
              go_wp2
              go_meet
              case rel => exact ⟨_, ((t114 == 133)), (by first | rfl | (simp; done) | (simp [*]; done)), H', ⟨by first | omega | exact Nat.le_refl _⟩, by repeat (first | exact Drawn0.refl _ | apply Drawn0.step)⟩
          · rw [if_neg c8] at H
            have c8b0 : decide (32 ≤ t114) = false := decide_eq_false c8
            clear c8
            have H' := Aside0.mk H
            clear H
            go_wp2
            go_meet
            case rel => exact ⟨_, ((t114 == 133)), (by first | rfl | (simp; done) | (simp [*]; done)), H', ⟨by first | omega | exact Nat.le_refl _⟩, by repeat (first | exact Drawn0.refl _ | apply Drawn0.step)⟩
  case rest =>
    clear HC4
    try clear p2
    try clear c5
    try clear c5b0
    try clear c5b1
    try clear c6
    try clear c6b0
    try clear c6b1
    try clear c7
    try clear c7b0
    try clear c7b1
    try clear c8
    try clear c8b0
    try clear c9
    try clear c9b0
    obtain ⟨kq, x13_3, rfl, HA, HJ3, ⟨mc3, rfl⟩⟩ := hcut
    cases kq with
    | zero => exact absurd HA.out (by simp [targumref1_May.j0])
    | succ kj3 =>
      have H := HA.out
      clear HA
      simp only [targumref1_May.j0] at H
      by_cases c10 : x13_3 = true
      · subst c10
        have H1 : (some t115) = some r := by rw [if_pos rfl] at H; exact H
        clear H
        have H := H1
        clear H1
        obtain rfl := Option.some.inj H
        go_wp2
        go_ret
        exact ⟨by first | rfl | (simp; done) | (simp [*]; done), by repeat (first | exact Drawn0.refl _ | apply Drawn0.step)⟩
      · replace c10 := Bool.eq_false_iff.mpr c10
        subst c10
        have H1 : (if t114 ≥ 160 then (if t114 ≤ 65533 then (if t114 = 65279 then (if t114 ≥ 65536 then (some t115) else (some 0)) else (some t115)) else (if t114 ≥ 65536 then (some t115) else (some 0))) else (if t114 ≥ 65536 then (some t115) else (some 0))) = some r := by rw [if_neg (show ¬ (false = true) by decide)] at H; exact H
        clear H
        have H := H1
        clear H1
        by_cases c11 : t114 ≥ 160
        · rw [if_pos c11] at H
          have c11b0 : decide (160 ≤ t114) = true := decide_eq_true c11
          clear c11
          by_cases c12 : t114 ≤ 65533
          · rw [if_pos c12] at H
            have c12b0 : decide (t114 ≤ 65533) = true := decide_eq_true c12
            clear c12
            by_cases c13 : t114 = 65279
            · rw [if_pos c13] at H
              have c13b0 : (t114 == 65279) = true := beq_iff_eq.mpr c13
              have c13b1 : (t114 != 65279) = false := bne_eq_false_iff_eq.mpr c13
              clear c13
              by_cases c14 : t114 ≥ 65536
              · rw [if_pos c14] at H
                have c14b0 : decide (65536 ≤ t114) = true := decide_eq_true c14
                clear c14
                obtain rfl := Option.some.inj H
                go_wp2
                go_ret
                exact ⟨by first | rfl | (simp; done) | (simp [*]; done), by repeat (first | exact Drawn0.refl _ | apply Drawn0.step)⟩
              · rw [if_neg c14] at H
                have c14b0 : decide (65536 ≤ t114) = false := decide_eq_false c14
                clear c14
                obtain rfl := Option.some.inj H
                go_wp2
                go_ret
                exact ⟨by first | rfl | (simp; done) | (simp [*]; done), by repeat (first | exact Drawn0.refl _ | apply Drawn0.step)⟩
            · rw [if_neg c13] at H
              have c13b0 : (t114 == 65279) = false := beq_eq_false_iff_ne.mpr c13
              have c13b1 : (t114 != 65279) = true := bne_iff_ne.mpr c13
              obtain rfl := Option.some.inj H
              go_wp2
              go_ret
              exact ⟨by first | rfl | (simp; done) | (simp [*]; done), by repeat (first | exact Drawn0.refl _ | apply Drawn0.step)⟩
          · rw [if_neg c12] at H
            have c12b0 : decide (t114 ≤ 65533) = false := decide_eq_false c12
            clear c12
            by_cases c15 : t114 ≥ 65536
            · rw [if_pos c15] at H
              have c15b0 : decide (65536 ≤ t114) = true := decide_eq_true c15
              clear c15
              obtain rfl := Option.some.inj H
              go_wp2
              go_ret
              exact ⟨by first | rfl | (simp; done) | (simp [*]; done), by repeat (first | exact Drawn0.refl _ | apply Drawn0.step)⟩
            · rw [if_neg c15] at H
              have c15b0 : decide (65536 ≤ t114) = false := decide_eq_false c15
              clear c15
              obtain rfl := Option.some.inj H
              go_wp2
              go_ret
              exact ⟨by first | rfl | (simp; done) | (simp [*]; done), by repeat (first | exact Drawn0.refl _ | apply Drawn0.step)⟩
        · rw [if_neg c11] at H
          have c11b0 : decide (160 ≤ t114) = false := decide_eq_false c11
          clear c11
          by_cases c16 : t114 ≥ 65536
          · rw [if_pos c16] at H
            have c16b0 : decide (65536 ≤ t114) = true := decide_eq_true c16
            clear c16
            obtain rfl := Option.some.inj H
            go_wp2
            go_ret
            exact ⟨by first | rfl | (simp; done) | (simp [*]; done), by repeat (first | exact Drawn0.refl _ | apply Drawn0.step)⟩
          · rw [if_neg c16] at H
            have c16b0 : decide (65536 ≤ t114) = false := decide_eq_false c16
            clear c16
            obtain rfl := Option.some.inj H
            go_wp2
            go_ret
            exact ⟨by first | rfl | (simp; done) | (simp [*]; done), by repeat (first | exact Drawn0.refl _ | apply Drawn0.step)⟩

/-! ### targumref1_Check: function 40 -/
def targumref1_Check.l0 : Nat → ByteArray → Int → Option (Int)
  | 0, _, _ => none
  | k + 1, x0, x3 => if x3 < (x0.size : Int) then ((targumref1_May.f k x0 x3).bind fun t116 => (if t116 = 0 then (some x3) else (targumref1_Check.l0 k x0 (wrap64 (x3 + t116))))) else (some (-1))
def targumref1_Check.f (k : Nat) (a0 : ByteArray) : Option (Int) := targumref1_Check.l0 k a0 0
theorem targumref1_Check.mono_l : ∀ k, (∀ y0 y1, LeO (targumref1_Check.l0 k y0 y1) (targumref1_Check.l0 (k + 1) y0 y1))
  | 0 => fun _ _ r h => by simp [targumref1_Check.l0] at h
  | k + 1 => by
    have ih0 := targumref1_Check.mono_l k
    · intro y0 y1
      unfold targumref1_Check.l0
      repeat' first
      | (with_reducible exact ih0 _ _)
      | (with_reducible exact targumref1_May.mono _ _ _)
      | (with_reducible exact LeO.refl _)
      | (with_reducible exact LeO.none _)
      | (with_reducible refine LeO.ite ?_ ?_)
      | (with_reducible refine LeO.bind ?_ (fun _ => ?_))
      | exact ih0 _ _
      | exact targumref1_May.mono _ _ _
      | exact LeO.none _
      | refine LeO.ite ?_ ?_
      | refine LeO.bind ?_ (fun _ => ?_)
theorem targumref1_Check.mono : ∀ a0 k, LeO (targumref1_Check.f k a0) (targumref1_Check.f (k + 1) a0) := by
  intro a0 k
  have ih0 := targumref1_Check.mono_l k
  unfold targumref1_Check.f
  repeat' first
      | (with_reducible exact ih0 _ _)
      | (with_reducible exact targumref1_May.mono _ _ _)
      | (with_reducible exact LeO.refl _)
      | (with_reducible exact LeO.none _)
      | (with_reducible refine LeO.ite ?_ ?_)
      | (with_reducible refine LeO.bind ?_ (fun _ => ?_))
      | exact ih0 _ _
      | exact targumref1_May.mono _ _ _
      | exact LeO.none _
      | refine LeO.ite ?_ ?_
      | refine LeO.bind ?_ (fun _ => ?_)
set_option maxHeartbeats 8000000 in
set_option maxRecDepth 100000 in
theorem targumref1_Check.calls (k : Nat) (a0 : ByteArray) (r : Int) (w : World) (h : targumref1_Check.f k a0 = some r) :
    Calls Tryd.prog 40 #[.string a0] w fun e w' => e = .returned (.int .i64 r) ∧ Drawn0 w w' := by
  have H : (targumref1_Check.l0 k a0 0) = some r := h
  clear h
  have H' := Aside0.mk H
  clear H
  go_enter Tryd.func40, Tryd.ntmps40
  go_wp2
  go_loopg [3] k (fun kq v3 w' => ∃ (x3_1 : Int), v3 = .int .i64 x3_1 ∧ Aside0 (targumref1_Check.l0 kq a0 x3_1 = some r) ∧ Aside0 (kq ≤ k) ∧ Drawn0 w w')
  case atStart => exact ⟨(0), (by first | rfl | (simp; done) | (simp [*]; done)), H', ⟨Nat.le_refl _⟩, by repeat (first | exact Drawn0.refl _ | apply Drawn0.step)⟩
  case round =>
    clear H'
    obtain ⟨x3_1, rfl, HA, HK1, ⟨m1, rfl⟩⟩ := hrel
    cases gk with
    | zero => exact absurd HA.out (by simp [targumref1_Check.l0])
    | succ k1 =>
      have H := HA.out
      clear HA
      simp only [targumref1_Check.l0] at H
      by_cases c2 : x3_1 < (a0.size : Int)
      · rw [if_pos c2] at H
        have c2b0 : decide (x3_1 < (a0.size : Int)) = true := decide_eq_true c2
        clear c2
        replace H := Option.bind_eq_some_iff.mp H
        obtain ⟨t116, A30, H⟩ := H
        replace H : (if t116 = 0 then (some x3_1) else (targumref1_Check.l0 k1 a0 (wrap64 (x3_1 + t116)))) = some r := H
        have A3 := Aside0.mk A30
        clear A30
        by_cases c4 : t116 = 0
        · rw [if_pos c4] at H
          have c4b0 : (t116 == 0) = true := beq_iff_eq.mpr c4
          have c4b1 : (t116 != 0) = false := bne_eq_false_iff_eq.mpr c4
          clear c4
          obtain rfl := Option.some.inj H
          go_wp2_with (first | ((with_reducible refine gate_callee (f := 75) rfl ?_); refine goesL_ (some 11) rfl rfl Tryd.func75 (by kernel_rfl) rfl #[.string a0, .int .i64 x3_1] rfl (by (try simp only [List.map_toArray, List.map_cons, List.map_nil]); first | done | rfl | (simp only [List.length_drop, List.length_take]; rfl)) ?_; (with_reducible refine (targumref1_May.calls k1 a0 x3_1 t116 _ A3.out).mono ?_); rintro e w' ⟨rfl, ⟨nd, rfl⟩⟩; refine ⟨_, rfl, ?_⟩))
          go_ret
          exact ⟨by first | rfl | (simp; done) | (simp [*]; done), by repeat (first | exact Drawn0.refl _ | apply Drawn0.step)⟩
        · rw [if_neg c4] at H
          have c4b0 : (t116 == 0) = false := beq_eq_false_iff_ne.mpr c4
          have c4b1 : (t116 != 0) = true := bne_iff_ne.mpr c4
          have H' := Aside0.mk H
          clear H
          go_wp2_with (first | ((with_reducible refine gate_callee (f := 75) rfl ?_); refine goesL_ (some 11) rfl rfl Tryd.func75 (by kernel_rfl) rfl #[.string a0, .int .i64 x3_1] rfl (by (try simp only [List.map_toArray, List.map_cons, List.map_nil]); first | done | rfl | (simp only [List.length_drop, List.length_take]; rfl)) ?_; (with_reducible refine (targumref1_May.calls k1 a0 x3_1 t116 _ A3.out).mono ?_); rintro e w' ⟨rfl, ⟨nd, rfl⟩⟩; refine ⟨_, rfl, ?_⟩))
          go_roundg k1
          case measure => have := HK1.out; omega
          case rel => exact ⟨(wrap64 (x3_1 + t116)), (by first | rfl | (simp; done) | (simp [*]; done)), H', ⟨by have := HK1.out; omega⟩, by repeat (first | exact Drawn0.refl _ | apply Drawn0.step)⟩
      · rw [if_neg c2] at H
        have c2b0 : decide (x3_1 < (a0.size : Int)) = false := decide_eq_false c2
        clear c2
        obtain rfl := Option.some.inj H
        go_wp2
        go_ret
        exact ⟨by first | rfl | (simp; done) | (simp [*]; done), by repeat (first | exact Drawn0.refl _ | apply Drawn0.step)⟩

/-! ### targumhelp_Few: function 16 -/
def targumhelp_Few.f (k : Nat) (a0 : ByteArray) (a1 : Int) : Option (Bool) := if (a0.size : Int) ≤ a1 then ((targumref1_Check.f k a0).bind fun t117 => (some (decide (t117 < 0)))) else (some false)
theorem targumhelp_Few.mono : ∀ a0 a1 k, LeO (targumhelp_Few.f k a0 a1) (targumhelp_Few.f (k + 1) a0 a1) := by
  intro a0 a1 k
  unfold targumhelp_Few.f
  repeat' first
      | (with_reducible exact targumref1_Check.mono _ _)
      | (with_reducible exact LeO.refl _)
      | (with_reducible exact LeO.none _)
      | (with_reducible refine LeO.ite ?_ ?_)
      | (with_reducible refine LeO.bind ?_ (fun _ => ?_))
      | exact targumref1_Check.mono _ _
      | exact LeO.none _
      | refine LeO.ite ?_ ?_
      | refine LeO.bind ?_ (fun _ => ?_)
set_option maxHeartbeats 8000000 in
set_option maxRecDepth 100000 in
theorem targumhelp_Few.calls (k : Nat) (a0 : ByteArray) (a1 : Int) (r : Bool) (w : World) (h : targumhelp_Few.f k a0 a1 = some r) :
    Calls Tryd.prog 16 #[.string a0, .int .i64 a1] w fun e w' => e = .returned (.bool r) ∧ Drawn0 w w' := by
  have H : (if (a0.size : Int) ≤ a1 then ((targumref1_Check.f k a0).bind fun t117 => (some (decide (t117 < 0)))) else (some false)) = some r := h
  clear h
  by_cases c3 : (a0.size : Int) ≤ a1
  · rw [if_pos c3] at H
    have c3b0 : decide ((a0.size : Int) ≤ a1) = true := decide_eq_true c3
    clear c3
    replace H := Option.bind_eq_some_iff.mp H
    obtain ⟨t117, A40, H⟩ := H
    replace H : (some (decide (t117 < 0))) = some r := H
    have A4 := Aside0.mk A40
    clear A40
    obtain rfl := Option.some.inj H
    go_enter Tryd.func16, Tryd.ntmps16
    go_wp2_with (first | (go_at_call 40; (with_reducible refine (targumref1_Check.calls k a0 t117 _ A4.out).mono ?_); rintro e w' ⟨rfl, ⟨nd, rfl⟩⟩))
    go_ret
    exact ⟨by first | rfl | (simp; done) | (simp [*]; done), by repeat (first | exact Drawn0.refl _ | apply Drawn0.step)⟩
  · rw [if_neg c3] at H
    have c3b0 : decide ((a0.size : Int) ≤ a1) = false := decide_eq_false c3
    clear c3
    obtain rfl := Option.some.inj H
    go_enter Tryd.func16, Tryd.ntmps16
    go_wp2
    go_ret
    exact ⟨by first | rfl | (simp; done) | (simp [*]; done), by repeat (first | exact Drawn0.refl _ | apply Drawn0.step)⟩

end Go.Proofs.YtmfjdlmhejabiaaDoor.PL
