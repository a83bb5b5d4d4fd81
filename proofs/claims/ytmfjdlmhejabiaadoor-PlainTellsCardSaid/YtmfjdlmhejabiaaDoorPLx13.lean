-- Written by wip/myprint.py (a program of this session's) over the kit's print.
import Derived.Test.YtmfjdlmhejabiaaDoorWRepsOne
import Derived.Test.YtmfjdlmhejabiaaDoorPLx0
import Derived.Test.YtmfjdlmhejabiaaDoorPLx1
import Derived.Test.YtmfjdlmhejabiaaDoorPLx3
import Derived.Test.YtmfjdlmhejabiaaDoorPLx4
import Derived.Test.YtmfjdlmhejabiaaDoorPLx9
import Derived.Test.YtmfjdlmhejabiaaDoorPLx12
namespace Go.Proofs.YtmfjdlmhejabiaaDoor.PL
open Go.Proofs.YtmfjdlmhejabiaaDoor.X
open Go.RowKit Go.Proofs.YtmfjdlmhejabiaaDoorW.PrintWords Go.Proofs.YtmfjdlmhejabiaaDoorW.PrintLast Go.Proofs.YtmfjdlmhejabiaaDoorW.PrintMore
attribute [local go_sem] max2_int min2_int max_two min_two max_three min_three max_four min_four   -- for this text's walks alone
set_option linter.unusedVariables false
set_option linter.unusedSimpArgs false

/-! ### targumlaw20_PlainTells: function 3 -/
mutual
def targumlaw20_PlainTells.j0 : Nat → ByteArray → List Int → Int → Int → Bool → Bool → Option (Bool)
  | 0, _, _, _, _, _, _ => none
  | k + 1, x0, x1, x2, x3, x4, x31 => if x31 = true then (some true) else ((targumhelp_Version.f x4).bind fun t185 => ((targumlaw20_text.f x1).bind fun t186 => (if 1 + t186.size ≤ 9223372036854775807 then (if 1 + x0.size ≤ 9223372036854775807 then (if ((⟨#[97]⟩ : ByteArray) ++ x0).size + 3 ≤ 9223372036854775807 then (if (((⟨#[97]⟩ : ByteArray) ++ x0) ++ (⟨#[10, 32, 32]⟩ : ByteArray)).size + t186.size ≤ 9223372036854775807 then ((some (([x0, t186, (⟨#[97]⟩ : ByteArray) ++ t186, (((⟨#[97]⟩ : ByteArray) ++ x0) ++ (⟨#[10, 32, 32]⟩ : ByteArray)) ++ t186] : List ByteArray) : List ByteArray)).bind fun y187 => (targumlaw20_PlainTells.l0 k x2 t185 (wrap64 ((wrap64 (Int.tmod x3 5)) - 1)) y187 (y187.length : Int) 0)) else (none)) else (none)) else (none)) else (none))))
def targumlaw20_PlainTells.l0 : Nat → Int → Int → Int → List ByteArray → Int → Int → Option (Bool)
  | 0, _, _, _, _, _, _ => none
  | k + 1, x2, x11, x12, x49, x50, x51 => if x51 < x50 then (if 0 ≤ x51 then (if x51 < (x49.length : Int) then ((targumhelp_Within.f x2 (-1) (wrap64 (((rdOf ByteArray.empty x49 x51).size : Int) + 1))).bind fun t191 => ((some (([0, t191] : List Int) : List Int)).bind fun y192 => (targumlaw20_PlainTells.l1 k x2 x11 x12 (rdOf ByteArray.empty x49 x51) x49 x50 x51 y192 (y192.length : Int) 0))) else (none)) else (none)) else (some true)
def targumlaw20_PlainTells.l1 : Nat → Int → Int → Int → ByteArray → List ByteArray → Int → Int → List Int → Int → Int → Option (Bool)
  | 0, _, _, _, _, _, _, _, _, _, _ => none
  | k + 1, x2, x11, x12, x15, x49, x50, x51, x60, x61, x62 => if x62 < x61 then (if 0 ≤ x62 then (if x62 < (x60.length : Int) then ((targumhelp_Cut.f x15 (rd x60 x62)).bind fun t196 => (if t196 = true then (targumlaw20_PlainTells.l1 k x2 x11 x12 x15 x49 x50 x51 x60 x61 (wrap64 (x62 + 1))) else ((plain_Read.f x11 x15 (rd x60 x62) x12).bind fun bt197 => ((targumref17_Plain.f k x11 x15 (rd x60 x62) x12).bind fun bt199 => (if bt197.1.toList = bt199.1.toList then (if bt197.2 = bt199.2 then ((plain_Part.f x11 x15 (rd x60 x62) false).bind fun t201 => ((targumref17_Part.f k x11 x15 (rd x60 x62) false).bind fun t202 => (if t201 = t202 then ((plain_Part.f x11 x15 (rd x60 x62) true).bind fun t203 => ((targumref17_Part.f k x11 x15 (rd x60 x62) true).bind fun t204 => (if t203 = t204 then (targumlaw20_PlainTells.l1 k x2 x11 x12 x15 x49 x50 x51 x60 x61 (wrap64 (x62 + 1))) else (some false)))) else (some false)))) else (some false)) else (some false)))))) else (none)) else (none)) else (targumlaw20_PlainTells.l0 k x2 x11 x12 x49 x50 (wrap64 (x51 + 1)))
end
def targumlaw20_PlainTells.f (k : Nat) (a0 : ByteArray) (l1 : List Int) (a2 : Int) (a3 : Int) (a4 : Bool) : Option (Bool) := (targumlaw20_known.f).bind fun t183 => (if t183 = true then ((targumhelp_Few.f k a0 200).bind fun t184 => (if t184 = true then (targumlaw20_PlainTells.j0 k a0 l1 a2 a3 a4 (decide ((l1.length : Int) > 60))) else (targumlaw20_PlainTells.j0 k a0 l1 a2 a3 a4 true))) else (some false))
theorem targumlaw20_PlainTells.mono_l : ∀ k, (∀ y0 y1 y2 y3 y4 y5, LeO (targumlaw20_PlainTells.j0 k y0 y1 y2 y3 y4 y5) (targumlaw20_PlainTells.j0 (k + 1) y0 y1 y2 y3 y4 y5)) ∧ (∀ y0 y1 y2 y3 y4 y5, LeO (targumlaw20_PlainTells.l0 k y0 y1 y2 y3 y4 y5) (targumlaw20_PlainTells.l0 (k + 1) y0 y1 y2 y3 y4 y5)) ∧ (∀ y0 y1 y2 y3 y4 y5 y6 y7 y8 y9, LeO (targumlaw20_PlainTells.l1 k y0 y1 y2 y3 y4 y5 y6 y7 y8 y9) (targumlaw20_PlainTells.l1 (k + 1) y0 y1 y2 y3 y4 y5 y6 y7 y8 y9))
  | 0 => ⟨fun _ _ _ _ _ _ r h => by simp [targumlaw20_PlainTells.j0] at h, fun _ _ _ _ _ _ r h => by simp [targumlaw20_PlainTells.l0] at h, fun _ _ _ _ _ _ _ _ _ _ r h => by simp [targumlaw20_PlainTells.l1] at h⟩
  | k + 1 => by
    obtain ⟨ih0, ih1, ih2⟩ := targumlaw20_PlainTells.mono_l k
    refine ⟨?_, ?_, ?_⟩
    · intro y0 y1 y2 y3 y4 y5
      unfold targumlaw20_PlainTells.j0
      repeat' first
      | (with_reducible exact ih0 _ _ _ _ _ _)
      | (with_reducible exact ih1 _ _ _ _ _ _)
      | (with_reducible exact ih2 _ _ _ _ _ _ _ _ _ _)
      | (with_reducible exact targumhelp_Few.mono _ _ _)
      | (with_reducible exact targumref17_Part.mono _ _ _ _ _)
      | (with_reducible exact targumref17_Plain.mono _ _ _ _ _)
      | (with_reducible exact LeO.refl _)
      | (with_reducible exact LeO.none _)
      | (with_reducible refine LeO.ite ?_ ?_)
      | (with_reducible refine LeO.bind ?_ (fun _ => ?_))
      | exact ih0 _ _ _ _ _ _
      | exact ih1 _ _ _ _ _ _
      | exact ih2 _ _ _ _ _ _ _ _ _ _
      | exact targumhelp_Few.mono _ _ _
      | exact targumref17_Part.mono _ _ _ _ _
      | exact targumref17_Plain.mono _ _ _ _ _
      | exact LeO.none _
      | refine LeO.ite ?_ ?_
      | refine LeO.bind ?_ (fun _ => ?_)
    · intro y0 y1 y2 y3 y4 y5
      unfold targumlaw20_PlainTells.l0
      repeat' first
      | (with_reducible exact ih0 _ _ _ _ _ _)
      | (with_reducible exact ih1 _ _ _ _ _ _)
      | (with_reducible exact ih2 _ _ _ _ _ _ _ _ _ _)
      | (with_reducible exact targumhelp_Few.mono _ _ _)
      | (with_reducible exact targumref17_Part.mono _ _ _ _ _)
      | (with_reducible exact targumref17_Plain.mono _ _ _ _ _)
      | (with_reducible exact LeO.refl _)
      | (with_reducible exact LeO.none _)
      | (with_reducible refine LeO.ite ?_ ?_)
      | (with_reducible refine LeO.bind ?_ (fun _ => ?_))
      | exact ih0 _ _ _ _ _ _
      | exact ih1 _ _ _ _ _ _
      | exact ih2 _ _ _ _ _ _ _ _ _ _
      | exact targumhelp_Few.mono _ _ _
      | exact targumref17_Part.mono _ _ _ _ _
      | exact targumref17_Plain.mono _ _ _ _ _
      | exact LeO.none _
      | refine LeO.ite ?_ ?_
      | refine LeO.bind ?_ (fun _ => ?_)
    · intro y0 y1 y2 y3 y4 y5 y6 y7 y8 y9
      unfold targumlaw20_PlainTells.l1
      repeat' first
      | (with_reducible exact ih0 _ _ _ _ _ _)
      | (with_reducible exact ih1 _ _ _ _ _ _)
      | (with_reducible exact ih2 _ _ _ _ _ _ _ _ _ _)
      | (with_reducible exact targumhelp_Few.mono _ _ _)
      | (with_reducible exact targumref17_Part.mono _ _ _ _ _)
      | (with_reducible exact targumref17_Plain.mono _ _ _ _ _)
      | (with_reducible exact LeO.refl _)
      | (with_reducible exact LeO.none _)
      | (with_reducible refine LeO.ite ?_ ?_)
      | (with_reducible refine LeO.bind ?_ (fun _ => ?_))
      | exact ih0 _ _ _ _ _ _
      | exact ih1 _ _ _ _ _ _
      | exact ih2 _ _ _ _ _ _ _ _ _ _
      | exact targumhelp_Few.mono _ _ _
      | exact targumref17_Part.mono _ _ _ _ _
      | exact targumref17_Plain.mono _ _ _ _ _
      | exact LeO.none _
      | refine LeO.ite ?_ ?_
      | refine LeO.bind ?_ (fun _ => ?_)
theorem targumlaw20_PlainTells.mono : ∀ a0 a1 a2 a3 a4 k, LeO (targumlaw20_PlainTells.f k a0 a1 a2 a3 a4) (targumlaw20_PlainTells.f (k + 1) a0 a1 a2 a3 a4) := by
  intro a0 a1 a2 a3 a4 k
  obtain ⟨ih0, ih1, ih2⟩ := targumlaw20_PlainTells.mono_l k
  unfold targumlaw20_PlainTells.f
  repeat' first
      | (with_reducible exact ih0 _ _ _ _ _ _)
      | (with_reducible exact ih1 _ _ _ _ _ _)
      | (with_reducible exact ih2 _ _ _ _ _ _ _ _ _ _)
      | (with_reducible exact targumhelp_Few.mono _ _ _)
      | (with_reducible exact targumref17_Part.mono _ _ _ _ _)
      | (with_reducible exact targumref17_Plain.mono _ _ _ _ _)
      | (with_reducible exact LeO.refl _)
      | (with_reducible exact LeO.none _)
      | (with_reducible refine LeO.ite ?_ ?_)
      | (with_reducible refine LeO.bind ?_ (fun _ => ?_))
      | exact ih0 _ _ _ _ _ _
      | exact ih1 _ _ _ _ _ _
      | exact ih2 _ _ _ _ _ _ _ _ _ _
      | exact targumhelp_Few.mono _ _ _
      | exact targumref17_Part.mono _ _ _ _ _
      | exact targumref17_Plain.mono _ _ _ _ _
      | exact LeO.none _
      | refine LeO.ite ?_ ?_
      | refine LeO.bind ?_ (fun _ => ?_)
set_option maxHeartbeats 8000000 in
set_option maxRecDepth 100000 in
theorem targumlaw20_PlainTells.calls (k : Nat) (a0 : ByteArray) (A1 : Option Addr) (c1 : Nat) (l1 : List Int) (a2 : Int) (a3 : Int) (a4 : Bool) (r : Bool) (w : World) (hr1 : Kd.C (Kd.int .u8) w A1 l1.length l1) (hc1 : l1.length ≤ c1) (h : targumlaw20_PlainTells.f k a0 l1 a2 a3 a4 = some r) :
    Calls Tryd.prog 3 #[.string a0, .slice A1 l1.length c1, .int .i64 a2, .int .u8 a3, .bool a4] w fun e w' => e = .returned (.bool r) ∧ Below w.heap.size w w' := by
  have HR1 := Aside0.mk hr1
  have HC1 := Aside0.mk hc1
  clear hr1 hc1
  have HB := Aside0.mk (Below.refl w.heap.size w)
  have H : ((targumlaw20_known.f).bind fun t183 => (if t183 = true then ((targumhelp_Few.f k a0 200).bind fun t184 => (if t184 = true then (targumlaw20_PlainTells.j0 k a0 l1 a2 a3 a4 (decide ((l1.length : Int) > 60))) else (targumlaw20_PlainTells.j0 k a0 l1 a2 a3 a4 true))) else (some false))) = some r := h
  clear h
  replace H := Option.bind_eq_some_iff.mp H
  obtain ⟨t183, A60, H⟩ := H
  replace H : (if t183 = true then ((targumhelp_Few.f k a0 200).bind fun t184 => (if t184 = true then (targumlaw20_PlainTells.j0 k a0 l1 a2 a3 a4 (decide ((l1.length : Int) > 60))) else (targumlaw20_PlainTells.j0 k a0 l1 a2 a3 a4 true))) else (some false)) = some r := H
  have A6 := Aside0.mk A60
  clear A60
  by_cases c7 : t183 = true
  · subst c7
    have H1 : ((targumhelp_Few.f k a0 200).bind fun t184 => (if t184 = true then (targumlaw20_PlainTells.j0 k a0 l1 a2 a3 a4 (decide ((l1.length : Int) > 60))) else (targumlaw20_PlainTells.j0 k a0 l1 a2 a3 a4 true))) = some r := by rw [if_pos rfl] at H; exact H
    clear H
    have H := H1
    clear H1
    have HC8 := Aside0.mk H
    clear H
    go_enter Tryd.func3, Tryd.ntmps3
    go_upto_region 3 with (first | ((with_reducible refine gate_callee (f := 15) rfl ?_); refine goesL_ (some 22) rfl rfl Tryd.func15 (by kernel_rfl) rfl #[] rfl (by (try simp only [List.map_toArray, List.map_cons, List.map_nil]); first | done | rfl | (simp only [List.length_drop, List.length_take]; rfl)) ?_; (with_reducible refine (targumlaw20_known.calls  true _ A6.out).mono ?_); rintro e w9 ⟨rfl, hb⟩; refine ⟨_, rfl, ?_⟩; have n0_ := Aside0.mk (below_step (by repeat (first | (with_reducible first | exact HB.out | apply below_alloc | apply pw_below_drewN | apply below_drew1) | exact HB.out)) hb); clear HB; have HB := n0_; clear n0_; (try clear hb); (try clear hb2); (try clear hk); (try clear hi)))
    (try simp only [Act.put, List.setIfInBounds_toArray, List.set_cons_zero, List.set_cons_succ])
    go_cut [31] (fun v31 wc => ∃ (kq : Nat) (x31_7 : Bool), v31 = .bool x31_7 ∧ Aside0 (targumlaw20_PlainTells.j0 kq a0 l1 a2 a3 a4 x31_7 = some r) ∧ Aside0 (kq ≤ k) ∧ Aside0 (Below w.heap.size w wc))
    case first =>
      have H := HC8.out
      clear HC8
      replace H := Option.bind_eq_some_iff.mp H
      obtain ⟨t184, A100, H⟩ := H
      replace H : (if t184 = true then (targumlaw20_PlainTells.j0 k a0 l1 a2 a3 a4 (decide ((l1.length : Int) > 60))) else (targumlaw20_PlainTells.j0 k a0 l1 a2 a3 a4 true)) = some r := H
      have A10 := Aside0.mk A100
      clear A100
      by_cases c11 : t184 = true
      · subst c11
        have H1 : (targumlaw20_PlainTells.j0 k a0 l1 a2 a3 a4 (decide ((l1.length : Int) > 60))) = some r := by rw [if_pos rfl] at H; exact H
        clear H
        have H := H1
        clear H1
        have H' := Aside0.mk H
        clear H
        go_wp2_with (first | ((with_reducible refine gate_callee (f := 16) rfl ?_); refine goesL_ (some 25) rfl rfl Tryd.func16 (by kernel_rfl) rfl #[.string a0, .int .i64 200] rfl (by (try simp only [List.map_toArray, List.map_cons, List.map_nil]); first | done | rfl | (simp only [List.length_drop, List.length_take]; rfl)) ?_; (with_reducible refine (targumhelp_Few.calls k a0 200 true _ A10.out).mono ?_); rintro e w' ⟨rfl, ⟨nd, rfl⟩⟩; refine ⟨_, rfl, ?_⟩))
        go_meet
        case rel => exact ⟨_, (decide ((l1.length : Int) > 60)), (by first | rfl | (simp; done) | (simp [*]; done)), H', ⟨by first | omega | exact Nat.le_refl _⟩, ⟨by repeat (first | (with_reducible first | exact HB.out | apply below_alloc | apply pw_below_drewN | apply below_drew1) | exact HB.out)⟩⟩
      · replace c11 := Bool.eq_false_iff.mpr c11
        subst c11
        have H1 : (targumlaw20_PlainTells.j0 k a0 l1 a2 a3 a4 true) = some r := by rw [if_neg (show ¬ (false = true) by decide)] at H; exact H
        clear H
        have H := H1
        clear H1
        have H' := Aside0.mk H
        clear H
        go_wp2_with (first | ((with_reducible refine gate_callee (f := 16) rfl ?_); refine goesL_ (some 25) rfl rfl Tryd.func16 (by kernel_rfl) rfl #[.string a0, .int .i64 200] rfl (by (try simp only [List.map_toArray, List.map_cons, List.map_nil]); first | done | rfl | (simp only [List.length_drop, List.length_take]; rfl)) ?_; (with_reducible refine (targumhelp_Few.calls k a0 200 false _ A10.out).mono ?_); rintro e w' ⟨rfl, ⟨nd, rfl⟩⟩; refine ⟨_, rfl, ?_⟩))
        go_meet
        case rel => exact ⟨_, (true), (by first | rfl | (simp; done) | (simp [*]; done)), H', ⟨by first | omega | exact Nat.le_refl _⟩, ⟨by repeat (first | (with_reducible first | exact HB.out | apply below_alloc | apply pw_below_drewN | apply below_drew1) | exact HB.out)⟩⟩
    case rest =>
      clear HC8
      try clear c1
      try clear p2
      try clear c3
      try clear c7
      try clear c11
      obtain ⟨kq, x31_7, rfl, HA, HJ7, HB⟩ := hcut
      cases kq with
      | zero => exact absurd HA.out (by simp [targumlaw20_PlainTells.j0])
      | succ kj7 =>
        have H := HA.out
        clear HA
        simp only [targumlaw20_PlainTells.j0] at H
        by_cases c12 : x31_7 = true
        · subst c12
          have H1 : (some true) = some r := by rw [if_pos rfl] at H; exact H
          clear H
          have H := H1
          clear H1
          obtain rfl := Option.some.inj H
          go_wp2
          go_ret
          exact ⟨by first | rfl | (simp [errW_none, errW_some] <;> rfl) | (simp [*, errW_none, errW_some] <;> rfl), by repeat (first | (with_reducible first | exact HB.out | apply below_alloc | apply pw_below_drewN | apply below_drew1) | exact HB.out)⟩
        · replace c12 := Bool.eq_false_iff.mpr c12
          subst c12
          have H1 : ((targumhelp_Version.f a4).bind fun t185 => ((targumlaw20_text.f l1).bind fun t186 => (if 1 + t186.size ≤ 9223372036854775807 then (if 1 + a0.size ≤ 9223372036854775807 then (if ((⟨#[97]⟩ : ByteArray) ++ a0).size + 3 ≤ 9223372036854775807 then (if (((⟨#[97]⟩ : ByteArray) ++ a0) ++ (⟨#[10, 32, 32]⟩ : ByteArray)).size + t186.size ≤ 9223372036854775807 then ((some (([a0, t186, (⟨#[97]⟩ : ByteArray) ++ t186, (((⟨#[97]⟩ : ByteArray) ++ a0) ++ (⟨#[10, 32, 32]⟩ : ByteArray)) ++ t186] : List ByteArray) : List ByteArray)).bind fun y187 => (targumlaw20_PlainTells.l0 kj7 a2 t185 (wrap64 ((wrap64 (Int.tmod a3 5)) - 1)) y187 (y187.length : Int) 0)) else (none)) else (none)) else (none)) else (none)))) = some r := by rw [if_neg (show ¬ (false = true) by decide)] at H; exact H
          clear H
          have H := H1
          clear H1
          replace H := Option.bind_eq_some_iff.mp H
          obtain ⟨t185, A130, H⟩ := H
          replace H : ((targumlaw20_text.f l1).bind fun t186 => (if 1 + t186.size ≤ 9223372036854775807 then (if 1 + a0.size ≤ 9223372036854775807 then (if ((⟨#[97]⟩ : ByteArray) ++ a0).size + 3 ≤ 9223372036854775807 then (if (((⟨#[97]⟩ : ByteArray) ++ a0) ++ (⟨#[10, 32, 32]⟩ : ByteArray)).size + t186.size ≤ 9223372036854775807 then ((some (([a0, t186, (⟨#[97]⟩ : ByteArray) ++ t186, (((⟨#[97]⟩ : ByteArray) ++ a0) ++ (⟨#[10, 32, 32]⟩ : ByteArray)) ++ t186] : List ByteArray) : List ByteArray)).bind fun y187 => (targumlaw20_PlainTells.l0 kj7 a2 t185 (wrap64 ((wrap64 (Int.tmod a3 5)) - 1)) y187 (y187.length : Int) 0)) else (none)) else (none)) else (none)) else (none))) = some r := H
          have A13 := Aside0.mk A130
          clear A130
          replace H := Option.bind_eq_some_iff.mp H
          obtain ⟨t186, A140, H⟩ := H
          replace H : (if 1 + t186.size ≤ 9223372036854775807 then (if 1 + a0.size ≤ 9223372036854775807 then (if ((⟨#[97]⟩ : ByteArray) ++ a0).size + 3 ≤ 9223372036854775807 then (if (((⟨#[97]⟩ : ByteArray) ++ a0) ++ (⟨#[10, 32, 32]⟩ : ByteArray)).size + t186.size ≤ 9223372036854775807 then ((some (([a0, t186, (⟨#[97]⟩ : ByteArray) ++ t186, (((⟨#[97]⟩ : ByteArray) ++ a0) ++ (⟨#[10, 32, 32]⟩ : ByteArray)) ++ t186] : List ByteArray) : List ByteArray)).bind fun y187 => (targumlaw20_PlainTells.l0 kj7 a2 t185 (wrap64 ((wrap64 (Int.tmod a3 5)) - 1)) y187 (y187.length : Int) 0)) else (none)) else (none)) else (none)) else (none)) = some r := H
          have A14 := Aside0.mk A140
          clear A140
          by_cases c15 : 1 + t186.size ≤ 9223372036854775807
          · rw [if_pos c15] at H
            have c15b0 := eq_true c15
            have c15b1 : decide (1 + t186.size ≤ 9223372036854775807) = true := decide_eq_true c15
            try have c15b2 : (9223372036854775807 < 1 + t186.size) = False := eq_false (Nat.not_lt.2 c15)
            by_cases c16 : 1 + a0.size ≤ 9223372036854775807
            · rw [if_pos c16] at H
              have c16b0 := eq_true c16
              have c16b1 : decide (1 + a0.size ≤ 9223372036854775807) = true := decide_eq_true c16
              try have c16b2 : (9223372036854775807 < 1 + a0.size) = False := eq_false (Nat.not_lt.2 c16)
              by_cases c17 : ((⟨#[97]⟩ : ByteArray) ++ a0).size + 3 ≤ 9223372036854775807
              · rw [if_pos c17] at H
                have c17b0 := eq_true c17
                have c17b1 : decide (((⟨#[97]⟩ : ByteArray) ++ a0).size + 3 ≤ 9223372036854775807) = true := decide_eq_true c17
                try have c17b2 : (9223372036854775807 < ((⟨#[97]⟩ : ByteArray) ++ a0).size + 3) = False := eq_false (Nat.not_lt.2 c17)
                try have c17b3 : (9223372036854775807 < ((⟨#[97]⟩ : ByteArray) ++ a0).size + 3) = False := c17b2
                try simp only [ByteArray.size_append, show ((⟨#[97]⟩ : ByteArray)).size = 1 from rfl] at c17b3
                by_cases c18 : (((⟨#[97]⟩ : ByteArray) ++ a0) ++ (⟨#[10, 32, 32]⟩ : ByteArray)).size + t186.size ≤ 9223372036854775807
                · rw [if_pos c18] at H
                  have c18b0 := eq_true c18
                  have c18b1 : decide ((((⟨#[97]⟩ : ByteArray) ++ a0) ++ (⟨#[10, 32, 32]⟩ : ByteArray)).size + t186.size ≤ 9223372036854775807) = true := decide_eq_true c18
                  try have c18b2 : (9223372036854775807 < (((⟨#[97]⟩ : ByteArray) ++ a0) ++ (⟨#[10, 32, 32]⟩ : ByteArray)).size + t186.size) = False := eq_false (Nat.not_lt.2 c18)
                  try have c18b3 : (9223372036854775807 < (((⟨#[97]⟩ : ByteArray) ++ a0) ++ (⟨#[10, 32, 32]⟩ : ByteArray)).size + t186.size) = False := c18b2
                  try simp only [ByteArray.size_append, show ((⟨#[10, 32, 32]⟩ : ByteArray)).size = 3 from rfl, show ((⟨#[97]⟩ : ByteArray)).size = 1 from rfl] at c18b3
                  obtain ⟨y187, hy187⟩ : ∃ y_ : List ByteArray, y_ = (([a0, t186, (⟨#[97]⟩ : ByteArray) ++ t186, (((⟨#[97]⟩ : ByteArray) ++ a0) ++ (⟨#[10, 32, 32]⟩ : ByteArray)) ++ t186] : List ByteArray)) := ⟨_, rfl⟩
                  replace H : (targumlaw20_PlainTells.l0 kj7 a2 t185 (wrap64 ((wrap64 (Int.tmod a3 5)) - 1)) y187 (y187.length : Int) 0) = some r := by first | (rw [hy187]; with_reducible exact H) | (have H2_ := (Option.bind_some _ _).symm.trans H; rw [hy187]; with_reducible exact H2_) | (have H2_ := (Option.bind_some _ _).symm.trans H; with_reducible exact H2_) | with_reducible exact H | (rw [hy187]; exact H) | exact H
                  have Ny187 := Aside0.mk hy187
                  clear hy187
                  have H' := Aside0.mk H
                  clear H
                  go_wp2_with (first | ((with_reducible refine gate_callee (f := 17) rfl ?_); refine goesL_ (some 33) rfl rfl Tryd.func17 (by kernel_rfl) rfl #[.bool a4] rfl (by (try simp only [List.map_toArray, List.map_cons, List.map_nil]); first | done | rfl | (simp only [List.length_drop, List.length_take]; rfl)) ?_; (with_reducible refine (targumhelp_Version.calls a4 t185 _ A13.out).mono ?_); rintro e w' ⟨rfl, ⟨nd, rfl⟩⟩; refine ⟨_, rfl, ?_⟩) | ((with_reducible refine gate_callee (f := 18) rfl ?_); refine goesL_ (some 39) rfl rfl Tryd.func18 (by kernel_rfl) rfl #[.slice A1 l1.length c1] rfl (by (try simp only [List.map_toArray, List.map_cons, List.map_nil]); first | done | rfl | (simp only [List.length_drop, List.length_take]; rfl)) ?_; (with_reducible refine (targumlaw20_text.calls _ _ l1 t186 _ ?side1 ?side2 A14.out).mono ?_); (case side1 => repeat (first | exact (Kd.C_below HR1.out (by repeat (first | (with_reducible first | exact HB.out | apply below_alloc | apply pw_below_drewN | apply below_drew1) | exact HB.out))) | (with_reducible refine Kd.C_alloc ?_ _) | (with_reducible refine Kd.C_drewN ?_ _) | (with_reducible refine Kd.C_drew ?_))); (case side2 => exact HC1.out); rintro e w19 ⟨rfl, hb⟩; refine ⟨_, rfl, ?_⟩; have n0_ := Aside0.mk (below_step (by repeat (first | (with_reducible first | exact HB.out | apply below_alloc | apply pw_below_drewN | apply below_drew1) | exact HB.out)) hb); clear HB; have HB := n0_; clear n0_; (try clear hb); (try clear hb2); (try clear hk); (try clear hi)) | ((with_reducible refine gate_dst (N := 49) rfl ?_); (try (refine gate_guard (by rfl) ?_; dsimp only)); refine Kd.R_lit Kd.string _ 9 ?hg (N := 49) ?hd (xs := ([a0, t186, (⟨#[97]⟩ : ByteArray) ++ t186, (((⟨#[97]⟩ : ByteArray) ++ a0) ++ (⟨#[10, 32, 32]⟩ : ByteArray)) ++ t186] : List ByteArray)) (inner := [.string a0, .string t186, .string ((⟨#[97]⟩ : ByteArray) ++ t186), .string ((((⟨#[97]⟩ : ByteArray) ++ a0) ++ (⟨#[10, 32, 32]⟩ : ByteArray)) ++ t186)]) (ok := fun _ => True) (okp := fun _ => True) ?hr ?hp (fun _ hk => hk) trivial (Below.refl _ _) (Nat.le_refl _) (by simp) ?_; (case hd => rfl); (case hg => rfl); (case hr => first | (go_simp; done) | (go_simp; rfl)); (case hp => exact (Reps.one (show Kd.M Kd.string _ _ _ a0 [.string a0] from rfl) (Reps.one (show Kd.M Kd.string _ _ _ t186 [.string t186] from rfl) (Reps.one (show Kd.M Kd.string _ _ _ ((⟨#[97]⟩ : ByteArray) ++ t186) [.string ((⟨#[97]⟩ : ByteArray) ++ t186)] from rfl) (Reps.one (show Kd.M Kd.string _ _ _ ((((⟨#[97]⟩ : ByteArray) ++ a0) ++ (⟨#[10, 32, 32]⟩ : ByteArray)) ++ t186) [.string ((((⟨#[97]⟩ : ByteArray) ++ a0) ++ (⟨#[10, 32, 32]⟩ : ByteArray)) ++ t186)] from rfl) (Reps.none _ _)))))); intro v188 w20 ho21 hb hg_ hnew_; clear hg_ hnew_; (first | rw [← Ny187.out] at ho21 | (simp only [Int.reduceToNat] at ho21; rw [← Ny187.out] at ho21)); have n0_ := Aside0.mk (Kd.R_lower ho21 (below_size (by repeat (first | (with_reducible first | exact HB.out | apply below_alloc | apply pw_below_drewN | apply below_drew1) | exact HB.out)))); have n1_ := Aside0.mk (below_step (by repeat (first | (with_reducible first | exact HB.out | apply below_alloc | apply pw_below_drewN | apply below_drew1) | exact HB.out)) hb); clear HB; have HO189 := n0_; have HB := n1_; clear n0_ n1_; clear hb ho21; obtain ⟨Ao22, co22, eo22⟩ := Kd.R_slice HO189.out; subst eo22))
                  go_loopg [51] kj7 (fun kq v51 w' => ∃ (x51_2 : Int), v51 = .int .i64 x51_2 ∧ Aside0 (targumlaw20_PlainTells.l0 kq a2 t185 (wrap64 ((wrap64 (Int.tmod a3 5)) - 1)) y187 (y187.length : Int) x51_2 = some r) ∧ Aside0 (kq ≤ kj7) ∧ Aside0 (Kd.R Kd.string 9 w' w.heap.size (fun _ => True) (.slice Ao22 y187.length co22) y187) ∧ Aside0 (Below w.heap.size w w'))
                  case atStart => exact ⟨(0), (by first | rfl | (simp; done) | (simp [*]; done)), H', ⟨Nat.le_refl _⟩, ⟨by (with_reducible repeat (first | apply Kd.R_alloc | apply Kd.R_drewN | apply Kd.R_drew)); exact HO189.out⟩, ⟨by repeat (first | (with_reducible first | exact HB.out | apply below_alloc | apply pw_below_drewN | apply below_drew1) | exact HB.out)⟩⟩
                  case round =>
                    clear H'
                    try clear c1
                    try clear p2
                    try clear c3
                    try clear p6
                    try clear c7
                    try clear c11
                    try clear c12
                    try clear c15
                    try clear c15b0
                    try clear c15b1
                    try clear c15b2
                    try clear c16
                    try clear c16b0
                    try clear c16b1
                    try clear c16b2
                    try clear c17
                    try clear c17b0
                    try clear c17b1
                    try clear c17b2
                    try clear c18
                    try clear c18b0
                    try clear c18b1
                    try clear c18b2
                    try clear p2
                    obtain ⟨x51_2, rfl, HA, HK2, HO_49, HB⟩ := hrel
                    cases gk with
                    | zero => exact absurd HA.out (by simp [targumlaw20_PlainTells.l0])
                    | succ k2 =>
                      have H := HA.out
                      clear HA
                      simp only [targumlaw20_PlainTells.l0] at H
                      by_cases c23 : x51_2 < (y187.length : Int)
                      · rw [if_pos c23] at H
                        have c23b0 : decide (x51_2 < (y187.length : Int)) = true := decide_eq_true c23
                        clear c23
                        by_cases c24 : 0 ≤ x51_2
                        · rw [if_pos c24] at H
                          have c24b0 : decide (0 ≤ x51_2) = true := decide_eq_true c24
                          clear c24
                          by_cases c25 : x51_2 < (y187.length : Int)
                          · rw [if_pos c25] at H
                            have c25b0 : decide (x51_2 < (y187.length : Int)) = true := decide_eq_true c25
                            clear c25
                            replace H := Option.bind_eq_some_iff.mp H
                            obtain ⟨t191, A260, H⟩ := H
                            replace H : ((some (([0, t191] : List Int) : List Int)).bind fun y192 => (targumlaw20_PlainTells.l1 k2 a2 t185 (wrap64 ((wrap64 (Int.tmod a3 5)) - 1)) (rdOf ByteArray.empty y187 x51_2) y187 (y187.length : Int) x51_2 y192 (y192.length : Int) 0)) = some r := H
                            have A26 := Aside0.mk A260
                            clear A260
                            obtain ⟨y192, hy192⟩ : ∃ y_ : List Int, y_ = (([0, t191] : List Int)) := ⟨_, rfl⟩
                            replace H : (targumlaw20_PlainTells.l1 k2 a2 t185 (wrap64 ((wrap64 (Int.tmod a3 5)) - 1)) (rdOf ByteArray.empty y187 x51_2) y187 (y187.length : Int) x51_2 y192 (y192.length : Int) 0) = some r := by first | (rw [hy192]; with_reducible exact H) | (have H2_ := (Option.bind_some _ _).symm.trans H; rw [hy192]; with_reducible exact H2_) | (have H2_ := (Option.bind_some _ _).symm.trans H; with_reducible exact H2_) | with_reducible exact H | (rw [hy192]; exact H) | exact H
                            have Ny192 := Aside0.mk hy192
                            clear hy192
                            have H' := Aside0.mk H
                            clear H
                            have p190 : 0 ≤ (x51_2 : Int) := of_decide_eq_true (by first | (with_reducible assumption) | assumption)
                            have q190 : x51_2 < (y187.length : Int) := of_decide_eq_true (by first | (with_reducible assumption) | assumption)
                            obtain ⟨ad190, e190, hx190_0⟩ := Kd.at_string (Kd.R_reads' HO_49.out).2.2 x51_2 p190 q190
                            cases e190
                            replace p190 := eq_true p190
                            replace q190 := eq_true q190
                            go_wp2_with (first | ((with_reducible refine gate_callee (f := 19) rfl ?_); refine goesL_ (some 59) rfl rfl Tryd.func19 (by kernel_rfl) rfl #[.int .i64 a2, .int .i64 (-1), .int .i64 (wrap64 (((rdOf ByteArray.empty y187 x51_2).size : Int) + 1))] rfl (by (try simp only [List.map_toArray, List.map_cons, List.map_nil]); first | done | rfl | (simp only [List.length_drop, List.length_take]; rfl)) ?_; (with_reducible refine (targumhelp_Within.calls a2 (-1) (wrap64 (((rdOf ByteArray.empty y187 x51_2).size : Int) + 1)) t191 _ A26.out).mono ?_); rintro e w' ⟨rfl, ⟨nd, rfl⟩⟩; refine ⟨_, rfl, ?_⟩) | ((with_reducible refine gate_dst (N := 60) rfl ?_); (try (refine gate_guard (by rfl) ?_; dsimp only)); refine Kd.R_lit (Kd.int .i64) _ 3 ?hg (N := 60) ?hd (xs := ([0, t191] : List Int)) (inner := [.int .i64 0, .int .i64 t191]) (ok := fun _ => True) (okp := fun _ => True) ?hr ?hp (fun _ hk => hk) trivial (Below.refl _ _) (Nat.le_refl _) (by simp) ?_; (case hd => rfl); (case hg => rfl); (case hr => first | (go_simp; done) | (go_simp; rfl)); (case hp => exact (Reps.one (show Kd.M (Kd.int .i64) _ _ _ 0 [.int .i64 0] from rfl) (Reps.one (show Kd.M (Kd.int .i64) _ _ _ t191 [.int .i64 t191] from rfl) (Reps.none _ _)))); intro v193 w27 ho28 hb hg_ hnew_; clear hg_ hnew_; (first | rw [← Ny192.out] at ho28 | (simp only [Int.reduceToNat] at ho28; rw [← Ny192.out] at ho28)); have n0_ := Aside0.mk (Kd.R_below (by (with_reducible repeat (first | apply Kd.R_alloc | apply Kd.R_drewN | apply Kd.R_drew)); exact HO_49.out) hb); have n1_ := Aside0.mk (Kd.R_lower ho28 (below_size (by repeat (first | (with_reducible first | exact HB.out | apply below_alloc | apply pw_below_drewN | apply below_drew1) | exact HB.out)))); have n2_ := Aside0.mk (below_step (by repeat (first | (with_reducible first | exact HB.out | apply below_alloc | apply pw_below_drewN | apply below_drew1) | exact HB.out)) hb); clear HO_49; clear HB; have HO_49 := n0_; have HO194 := n1_; have HB := n2_; clear n0_ n1_ n2_; clear hb ho28; obtain ⟨Ao29, co29, eo29⟩ := Kd.R_slice HO194.out; subst eo29))
                            go_loopg [62] k2 (fun kq v62 w' => ∃ (x62_3 : Int), v62 = .int .i64 x62_3 ∧ Aside0 (targumlaw20_PlainTells.l1 kq a2 t185 (wrap64 ((wrap64 (Int.tmod a3 5)) - 1)) (rdOf ByteArray.empty y187 x51_2) y187 (y187.length : Int) x51_2 y192 (y192.length : Int) x62_3 = some r) ∧ Aside0 (kq ≤ k2) ∧ Aside0 (Kd.R Kd.string 9 w' w.heap.size (fun _ => True) (.slice (some ad190) y187.length co22) y187) ∧ Aside0 (Kd.R (Kd.int .i64) 3 w' w.heap.size (fun _ => True) (.slice Ao29 y192.length co29) y192) ∧ Aside0 (Below w.heap.size w w'))
                            case atStart => exact ⟨(0), (by first | rfl | (simp; done) | (simp [*]; done)), H', ⟨Nat.le_refl _⟩, ⟨by (with_reducible repeat (first | apply Kd.R_alloc | apply Kd.R_drewN | apply Kd.R_drew)); exact HO_49.out⟩, ⟨by (with_reducible repeat (first | apply Kd.R_alloc | apply Kd.R_drewN | apply Kd.R_drew)); exact HO194.out⟩, ⟨by repeat (first | (with_reducible first | exact HB.out | apply below_alloc | apply pw_below_drewN | apply below_drew1) | exact HB.out)⟩⟩
                            case round =>
                              clear H'
                              try clear c1
                              try clear p1
                              try clear q1
                              try clear hx1
                              try clear c2
                              try clear p2
                              try clear c3
                              try clear p6
                              try clear c7
                              try clear c11
                              try clear c12
                              try clear c15
                              try clear c15b0
                              try clear c15b1
                              try clear c15b2
                              try clear c16
                              try clear c16b0
                              try clear c16b1
                              try clear c16b2
                              try clear c17
                              try clear c17b0
                              try clear c17b1
                              try clear c17b2
                              try clear c18
                              try clear c18b0
                              try clear c18b1
                              try clear c18b2
                              try clear c19
                              try clear p19
                              try clear q19
                              try clear hx19
                              try clear c23
                              try clear c23b0
                              try clear c24
                              try clear c24b0
                              try clear c25
                              try clear c25b0
                              try clear hx190_0
                              try clear p190
                              try clear p2
                              try clear p6
                              try clear q190
                              obtain ⟨x62_3, rfl, HA, HK3, HO_49, HO_60, HB⟩ := hrel
                              cases gk with
                              | zero => exact absurd HA.out (by simp [targumlaw20_PlainTells.l1])
                              | succ k3 =>
                                have H := HA.out
                                clear HA
                                simp only [targumlaw20_PlainTells.l1] at H
                                by_cases c30 : x62_3 < (y192.length : Int)
                                · rw [if_pos c30] at H
                                  have c30b0 : decide (x62_3 < (y192.length : Int)) = true := decide_eq_true c30
                                  clear c30
                                  by_cases c31 : 0 ≤ x62_3
                                  · rw [if_pos c31] at H
                                    have c31b0 : decide (0 ≤ x62_3) = true := decide_eq_true c31
                                    clear c31
                                    by_cases c32 : x62_3 < (y192.length : Int)
                                    · rw [if_pos c32] at H
                                      have c32b0 : decide (x62_3 < (y192.length : Int)) = true := decide_eq_true c32
                                      clear c32
                                      replace H := Option.bind_eq_some_iff.mp H
                                      obtain ⟨t196, A330, H⟩ := H
                                      replace H : (if t196 = true then (targumlaw20_PlainTells.l1 k3 a2 t185 (wrap64 ((wrap64 (Int.tmod a3 5)) - 1)) (rdOf ByteArray.empty y187 x51_2) y187 (y187.length : Int) x51_2 y192 (y192.length : Int) (wrap64 (x62_3 + 1))) else ((plain_Read.f t185 (rdOf ByteArray.empty y187 x51_2) (rd y192 x62_3) (wrap64 ((wrap64 (Int.tmod a3 5)) - 1))).bind fun bt197 => ((targumref17_Plain.f k3 t185 (rdOf ByteArray.empty y187 x51_2) (rd y192 x62_3) (wrap64 ((wrap64 (Int.tmod a3 5)) - 1))).bind fun bt199 => (if bt197.1.toList = bt199.1.toList then (if bt197.2 = bt199.2 then ((plain_Part.f t185 (rdOf ByteArray.empty y187 x51_2) (rd y192 x62_3) false).bind fun t201 => ((targumref17_Part.f k3 t185 (rdOf ByteArray.empty y187 x51_2) (rd y192 x62_3) false).bind fun t202 => (if t201 = t202 then ((plain_Part.f t185 (rdOf ByteArray.empty y187 x51_2) (rd y192 x62_3) true).bind fun t203 => ((targumref17_Part.f k3 t185 (rdOf ByteArray.empty y187 x51_2) (rd y192 x62_3) true).bind fun t204 => (if t203 = t204 then (targumlaw20_PlainTells.l1 k3 a2 t185 (wrap64 ((wrap64 (Int.tmod a3 5)) - 1)) (rdOf ByteArray.empty y187 x51_2) y187 (y187.length : Int) x51_2 y192 (y192.length : Int) (wrap64 (x62_3 + 1))) else (some false)))) else (some false)))) else (some false)) else (some false))))) = some r := H
                                      have A33 := Aside0.mk A330
                                      clear A330
                                      by_cases c34 : t196 = true
                                      · subst c34
                                        have H1 : (targumlaw20_PlainTells.l1 k3 a2 t185 (wrap64 ((wrap64 (Int.tmod a3 5)) - 1)) (rdOf ByteArray.empty y187 x51_2) y187 (y187.length : Int) x51_2 y192 (y192.length : Int) (wrap64 (x62_3 + 1))) = some r := by rw [if_pos rfl] at H; exact H
                                        clear H
                                        have H := H1
                                        clear H1
                                        have H' := Aside0.mk H
                                        clear H
                                        have p195 : 0 ≤ (x62_3 : Int) := of_decide_eq_true (by first | (with_reducible assumption) | assumption)
                                        have q195 : x62_3 < (y192.length : Int) := of_decide_eq_true (by first | (with_reducible assumption) | assumption)
                                        obtain ⟨ad195, e195, hx195_0⟩ := Kd.at_int (Kd.R_reads' HO_60.out).2.2 x62_3 p195 q195
                                        cases e195
                                        replace p195 := eq_true p195
                                        replace q195 := eq_true q195
                                        go_wp2_with (first | ((with_reducible refine gate_callee (f := 20) rfl ?_); refine goesL_ (some 68) rfl rfl Tryd.func20 (by kernel_rfl) rfl #[.string (rdOf ByteArray.empty y187 x51_2), .int .i64 (rd y192 x62_3)] rfl (by (try simp only [List.map_toArray, List.map_cons, List.map_nil]); first | done | rfl | (simp only [List.length_drop, List.length_take]; rfl)) ?_; (with_reducible refine (targumhelp_Cut.calls (rdOf ByteArray.empty y187 x51_2) (rd y192 x62_3) true _ A33.out).mono ?_); rintro e w' ⟨rfl, ⟨nd, rfl⟩⟩; refine ⟨_, rfl, ?_⟩))
                                        go_roundg k3
                                        case measure => have := HJ7.out; have := HK2.out; have := HK3.out; omega
                                        case rel => exact ⟨(wrap64 (x62_3 + 1)), (by first | rfl | (simp; done) | (simp [*]; done)), H', ⟨by have := HJ7.out; have := HK2.out; have := HK3.out; omega⟩, ⟨by (with_reducible repeat (first | apply Kd.R_alloc | apply Kd.R_drewN | apply Kd.R_drew)); exact HO_49.out⟩, ⟨by (with_reducible repeat (first | apply Kd.R_alloc | apply Kd.R_drewN | apply Kd.R_drew)); exact HO_60.out⟩, ⟨by repeat (first | (with_reducible first | exact HB.out | apply below_alloc | apply pw_below_drewN | apply below_drew1) | exact HB.out)⟩⟩
                                      · replace c34 := Bool.eq_false_iff.mpr c34
                                        subst c34
                                        have H1 : ((plain_Read.f t185 (rdOf ByteArray.empty y187 x51_2) (rd y192 x62_3) (wrap64 ((wrap64 (Int.tmod a3 5)) - 1))).bind fun bt197 => ((targumref17_Plain.f k3 t185 (rdOf ByteArray.empty y187 x51_2) (rd y192 x62_3) (wrap64 ((wrap64 (Int.tmod a3 5)) - 1))).bind fun bt199 => (if bt197.1.toList = bt199.1.toList then (if bt197.2 = bt199.2 then ((plain_Part.f t185 (rdOf ByteArray.empty y187 x51_2) (rd y192 x62_3) false).bind fun t201 => ((targumref17_Part.f k3 t185 (rdOf ByteArray.empty y187 x51_2) (rd y192 x62_3) false).bind fun t202 => (if t201 = t202 then ((plain_Part.f t185 (rdOf ByteArray.empty y187 x51_2) (rd y192 x62_3) true).bind fun t203 => ((targumref17_Part.f k3 t185 (rdOf ByteArray.empty y187 x51_2) (rd y192 x62_3) true).bind fun t204 => (if t203 = t204 then (targumlaw20_PlainTells.l1 k3 a2 t185 (wrap64 ((wrap64 (Int.tmod a3 5)) - 1)) (rdOf ByteArray.empty y187 x51_2) y187 (y187.length : Int) x51_2 y192 (y192.length : Int) (wrap64 (x62_3 + 1))) else (some false)))) else (some false)))) else (some false)) else (some false)))) = some r := by rw [if_neg (show ¬ (false = true) by decide)] at H; exact H
                                        clear H
                                        have H := H1
                                        clear H1
                                        replace H := Option.bind_eq_some_iff.mp H
                                        obtain ⟨⟨t197, t198⟩, A350, H⟩ := H
                                        replace H : ((targumref17_Plain.f k3 t185 (rdOf ByteArray.empty y187 x51_2) (rd y192 x62_3) (wrap64 ((wrap64 (Int.tmod a3 5)) - 1))).bind fun bt199 => (if t197.toList = bt199.1.toList then (if t198 = bt199.2 then ((plain_Part.f t185 (rdOf ByteArray.empty y187 x51_2) (rd y192 x62_3) false).bind fun t201 => ((targumref17_Part.f k3 t185 (rdOf ByteArray.empty y187 x51_2) (rd y192 x62_3) false).bind fun t202 => (if t201 = t202 then ((plain_Part.f t185 (rdOf ByteArray.empty y187 x51_2) (rd y192 x62_3) true).bind fun t203 => ((targumref17_Part.f k3 t185 (rdOf ByteArray.empty y187 x51_2) (rd y192 x62_3) true).bind fun t204 => (if t203 = t204 then (targumlaw20_PlainTells.l1 k3 a2 t185 (wrap64 ((wrap64 (Int.tmod a3 5)) - 1)) (rdOf ByteArray.empty y187 x51_2) y187 (y187.length : Int) x51_2 y192 (y192.length : Int) (wrap64 (x62_3 + 1))) else (some false)))) else (some false)))) else (some false)) else (some false))) = some r := H
                                        have A35 := Aside0.mk A350
                                        clear A350
                                        replace H := Option.bind_eq_some_iff.mp H
                                        obtain ⟨⟨t199, t200⟩, A360, H⟩ := H
                                        replace H : (if t197.toList = t199.toList then (if t198 = t200 then ((plain_Part.f t185 (rdOf ByteArray.empty y187 x51_2) (rd y192 x62_3) false).bind fun t201 => ((targumref17_Part.f k3 t185 (rdOf ByteArray.empty y187 x51_2) (rd y192 x62_3) false).bind fun t202 => (if t201 = t202 then ((plain_Part.f t185 (rdOf ByteArray.empty y187 x51_2) (rd y192 x62_3) true).bind fun t203 => ((targumref17_Part.f k3 t185 (rdOf ByteArray.empty y187 x51_2) (rd y192 x62_3) true).bind fun t204 => (if t203 = t204 then (targumlaw20_PlainTells.l1 k3 a2 t185 (wrap64 ((wrap64 (Int.tmod a3 5)) - 1)) (rdOf ByteArray.empty y187 x51_2) y187 (y187.length : Int) x51_2 y192 (y192.length : Int) (wrap64 (x62_3 + 1))) else (some false)))) else (some false)))) else (some false)) else (some false)) = some r := H
                                        have A36 := Aside0.mk A360
                                        clear A360
                                        by_cases c37 : t197.toList = t199.toList
                                        · rw [if_pos c37] at H
                                          have c37b0 : (t197.toList == t199.toList) = true := beq_iff_eq.mpr c37
                                          have c37b1 : (t197.toList != t199.toList) = false := bne_eq_false_iff_eq.mpr c37
                                          clear c37
                                          by_cases c38 : t198 = t200
                                          · rw [if_pos c38] at H
                                            have c38b0 : (t198 == t200) = true := beq_iff_eq.mpr c38
                                            have c38b1 : (t198 != t200) = false := bne_eq_false_iff_eq.mpr c38
                                            clear c38
                                            replace H := Option.bind_eq_some_iff.mp H
                                            obtain ⟨t201, A390, H⟩ := H
                                            replace H : ((targumref17_Part.f k3 t185 (rdOf ByteArray.empty y187 x51_2) (rd y192 x62_3) false).bind fun t202 => (if t201 = t202 then ((plain_Part.f t185 (rdOf ByteArray.empty y187 x51_2) (rd y192 x62_3) true).bind fun t203 => ((targumref17_Part.f k3 t185 (rdOf ByteArray.empty y187 x51_2) (rd y192 x62_3) true).bind fun t204 => (if t203 = t204 then (targumlaw20_PlainTells.l1 k3 a2 t185 (wrap64 ((wrap64 (Int.tmod a3 5)) - 1)) (rdOf ByteArray.empty y187 x51_2) y187 (y187.length : Int) x51_2 y192 (y192.length : Int) (wrap64 (x62_3 + 1))) else (some false)))) else (some false))) = some r := H
                                            have A39 := Aside0.mk A390
                                            clear A390
                                            replace H := Option.bind_eq_some_iff.mp H
                                            obtain ⟨t202, A400, H⟩ := H
                                            replace H : (if t201 = t202 then ((plain_Part.f t185 (rdOf ByteArray.empty y187 x51_2) (rd y192 x62_3) true).bind fun t203 => ((targumref17_Part.f k3 t185 (rdOf ByteArray.empty y187 x51_2) (rd y192 x62_3) true).bind fun t204 => (if t203 = t204 then (targumlaw20_PlainTells.l1 k3 a2 t185 (wrap64 ((wrap64 (Int.tmod a3 5)) - 1)) (rdOf ByteArray.empty y187 x51_2) y187 (y187.length : Int) x51_2 y192 (y192.length : Int) (wrap64 (x62_3 + 1))) else (some false)))) else (some false)) = some r := H
                                            have A40 := Aside0.mk A400
                                            clear A400
                                            by_cases c41 : t201 = t202
                                            · rw [if_pos c41] at H
                                              have c41b0 : (t201 == t202) = true := beq_iff_eq.mpr c41
                                              have c41b1 : (t201 != t202) = false := bne_eq_false_iff_eq.mpr c41
                                              clear c41
                                              replace H := Option.bind_eq_some_iff.mp H
                                              obtain ⟨t203, A420, H⟩ := H
                                              replace H : ((targumref17_Part.f k3 t185 (rdOf ByteArray.empty y187 x51_2) (rd y192 x62_3) true).bind fun t204 => (if t203 = t204 then (targumlaw20_PlainTells.l1 k3 a2 t185 (wrap64 ((wrap64 (Int.tmod a3 5)) - 1)) (rdOf ByteArray.empty y187 x51_2) y187 (y187.length : Int) x51_2 y192 (y192.length : Int) (wrap64 (x62_3 + 1))) else (some false))) = some r := H
                                              have A42 := Aside0.mk A420
                                              clear A420
                                              replace H := Option.bind_eq_some_iff.mp H
                                              obtain ⟨t204, A430, H⟩ := H
                                              replace H : (if t203 = t204 then (targumlaw20_PlainTells.l1 k3 a2 t185 (wrap64 ((wrap64 (Int.tmod a3 5)) - 1)) (rdOf ByteArray.empty y187 x51_2) y187 (y187.length : Int) x51_2 y192 (y192.length : Int) (wrap64 (x62_3 + 1))) else (some false)) = some r := H
                                              have A43 := Aside0.mk A430
                                              clear A430
                                              by_cases c44 : t203 = t204
                                              · rw [if_pos c44] at H
                                                have c44b0 : (t203 == t204) = true := beq_iff_eq.mpr c44
                                                have c44b1 : (t203 != t204) = false := bne_eq_false_iff_eq.mpr c44
                                                clear c44
                                                have H' := Aside0.mk H
                                                clear H
                                                have p195 : 0 ≤ (x62_3 : Int) := of_decide_eq_true (by first | (with_reducible assumption) | assumption)
                                                have q195 : x62_3 < (y192.length : Int) := of_decide_eq_true (by first | (with_reducible assumption) | assumption)
                                                obtain ⟨ad195, e195, hx195_0⟩ := Kd.at_int (Kd.R_reads' HO_60.out).2.2 x62_3 p195 q195
                                                cases e195
                                                replace p195 := eq_true p195
                                                replace q195 := eq_true q195
                                                go_wp2_with (first | ((with_reducible refine gate_callee (f := 20) rfl ?_); refine goesL_ (some 68) rfl rfl Tryd.func20 (by kernel_rfl) rfl #[.string (rdOf ByteArray.empty y187 x51_2), .int .i64 (rd y192 x62_3)] rfl (by (try simp only [List.map_toArray, List.map_cons, List.map_nil]); first | done | rfl | (simp only [List.length_drop, List.length_take]; rfl)) ?_; (with_reducible refine (targumhelp_Cut.calls (rdOf ByteArray.empty y187 x51_2) (rd y192 x62_3) false _ A33.out).mono ?_); rintro e w' ⟨rfl, ⟨nd, rfl⟩⟩; refine ⟨_, rfl, ?_⟩) | ((with_reducible refine gate_callee (f := 21) rfl ?_); refine goesL_ (some 74) rfl rfl Tryd.func21 (by kernel_rfl) rfl #[.int .i64 t185, .string (rdOf ByteArray.empty y187 x51_2), .int .i64 (rd y192 x62_3), .int .i64 (wrap64 ((wrap64 (Int.tmod a3 5)) - 1))] rfl (by (try simp only [List.map_toArray, List.map_cons, List.map_nil]); first | done | rfl | (simp only [List.length_drop, List.length_take]; rfl)) ?_; (with_reducible refine (plain_Read.calls t185 (rdOf ByteArray.empty y187 x51_2) (rd y192 x62_3) (wrap64 ((wrap64 (Int.tmod a3 5)) - 1)) t197 t198 _ A35.out).mono ?_); rintro e w45 ⟨rfl, hb⟩; refine ⟨_, rfl, ?_⟩; have n0_ := Aside0.mk (Kd.R_below (by (with_reducible repeat (first | apply Kd.R_alloc | apply Kd.R_drewN | apply Kd.R_drew)); exact HO_49.out) hb); have n1_ := Aside0.mk (Kd.R_below (by (with_reducible repeat (first | apply Kd.R_alloc | apply Kd.R_drewN | apply Kd.R_drew)); exact HO_60.out) hb); have n2_ := Aside0.mk (below_step (by repeat (first | (with_reducible first | exact HB.out | apply below_alloc | apply pw_below_drewN | apply below_drew1) | exact HB.out)) hb); clear HO_49; clear HO_60; clear HB; have HO_49 := n0_; have HO_60 := n1_; have HB := n2_; clear n0_ n1_ n2_; (try clear hb); (try clear hb2); (try clear hk); (try clear hi)) | ((with_reducible refine gate_callee (f := 22) rfl ?_); refine goesL_ (some 82) rfl rfl Tryd.func22 (by kernel_rfl) rfl #[.int .i64 t185, .string (rdOf ByteArray.empty y187 x51_2), .int .i64 (rd y192 x62_3), .int .i64 (wrap64 ((wrap64 (Int.tmod a3 5)) - 1))] rfl (by (try simp only [List.map_toArray, List.map_cons, List.map_nil]); first | done | rfl | (simp only [List.length_drop, List.length_take]; rfl)) ?_; (with_reducible refine (targumref17_Plain.calls k3 t185 (rdOf ByteArray.empty y187 x51_2) (rd y192 x62_3) (wrap64 ((wrap64 (Int.tmod a3 5)) - 1)) t199 t200 _ A36.out).mono ?_); rintro e w46 ⟨rfl, hb⟩; refine ⟨_, rfl, ?_⟩; have n0_ := Aside0.mk (Kd.R_below (by (with_reducible repeat (first | apply Kd.R_alloc | apply Kd.R_drewN | apply Kd.R_drew)); exact HO_49.out) hb); have n1_ := Aside0.mk (Kd.R_below (by (with_reducible repeat (first | apply Kd.R_alloc | apply Kd.R_drewN | apply Kd.R_drew)); exact HO_60.out) hb); have n2_ := Aside0.mk (below_step (by repeat (first | (with_reducible first | exact HB.out | apply below_alloc | apply pw_below_drewN | apply below_drew1) | exact HB.out)) hb); clear HO_49; clear HO_60; clear HB; have HO_49 := n0_; have HO_60 := n1_; have HB := n2_; clear n0_ n1_ n2_; (try clear hb); (try clear hb2); (try clear hk); (try clear hi)) | (go_at_call 23; (with_reducible refine (plain_Part.calls t185 (rdOf ByteArray.empty y187 x51_2) (rd y192 x62_3) false t201 _ A39.out).mono ?_); rintro e w' ⟨rfl, ⟨nd, rfl⟩⟩) | (go_at_call 24; (with_reducible refine (targumref17_Part.calls k3 t185 (rdOf ByteArray.empty y187 x51_2) (rd y192 x62_3) false t202 _ A40.out).mono ?_); rintro e w' ⟨rfl, ⟨nd, rfl⟩⟩) | (go_at_call 23; (with_reducible refine (plain_Part.calls t185 (rdOf ByteArray.empty y187 x51_2) (rd y192 x62_3) true t203 _ A42.out).mono ?_); rintro e w' ⟨rfl, ⟨nd, rfl⟩⟩) | (go_at_call 24; (with_reducible refine (targumref17_Part.calls k3 t185 (rdOf ByteArray.empty y187 x51_2) (rd y192 x62_3) true t204 _ A43.out).mono ?_); rintro e w' ⟨rfl, ⟨nd, rfl⟩⟩))
                                                go_roundg k3
                                                case measure => have := HJ7.out; have := HK2.out; have := HK3.out; omega
                                                case rel => exact ⟨(wrap64 (x62_3 + 1)), (by first | rfl | (simp; done) | (simp [*]; done)), H', ⟨by have := HJ7.out; have := HK2.out; have := HK3.out; omega⟩, ⟨by (with_reducible repeat (first | apply Kd.R_alloc | apply Kd.R_drewN | apply Kd.R_drew)); exact HO_49.out⟩, ⟨by (with_reducible repeat (first | apply Kd.R_alloc | apply Kd.R_drewN | apply Kd.R_drew)); exact HO_60.out⟩, ⟨by repeat (first | (with_reducible first | exact HB.out | apply below_alloc | apply pw_below_drewN | apply below_drew1) | exact HB.out)⟩⟩
                                              · rw [if_neg c44] at H
                                                have c44b0 : (t203 == t204) = false := beq_eq_false_iff_ne.mpr c44
                                                have c44b1 : (t203 != t204) = true := bne_iff_ne.mpr c44
                                                obtain rfl := Option.some.inj H
                                                have p195 : 0 ≤ (x62_3 : Int) := of_decide_eq_true (by first | (with_reducible assumption) | assumption)
                                                have q195 : x62_3 < (y192.length : Int) := of_decide_eq_true (by first | (with_reducible assumption) | assumption)
                                                obtain ⟨ad195, e195, hx195_0⟩ := Kd.at_int (Kd.R_reads' HO_60.out).2.2 x62_3 p195 q195
                                                cases e195
                                                replace p195 := eq_true p195
                                                replace q195 := eq_true q195
                                                go_wp2_with (first | ((with_reducible refine gate_callee (f := 20) rfl ?_); refine goesL_ (some 68) rfl rfl Tryd.func20 (by kernel_rfl) rfl #[.string (rdOf ByteArray.empty y187 x51_2), .int .i64 (rd y192 x62_3)] rfl (by (try simp only [List.map_toArray, List.map_cons, List.map_nil]); first | done | rfl | (simp only [List.length_drop, List.length_take]; rfl)) ?_; (with_reducible refine (targumhelp_Cut.calls (rdOf ByteArray.empty y187 x51_2) (rd y192 x62_3) false _ A33.out).mono ?_); rintro e w' ⟨rfl, ⟨nd, rfl⟩⟩; refine ⟨_, rfl, ?_⟩) | ((with_reducible refine gate_callee (f := 21) rfl ?_); refine goesL_ (some 74) rfl rfl Tryd.func21 (by kernel_rfl) rfl #[.int .i64 t185, .string (rdOf ByteArray.empty y187 x51_2), .int .i64 (rd y192 x62_3), .int .i64 (wrap64 ((wrap64 (Int.tmod a3 5)) - 1))] rfl (by (try simp only [List.map_toArray, List.map_cons, List.map_nil]); first | done | rfl | (simp only [List.length_drop, List.length_take]; rfl)) ?_; (with_reducible refine (plain_Read.calls t185 (rdOf ByteArray.empty y187 x51_2) (rd y192 x62_3) (wrap64 ((wrap64 (Int.tmod a3 5)) - 1)) t197 t198 _ A35.out).mono ?_); rintro e w47 ⟨rfl, hb⟩; refine ⟨_, rfl, ?_⟩; have n0_ := Aside0.mk (Kd.R_below (by (with_reducible repeat (first | apply Kd.R_alloc | apply Kd.R_drewN | apply Kd.R_drew)); exact HO_49.out) hb); have n1_ := Aside0.mk (Kd.R_below (by (with_reducible repeat (first | apply Kd.R_alloc | apply Kd.R_drewN | apply Kd.R_drew)); exact HO_60.out) hb); have n2_ := Aside0.mk (below_step (by repeat (first | (with_reducible first | exact HB.out | apply below_alloc | apply pw_below_drewN | apply below_drew1) | exact HB.out)) hb); clear HO_49; clear HO_60; clear HB; have HO_49 := n0_; have HO_60 := n1_; have HB := n2_; clear n0_ n1_ n2_; (try clear hb); (try clear hb2); (try clear hk); (try clear hi)) | ((with_reducible refine gate_callee (f := 22) rfl ?_); refine goesL_ (some 82) rfl rfl Tryd.func22 (by kernel_rfl) rfl #[.int .i64 t185, .string (rdOf ByteArray.empty y187 x51_2), .int .i64 (rd y192 x62_3), .int .i64 (wrap64 ((wrap64 (Int.tmod a3 5)) - 1))] rfl (by (try simp only [List.map_toArray, List.map_cons, List.map_nil]); first | done | rfl | (simp only [List.length_drop, List.length_take]; rfl)) ?_; (with_reducible refine (targumref17_Plain.calls k3 t185 (rdOf ByteArray.empty y187 x51_2) (rd y192 x62_3) (wrap64 ((wrap64 (Int.tmod a3 5)) - 1)) t199 t200 _ A36.out).mono ?_); rintro e w48 ⟨rfl, hb⟩; refine ⟨_, rfl, ?_⟩; have n0_ := Aside0.mk (Kd.R_below (by (with_reducible repeat (first | apply Kd.R_alloc | apply Kd.R_drewN | apply Kd.R_drew)); exact HO_49.out) hb); have n1_ := Aside0.mk (Kd.R_below (by (with_reducible repeat (first | apply Kd.R_alloc | apply Kd.R_drewN | apply Kd.R_drew)); exact HO_60.out) hb); have n2_ := Aside0.mk (below_step (by repeat (first | (with_reducible first | exact HB.out | apply below_alloc | apply pw_below_drewN | apply below_drew1) | exact HB.out)) hb); clear HO_49; clear HO_60; clear HB; have HO_49 := n0_; have HO_60 := n1_; have HB := n2_; clear n0_ n1_ n2_; (try clear hb); (try clear hb2); (try clear hk); (try clear hi)) | (go_at_call 23; (with_reducible refine (plain_Part.calls t185 (rdOf ByteArray.empty y187 x51_2) (rd y192 x62_3) false t201 _ A39.out).mono ?_); rintro e w' ⟨rfl, ⟨nd, rfl⟩⟩) | (go_at_call 24; (with_reducible refine (targumref17_Part.calls k3 t185 (rdOf ByteArray.empty y187 x51_2) (rd y192 x62_3) false t202 _ A40.out).mono ?_); rintro e w' ⟨rfl, ⟨nd, rfl⟩⟩) | (go_at_call 23; (with_reducible refine (plain_Part.calls t185 (rdOf ByteArray.empty y187 x51_2) (rd y192 x62_3) true t203 _ A42.out).mono ?_); rintro e w' ⟨rfl, ⟨nd, rfl⟩⟩) | (go_at_call 24; (with_reducible refine (targumref17_Part.calls k3 t185 (rdOf ByteArray.empty y187 x51_2) (rd y192 x62_3) true t204 _ A43.out).mono ?_); rintro e w' ⟨rfl, ⟨nd, rfl⟩⟩))
                                                go_ret
                                                exact ⟨by first | rfl | (simp [errW_none, errW_some] <;> rfl) | (simp [*, errW_none, errW_some] <;> rfl), by repeat (first | (with_reducible first | exact HB.out | apply below_alloc | apply pw_below_drewN | apply below_drew1) | exact HB.out)⟩
                                            · rw [if_neg c41] at H
                                              have c41b0 : (t201 == t202) = false := beq_eq_false_iff_ne.mpr c41
                                              have c41b1 : (t201 != t202) = true := bne_iff_ne.mpr c41
                                              obtain rfl := Option.some.inj H
                                              have p195 : 0 ≤ (x62_3 : Int) := of_decide_eq_true (by first | (with_reducible assumption) | assumption)
                                              have q195 : x62_3 < (y192.length : Int) := of_decide_eq_true (by first | (with_reducible assumption) | assumption)
                                              obtain ⟨ad195, e195, hx195_0⟩ := Kd.at_int (Kd.R_reads' HO_60.out).2.2 x62_3 p195 q195
                                              cases e195
                                              replace p195 := eq_true p195
                                              replace q195 := eq_true q195
                                              go_wp2_with (first | ((with_reducible refine gate_callee (f := 20) rfl ?_); refine goesL_ (some 68) rfl rfl Tryd.func20 (by kernel_rfl) rfl #[.string (rdOf ByteArray.empty y187 x51_2), .int .i64 (rd y192 x62_3)] rfl (by (try simp only [List.map_toArray, List.map_cons, List.map_nil]); first | done | rfl | (simp only [List.length_drop, List.length_take]; rfl)) ?_; (with_reducible refine (targumhelp_Cut.calls (rdOf ByteArray.empty y187 x51_2) (rd y192 x62_3) false _ A33.out).mono ?_); rintro e w' ⟨rfl, ⟨nd, rfl⟩⟩; refine ⟨_, rfl, ?_⟩) | ((with_reducible refine gate_callee (f := 21) rfl ?_); refine goesL_ (some 74) rfl rfl Tryd.func21 (by kernel_rfl) rfl #[.int .i64 t185, .string (rdOf ByteArray.empty y187 x51_2), .int .i64 (rd y192 x62_3), .int .i64 (wrap64 ((wrap64 (Int.tmod a3 5)) - 1))] rfl (by (try simp only [List.map_toArray, List.map_cons, List.map_nil]); first | done | rfl | (simp only [List.length_drop, List.length_take]; rfl)) ?_; (with_reducible refine (plain_Read.calls t185 (rdOf ByteArray.empty y187 x51_2) (rd y192 x62_3) (wrap64 ((wrap64 (Int.tmod a3 5)) - 1)) t197 t198 _ A35.out).mono ?_); rintro e w49 ⟨rfl, hb⟩; refine ⟨_, rfl, ?_⟩; have n0_ := Aside0.mk (Kd.R_below (by (with_reducible repeat (first | apply Kd.R_alloc | apply Kd.R_drewN | apply Kd.R_drew)); exact HO_49.out) hb); have n1_ := Aside0.mk (Kd.R_below (by (with_reducible repeat (first | apply Kd.R_alloc | apply Kd.R_drewN | apply Kd.R_drew)); exact HO_60.out) hb); have n2_ := Aside0.mk (below_step (by repeat (first | (with_reducible first | exact HB.out | apply below_alloc | apply pw_below_drewN | apply below_drew1) | exact HB.out)) hb); clear HO_49; clear HO_60; clear HB; have HO_49 := n0_; have HO_60 := n1_; have HB := n2_; clear n0_ n1_ n2_; (try clear hb); (try clear hb2); (try clear hk); (try clear hi)) | ((with_reducible refine gate_callee (f := 22) rfl ?_); refine goesL_ (some 82) rfl rfl Tryd.func22 (by kernel_rfl) rfl #[.int .i64 t185, .string (rdOf ByteArray.empty y187 x51_2), .int .i64 (rd y192 x62_3), .int .i64 (wrap64 ((wrap64 (Int.tmod a3 5)) - 1))] rfl (by (try simp only [List.map_toArray, List.map_cons, List.map_nil]); first | done | rfl | (simp only [List.length_drop, List.length_take]; rfl)) ?_; (with_reducible refine (targumref17_Plain.calls k3 t185 (rdOf ByteArray.empty y187 x51_2) (rd y192 x62_3) (wrap64 ((wrap64 (Int.tmod a3 5)) - 1)) t199 t200 _ A36.out).mono ?_); rintro e w50 ⟨rfl, hb⟩; refine ⟨_, rfl, ?_⟩; have n0_ := Aside0.mk (Kd.R_below (by (with_reducible repeat (first | apply Kd.R_alloc | apply Kd.R_drewN | apply Kd.R_drew)); exact HO_49.out) hb); have n1_ := Aside0.mk (Kd.R_below (by (with_reducible repeat (first | apply Kd.R_alloc | apply Kd.R_drewN | apply Kd.R_drew)); exact HO_60.out) hb); have n2_ := Aside0.mk (below_step (by repeat (first | (with_reducible first | exact HB.out | apply below_alloc | apply pw_below_drewN | apply below_drew1) | exact HB.out)) hb); clear HO_49; clear HO_60; clear HB; have HO_49 := n0_; have HO_60 := n1_; have HB := n2_; clear n0_ n1_ n2_; (try clear hb); (try clear hb2); (try clear hk); (try clear hi)) | (go_at_call 23; (with_reducible refine (plain_Part.calls t185 (rdOf ByteArray.empty y187 x51_2) (rd y192 x62_3) false t201 _ A39.out).mono ?_); rintro e w' ⟨rfl, ⟨nd, rfl⟩⟩) | (go_at_call 24; (with_reducible refine (targumref17_Part.calls k3 t185 (rdOf ByteArray.empty y187 x51_2) (rd y192 x62_3) false t202 _ A40.out).mono ?_); rintro e w' ⟨rfl, ⟨nd, rfl⟩⟩))
                                              go_ret
                                              exact ⟨by first | rfl | (simp [errW_none, errW_some] <;> rfl) | (simp [*, errW_none, errW_some] <;> rfl), by repeat (first | (with_reducible first | exact HB.out | apply below_alloc | apply pw_below_drewN | apply below_drew1) | exact HB.out)⟩
                                          · rw [if_neg c38] at H
                                            have c38b0 : (t198 == t200) = false := beq_eq_false_iff_ne.mpr c38
                                            have c38b1 : (t198 != t200) = true := bne_iff_ne.mpr c38
                                            obtain rfl := Option.some.inj H
                                            have p195 : 0 ≤ (x62_3 : Int) := of_decide_eq_true (by first | (with_reducible assumption) | assumption)
                                            have q195 : x62_3 < (y192.length : Int) := of_decide_eq_true (by first | (with_reducible assumption) | assumption)
                                            obtain ⟨ad195, e195, hx195_0⟩ := Kd.at_int (Kd.R_reads' HO_60.out).2.2 x62_3 p195 q195
                                            cases e195
                                            replace p195 := eq_true p195
                                            replace q195 := eq_true q195
                                            go_wp2_with (first | ((with_reducible refine gate_callee (f := 20) rfl ?_); refine goesL_ (some 68) rfl rfl Tryd.func20 (by kernel_rfl) rfl #[.string (rdOf ByteArray.empty y187 x51_2), .int .i64 (rd y192 x62_3)] rfl (by (try simp only [List.map_toArray, List.map_cons, List.map_nil]); first | done | rfl | (simp only [List.length_drop, List.length_take]; rfl)) ?_; (with_reducible refine (targumhelp_Cut.calls (rdOf ByteArray.empty y187 x51_2) (rd y192 x62_3) false _ A33.out).mono ?_); rintro e w' ⟨rfl, ⟨nd, rfl⟩⟩; refine ⟨_, rfl, ?_⟩) | ((with_reducible refine gate_callee (f := 21) rfl ?_); refine goesL_ (some 74) rfl rfl Tryd.func21 (by kernel_rfl) rfl #[.int .i64 t185, .string (rdOf ByteArray.empty y187 x51_2), .int .i64 (rd y192 x62_3), .int .i64 (wrap64 ((wrap64 (Int.tmod a3 5)) - 1))] rfl (by (try simp only [List.map_toArray, List.map_cons, List.map_nil]); first | done | rfl | (simp only [List.length_drop, List.length_take]; rfl)) ?_; (with_reducible refine (plain_Read.calls t185 (rdOf ByteArray.empty y187 x51_2) (rd y192 x62_3) (wrap64 ((wrap64 (Int.tmod a3 5)) - 1)) t197 t198 _ A35.out).mono ?_); rintro e w51 ⟨rfl, hb⟩; refine ⟨_, rfl, ?_⟩; have n0_ := Aside0.mk (Kd.R_below (by (with_reducible repeat (first | apply Kd.R_alloc | apply Kd.R_drewN | apply Kd.R_drew)); exact HO_49.out) hb); have n1_ := Aside0.mk (Kd.R_below (by (with_reducible repeat (first | apply Kd.R_alloc | apply Kd.R_drewN | apply Kd.R_drew)); exact HO_60.out) hb); have n2_ := Aside0.mk (below_step (by repeat (first | (with_reducible first | exact HB.out | apply below_alloc | apply pw_below_drewN | apply below_drew1) | exact HB.out)) hb); clear HO_49; clear HO_60; clear HB; have HO_49 := n0_; have HO_60 := n1_; have HB := n2_; clear n0_ n1_ n2_; (try clear hb); (try clear hb2); (try clear hk); (try clear hi)) | ((with_reducible refine gate_callee (f := 22) rfl ?_); refine goesL_ (some 82) rfl rfl Tryd.func22 (by kernel_rfl) rfl #[.int .i64 t185, .string (rdOf ByteArray.empty y187 x51_2), .int .i64 (rd y192 x62_3), .int .i64 (wrap64 ((wrap64 (Int.tmod a3 5)) - 1))] rfl (by (try simp only [List.map_toArray, List.map_cons, List.map_nil]); first | done | rfl | (simp only [List.length_drop, List.length_take]; rfl)) ?_; (with_reducible refine (targumref17_Plain.calls k3 t185 (rdOf ByteArray.empty y187 x51_2) (rd y192 x62_3) (wrap64 ((wrap64 (Int.tmod a3 5)) - 1)) t199 t200 _ A36.out).mono ?_); rintro e w52 ⟨rfl, hb⟩; refine ⟨_, rfl, ?_⟩; have n0_ := Aside0.mk (Kd.R_below (by (with_reducible repeat (first | apply Kd.R_alloc | apply Kd.R_drewN | apply Kd.R_drew)); exact HO_49.out) hb); have n1_ := Aside0.mk (Kd.R_below (by (with_reducible repeat (first | apply Kd.R_alloc | apply Kd.R_drewN | apply Kd.R_drew)); exact HO_60.out) hb); have n2_ := Aside0.mk (below_step (by repeat (first | (with_reducible first | exact HB.out | apply below_alloc | apply pw_below_drewN | apply below_drew1) | exact HB.out)) hb); clear HO_49; clear HO_60; clear HB; have HO_49 := n0_; have HO_60 := n1_; have HB := n2_; clear n0_ n1_ n2_; (try clear hb); (try clear hb2); (try clear hk); (try clear hi)))
                                            go_ret
                                            exact ⟨by first | rfl | (simp [errW_none, errW_some] <;> rfl) | (simp [*, errW_none, errW_some] <;> rfl), by repeat (first | (with_reducible first | exact HB.out | apply below_alloc | apply pw_below_drewN | apply below_drew1) | exact HB.out)⟩
                                        · rw [if_neg c37] at H
                                          have c37b0 : (t197.toList == t199.toList) = false := beq_eq_false_iff_ne.mpr c37
                                          have c37b1 : (t197.toList != t199.toList) = true := bne_iff_ne.mpr c37
                                          obtain rfl := Option.some.inj H
                                          have p195 : 0 ≤ (x62_3 : Int) := of_decide_eq_true (by first | (with_reducible assumption) | assumption)
                                          have q195 : x62_3 < (y192.length : Int) := of_decide_eq_true (by first | (with_reducible assumption) | assumption)
                                          obtain ⟨ad195, e195, hx195_0⟩ := Kd.at_int (Kd.R_reads' HO_60.out).2.2 x62_3 p195 q195
                                          cases e195
                                          replace p195 := eq_true p195
                                          replace q195 := eq_true q195
                                          go_wp2_with (first | ((with_reducible refine gate_callee (f := 20) rfl ?_); refine goesL_ (some 68) rfl rfl Tryd.func20 (by kernel_rfl) rfl #[.string (rdOf ByteArray.empty y187 x51_2), .int .i64 (rd y192 x62_3)] rfl (by (try simp only [List.map_toArray, List.map_cons, List.map_nil]); first | done | rfl | (simp only [List.length_drop, List.length_take]; rfl)) ?_; (with_reducible refine (targumhelp_Cut.calls (rdOf ByteArray.empty y187 x51_2) (rd y192 x62_3) false _ A33.out).mono ?_); rintro e w' ⟨rfl, ⟨nd, rfl⟩⟩; refine ⟨_, rfl, ?_⟩) | ((with_reducible refine gate_callee (f := 21) rfl ?_); refine goesL_ (some 74) rfl rfl Tryd.func21 (by kernel_rfl) rfl #[.int .i64 t185, .string (rdOf ByteArray.empty y187 x51_2), .int .i64 (rd y192 x62_3), .int .i64 (wrap64 ((wrap64 (Int.tmod a3 5)) - 1))] rfl (by (try simp only [List.map_toArray, List.map_cons, List.map_nil]); first | done | rfl | (simp only [List.length_drop, List.length_take]; rfl)) ?_; (with_reducible refine (plain_Read.calls t185 (rdOf ByteArray.empty y187 x51_2) (rd y192 x62_3) (wrap64 ((wrap64 (Int.tmod a3 5)) - 1)) t197 t198 _ A35.out).mono ?_); rintro e w53 ⟨rfl, hb⟩; refine ⟨_, rfl, ?_⟩; have n0_ := Aside0.mk (Kd.R_below (by (with_reducible repeat (first | apply Kd.R_alloc | apply Kd.R_drewN | apply Kd.R_drew)); exact HO_49.out) hb); have n1_ := Aside0.mk (Kd.R_below (by (with_reducible repeat (first | apply Kd.R_alloc | apply Kd.R_drewN | apply Kd.R_drew)); exact HO_60.out) hb); have n2_ := Aside0.mk (below_step (by repeat (first | (with_reducible first | exact HB.out | apply below_alloc | apply pw_below_drewN | apply below_drew1) | exact HB.out)) hb); clear HO_49; clear HO_60; clear HB; have HO_49 := n0_; have HO_60 := n1_; have HB := n2_; clear n0_ n1_ n2_; (try clear hb); (try clear hb2); (try clear hk); (try clear hi)) | ((with_reducible refine gate_callee (f := 22) rfl ?_); refine goesL_ (some 82) rfl rfl Tryd.func22 (by kernel_rfl) rfl #[.int .i64 t185, .string (rdOf ByteArray.empty y187 x51_2), .int .i64 (rd y192 x62_3), .int .i64 (wrap64 ((wrap64 (Int.tmod a3 5)) - 1))] rfl (by (try simp only [List.map_toArray, List.map_cons, List.map_nil]); first | done | rfl | (simp only [List.length_drop, List.length_take]; rfl)) ?_; (with_reducible refine (targumref17_Plain.calls k3 t185 (rdOf ByteArray.empty y187 x51_2) (rd y192 x62_3) (wrap64 ((wrap64 (Int.tmod a3 5)) - 1)) t199 t200 _ A36.out).mono ?_); rintro e w54 ⟨rfl, hb⟩; refine ⟨_, rfl, ?_⟩; have n0_ := Aside0.mk (Kd.R_below (by (with_reducible repeat (first | apply Kd.R_alloc | apply Kd.R_drewN | apply Kd.R_drew)); exact HO_49.out) hb); have n1_ := Aside0.mk (Kd.R_below (by (with_reducible repeat (first | apply Kd.R_alloc | apply Kd.R_drewN | apply Kd.R_drew)); exact HO_60.out) hb); have n2_ := Aside0.mk (below_step (by repeat (first | (with_reducible first | exact HB.out | apply below_alloc | apply pw_below_drewN | apply below_drew1) | exact HB.out)) hb); clear HO_49; clear HO_60; clear HB; have HO_49 := n0_; have HO_60 := n1_; have HB := n2_; clear n0_ n1_ n2_; (try clear hb); (try clear hb2); (try clear hk); (try clear hi)))
                                          go_ret
                                          exact ⟨by first | rfl | (simp [errW_none, errW_some] <;> rfl) | (simp [*, errW_none, errW_some] <;> rfl), by repeat (first | (with_reducible first | exact HB.out | apply below_alloc | apply pw_below_drewN | apply below_drew1) | exact HB.out)⟩
                                    · rw [if_neg c32] at H
                                      exact absurd H (by simp)
                                  · rw [if_neg c31] at H
                                    exact absurd H (by simp)
                                · rw [if_neg c30] at H
                                  have c30b0 : decide (x62_3 < (y192.length : Int)) = false := decide_eq_false c30
                                  clear c30
                                  have H' := Aside0.mk H
                                  clear H
                                  go_wp2
                                  go_roundg k3
                                  case measure => have := HJ7.out; have := HK2.out; have := HK3.out; omega
                                  case rel => exact ⟨(wrap64 (x51_2 + 1)), (by first | rfl | (simp; done) | (simp [*]; done)), H', ⟨by have := HJ7.out; have := HK2.out; have := HK3.out; omega⟩, ⟨by (with_reducible repeat (first | apply Kd.R_alloc | apply Kd.R_drewN | apply Kd.R_drew)); exact HO_49.out⟩, ⟨by repeat (first | (with_reducible first | exact HB.out | apply below_alloc | apply pw_below_drewN | apply below_drew1) | exact HB.out)⟩⟩
                          · rw [if_neg c25] at H
                            exact absurd H (by simp)
                        · rw [if_neg c24] at H
                          exact absurd H (by simp)
                      · rw [if_neg c23] at H
                        have c23b0 : decide (x51_2 < (y187.length : Int)) = false := decide_eq_false c23
                        clear c23
                        obtain rfl := Option.some.inj H
                        go_wp2
                        go_ret
                        exact ⟨by first | rfl | (simp [errW_none, errW_some] <;> rfl) | (simp [*, errW_none, errW_some] <;> rfl), by repeat (first | (with_reducible first | exact HB.out | apply below_alloc | apply pw_below_drewN | apply below_drew1) | exact HB.out)⟩
                · rw [if_neg c18] at H
                  exact absurd H (by simp)
              · rw [if_neg c17] at H
                exact absurd H (by simp)
            · rw [if_neg c16] at H
              exact absurd H (by simp)
          · rw [if_neg c15] at H
            exact absurd H (by simp)
  · replace c7 := Bool.eq_false_iff.mpr c7
    subst c7
    have H1 : (some false) = some r := by rw [if_neg (show ¬ (false = true) by decide)] at H; exact H
    clear H
    have H := H1
    clear H1
    obtain rfl := Option.some.inj H
    go_enter Tryd.func3, Tryd.ntmps3
    go_wp2_with (first | ((with_reducible refine gate_callee (f := 15) rfl ?_); refine goesL_ (some 22) rfl rfl Tryd.func15 (by kernel_rfl) rfl #[] rfl (by (try simp only [List.map_toArray, List.map_cons, List.map_nil]); first | done | rfl | (simp only [List.length_drop, List.length_take]; rfl)) ?_; (with_reducible refine (targumlaw20_known.calls  false _ A6.out).mono ?_); rintro e w55 ⟨rfl, hb⟩; refine ⟨_, rfl, ?_⟩; have n0_ := Aside0.mk (below_step (by repeat (first | (with_reducible first | exact HB.out | apply below_alloc | apply pw_below_drewN | apply below_drew1) | exact HB.out)) hb); clear HB; have HB := n0_; clear n0_; (try clear hb); (try clear hb2); (try clear hk); (try clear hi)))
    go_ret
    exact ⟨by first | rfl | (simp [errW_none, errW_some] <;> rfl) | (simp [*, errW_none, errW_some] <;> rfl), by repeat (first | (with_reducible first | exact HB.out | apply below_alloc | apply pw_below_drewN | apply below_drew1) | exact HB.out)⟩

/-- THE ONE PURE STATEMENT of targumlaw20_PlainTells: yours. -/
def targumlaw20_PlainTells.Pure : Prop := ∀ (a0 : ByteArray) (l1 : List Int) (a2 : Int) (a3 : Int) (a4 : Bool), a0.size ≤ 140737488351232 → l1.length ≤ maxLen → l1.length * 1 ≤ 140737488351232 → (∀ x ∈ l1, (Lit.int .u8 x).wf = true) → (Lit.int .i64 a2).wf = true → (Lit.int .u8 a3).wf = true → ∃ k, targumlaw20_PlainTells.f k a0 l1 a2 a3 a4 = some true
theorem targumlaw20_PlainTells.walk (P : targumlaw20_PlainTells.Pure) (a0 : ByteArray) (a1 : Option Addr) (len1 cap1 : Nat) (z1 : List Int) (a2 : Int) (a3 : Int) (a4 : Bool) (w : World) (w0 : a0.size ≤ 140737488351232) (w1 : (a1 = none ∧ len1 = 0 ∧ cap1 = 0 ∧ z1 = []) ∨ ∃ x, a1 = some x ∧ len1 ≤ cap1 ∧ cap1 ≤ maxLen ∧ z1.length = cap1 ∧ (∀ i, i < z1.length → w.cell? (x.add i) = some (.int .u8 (z1.getD i 0))) ∧ ∀ n ∈ z1, (Lit.int .u8 n).wf = true) (y1 : len1 * 1 ≤ 140737488351232) (w2 : (Lit.int .i64 a2).wf = true) (w3 : (Lit.int .u8 a3).wf = true) :
    Calls Tryd.prog 3 #[.string a0, .slice a1 len1 cap1, .int .i64 a2, .int .u8 a3, .bool a4] w fun e w' => e = .returned (.bool true) ∧ Below w.heap.size w w' := by
  obtain ⟨l1, rfl, hr1, hm1, hw1, hc1⟩ := ReadsInt.ofRowC w1
  obtain ⟨k, h⟩ := P a0 l1 a2 a3 a4 w0 hm1 y1 hw1 w2 w3
  refine (targumlaw20_PlainTells.calls k a0 _ _ l1 a2 a3 a4 true w (Kd.C_of_reads (d := (0 : Int)) (h1 := fun _ => rfl) hr1) hc1 h).mono ?_
  rintro e w' ⟨rfl, hd⟩
  exact ⟨rfl, hd⟩

end Go.Proofs.YtmfjdlmhejabiaaDoor.PL
