-- Written by wip/myprint.py (a program of this session's) over the kit's print.
import Derived.Test.YtmfjdlmhejabiaaDoorWRepsOne
import Derived.Test.YtmfjdlmhejabiaaDoorPLx0
import Derived.Test.YtmfjdlmhejabiaaDoorPLx1
import Derived.Test.YtmfjdlmhejabiaaDoorPLx3
import Derived.Test.YtmfjdlmhejabiaaDoorPLx4
import Derived.Test.YtmfjdlmhejabiaaDoorPLx9
import Derived.Test.YtmfjdlmhejabiaaDoorPLx14
namespace Go.Proofs.YtmfjdlmhejabiaaDoor.PL
open Go.Proofs.YtmfjdlmhejabiaaDoor.X
open Go.RowKit Go.Proofs.YtmfjdlmhejabiaaDoorW.PrintWords Go.Proofs.YtmfjdlmhejabiaaDoorW.PrintLast Go.Proofs.YtmfjdlmhejabiaaDoorW.PrintMore
attribute [local go_sem] max2_int min2_int max_two min_two max_three min_three max_four min_four   -- for this text's walks alone
set_option linter.unusedVariables false
set_option linter.unusedSimpArgs false

/-! ### targumlaw20_PlainCut: function 4 -/
mutual
def targumlaw20_PlainCut.j0 : Nat → ByteArray → List Int → Bool → Bool → Option (Bool)
  | 0, _, _, _, _ => none
  | k + 1, x0, x1, x2, x21 => if x21 = true then (some true) else ((targumhelp_Version.f x2).bind fun t207 => ((targumlaw20_text.f x1).bind fun t208 => ((targumlaw20_text.f x1).bind fun t209 => (if 1 + t209.size ≤ 9223372036854775807 then ((some (([x0, t208, (⟨#[97]⟩ : ByteArray) ++ t209] : List ByteArray) : List ByteArray)).bind fun y210 => (targumlaw20_PlainCut.l0 k t207 y210 (y210.length : Int) 0)) else (none)))))
def targumlaw20_PlainCut.l0 : Nat → Int → List ByteArray → Int → Int → Option (Bool)
  | 0, _, _, _, _ => none
  | k + 1, x7, x30, x31, x32 => if x32 < x31 then (if 0 ≤ x32 then (if x32 < (x30.length : Int) then ((plain_Part.f x7 (rdOf ByteArray.empty x30 x32) 0 false).bind fun t214 => ((plain_Part.f x7 (rdOf ByteArray.empty x30 x32) 0 true).bind fun t215 => (if t214 < (-1) then (targumlaw20_PlainCut.j2 k x7 (rdOf ByteArray.empty x30 x32) t214 t215 x30 x31 x32 true) else (if t214 = 0 then (targumlaw20_PlainCut.j2 k x7 (rdOf ByteArray.empty x30 x32) t214 t215 x30 x31 x32 true) else (if t214 > ((rdOf ByteArray.empty x30 x32).size : Int) then (targumlaw20_PlainCut.j2 k x7 (rdOf ByteArray.empty x30 x32) t214 t215 x30 x31 x32 true) else (if t215 > t214 then (targumlaw20_PlainCut.j2 k x7 (rdOf ByteArray.empty x30 x32) t214 t215 x30 x31 x32 true) else (if t215 < (-1) then (targumlaw20_PlainCut.j2 k x7 (rdOf ByteArray.empty x30 x32) t214 t215 x30 x31 x32 true) else (targumlaw20_PlainCut.j2 k x7 (rdOf ByteArray.empty x30 x32) t214 t215 x30 x31 x32 (t215 == 0))))))))) else (none)) else (none)) else (some true)
def targumlaw20_PlainCut.j2 : Nat → Int → ByteArray → Int → Int → List ByteArray → Int → Int → Bool → Option (Bool)
  | 0, _, _, _, _, _, _, _, _ => none
  | k + 1, x7, x9, x10, x11, x30, x31, x32, x66 => if x66 = true then (some false) else (if x10 > 0 then (if 0 ≤ x10 then (if x10 ≤ (x9.size : Int) then ((targumlaw20_closed.f (x9.extract 0 (x10 : Int).toNat)).bind fun t216 => (if t216 = true then ((plain_Part.f x7 (x9.extract 0 (x10 : Int).toNat) 0 false).bind fun t217 => (if t217 = x10 then ((targumref1_IsBlank.f x9 (wrap64 (x10 - 1))).bind fun t218 => (if t218 = true then (targumlaw20_PlainCut.j3 k x7 x9 x11 x30 x31 x32 true) else ((targumref1_Lines.f k x7 (x9.extract 0 (x10 : Int).toNat)).bind fun t219 => (targumlaw20_PlainCut.j3 k x7 x9 x11 x30 x31 x32 ((t219.length : Int) != 1))))) else (targumlaw20_PlainCut.j3 k x7 x9 x11 x30 x31 x32 true))) else ((targumref1_IsBlank.f x9 (wrap64 (x10 - 1))).bind fun t222 => (if t222 = true then (targumlaw20_PlainCut.j3 k x7 x9 x11 x30 x31 x32 true) else ((targumref1_Lines.f k x7 (x9.extract 0 (x10 : Int).toNat)).bind fun t223 => (targumlaw20_PlainCut.j3 k x7 x9 x11 x30 x31 x32 ((t223.length : Int) != 1))))))) else (none)) else (none)) else (targumlaw20_PlainCut.j3 k x7 x9 x11 x30 x31 x32 false))
def targumlaw20_PlainCut.j3 : Nat → Int → ByteArray → Int → List ByteArray → Int → Int → Bool → Option (Bool)
  | 0, _, _, _, _, _, _, _ => none
  | k + 1, x7, x9, x11, x30, x31, x32, x98 => if x98 = true then (some false) else (if x11 > 0 then (if 0 ≤ x11 then (if x11 ≤ (x9.size : Int) then ((targumlaw20_closed.f (x9.extract 0 (x11 : Int).toNat)).bind fun t226 => (if t226 = true then ((plain_Part.f x7 (x9.extract 0 (x11 : Int).toNat) 0 true).bind fun t227 => (if t227 = x11 then (targumlaw20_PlainCut.l0 k x7 x30 x31 (wrap64 (x32 + 1))) else (some false))) else (targumlaw20_PlainCut.l0 k x7 x30 x31 (wrap64 (x32 + 1))))) else (none)) else (none)) else (targumlaw20_PlainCut.l0 k x7 x30 x31 (wrap64 (x32 + 1))))
end
def targumlaw20_PlainCut.f (k : Nat) (a0 : ByteArray) (l1 : List Int) (a2 : Bool) : Option (Bool) := (targumlaw20_known.f).bind fun t205 => (if t205 = true then ((targumhelp_Few.f k a0 200).bind fun t206 => (if t206 = true then (targumlaw20_PlainCut.j0 k a0 l1 a2 (decide ((l1.length : Int) > 60))) else (targumlaw20_PlainCut.j0 k a0 l1 a2 true))) else (some false))
theorem targumlaw20_PlainCut.mono_l : ∀ k, (∀ y0 y1 y2 y3, LeO (targumlaw20_PlainCut.j0 k y0 y1 y2 y3) (targumlaw20_PlainCut.j0 (k + 1) y0 y1 y2 y3)) ∧ (∀ y0 y1 y2 y3, LeO (targumlaw20_PlainCut.l0 k y0 y1 y2 y3) (targumlaw20_PlainCut.l0 (k + 1) y0 y1 y2 y3)) ∧ (∀ y0 y1 y2 y3 y4 y5 y6 y7, LeO (targumlaw20_PlainCut.j2 k y0 y1 y2 y3 y4 y5 y6 y7) (targumlaw20_PlainCut.j2 (k + 1) y0 y1 y2 y3 y4 y5 y6 y7)) ∧ (∀ y0 y1 y2 y3 y4 y5 y6, LeO (targumlaw20_PlainCut.j3 k y0 y1 y2 y3 y4 y5 y6) (targumlaw20_PlainCut.j3 (k + 1) y0 y1 y2 y3 y4 y5 y6))
  | 0 => ⟨fun _ _ _ _ r h => by simp [targumlaw20_PlainCut.j0] at h, fun _ _ _ _ r h => by simp [targumlaw20_PlainCut.l0] at h, fun _ _ _ _ _ _ _ _ r h => by simp [targumlaw20_PlainCut.j2] at h, fun _ _ _ _ _ _ _ r h => by simp [targumlaw20_PlainCut.j3] at h⟩
  | k + 1 => by
    obtain ⟨ih0, ih1, ih2, ih3⟩ := targumlaw20_PlainCut.mono_l k
    refine ⟨?_, ?_, ?_, ?_⟩
    · intro y0 y1 y2 y3
      unfold targumlaw20_PlainCut.j0
      repeat' first
      | (with_reducible exact ih0 _ _ _ _)
      | (with_reducible exact ih1 _ _ _ _)
      | (with_reducible exact ih2 _ _ _ _ _ _ _ _)
      | (with_reducible exact ih3 _ _ _ _ _ _ _)
      | (with_reducible exact targumhelp_Few.mono _ _ _)
      | (with_reducible exact targumref1_Lines.mono _ _ _)
      | (with_reducible exact LeO.refl _)
      | (with_reducible exact LeO.none _)
      | (with_reducible refine LeO.ite ?_ ?_)
      | (with_reducible refine LeO.bind ?_ (fun _ => ?_))
      | exact ih0 _ _ _ _
      | exact ih1 _ _ _ _
      | exact ih2 _ _ _ _ _ _ _ _
      | exact ih3 _ _ _ _ _ _ _
      | exact targumhelp_Few.mono _ _ _
      | exact targumref1_Lines.mono _ _ _
      | exact LeO.none _
      | refine LeO.ite ?_ ?_
      | refine LeO.bind ?_ (fun _ => ?_)
    · intro y0 y1 y2 y3
      unfold targumlaw20_PlainCut.l0
      repeat' first
      | (with_reducible exact ih0 _ _ _ _)
      | (with_reducible exact ih1 _ _ _ _)
      | (with_reducible exact ih2 _ _ _ _ _ _ _ _)
      | (with_reducible exact ih3 _ _ _ _ _ _ _)
      | (with_reducible exact targumhelp_Few.mono _ _ _)
      | (with_reducible exact targumref1_Lines.mono _ _ _)
      | (with_reducible exact LeO.refl _)
      | (with_reducible exact LeO.none _)
      | (with_reducible refine LeO.ite ?_ ?_)
      | (with_reducible refine LeO.bind ?_ (fun _ => ?_))
      | exact ih0 _ _ _ _
      | exact ih1 _ _ _ _
      | exact ih2 _ _ _ _ _ _ _ _
      | exact ih3 _ _ _ _ _ _ _
      | exact targumhelp_Few.mono _ _ _
      | exact targumref1_Lines.mono _ _ _
      | exact LeO.none _
      | refine LeO.ite ?_ ?_
      | refine LeO.bind ?_ (fun _ => ?_)
    · intro y0 y1 y2 y3 y4 y5 y6 y7
      unfold targumlaw20_PlainCut.j2
      repeat' first
      | (with_reducible exact ih0 _ _ _ _)
      | (with_reducible exact ih1 _ _ _ _)
      | (with_reducible exact ih2 _ _ _ _ _ _ _ _)
      | (with_reducible exact ih3 _ _ _ _ _ _ _)
      | (with_reducible exact targumhelp_Few.mono _ _ _)
      | (with_reducible exact targumref1_Lines.mono _ _ _)
      | (with_reducible exact LeO.refl _)
      | (with_reducible exact LeO.none _)
      | (with_reducible refine LeO.ite ?_ ?_)
      | (with_reducible refine LeO.bind ?_ (fun _ => ?_))
      | exact ih0 _ _ _ _
      | exact ih1 _ _ _ _
      | exact ih2 _ _ _ _ _ _ _ _
      | exact ih3 _ _ _ _ _ _ _
      | exact targumhelp_Few.mono _ _ _
      | exact targumref1_Lines.mono _ _ _
      | exact LeO.none _
      | refine LeO.ite ?_ ?_
      | refine LeO.bind ?_ (fun _ => ?_)
    · intro y0 y1 y2 y3 y4 y5 y6
      unfold targumlaw20_PlainCut.j3
      repeat' first
      | (with_reducible exact ih0 _ _ _ _)
      | (with_reducible exact ih1 _ _ _ _)
      | (with_reducible exact ih2 _ _ _ _ _ _ _ _)
      | (with_reducible exact ih3 _ _ _ _ _ _ _)
      | (with_reducible exact targumhelp_Few.mono _ _ _)
      | (with_reducible exact targumref1_Lines.mono _ _ _)
      | (with_reducible exact LeO.refl _)
      | (with_reducible exact LeO.none _)
      | (with_reducible refine LeO.ite ?_ ?_)
      | (with_reducible refine LeO.bind ?_ (fun _ => ?_))
      | exact ih0 _ _ _ _
      | exact ih1 _ _ _ _
      | exact ih2 _ _ _ _ _ _ _ _
      | exact ih3 _ _ _ _ _ _ _
      | exact targumhelp_Few.mono _ _ _
      | exact targumref1_Lines.mono _ _ _
      | exact LeO.none _
      | refine LeO.ite ?_ ?_
      | refine LeO.bind ?_ (fun _ => ?_)
theorem targumlaw20_PlainCut.mono : ∀ a0 a1 a2 k, LeO (targumlaw20_PlainCut.f k a0 a1 a2) (targumlaw20_PlainCut.f (k + 1) a0 a1 a2) := by
  intro a0 a1 a2 k
  obtain ⟨ih0, ih1, ih2, ih3⟩ := targumlaw20_PlainCut.mono_l k
  unfold targumlaw20_PlainCut.f
  repeat' first
      | (with_reducible exact ih0 _ _ _ _)
      | (with_reducible exact ih1 _ _ _ _)
      | (with_reducible exact ih2 _ _ _ _ _ _ _ _)
      | (with_reducible exact ih3 _ _ _ _ _ _ _)
      | (with_reducible exact targumhelp_Few.mono _ _ _)
      | (with_reducible exact targumref1_Lines.mono _ _ _)
      | (with_reducible exact LeO.refl _)
      | (with_reducible exact LeO.none _)
      | (with_reducible refine LeO.ite ?_ ?_)
      | (with_reducible refine LeO.bind ?_ (fun _ => ?_))
      | exact ih0 _ _ _ _
      | exact ih1 _ _ _ _
      | exact ih2 _ _ _ _ _ _ _ _
      | exact ih3 _ _ _ _ _ _ _
      | exact targumhelp_Few.mono _ _ _
      | exact targumref1_Lines.mono _ _ _
      | exact LeO.none _
      | refine LeO.ite ?_ ?_
      | refine LeO.bind ?_ (fun _ => ?_)
set_option maxHeartbeats 8000000 in
set_option maxRecDepth 100000 in
theorem targumlaw20_PlainCut.calls (k : Nat) (a0 : ByteArray) (A1 : Option Addr) (c1 : Nat) (l1 : List Int) (a2 : Bool) (r : Bool) (w : World) (hr1 : Kd.C (Kd.int .u8) w A1 l1.length l1) (hc1 : l1.length ≤ c1) (h : targumlaw20_PlainCut.f k a0 l1 a2 = some r) :
    Calls Tryd.prog 4 #[.string a0, .slice A1 l1.length c1, .bool a2] w fun e w' => e = .returned (.bool r) ∧ Below w.heap.size w w' := by
  have HR1 := Aside0.mk hr1
  have HC1 := Aside0.mk hc1
  clear hr1 hc1
  have HB := Aside0.mk (Below.refl w.heap.size w)
  have H : ((targumlaw20_known.f).bind fun t205 => (if t205 = true then ((targumhelp_Few.f k a0 200).bind fun t206 => (if t206 = true then (targumlaw20_PlainCut.j0 k a0 l1 a2 (decide ((l1.length : Int) > 60))) else (targumlaw20_PlainCut.j0 k a0 l1 a2 true))) else (some false))) = some r := h
  clear h
  replace H := Option.bind_eq_some_iff.mp H
  obtain ⟨t205, A40, H⟩ := H
  replace H : (if t205 = true then ((targumhelp_Few.f k a0 200).bind fun t206 => (if t206 = true then (targumlaw20_PlainCut.j0 k a0 l1 a2 (decide ((l1.length : Int) > 60))) else (targumlaw20_PlainCut.j0 k a0 l1 a2 true))) else (some false)) = some r := H
  have A4 := Aside0.mk A40
  clear A40
  by_cases c5 : t205 = true
  · subst c5
    have H1 : ((targumhelp_Few.f k a0 200).bind fun t206 => (if t206 = true then (targumlaw20_PlainCut.j0 k a0 l1 a2 (decide ((l1.length : Int) > 60))) else (targumlaw20_PlainCut.j0 k a0 l1 a2 true))) = some r := by rw [if_pos rfl] at H; exact H
    clear H
    have H := H1
    clear H1
    have HC6 := Aside0.mk H
    clear H
    go_enter Tryd.func4, Tryd.ntmps4
    go_upto_region 3 with (first | ((with_reducible refine gate_callee (f := 15) rfl ?_); refine goesL_ (some 12) rfl rfl Tryd.func15 (by kernel_rfl) rfl #[] rfl (by (try simp only [List.map_toArray, List.map_cons, List.map_nil]); first | done | rfl | (simp only [List.length_drop, List.length_take]; rfl)) ?_; (with_reducible refine (targumlaw20_known.calls  true _ A4.out).mono ?_); rintro e w7 ⟨rfl, hb⟩; refine ⟨_, rfl, ?_⟩; have n0_ := Aside0.mk (below_step (by repeat (first | (with_reducible first | exact HB.out | apply below_alloc | apply pw_below_drewN | apply below_drew1) | exact HB.out)) hb); clear HB; have HB := n0_; clear n0_; (try clear hb); (try clear hb2); (try clear hk); (try clear hi)))
    (try simp only [Act.put, List.setIfInBounds_toArray, List.set_cons_zero, List.set_cons_succ])
    go_cut [21] (fun v21 wc => ∃ (kq : Nat) (x21_5 : Bool), v21 = .bool x21_5 ∧ Aside0 (targumlaw20_PlainCut.j0 kq a0 l1 a2 x21_5 = some r) ∧ Aside0 (kq ≤ k) ∧ Aside0 (Below w.heap.size w wc))
    case first =>
      have H := HC6.out
      clear HC6
      replace H := Option.bind_eq_some_iff.mp H
      obtain ⟨t206, A80, H⟩ := H
      replace H : (if t206 = true then (targumlaw20_PlainCut.j0 k a0 l1 a2 (decide ((l1.length : Int) > 60))) else (targumlaw20_PlainCut.j0 k a0 l1 a2 true)) = some r := H
      have A8 := Aside0.mk A80
      clear A80
      by_cases c9 : t206 = true
      · subst c9
        have H1 : (targumlaw20_PlainCut.j0 k a0 l1 a2 (decide ((l1.length : Int) > 60))) = some r := by rw [if_pos rfl] at H; exact H
        clear H
        have H := H1
        clear H1
        have H' := Aside0.mk H
        clear H
        go_wp2_with (first | ((with_reducible refine gate_callee (f := 16) rfl ?_); refine goesL_ (some 15) rfl rfl Tryd.func16 (by kernel_rfl) rfl #[.string a0, .int .i64 200] rfl (by (try simp only [List.map_toArray, List.map_cons, List.map_nil]); first | done | rfl | (simp only [List.length_drop, List.length_take]; rfl)) ?_; (with_reducible refine (targumhelp_Few.calls k a0 200 true _ A8.out).mono ?_); rintro e w' ⟨rfl, ⟨nd, rfl⟩⟩; refine ⟨_, rfl, ?_⟩))
        go_meet
        case rel => exact ⟨_, (decide ((l1.length : Int) > 60)), (by first | rfl | (simp; done) | (simp [*]; done)), H', ⟨by first | omega | exact Nat.le_refl _⟩, ⟨by repeat (first | (with_reducible first | exact HB.out | apply below_alloc | apply pw_below_drewN | apply below_drew1) | exact HB.out)⟩⟩
      · replace c9 := Bool.eq_false_iff.mpr c9
        subst c9
        have H1 : (targumlaw20_PlainCut.j0 k a0 l1 a2 true) = some r := by rw [if_neg (show ¬ (false = true) by decide)] at H; exact H
        clear H
        have H := H1
        clear H1
        have H' := Aside0.mk H
        clear H
        go_wp2_with (first | ((with_reducible refine gate_callee (f := 16) rfl ?_); refine goesL_ (some 15) rfl rfl Tryd.func16 (by kernel_rfl) rfl #[.string a0, .int .i64 200] rfl (by (try simp only [List.map_toArray, List.map_cons, List.map_nil]); first | done | rfl | (simp only [List.length_drop, List.length_take]; rfl)) ?_; (with_reducible refine (targumhelp_Few.calls k a0 200 false _ A8.out).mono ?_); rintro e w' ⟨rfl, ⟨nd, rfl⟩⟩; refine ⟨_, rfl, ?_⟩))
        go_meet
        case rel => exact ⟨_, (true), (by first | rfl | (simp; done) | (simp [*]; done)), H', ⟨by first | omega | exact Nat.le_refl _⟩, ⟨by repeat (first | (with_reducible first | exact HB.out | apply below_alloc | apply pw_below_drewN | apply below_drew1) | exact HB.out)⟩⟩
    case rest =>
      clear HC6
      try clear c1
      try clear p2
      try clear c4
      try clear c5
      try clear c9
      obtain ⟨kq, x21_5, rfl, HA, HJ5, HB⟩ := hcut
      cases kq with
      | zero => exact absurd HA.out (by simp [targumlaw20_PlainCut.j0])
      | succ kj5 =>
        have H := HA.out
        clear HA
        simp only [targumlaw20_PlainCut.j0] at H
        by_cases c10 : x21_5 = true
        · subst c10
          have H1 : (some true) = some r := by rw [if_pos rfl] at H; exact H
          clear H
          have H := H1
          clear H1
          obtain rfl := Option.some.inj H
          go_wp2
          go_ret
          exact ⟨by first | rfl | (simp [errW_none, errW_some] <;> rfl) | (simp [*, errW_none, errW_some] <;> rfl), by repeat (first | (with_reducible first | exact HB.out | apply below_alloc | apply pw_below_drewN | apply below_drew1) | exact HB.out)⟩
        · replace c10 := Bool.eq_false_iff.mpr c10
          subst c10
          have H1 : ((targumhelp_Version.f a2).bind fun t207 => ((targumlaw20_text.f l1).bind fun t208 => ((targumlaw20_text.f l1).bind fun t209 => (if 1 + t209.size ≤ 9223372036854775807 then ((some (([a0, t208, (⟨#[97]⟩ : ByteArray) ++ t209] : List ByteArray) : List ByteArray)).bind fun y210 => (targumlaw20_PlainCut.l0 kj5 t207 y210 (y210.length : Int) 0)) else (none))))) = some r := by rw [if_neg (show ¬ (false = true) by decide)] at H; exact H
          clear H
          have H := H1
          clear H1
          replace H := Option.bind_eq_some_iff.mp H
          obtain ⟨t207, A110, H⟩ := H
          replace H : ((targumlaw20_text.f l1).bind fun t208 => ((targumlaw20_text.f l1).bind fun t209 => (if 1 + t209.size ≤ 9223372036854775807 then ((some (([a0, t208, (⟨#[97]⟩ : ByteArray) ++ t209] : List ByteArray) : List ByteArray)).bind fun y210 => (targumlaw20_PlainCut.l0 kj5 t207 y210 (y210.length : Int) 0)) else (none)))) = some r := H
          have A11 := Aside0.mk A110
          clear A110
          replace H := Option.bind_eq_some_iff.mp H
          obtain ⟨t208, A120, H⟩ := H
          replace H : ((targumlaw20_text.f l1).bind fun t209 => (if 1 + t209.size ≤ 9223372036854775807 then ((some (([a0, t208, (⟨#[97]⟩ : ByteArray) ++ t209] : List ByteArray) : List ByteArray)).bind fun y210 => (targumlaw20_PlainCut.l0 kj5 t207 y210 (y210.length : Int) 0)) else (none))) = some r := H
          have A12 := Aside0.mk A120
          clear A120
          replace H := Option.bind_eq_some_iff.mp H
          obtain ⟨t209, A130, H⟩ := H
          replace H : (if 1 + t209.size ≤ 9223372036854775807 then ((some (([a0, t208, (⟨#[97]⟩ : ByteArray) ++ t209] : List ByteArray) : List ByteArray)).bind fun y210 => (targumlaw20_PlainCut.l0 kj5 t207 y210 (y210.length : Int) 0)) else (none)) = some r := H
          have A13 := Aside0.mk A130
          clear A130
          by_cases c14 : 1 + t209.size ≤ 9223372036854775807
          · rw [if_pos c14] at H
            have c14b0 := eq_true c14
            have c14b1 : decide (1 + t209.size ≤ 9223372036854775807) = true := decide_eq_true c14
            try have c14b2 : (9223372036854775807 < 1 + t209.size) = False := eq_false (Nat.not_lt.2 c14)
            obtain ⟨y210, hy210⟩ : ∃ y_ : List ByteArray, y_ = (([a0, t208, (⟨#[97]⟩ : ByteArray) ++ t209] : List ByteArray)) := ⟨_, rfl⟩
            replace H : (targumlaw20_PlainCut.l0 kj5 t207 y210 (y210.length : Int) 0) = some r := by first | (rw [hy210]; with_reducible exact H) | (have H2_ := (Option.bind_some _ _).symm.trans H; rw [hy210]; with_reducible exact H2_) | (have H2_ := (Option.bind_some _ _).symm.trans H; with_reducible exact H2_) | with_reducible exact H | (rw [hy210]; exact H) | exact H
            have Ny210 := Aside0.mk hy210
            clear hy210
            have H' := Aside0.mk H
            clear H
            go_wp2_with (first | ((with_reducible refine gate_callee (f := 17) rfl ?_); refine goesL_ (some 23) rfl rfl Tryd.func17 (by kernel_rfl) rfl #[.bool a2] rfl (by (try simp only [List.map_toArray, List.map_cons, List.map_nil]); first | done | rfl | (simp only [List.length_drop, List.length_take]; rfl)) ?_; (with_reducible refine (targumhelp_Version.calls a2 t207 _ A11.out).mono ?_); rintro e w' ⟨rfl, ⟨nd, rfl⟩⟩; refine ⟨_, rfl, ?_⟩) | ((with_reducible refine gate_callee (f := 18) rfl ?_); refine goesL_ (some 26) rfl rfl Tryd.func18 (by kernel_rfl) rfl #[.slice A1 l1.length c1] rfl (by (try simp only [List.map_toArray, List.map_cons, List.map_nil]); first | done | rfl | (simp only [List.length_drop, List.length_take]; rfl)) ?_; (with_reducible refine (targumlaw20_text.calls _ _ l1 t208 _ ?side1 ?side2 A12.out).mono ?_); (case side1 => repeat (first | exact (Kd.C_below HR1.out (by repeat (first | (with_reducible first | exact HB.out | apply below_alloc | apply pw_below_drewN | apply below_drew1) | exact HB.out))) | (with_reducible refine Kd.C_alloc ?_ _) | (with_reducible refine Kd.C_drewN ?_ _) | (with_reducible refine Kd.C_drew ?_))); (case side2 => exact HC1.out); rintro e w15 ⟨rfl, hb⟩; refine ⟨_, rfl, ?_⟩; have n0_ := Aside0.mk (below_step (by repeat (first | (with_reducible first | exact HB.out | apply below_alloc | apply pw_below_drewN | apply below_drew1) | exact HB.out)) hb); clear HB; have HB := n0_; clear n0_; (try clear hb); (try clear hb2); (try clear hk); (try clear hi)) | ((with_reducible refine gate_callee (f := 18) rfl ?_); refine goesL_ (some 28) rfl rfl Tryd.func18 (by kernel_rfl) rfl #[.slice A1 l1.length c1] rfl (by (try simp only [List.map_toArray, List.map_cons, List.map_nil]); first | done | rfl | (simp only [List.length_drop, List.length_take]; rfl)) ?_; (with_reducible refine (targumlaw20_text.calls _ _ l1 t209 _ ?side1 ?side2 A13.out).mono ?_); (case side1 => repeat (first | exact (Kd.C_below HR1.out HB.out) | (with_reducible refine Kd.C_alloc ?_ _) | (with_reducible refine Kd.C_drewN ?_ _) | (with_reducible refine Kd.C_drew ?_))); (case side2 => exact HC1.out); rintro e w16 ⟨rfl, hb⟩; refine ⟨_, rfl, ?_⟩; have n0_ := Aside0.mk (below_step (by repeat (first | (with_reducible first | exact HB.out | apply below_alloc | apply pw_below_drewN | apply below_drew1) | exact HB.out)) hb); clear HB; have HB := n0_; clear n0_; (try clear hb); (try clear hb2); (try clear hk); (try clear hi)) | ((with_reducible refine gate_dst (N := 30) rfl ?_); (try (refine gate_guard (by rfl) ?_; dsimp only)); refine Kd.R_lit Kd.string _ 9 ?hg (N := 30) ?hd (xs := ([a0, t208, (⟨#[97]⟩ : ByteArray) ++ t209] : List ByteArray)) (inner := [.string a0, .string t208, .string ((⟨#[97]⟩ : ByteArray) ++ t209)]) (ok := fun _ => True) (okp := fun _ => True) ?hr ?hp (fun _ hk => hk) trivial (Below.refl _ _) (Nat.le_refl _) (by simp) ?_; (case hd => rfl); (case hg => rfl); (case hr => first | (go_simp; done) | (go_simp; rfl)); (case hp => exact (Reps.one (show Kd.M Kd.string _ _ _ a0 [.string a0] from rfl) (Reps.one (show Kd.M Kd.string _ _ _ t208 [.string t208] from rfl) (Reps.one (show Kd.M Kd.string _ _ _ ((⟨#[97]⟩ : ByteArray) ++ t209) [.string ((⟨#[97]⟩ : ByteArray) ++ t209)] from rfl) (Reps.none _ _))))); intro v211 w17 ho18 hb hg_ hnew_; clear hg_ hnew_; (first | rw [← Ny210.out] at ho18 | (simp only [Int.reduceToNat] at ho18; rw [← Ny210.out] at ho18)); have n0_ := Aside0.mk (Kd.R_lower ho18 (below_size (by repeat (first | (with_reducible first | exact HB.out | apply below_alloc | apply pw_below_drewN | apply below_drew1) | exact HB.out)))); have n1_ := Aside0.mk (below_step (by repeat (first | (with_reducible first | exact HB.out | apply below_alloc | apply pw_below_drewN | apply below_drew1) | exact HB.out)) hb); clear HB; have HO212 := n0_; have HB := n1_; clear n0_ n1_; clear hb ho18; obtain ⟨Ao19, co19, eo19⟩ := Kd.R_slice HO212.out; subst eo19))
            go_loopg [32] kj5 (fun kq v32 w' => ∃ (x32_2 : Int), v32 = .int .i64 x32_2 ∧ Aside0 (targumlaw20_PlainCut.l0 kq t207 y210 (y210.length : Int) x32_2 = some r) ∧ Aside0 (kq ≤ kj5) ∧ Aside0 (Kd.R Kd.string 9 w' w.heap.size (fun _ => True) (.slice Ao19 y210.length co19) y210) ∧ Aside0 (Below w.heap.size w w'))
            case atStart => exact ⟨(0), (by first | rfl | (simp; done) | (simp [*]; done)), H', ⟨Nat.le_refl _⟩, ⟨by (with_reducible repeat (first | apply Kd.R_alloc | apply Kd.R_drewN | apply Kd.R_drew)); exact HO212.out⟩, ⟨by repeat (first | (with_reducible first | exact HB.out | apply below_alloc | apply pw_below_drewN | apply below_drew1) | exact HB.out)⟩⟩
            case round =>
              clear H'
              try clear c1
              try clear p2
              try clear c4
              try clear c5
              try clear c9
              try clear c10
              try clear c14
              try clear c14b0
              try clear c14b1
              try clear c14b2
              try clear c15
              try clear c16
              try clear c17
              try clear c18
              try clear p2
              obtain ⟨x32_2, rfl, HA, HK2, HO_30, HB⟩ := hrel
              cases gk with
              | zero => exact absurd HA.out (by simp [targumlaw20_PlainCut.l0])
              | succ k2 =>
                have H := HA.out
                clear HA
                simp only [targumlaw20_PlainCut.l0] at H
                by_cases c20 : x32_2 < (y210.length : Int)
                · rw [if_pos c20] at H
                  have c20b0 : decide (x32_2 < (y210.length : Int)) = true := decide_eq_true c20
                  clear c20
                  by_cases c21 : 0 ≤ x32_2
                  · rw [if_pos c21] at H
                    have c21b0 : decide (0 ≤ x32_2) = true := decide_eq_true c21
                    clear c21
                    by_cases c22 : x32_2 < (y210.length : Int)
                    · rw [if_pos c22] at H
                      have c22b0 : decide (x32_2 < (y210.length : Int)) = true := decide_eq_true c22
                      clear c22
                      replace H := Option.bind_eq_some_iff.mp H
                      obtain ⟨t214, A230, H⟩ := H
                      replace H : ((plain_Part.f t207 (rdOf ByteArray.empty y210 x32_2) 0 true).bind fun t215 => (if t214 < (-1) then (targumlaw20_PlainCut.j2 k2 t207 (rdOf ByteArray.empty y210 x32_2) t214 t215 y210 (y210.length : Int) x32_2 true) else (if t214 = 0 then (targumlaw20_PlainCut.j2 k2 t207 (rdOf ByteArray.empty y210 x32_2) t214 t215 y210 (y210.length : Int) x32_2 true) else (if t214 > ((rdOf ByteArray.empty y210 x32_2).size : Int) then (targumlaw20_PlainCut.j2 k2 t207 (rdOf ByteArray.empty y210 x32_2) t214 t215 y210 (y210.length : Int) x32_2 true) else (if t215 > t214 then (targumlaw20_PlainCut.j2 k2 t207 (rdOf ByteArray.empty y210 x32_2) t214 t215 y210 (y210.length : Int) x32_2 true) else (if t215 < (-1) then (targumlaw20_PlainCut.j2 k2 t207 (rdOf ByteArray.empty y210 x32_2) t214 t215 y210 (y210.length : Int) x32_2 true) else (targumlaw20_PlainCut.j2 k2 t207 (rdOf ByteArray.empty y210 x32_2) t214 t215 y210 (y210.length : Int) x32_2 (t215 == 0)))))))) = some r := H
                      have A23 := Aside0.mk A230
                      clear A230
                      replace H := Option.bind_eq_some_iff.mp H
                      obtain ⟨t215, A240, H⟩ := H
                      replace H : (if t214 < (-1) then (targumlaw20_PlainCut.j2 k2 t207 (rdOf ByteArray.empty y210 x32_2) t214 t215 y210 (y210.length : Int) x32_2 true) else (if t214 = 0 then (targumlaw20_PlainCut.j2 k2 t207 (rdOf ByteArray.empty y210 x32_2) t214 t215 y210 (y210.length : Int) x32_2 true) else (if t214 > ((rdOf ByteArray.empty y210 x32_2).size : Int) then (targumlaw20_PlainCut.j2 k2 t207 (rdOf ByteArray.empty y210 x32_2) t214 t215 y210 (y210.length : Int) x32_2 true) else (if t215 > t214 then (targumlaw20_PlainCut.j2 k2 t207 (rdOf ByteArray.empty y210 x32_2) t214 t215 y210 (y210.length : Int) x32_2 true) else (if t215 < (-1) then (targumlaw20_PlainCut.j2 k2 t207 (rdOf ByteArray.empty y210 x32_2) t214 t215 y210 (y210.length : Int) x32_2 true) else (targumlaw20_PlainCut.j2 k2 t207 (rdOf ByteArray.empty y210 x32_2) t214 t215 y210 (y210.length : Int) x32_2 (t215 == 0))))))) = some r := H
                      have A24 := Aside0.mk A240
                      clear A240
                      have HC25 := Aside0.mk H
                      clear H
                      have p213 : 0 ≤ (x32_2 : Int) := of_decide_eq_true (by first | (with_reducible assumption) | assumption)
                      have q213 : x32_2 < (y210.length : Int) := of_decide_eq_true (by first | (with_reducible assumption) | assumption)
                      obtain ⟨ad213, e213, hx213_0⟩ := Kd.at_string (Kd.R_reads' HO_30.out).2.2 x32_2 p213 q213
                      cases e213
                      replace p213 := eq_true p213
                      replace q213 := eq_true q213
                      go_upto_region 10 with (first | ((with_reducible refine gate_callee (f := 23) rfl ?_); refine goesL_ (some 38) rfl rfl Tryd.func23 (by kernel_rfl) rfl #[.int .i64 t207, .string (rdOf ByteArray.empty y210 x32_2), .int .i64 0, .bool false] rfl (by (try simp only [List.map_toArray, List.map_cons, List.map_nil]); first | done | rfl | (simp only [List.length_drop, List.length_take]; rfl)) ?_; (with_reducible refine (plain_Part.calls t207 (rdOf ByteArray.empty y210 x32_2) 0 false t214 _ A23.out).mono ?_); rintro e w' ⟨rfl, ⟨nd, rfl⟩⟩; refine ⟨_, rfl, ?_⟩) | ((with_reducible refine gate_callee (f := 23) rfl ?_); refine goesL_ (some 41) rfl rfl Tryd.func23 (by kernel_rfl) rfl #[.int .i64 t207, .string (rdOf ByteArray.empty y210 x32_2), .int .i64 0, .bool true] rfl (by (try simp only [List.map_toArray, List.map_cons, List.map_nil]); first | done | rfl | (simp only [List.length_drop, List.length_take]; rfl)) ?_; (with_reducible refine (plain_Part.calls t207 (rdOf ByteArray.empty y210 x32_2) 0 true t215 _ A24.out).mono ?_); rintro e w' ⟨rfl, ⟨nd, rfl⟩⟩; refine ⟨_, rfl, ?_⟩))
                      (try simp only [Act.put, List.setIfInBounds_toArray, List.set_cons_zero, List.set_cons_succ])
                      go_cut [66] (fun v66 wc => ∃ (kq : Nat) (x66_24 : Bool), v66 = .bool x66_24 ∧ Aside0 (targumlaw20_PlainCut.j2 kq t207 (rdOf ByteArray.empty y210 x32_2) t214 t215 y210 (y210.length : Int) x32_2 x66_24 = some r) ∧ Aside0 (kq ≤ k2) ∧ Aside0 (Kd.R Kd.string 9 wc w.heap.size (fun _ => True) (.slice (some ad213) y210.length co19) y210) ∧ Aside0 (Below w.heap.size w wc))
                      case first =>
                        have H := HC25.out
                        clear HC25
                        by_cases c26 : t214 < (-1)
                        · rw [if_pos c26] at H
                          have c26b0 : decide (t214 < (-1)) = true := decide_eq_true c26
                          clear c26
                          (first | rw [c26b0] | (simp only [i64_w, i32_w]; rw [c26b0]) | skip)
                          have H' := Aside0.mk H
                          clear H
                          go_wp2
                          go_meet
                          case rel => exact ⟨_, (true), (by first | rfl | (simp; done) | (simp [*]; done)), H', ⟨by have := HJ5.out; have := HK2.out; first | omega | exact Nat.le_refl _⟩, ⟨by (with_reducible repeat (first | apply Kd.R_alloc | apply Kd.R_drewN | apply Kd.R_drew)); exact HO_30.out⟩, ⟨by repeat (first | (with_reducible first | exact HB.out | apply below_alloc | apply pw_below_drewN | apply below_drew1) | exact HB.out)⟩⟩
                        · rw [if_neg c26] at H
                          have c26b0 : decide (t214 < (-1)) = false := decide_eq_false c26
                          clear c26
                          (first | rw [c26b0] | (simp only [i64_w, i32_w]; rw [c26b0]) | skip)
                          by_cases c27 : t214 = 0
                          · rw [if_pos c27] at H
                            have c27b0 : (t214 == 0) = true := beq_iff_eq.mpr c27
                            have c27b1 : (t214 != 0) = false := bne_eq_false_iff_eq.mpr c27
                            clear c27
                            have H' := Aside0.mk H
                            clear H
                            go_wp2
                            go_meet
                            case rel => exact ⟨_, (true), (by first | rfl | (simp; done) | (simp [*]; done)), H', ⟨by have := HJ5.out; have := HK2.out; first | omega | exact Nat.le_refl _⟩, ⟨by (with_reducible repeat (first | apply Kd.R_alloc | apply Kd.R_drewN | apply Kd.R_drew)); exact HO_30.out⟩, ⟨by repeat (first | (with_reducible first | exact HB.out | apply below_alloc | apply pw_below_drewN | apply below_drew1) | exact HB.out)⟩⟩
                          · rw [if_neg c27] at H
                            have c27b0 : (t214 == 0) = false := beq_eq_false_iff_ne.mpr c27
                            have c27b1 : (t214 != 0) = true := bne_iff_ne.mpr c27
                            by_cases c28 : t214 > ((rdOf ByteArray.empty y210 x32_2).size : Int)
                            · rw [if_pos c28] at H
                              have c28b0 : decide (((rdOf ByteArray.empty y210 x32_2).size : Int) < t214) = true := decide_eq_true c28
                              clear c28
                              have H' := Aside0.mk H
                              clear H
                              go_wp2
                              go_meet
                              case rel => exact ⟨_, (true), (by first | rfl | (simp; done) | (simp [*]; done)), H', ⟨by have := HJ5.out; have := HK2.out; first | omega | exact Nat.le_refl _⟩, ⟨by (with_reducible repeat (first | apply Kd.R_alloc | apply Kd.R_drewN | apply Kd.R_drew)); exact HO_30.out⟩, ⟨by repeat (first | (with_reducible first | exact HB.out | apply below_alloc | apply pw_below_drewN | apply below_drew1) | exact HB.out)⟩⟩
                            · rw [if_neg c28] at H
                              have c28b0 : decide (((rdOf ByteArray.empty y210 x32_2).size : Int) < t214) = false := decide_eq_false c28
                              clear c28
                              by_cases c29 : t215 > t214
                              · rw [if_pos c29] at H
                                have c29b0 : decide (t214 < t215) = true := decide_eq_true c29
                                clear c29
                                have H' := Aside0.mk H
                                clear H
                                go_wp2
                                go_meet
                                case rel => exact ⟨_, (true), (by first | rfl | (simp; done) | (simp [*]; done)), H', ⟨by have := HJ5.out; have := HK2.out; first | omega | exact Nat.le_refl _⟩, ⟨by (with_reducible repeat (first | apply Kd.R_alloc | apply Kd.R_drewN | apply Kd.R_drew)); exact HO_30.out⟩, ⟨by repeat (first | (with_reducible first | exact HB.out | apply below_alloc | apply pw_below_drewN | apply below_drew1) | exact HB.out)⟩⟩
                              · rw [if_neg c29] at H
                                have c29b0 : decide (t214 < t215) = false := decide_eq_false c29
                                clear c29
                                by_cases c30 : t215 < (-1)
                                · rw [if_pos c30] at H
                                  have c30b0 : decide (t215 < (-1)) = true := decide_eq_true c30
                                  clear c30
                                  have H' := Aside0.mk H
                                  clear H
                                  go_wp2
                                  go_meet
                                  case rel => exact ⟨_, (true), (by first | rfl | (simp; done) | (simp [*]; done)), H', ⟨by have := HJ5.out; have := HK2.out; first | omega | exact Nat.le_refl _⟩, ⟨by (with_reducible repeat (first | apply Kd.R_alloc | apply Kd.R_drewN | apply Kd.R_drew)); exact HO_30.out⟩, ⟨by repeat (first | (with_reducible first | exact HB.out | apply below_alloc | apply pw_below_drewN | apply below_drew1) | exact HB.out)⟩⟩
                                · rw [if_neg c30] at H
                                  have c30b0 : decide (t215 < (-1)) = false := decide_eq_false c30
                                  clear c30
                                  have H' := Aside0.mk H
                                  clear H
                                  go_wp2
                                  go_meet
                                  case rel => exact ⟨_, ((t215 == 0)), (by first | rfl | (simp; done) | (simp [*]; done)), H', ⟨by have := HJ5.out; have := HK2.out; first | omega | exact Nat.le_refl _⟩, ⟨by (with_reducible repeat (first | apply Kd.R_alloc | apply Kd.R_drewN | apply Kd.R_drew)); exact HO_30.out⟩, ⟨by repeat (first | (with_reducible first | exact HB.out | apply below_alloc | apply pw_below_drewN | apply below_drew1) | exact HB.out)⟩⟩
                      case rest =>
                        clear HC25
                        try clear c1
                        try clear c2
                        try clear p2
                        try clear q2
                        try clear hx2
                        try clear c3
                        try clear c4
                        try clear c5
                        try clear c9
                        try clear c10
                        try clear c14
                        try clear c14b0
                        try clear c14b1
                        try clear c14b2
                        try clear c15
                        try clear c16
                        try clear c17
                        try clear c18
                        try clear c20
                        try clear c20b0
                        try clear c21
                        try clear c21b0
                        try clear p21
                        try clear q21
                        try clear hx21
                        try clear c22
                        try clear c22b0
                        try clear c23
                        try clear c26
                        try clear c26b0
                        try clear c27
                        try clear c27b0
                        try clear c27b1
                        try clear c28
                        try clear c28b0
                        try clear c29
                        try clear c29b0
                        try clear c30
                        try clear c30b0
                        try clear hx213_0
                        try clear p2
                        try clear p213
                        try clear q213
                        obtain ⟨kq, x66_24, rfl, HA, HJ24, HO_30, HB⟩ := hcut
                        cases kq with
                        | zero => exact absurd HA.out (by simp [targumlaw20_PlainCut.j2])
                        | succ kj24 =>
                          have H := HA.out
                          clear HA
                          simp only [targumlaw20_PlainCut.j2] at H
                          by_cases c31 : x66_24 = true
                          · subst c31
                            have H1 : (some false) = some r := by rw [if_pos rfl] at H; exact H
                            clear H
                            have H := H1
                            clear H1
                            obtain rfl := Option.some.inj H
                            go_wp2
                            go_ret
                            exact ⟨by first | rfl | (simp [errW_none, errW_some] <;> rfl) | (simp [*, errW_none, errW_some] <;> rfl), by repeat (first | (with_reducible first | exact HB.out | apply below_alloc | apply pw_below_drewN | apply below_drew1) | exact HB.out)⟩
                          · replace c31 := Bool.eq_false_iff.mpr c31
                            subst c31
                            have H1 : (if t214 > 0 then (if 0 ≤ t214 then (if t214 ≤ ((rdOf ByteArray.empty y210 x32_2).size : Int) then ((targumlaw20_closed.f ((rdOf ByteArray.empty y210 x32_2).extract 0 (t214 : Int).toNat)).bind fun t216 => (if t216 = true then ((plain_Part.f t207 ((rdOf ByteArray.empty y210 x32_2).extract 0 (t214 : Int).toNat) 0 false).bind fun t217 => (if t217 = t214 then ((targumref1_IsBlank.f (rdOf ByteArray.empty y210 x32_2) (wrap64 (t214 - 1))).bind fun t218 => (if t218 = true then (targumlaw20_PlainCut.j3 kj24 t207 (rdOf ByteArray.empty y210 x32_2) t215 y210 (y210.length : Int) x32_2 true) else ((targumref1_Lines.f kj24 t207 ((rdOf ByteArray.empty y210 x32_2).extract 0 (t214 : Int).toNat)).bind fun t219 => (targumlaw20_PlainCut.j3 kj24 t207 (rdOf ByteArray.empty y210 x32_2) t215 y210 (y210.length : Int) x32_2 ((t219.length : Int) != 1))))) else (targumlaw20_PlainCut.j3 kj24 t207 (rdOf ByteArray.empty y210 x32_2) t215 y210 (y210.length : Int) x32_2 true))) else ((targumref1_IsBlank.f (rdOf ByteArray.empty y210 x32_2) (wrap64 (t214 - 1))).bind fun t222 => (if t222 = true then (targumlaw20_PlainCut.j3 kj24 t207 (rdOf ByteArray.empty y210 x32_2) t215 y210 (y210.length : Int) x32_2 true) else ((targumref1_Lines.f kj24 t207 ((rdOf ByteArray.empty y210 x32_2).extract 0 (t214 : Int).toNat)).bind fun t223 => (targumlaw20_PlainCut.j3 kj24 t207 (rdOf ByteArray.empty y210 x32_2) t215 y210 (y210.length : Int) x32_2 ((t223.length : Int) != 1))))))) else (none)) else (none)) else (targumlaw20_PlainCut.j3 kj24 t207 (rdOf ByteArray.empty y210 x32_2) t215 y210 (y210.length : Int) x32_2 false)) = some r := by rw [if_neg (show ¬ (false = true) by decide)] at H; exact H
                            clear H
                            have H := H1
                            clear H1
                            have HC32 := Aside0.mk H
                            clear H
                            go_upto_region 12 with (fail)
                            go_cut [98] (fun v98 wc => ∃ (kq : Nat) (x98_31 : Bool), v98 = .bool x98_31 ∧ Aside0 (targumlaw20_PlainCut.j3 kq t207 (rdOf ByteArray.empty y210 x32_2) t215 y210 (y210.length : Int) x32_2 x98_31 = some r) ∧ Aside0 (kq ≤ kj24) ∧ Aside0 (Kd.R Kd.string 9 wc w.heap.size (fun _ => True) (.slice (some ad213) y210.length co19) y210) ∧ Aside0 (Below w.heap.size w wc))
                            case first =>
                              have H := HC32.out
                              clear HC32
                              by_cases c33 : t214 > 0
                              · rw [if_pos c33] at H
                                have c33b0 : decide (0 < t214) = true := decide_eq_true c33
                                clear c33
                                (first | rw [c33b0] | (simp only [i64_w, i32_w]; rw [c33b0]) | skip)
                                by_cases c34 : 0 ≤ t214
                                · rw [if_pos c34] at H
                                  have c34b0 := eq_true c34
                                  have c34b1 : decide (0 ≤ t214) = true := decide_eq_true c34
                                  clear c34
                                  by_cases c35 : t214 ≤ ((rdOf ByteArray.empty y210 x32_2).size : Int)
                                  · rw [if_pos c35] at H
                                    have c35b0 := eq_true c35
                                    have c35b1 : decide (t214 ≤ ((rdOf ByteArray.empty y210 x32_2).size : Int)) = true := decide_eq_true c35
                                    clear c35
                                    replace H := Option.bind_eq_some_iff.mp H
                                    obtain ⟨t216, A360, H⟩ := H
                                    replace H : (if t216 = true then ((plain_Part.f t207 ((rdOf ByteArray.empty y210 x32_2).extract 0 (t214 : Int).toNat) 0 false).bind fun t217 => (if t217 = t214 then ((targumref1_IsBlank.f (rdOf ByteArray.empty y210 x32_2) (wrap64 (t214 - 1))).bind fun t218 => (if t218 = true then (targumlaw20_PlainCut.j3 kj24 t207 (rdOf ByteArray.empty y210 x32_2) t215 y210 (y210.length : Int) x32_2 true) else ((targumref1_Lines.f kj24 t207 ((rdOf ByteArray.empty y210 x32_2).extract 0 (t214 : Int).toNat)).bind fun t219 => (targumlaw20_PlainCut.j3 kj24 t207 (rdOf ByteArray.empty y210 x32_2) t215 y210 (y210.length : Int) x32_2 ((t219.length : Int) != 1))))) else (targumlaw20_PlainCut.j3 kj24 t207 (rdOf ByteArray.empty y210 x32_2) t215 y210 (y210.length : Int) x32_2 true))) else ((targumref1_IsBlank.f (rdOf ByteArray.empty y210 x32_2) (wrap64 (t214 - 1))).bind fun t222 => (if t222 = true then (targumlaw20_PlainCut.j3 kj24 t207 (rdOf ByteArray.empty y210 x32_2) t215 y210 (y210.length : Int) x32_2 true) else ((targumref1_Lines.f kj24 t207 ((rdOf ByteArray.empty y210 x32_2).extract 0 (t214 : Int).toNat)).bind fun t223 => (targumlaw20_PlainCut.j3 kj24 t207 (rdOf ByteArray.empty y210 x32_2) t215 y210 (y210.length : Int) x32_2 ((t223.length : Int) != 1)))))) = some r := H
                                    have A36 := Aside0.mk A360
                                    clear A360
                                    by_cases c37 : t216 = true
                                    · subst c37
                                      have H1 : ((plain_Part.f t207 ((rdOf ByteArray.empty y210 x32_2).extract 0 (t214 : Int).toNat) 0 false).bind fun t217 => (if t217 = t214 then ((targumref1_IsBlank.f (rdOf ByteArray.empty y210 x32_2) (wrap64 (t214 - 1))).bind fun t218 => (if t218 = true then (targumlaw20_PlainCut.j3 kj24 t207 (rdOf ByteArray.empty y210 x32_2) t215 y210 (y210.length : Int) x32_2 true) else ((targumref1_Lines.f kj24 t207 ((rdOf ByteArray.empty y210 x32_2).extract 0 (t214 : Int).toNat)).bind fun t219 => (targumlaw20_PlainCut.j3 kj24 t207 (rdOf ByteArray.empty y210 x32_2) t215 y210 (y210.length : Int) x32_2 ((t219.length : Int) != 1))))) else (targumlaw20_PlainCut.j3 kj24 t207 (rdOf ByteArray.empty y210 x32_2) t215 y210 (y210.length : Int) x32_2 true))) = some r := by rw [if_pos rfl] at H; exact H
                                      clear H
                                      have H := H1
                                      clear H1
                                      have c38b0 := eq_true (of_decide_eq_true (by first | (with_reducible assumption) | assumption) : 0 ≤ t214)
                                      have c39b0 := eq_true (of_decide_eq_true (by first | (with_reducible assumption) | assumption) : t214 ≤ ((rdOf ByteArray.empty y210 x32_2).size : Int))
                                      replace H := Option.bind_eq_some_iff.mp H
                                      obtain ⟨t217, A400, H⟩ := H
                                      replace H : (if t217 = t214 then ((targumref1_IsBlank.f (rdOf ByteArray.empty y210 x32_2) (wrap64 (t214 - 1))).bind fun t218 => (if t218 = true then (targumlaw20_PlainCut.j3 kj24 t207 (rdOf ByteArray.empty y210 x32_2) t215 y210 (y210.length : Int) x32_2 true) else ((targumref1_Lines.f kj24 t207 ((rdOf ByteArray.empty y210 x32_2).extract 0 (t214 : Int).toNat)).bind fun t219 => (targumlaw20_PlainCut.j3 kj24 t207 (rdOf ByteArray.empty y210 x32_2) t215 y210 (y210.length : Int) x32_2 ((t219.length : Int) != 1))))) else (targumlaw20_PlainCut.j3 kj24 t207 (rdOf ByteArray.empty y210 x32_2) t215 y210 (y210.length : Int) x32_2 true)) = some r := H
                                      have A40 := Aside0.mk A400
                                      clear A400
                                      by_cases c41 : t217 = t214
                                      · rw [if_pos c41] at H
                                        have c41b0 : (t217 == t214) = true := beq_iff_eq.mpr c41
                                        have c41b1 : (t217 != t214) = false := bne_eq_false_iff_eq.mpr c41
                                        clear c41
                                        replace H := Option.bind_eq_some_iff.mp H
                                        obtain ⟨t218, A420, H⟩ := H
                                        replace H : (if t218 = true then (targumlaw20_PlainCut.j3 kj24 t207 (rdOf ByteArray.empty y210 x32_2) t215 y210 (y210.length : Int) x32_2 true) else ((targumref1_Lines.f kj24 t207 ((rdOf ByteArray.empty y210 x32_2).extract 0 (t214 : Int).toNat)).bind fun t219 => (targumlaw20_PlainCut.j3 kj24 t207 (rdOf ByteArray.empty y210 x32_2) t215 y210 (y210.length : Int) x32_2 ((t219.length : Int) != 1)))) = some r := H
                                        have A42 := Aside0.mk A420
                                        clear A420
                                        by_cases c43 : t218 = true
                                        · subst c43
                                          have H1 : (targumlaw20_PlainCut.j3 kj24 t207 (rdOf ByteArray.empty y210 x32_2) t215 y210 (y210.length : Int) x32_2 true) = some r := by rw [if_pos rfl] at H; exact H
                                          clear H
                                          have H := H1
                                          clear H1
                                          have H' := Aside0.mk H
                                          clear H
                                          go_wp2_with (first | (go_at_call 25; (with_reducible refine (targumlaw20_closed.calls ((rdOf ByteArray.empty y210 x32_2).extract 0 (t214 : Int).toNat) true _ A36.out).mono ?_); rintro e w' ⟨rfl, ⟨nd, rfl⟩⟩) | (go_at_call 23; (with_reducible refine (plain_Part.calls t207 ((rdOf ByteArray.empty y210 x32_2).extract 0 (t214 : Int).toNat) 0 false t217 _ A40.out).mono ?_); rintro e w' ⟨rfl, ⟨nd, rfl⟩⟩) | (go_at_call 26; (with_reducible refine (targumref1_IsBlank.calls (rdOf ByteArray.empty y210 x32_2) (wrap64 (t214 - 1)) true _ A42.out).mono ?_); rintro e w' ⟨rfl, ⟨nd, rfl⟩⟩))
                                          go_meet
                                          case rel => exact ⟨_, (true), (by first | rfl | (simp; done) | (simp [*]; done)), H', ⟨by have := HJ5.out; have := HK2.out; have := HJ24.out; first | omega | exact Nat.le_refl _⟩, ⟨by (with_reducible repeat (first | apply Kd.R_alloc | apply Kd.R_drewN | apply Kd.R_drew)); exact HO_30.out⟩, ⟨by repeat (first | (with_reducible first | exact HB.out | apply below_alloc | apply pw_below_drewN | apply below_drew1) | exact HB.out)⟩⟩
                                        · replace c43 := Bool.eq_false_iff.mpr c43
                                          subst c43
                                          have H1 : ((targumref1_Lines.f kj24 t207 ((rdOf ByteArray.empty y210 x32_2).extract 0 (t214 : Int).toNat)).bind fun t219 => (targumlaw20_PlainCut.j3 kj24 t207 (rdOf ByteArray.empty y210 x32_2) t215 y210 (y210.length : Int) x32_2 ((t219.length : Int) != 1))) = some r := by rw [if_neg (show ¬ (false = true) by decide)] at H; exact H
                                          clear H
                                          have H := H1
                                          clear H1
                                          have c44b0 := eq_true (of_decide_eq_true (by first | (with_reducible assumption) | assumption) : 0 ≤ t214)
                                          have c45b0 := eq_true (of_decide_eq_true (by first | (with_reducible assumption) | assumption) : t214 ≤ ((rdOf ByteArray.empty y210 x32_2).size : Int))
                                          replace H := Option.bind_eq_some_iff.mp H
                                          obtain ⟨t219, A460, H⟩ := H
                                          replace H : (targumlaw20_PlainCut.j3 kj24 t207 (rdOf ByteArray.empty y210 x32_2) t215 y210 (y210.length : Int) x32_2 ((t219.length : Int) != 1)) = some r := H
                                          have A46 := Aside0.mk A460
                                          clear A460
                                          have H' := Aside0.mk H
                                          clear H
                                          go_wp2_with (first | (go_at_call 25; (with_reducible refine (targumlaw20_closed.calls ((rdOf ByteArray.empty y210 x32_2).extract 0 (t214 : Int).toNat) true _ A36.out).mono ?_); rintro e w' ⟨rfl, ⟨nd, rfl⟩⟩) | (go_at_call 23; (with_reducible refine (plain_Part.calls t207 ((rdOf ByteArray.empty y210 x32_2).extract 0 (t214 : Int).toNat) 0 false t217 _ A40.out).mono ?_); rintro e w' ⟨rfl, ⟨nd, rfl⟩⟩) | (go_at_call 26; (with_reducible refine (targumref1_IsBlank.calls (rdOf ByteArray.empty y210 x32_2) (wrap64 (t214 - 1)) false _ A42.out).mono ?_); rintro e w' ⟨rfl, ⟨nd, rfl⟩⟩) | (go_at_call 27; (with_reducible refine (targumref1_Lines.calls kj24 t207 ((rdOf ByteArray.empty y210 x32_2).extract 0 (t214 : Int).toNat) t219 _ A46.out).mono ?_); rintro e w47 ⟨v220, rfl, ho0, hb⟩; have n0_ := Aside0.mk (Kd.R_below (by (with_reducible repeat (first | apply Kd.R_alloc | apply Kd.R_drewN | apply Kd.R_drew)); exact HO_30.out) hb); have n1_ := Aside0.mk (Kd.R_lower ho0 (below_size (by repeat (first | (with_reducible first | exact HB.out | apply below_alloc | apply pw_below_drewN | apply below_drew1) | exact HB.out)))); have n2_ := Aside0.mk (below_step (by repeat (first | (with_reducible first | exact HB.out | apply below_alloc | apply pw_below_drewN | apply below_drew1) | exact HB.out)) hb); clear HO_30; clear HB; have HO_30 := n0_; have HO221 := n1_; have HB := n2_; clear n0_ n1_ n2_; (try clear hb); (try clear hb2); (try clear hk); (try clear hi); (try clear ho0); obtain ⟨Ao48, co48, eo48⟩ := Kd.R_slice HO221.out; subst eo48))
                                          go_meet
                                          case rel => exact ⟨_, (((t219.length : Int) != 1)), (by first | rfl | (simp; done) | (simp [*]; done)), H', ⟨by have := HJ5.out; have := HK2.out; have := HJ24.out; first | omega | exact Nat.le_refl _⟩, ⟨by (with_reducible repeat (first | apply Kd.R_alloc | apply Kd.R_drewN | apply Kd.R_drew)); exact HO_30.out⟩, ⟨by repeat (first | (with_reducible first | exact HB.out | apply below_alloc | apply pw_below_drewN | apply below_drew1) | exact HB.out)⟩⟩
                                      · rw [if_neg c41] at H
                                        have c41b0 : (t217 == t214) = false := beq_eq_false_iff_ne.mpr c41
                                        have c41b1 : (t217 != t214) = true := bne_iff_ne.mpr c41
                                        have H' := Aside0.mk H
                                        clear H
                                        go_wp2_with (first | (go_at_call 25; (with_reducible refine (targumlaw20_closed.calls ((rdOf ByteArray.empty y210 x32_2).extract 0 (t214 : Int).toNat) true _ A36.out).mono ?_); rintro e w' ⟨rfl, ⟨nd, rfl⟩⟩) | (go_at_call 23; (with_reducible refine (plain_Part.calls t207 ((rdOf ByteArray.empty y210 x32_2).extract 0 (t214 : Int).toNat) 0 false t217 _ A40.out).mono ?_); rintro e w' ⟨rfl, ⟨nd, rfl⟩⟩))
                                        go_meet
                                        case rel => exact ⟨_, (true), (by first | rfl | (simp; done) | (simp [*]; done)), H', ⟨by have := HJ5.out; have := HK2.out; have := HJ24.out; first | omega | exact Nat.le_refl _⟩, ⟨by (with_reducible repeat (first | apply Kd.R_alloc | apply Kd.R_drewN | apply Kd.R_drew)); exact HO_30.out⟩, ⟨by repeat (first | (with_reducible first | exact HB.out | apply below_alloc | apply pw_below_drewN | apply below_drew1) | exact HB.out)⟩⟩
                                    · replace c37 := Bool.eq_false_iff.mpr c37
                                      subst c37
                                      have H1 : ((targumref1_IsBlank.f (rdOf ByteArray.empty y210 x32_2) (wrap64 (t214 - 1))).bind fun t222 => (if t222 = true then (targumlaw20_PlainCut.j3 kj24 t207 (rdOf ByteArray.empty y210 x32_2) t215 y210 (y210.length : Int) x32_2 true) else ((targumref1_Lines.f kj24 t207 ((rdOf ByteArray.empty y210 x32_2).extract 0 (t214 : Int).toNat)).bind fun t223 => (targumlaw20_PlainCut.j3 kj24 t207 (rdOf ByteArray.empty y210 x32_2) t215 y210 (y210.length : Int) x32_2 ((t223.length : Int) != 1))))) = some r := by rw [if_neg (show ¬ (false = true) by decide)] at H; exact H
                                      clear H
                                      have H := H1
                                      clear H1
                                      replace H := Option.bind_eq_some_iff.mp H
                                      obtain ⟨t222, A490, H⟩ := H
                                      replace H : (if t222 = true then (targumlaw20_PlainCut.j3 kj24 t207 (rdOf ByteArray.empty y210 x32_2) t215 y210 (y210.length : Int) x32_2 true) else ((targumref1_Lines.f kj24 t207 ((rdOf ByteArray.empty y210 x32_2).extract 0 (t214 : Int).toNat)).bind fun t223 => (targumlaw20_PlainCut.j3 kj24 t207 (rdOf ByteArray.empty y210 x32_2) t215 y210 (y210.length : Int) x32_2 ((t223.length : Int) != 1)))) = some r := H
                                      have A49 := Aside0.mk A490
                                      clear A490
                                      by_cases c50 : t222 = true
                                      · subst c50
                                        have H1 : (targumlaw20_PlainCut.j3 kj24 t207 (rdOf ByteArray.empty y210 x32_2) t215 y210 (y210.length : Int) x32_2 true) = some r := by rw [if_pos rfl] at H; exact H
                                        clear H
                                        have H := H1
                                        clear H1
                                        have H' := Aside0.mk H
                                        clear H
                                        go_wp2_with (first | (go_at_call 25; (with_reducible refine (targumlaw20_closed.calls ((rdOf ByteArray.empty y210 x32_2).extract 0 (t214 : Int).toNat) false _ A36.out).mono ?_); rintro e w' ⟨rfl, ⟨nd, rfl⟩⟩) | (go_at_call 26; (with_reducible refine (targumref1_IsBlank.calls (rdOf ByteArray.empty y210 x32_2) (wrap64 (t214 - 1)) true _ A49.out).mono ?_); rintro e w' ⟨rfl, ⟨nd, rfl⟩⟩))
                                        go_meet
                                        case rel => exact ⟨_, (true), (by first | rfl | (simp; done) | (simp [*]; done)), H', ⟨by have := HJ5.out; have := HK2.out; have := HJ24.out; first | omega | exact Nat.le_refl _⟩, ⟨by (with_reducible repeat (first | apply Kd.R_alloc | apply Kd.R_drewN | apply Kd.R_drew)); exact HO_30.out⟩, ⟨by repeat (first | (with_reducible first | exact HB.out | apply below_alloc | apply pw_below_drewN | apply below_drew1) | exact HB.out)⟩⟩
                                      · replace c50 := Bool.eq_false_iff.mpr c50
                                        subst c50
                                        have H1 : ((targumref1_Lines.f kj24 t207 ((rdOf ByteArray.empty y210 x32_2).extract 0 (t214 : Int).toNat)).bind fun t223 => (targumlaw20_PlainCut.j3 kj24 t207 (rdOf ByteArray.empty y210 x32_2) t215 y210 (y210.length : Int) x32_2 ((t223.length : Int) != 1))) = some r := by rw [if_neg (show ¬ (false = true) by decide)] at H; exact H
                                        clear H
                                        have H := H1
                                        clear H1
                                        have c51b0 := eq_true (of_decide_eq_true (by first | (with_reducible assumption) | assumption) : 0 ≤ t214)
                                        have c52b0 := eq_true (of_decide_eq_true (by first | (with_reducible assumption) | assumption) : t214 ≤ ((rdOf ByteArray.empty y210 x32_2).size : Int))
                                        replace H := Option.bind_eq_some_iff.mp H
                                        obtain ⟨t223, A530, H⟩ := H
                                        replace H : (targumlaw20_PlainCut.j3 kj24 t207 (rdOf ByteArray.empty y210 x32_2) t215 y210 (y210.length : Int) x32_2 ((t223.length : Int) != 1)) = some r := H
                                        have A53 := Aside0.mk A530
                                        clear A530
                                        have H' := Aside0.mk H
                                        clear H
                                        go_wp2_with (first | (go_at_call 25; (with_reducible refine (targumlaw20_closed.calls ((rdOf ByteArray.empty y210 x32_2).extract 0 (t214 : Int).toNat) false _ A36.out).mono ?_); rintro e w' ⟨rfl, ⟨nd, rfl⟩⟩) | (go_at_call 26; (with_reducible refine (targumref1_IsBlank.calls (rdOf ByteArray.empty y210 x32_2) (wrap64 (t214 - 1)) false _ A49.out).mono ?_); rintro e w' ⟨rfl, ⟨nd, rfl⟩⟩) | (go_at_call 27; (with_reducible refine (targumref1_Lines.calls kj24 t207 ((rdOf ByteArray.empty y210 x32_2).extract 0 (t214 : Int).toNat) t223 _ A53.out).mono ?_); rintro e w54 ⟨v224, rfl, ho0, hb⟩; have n0_ := Aside0.mk (Kd.R_below (by (with_reducible repeat (first | apply Kd.R_alloc | apply Kd.R_drewN | apply Kd.R_drew)); exact HO_30.out) hb); have n1_ := Aside0.mk (Kd.R_lower ho0 (below_size (by repeat (first | (with_reducible first | exact HB.out | apply below_alloc | apply pw_below_drewN | apply below_drew1) | exact HB.out)))); have n2_ := Aside0.mk (below_step (by repeat (first | (with_reducible first | exact HB.out | apply below_alloc | apply pw_below_drewN | apply below_drew1) | exact HB.out)) hb); clear HO_30; clear HB; have HO_30 := n0_; have HO225 := n1_; have HB := n2_; clear n0_ n1_ n2_; (try clear hb); (try clear hb2); (try clear hk); (try clear hi); (try clear ho0); obtain ⟨Ao55, co55, eo55⟩ := Kd.R_slice HO225.out; subst eo55))
                                        go_meet
                                        case rel => exact ⟨_, (((t223.length : Int) != 1)), (by first | rfl | (simp; done) | (simp [*]; done)), H', ⟨by have := HJ5.out; have := HK2.out; have := HJ24.out; first | omega | exact Nat.le_refl _⟩, ⟨by (with_reducible repeat (first | apply Kd.R_alloc | apply Kd.R_drewN | apply Kd.R_drew)); exact HO_30.out⟩, ⟨by repeat (first | (with_reducible first | exact HB.out | apply below_alloc | apply pw_below_drewN | apply below_drew1) | exact HB.out)⟩⟩
                                  · rw [if_neg c35] at H
                                    exact absurd H (by simp)
                                · rw [if_neg c34] at H
                                  exact absurd H (by simp)
                              · rw [if_neg c33] at H
                                have c33b0 : decide (0 < t214) = false := decide_eq_false c33
                                clear c33
                                (first | rw [c33b0] | (simp only [i64_w, i32_w]; rw [c33b0]) | skip)
                                have H' := Aside0.mk H
                                clear H
                                go_wp2
                                go_meet
                                case rel => exact ⟨_, (false), (by first | rfl | (simp; done) | (simp [*]; done)), H', ⟨by have := HJ5.out; have := HK2.out; have := HJ24.out; first | omega | exact Nat.le_refl _⟩, ⟨by (with_reducible repeat (first | apply Kd.R_alloc | apply Kd.R_drewN | apply Kd.R_drew)); exact HO_30.out⟩, ⟨by repeat (first | (with_reducible first | exact HB.out | apply below_alloc | apply pw_below_drewN | apply below_drew1) | exact HB.out)⟩⟩
                            case rest =>
                              clear HC32
                              try clear c1
                              try clear c2
                              try clear p2
                              try clear q2
                              try clear hx2
                              try clear c3
                              try clear c4
                              try clear c5
                              try clear p6
                              try clear c9
                              try clear c10
                              try clear c14
                              try clear c14b0
                              try clear c14b1
                              try clear c14b2
                              try clear c15
                              try clear c16
                              try clear c17
                              try clear c18
                              try clear c20
                              try clear c20b0
                              try clear c21
                              try clear c21b0
                              try clear p21
                              try clear q21
                              try clear hx21
                              try clear c22
                              try clear c22b0
                              try clear c23
                              try clear c26
                              try clear c26b0
                              try clear c27
                              try clear c27b0
                              try clear c27b1
                              try clear c28
                              try clear c28b0
                              try clear c29
                              try clear c29b0
                              try clear c30
                              try clear c30b0
                              try clear c31
                              try clear c33
                              try clear c33b0
                              try clear c34
                              try clear c34b0
                              try clear c34b1
                              try clear c35
                              try clear c35b0
                              try clear c35b1
                              try clear c37
                              try clear c38
                              try clear c38b0
                              try clear c39
                              try clear c39b0
                              try clear c41
                              try clear c41b0
                              try clear c41b1
                              try clear c43
                              try clear c44
                              try clear c44b0
                              try clear c45
                              try clear c45b0
                              try clear c50
                              try clear c51
                              try clear c51b0
                              try clear c52
                              try clear c52b0
                              try clear hx213_0
                              try clear p2
                              try clear p21
                              try clear p213
                              try clear q2
                              try clear q21
                              try clear q213
                              obtain ⟨kq, x98_31, rfl, HA, HJ31, HO_30, HB⟩ := hcut
                              cases kq with
                              | zero => exact absurd HA.out (by simp [targumlaw20_PlainCut.j3])
                              | succ kj31 =>
                                have H := HA.out
                                clear HA
                                simp only [targumlaw20_PlainCut.j3] at H
                                by_cases c56 : x98_31 = true
                                · subst c56
                                  have H1 : (some false) = some r := by rw [if_pos rfl] at H; exact H
                                  clear H
                                  have H := H1
                                  clear H1
                                  obtain rfl := Option.some.inj H
                                  go_wp2
                                  go_ret
                                  exact ⟨by first | rfl | (simp [errW_none, errW_some] <;> rfl) | (simp [*, errW_none, errW_some] <;> rfl), by repeat (first | (with_reducible first | exact HB.out | apply below_alloc | apply pw_below_drewN | apply below_drew1) | exact HB.out)⟩
                                · replace c56 := Bool.eq_false_iff.mpr c56
                                  subst c56
                                  have H1 : (if t215 > 0 then (if 0 ≤ t215 then (if t215 ≤ ((rdOf ByteArray.empty y210 x32_2).size : Int) then ((targumlaw20_closed.f ((rdOf ByteArray.empty y210 x32_2).extract 0 (t215 : Int).toNat)).bind fun t226 => (if t226 = true then ((plain_Part.f t207 ((rdOf ByteArray.empty y210 x32_2).extract 0 (t215 : Int).toNat) 0 true).bind fun t227 => (if t227 = t215 then (targumlaw20_PlainCut.l0 kj31 t207 y210 (y210.length : Int) (wrap64 (x32_2 + 1))) else (some false))) else (targumlaw20_PlainCut.l0 kj31 t207 y210 (y210.length : Int) (wrap64 (x32_2 + 1))))) else (none)) else (none)) else (targumlaw20_PlainCut.l0 kj31 t207 y210 (y210.length : Int) (wrap64 (x32_2 + 1)))) = some r := by rw [if_neg (show ¬ (false = true) by decide)] at H; exact H
                                  clear H
                                  have H := H1
                                  clear H1
                                  by_cases c57 : t215 > 0
                                  · rw [if_pos c57] at H
                                    have c57b0 : decide (0 < t215) = true := decide_eq_true c57
                                    clear c57
                                    by_cases c58 : 0 ≤ t215
                                    · rw [if_pos c58] at H
                                      have c58b0 := eq_true c58
                                      have c58b1 : decide (0 ≤ t215) = true := decide_eq_true c58
                                      clear c58
                                      by_cases c59 : t215 ≤ ((rdOf ByteArray.empty y210 x32_2).size : Int)
                                      · rw [if_pos c59] at H
                                        have c59b0 := eq_true c59
                                        have c59b1 : decide (t215 ≤ ((rdOf ByteArray.empty y210 x32_2).size : Int)) = true := decide_eq_true c59
                                        clear c59
                                        replace H := Option.bind_eq_some_iff.mp H
                                        obtain ⟨t226, A600, H⟩ := H
                                        replace H : (if t226 = true then ((plain_Part.f t207 ((rdOf ByteArray.empty y210 x32_2).extract 0 (t215 : Int).toNat) 0 true).bind fun t227 => (if t227 = t215 then (targumlaw20_PlainCut.l0 kj31 t207 y210 (y210.length : Int) (wrap64 (x32_2 + 1))) else (some false))) else (targumlaw20_PlainCut.l0 kj31 t207 y210 (y210.length : Int) (wrap64 (x32_2 + 1)))) = some r := H
                                        have A60 := Aside0.mk A600
                                        clear A600
                                        by_cases c61 : t226 = true
                                        · subst c61
                                          have H1 : ((plain_Part.f t207 ((rdOf ByteArray.empty y210 x32_2).extract 0 (t215 : Int).toNat) 0 true).bind fun t227 => (if t227 = t215 then (targumlaw20_PlainCut.l0 kj31 t207 y210 (y210.length : Int) (wrap64 (x32_2 + 1))) else (some false))) = some r := by rw [if_pos rfl] at H; exact H
                                          clear H
                                          have H := H1
                                          clear H1
                                          have c62b0 := eq_true (of_decide_eq_true (by first | (with_reducible assumption) | assumption) : 0 ≤ t215)
                                          have c63b0 := eq_true (of_decide_eq_true (by first | (with_reducible assumption) | assumption) : t215 ≤ ((rdOf ByteArray.empty y210 x32_2).size : Int))
                                          replace H := Option.bind_eq_some_iff.mp H
                                          obtain ⟨t227, A640, H⟩ := H
                                          replace H : (if t227 = t215 then (targumlaw20_PlainCut.l0 kj31 t207 y210 (y210.length : Int) (wrap64 (x32_2 + 1))) else (some false)) = some r := H
                                          have A64 := Aside0.mk A640
                                          clear A640
                                          by_cases c65 : t227 = t215
                                          · rw [if_pos c65] at H
                                            have c65b0 : (t227 == t215) = true := beq_iff_eq.mpr c65
                                            have c65b1 : (t227 != t215) = false := bne_eq_false_iff_eq.mpr c65
                                            clear c65
                                            have H' := Aside0.mk H
                                            clear H
                                            go_wp2_with (first | (go_at_call 25; (with_reducible refine (targumlaw20_closed.calls ((rdOf ByteArray.empty y210 x32_2).extract 0 (t215 : Int).toNat) true _ A60.out).mono ?_); rintro e w' ⟨rfl, ⟨nd, rfl⟩⟩) | (go_at_call 23; (with_reducible refine (plain_Part.calls t207 ((rdOf ByteArray.empty y210 x32_2).extract 0 (t215 : Int).toNat) 0 true t227 _ A64.out).mono ?_); rintro e w' ⟨rfl, ⟨nd, rfl⟩⟩))
                                            go_roundg kj31
                                            case measure => have := HJ5.out; have := HK2.out; have := HJ24.out; have := HJ31.out; omega
                                            case rel => exact ⟨(wrap64 (x32_2 + 1)), (by first | rfl | (simp; done) | (simp [*]; done)), H', ⟨by have := HJ5.out; have := HK2.out; have := HJ24.out; have := HJ31.out; omega⟩, ⟨by (with_reducible repeat (first | apply Kd.R_alloc | apply Kd.R_drewN | apply Kd.R_drew)); exact HO_30.out⟩, ⟨by repeat (first | (with_reducible first | exact HB.out | apply below_alloc | apply pw_below_drewN | apply below_drew1) | exact HB.out)⟩⟩
                                          · rw [if_neg c65] at H
                                            have c65b0 : (t227 == t215) = false := beq_eq_false_iff_ne.mpr c65
                                            have c65b1 : (t227 != t215) = true := bne_iff_ne.mpr c65
                                            obtain rfl := Option.some.inj H
                                            go_wp2_with (first | (go_at_call 25; (with_reducible refine (targumlaw20_closed.calls ((rdOf ByteArray.empty y210 x32_2).extract 0 (t215 : Int).toNat) true _ A60.out).mono ?_); rintro e w' ⟨rfl, ⟨nd, rfl⟩⟩) | (go_at_call 23; (with_reducible refine (plain_Part.calls t207 ((rdOf ByteArray.empty y210 x32_2).extract 0 (t215 : Int).toNat) 0 true t227 _ A64.out).mono ?_); rintro e w' ⟨rfl, ⟨nd, rfl⟩⟩))
                                            go_ret
                                            exact ⟨by first | rfl | (simp [errW_none, errW_some] <;> rfl) | (simp [*, errW_none, errW_some] <;> rfl), by repeat (first | (with_reducible first | exact HB.out | apply below_alloc | apply pw_below_drewN | apply below_drew1) | exact HB.out)⟩
                                        · replace c61 := Bool.eq_false_iff.mpr c61
                                          subst c61
                                          have H1 : (targumlaw20_PlainCut.l0 kj31 t207 y210 (y210.length : Int) (wrap64 (x32_2 + 1))) = some r := by rw [if_neg (show ¬ (false = true) by decide)] at H; exact H
                                          clear H
                                          have H := H1
                                          clear H1
                                          have H' := Aside0.mk H
                                          clear H
                                          go_wp2_with (first | (go_at_call 25; (with_reducible refine (targumlaw20_closed.calls ((rdOf ByteArray.empty y210 x32_2).extract 0 (t215 : Int).toNat) false _ A60.out).mono ?_); rintro e w' ⟨rfl, ⟨nd, rfl⟩⟩))
                                          go_roundg kj31
                                          case measure => have := HJ5.out; have := HK2.out; have := HJ24.out; have := HJ31.out; omega
                                          case rel => exact ⟨(wrap64 (x32_2 + 1)), (by first | rfl | (simp; done) | (simp [*]; done)), H', ⟨by have := HJ5.out; have := HK2.out; have := HJ24.out; have := HJ31.out; omega⟩, ⟨by (with_reducible repeat (first | apply Kd.R_alloc | apply Kd.R_drewN | apply Kd.R_drew)); exact HO_30.out⟩, ⟨by repeat (first | (with_reducible first | exact HB.out | apply below_alloc | apply pw_below_drewN | apply below_drew1) | exact HB.out)⟩⟩
                                      · rw [if_neg c59] at H
                                        exact absurd H (by simp)
                                    · rw [if_neg c58] at H
                                      exact absurd H (by simp)
                                  · rw [if_neg c57] at H
                                    have c57b0 : decide (0 < t215) = false := decide_eq_false c57
                                    clear c57
                                    have H' := Aside0.mk H
                                    clear H
                                    go_wp2
                                    go_roundg kj31
                                    case measure => have := HJ5.out; have := HK2.out; have := HJ24.out; have := HJ31.out; omega
                                    case rel => exact ⟨(wrap64 (x32_2 + 1)), (by first | rfl | (simp; done) | (simp [*]; done)), H', ⟨by have := HJ5.out; have := HK2.out; have := HJ24.out; have := HJ31.out; omega⟩, ⟨by (with_reducible repeat (first | apply Kd.R_alloc | apply Kd.R_drewN | apply Kd.R_drew)); exact HO_30.out⟩, ⟨by repeat (first | (with_reducible first | exact HB.out | apply below_alloc | apply pw_below_drewN | apply below_drew1) | exact HB.out)⟩⟩
                    · rw [if_neg c22] at H
                      exact absurd H (by simp)
                  · rw [if_neg c21] at H
                    exact absurd H (by simp)
                · rw [if_neg c20] at H
                  have c20b0 : decide (x32_2 < (y210.length : Int)) = false := decide_eq_false c20
                  clear c20
                  obtain rfl := Option.some.inj H
                  go_wp2
                  go_ret
                  exact ⟨by first | rfl | (simp [errW_none, errW_some] <;> rfl) | (simp [*, errW_none, errW_some] <;> rfl), by repeat (first | (with_reducible first | exact HB.out | apply below_alloc | apply pw_below_drewN | apply below_drew1) | exact HB.out)⟩
          · rw [if_neg c14] at H
            exact absurd H (by simp)
  · replace c5 := Bool.eq_false_iff.mpr c5
    subst c5
    have H1 : (some false) = some r := by rw [if_neg (show ¬ (false = true) by decide)] at H; exact H
    clear H
    have H := H1
    clear H1
    obtain rfl := Option.some.inj H
    go_enter Tryd.func4, Tryd.ntmps4
    go_wp2_with (first | ((with_reducible refine gate_callee (f := 15) rfl ?_); refine goesL_ (some 12) rfl rfl Tryd.func15 (by kernel_rfl) rfl #[] rfl (by (try simp only [List.map_toArray, List.map_cons, List.map_nil]); first | done | rfl | (simp only [List.length_drop, List.length_take]; rfl)) ?_; (with_reducible refine (targumlaw20_known.calls  false _ A4.out).mono ?_); rintro e w66 ⟨rfl, hb⟩; refine ⟨_, rfl, ?_⟩; have n0_ := Aside0.mk (below_step (by repeat (first | (with_reducible first | exact HB.out | apply below_alloc | apply pw_below_drewN | apply below_drew1) | exact HB.out)) hb); clear HB; have HB := n0_; clear n0_; (try clear hb); (try clear hb2); (try clear hk); (try clear hi)))
    go_ret
    exact ⟨by first | rfl | (simp [errW_none, errW_some] <;> rfl) | (simp [*, errW_none, errW_some] <;> rfl), by repeat (first | (with_reducible first | exact HB.out | apply below_alloc | apply pw_below_drewN | apply below_drew1) | exact HB.out)⟩

/-- THE ONE PURE STATEMENT of targumlaw20_PlainCut: yours. -/
def targumlaw20_PlainCut.Pure : Prop := ∀ (a0 : ByteArray) (l1 : List Int) (a2 : Bool), a0.size ≤ 140737488351232 → l1.length ≤ maxLen → l1.length * 1 ≤ 140737488351232 → (∀ x ∈ l1, (Lit.int .u8 x).wf = true) → ∃ k, targumlaw20_PlainCut.f k a0 l1 a2 = some true
theorem targumlaw20_PlainCut.walk (P : targumlaw20_PlainCut.Pure) (a0 : ByteArray) (a1 : Option Addr) (len1 cap1 : Nat) (z1 : List Int) (a2 : Bool) (w : World) (w0 : a0.size ≤ 140737488351232) (w1 : (a1 = none ∧ len1 = 0 ∧ cap1 = 0 ∧ z1 = []) ∨ ∃ x, a1 = some x ∧ len1 ≤ cap1 ∧ cap1 ≤ maxLen ∧ z1.length = cap1 ∧ (∀ i, i < z1.length → w.cell? (x.add i) = some (.int .u8 (z1.getD i 0))) ∧ ∀ n ∈ z1, (Lit.int .u8 n).wf = true) (y1 : len1 * 1 ≤ 140737488351232) :
    Calls Tryd.prog 4 #[.string a0, .slice a1 len1 cap1, .bool a2] w fun e w' => e = .returned (.bool true) ∧ Below w.heap.size w w' := by
  obtain ⟨l1, rfl, hr1, hm1, hw1, hc1⟩ := ReadsInt.ofRowC w1
  obtain ⟨k, h⟩ := P a0 l1 a2 w0 hm1 y1 hw1
  refine (targumlaw20_PlainCut.calls k a0 _ _ l1 a2 true w (Kd.C_of_reads (d := (0 : Int)) (h1 := fun _ => rfl) hr1) hc1 h).mono ?_
  rintro e w' ⟨rfl, hd⟩
  exact ⟨rfl, hd⟩

end Go.Proofs.YtmfjdlmhejabiaaDoor.PL
