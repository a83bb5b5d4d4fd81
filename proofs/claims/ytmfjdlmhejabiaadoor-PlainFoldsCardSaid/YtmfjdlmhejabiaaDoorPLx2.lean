-- Written by wip/myprint.py (a program of this session's) over the kit's print.
import Derived.Test.YtmfjdlmhejabiaaDoorPLx0
import Derived.Test.YtmfjdlmhejabiaaDoorPLx1
namespace Go.Proofs.YtmfjdlmhejabiaaDoor.PL
open Go.Proofs.YtmfjdlmhejabiaaDoor.X
open Go.RowKit Go.Proofs.YtmfjdlmhejabiaaDoorW.PrintWords Go.Proofs.YtmfjdlmhejabiaaDoorW.PrintLast Go.Proofs.YtmfjdlmhejabiaaDoorW.PrintMore
attribute [local go_sem] max2_int min2_int max_two min_two max_three min_three max_four min_four   -- for this text's walks alone
set_option linter.unusedVariables false
set_option linter.unusedSimpArgs false

/-! ### targumlaw20_PlainFolds: function 5 -/
mutual
def targumlaw20_PlainFolds.j0 : Nat → List ByteArray → List Int → List Int → Int → Bool → Bool → Option (Bool)
  | 0, _, _, _, _, _, _ => none
  | k + 1, x0, x1, x2, x3, x4, x50 => if x50 = true then (some true) else (targumlaw20_PlainFolds.l0 k x0 x1 x2 x4 (wrap64 ((wrap64 (Int.tmod x3 5)) - 1)) (⟨#[]⟩ : ByteArray) (⟨#[]⟩ : ByteArray) 0)
def targumlaw20_PlainFolds.l0 : Nat → List ByteArray → List Int → List Int → Bool → Int → ByteArray → ByteArray → Int → Option (Bool)
  | 0, _, _, _, _, _, _, _, _ => none
  | k + 1, x0, x1, x2, x4, x11, x12, x13, x14 => if x14 < (x0.length : Int) then (if 0 ≤ x14 then (if ((rdOf ByteArray.empty x0 x14).size : Int) > 30 then (some true) else (if x14 > 0 then (if x14 < (x1.length : Int) then (if x12.size + 2 ≤ 9223372036854775807 then (targumlaw20_PlainFolds.l1 k x0 x1 x2 x4 x11 (x12 ++ (⟨#[32, 10]⟩ : ByteArray)) x13 x14 (wrap64 (Int.tmod (rd x1 x14) 4)) 0) else (none)) else (none)) else ((targumlaw20_letters.f k (rdOf ByteArray.empty x0 x14)).bind fun t125 => (if x12.size + t125.size ≤ 9223372036854775807 then ((targumlaw20_letters.f k (rdOf ByteArray.empty x0 x14)).bind fun t127 => (if x13.size + t127.size ≤ 9223372036854775807 then (targumlaw20_PlainFolds.l0 k x0 x1 x2 x4 x11 (x12 ++ t125) (x13 ++ t127) (wrap64 (x14 + 1))) else (none))) else (none))))) else (none)) else ((targumhelp_Version.f x4).bind fun t128 => ((plain_Read.f t128 x12 0 x11).bind fun bt129 => (if x12.size + 8 ≤ 9223372036854775807 then ((plain_Read.f t128 (x12 ++ (⟨#[10, 35, 32, 120, 10, 32, 32, 121]⟩ : ByteArray)) 0 x11).bind fun bt131 => (if x12.size + 22 ≤ 9223372036854775807 then ((plain_Read.f t128 (x12 ++ (⟨#[32, 35, 32, 120, 10, 32, 32, 32, 32, 32, 32, 32, 32, 32, 32, 32, 32, 32, 32, 32, 32, 121]⟩ : ByteArray)) 0 x11).bind fun bt133 => (if x12.size + 5 ≤ 9223372036854775807 then ((plain_Read.f t128 (x12 ++ (⟨#[10, 46, 46, 46, 10]⟩ : ByteArray)) 0 x11).bind fun bt135 => (if bt129.1.toList = x13.toList then (if bt129.2 = (x12.size : Int) then (if bt131.1.toList = x13.toList then (if bt131.2 = bt129.2 then (if bt133.1.toList = x13.toList then (if bt133.2 = bt129.2 then (if bt135.1.toList = x13.toList then (some (bt135.2 == bt129.2)) else (some false)) else (some false)) else (some false)) else (some false)) else (some false)) else (some false)) else (some false))) else (none))) else (none))) else (none))))
def targumlaw20_PlainFolds.l1 : Nat → List ByteArray → List Int → List Int → Bool → Int → ByteArray → ByteArray → Int → Int → Int → Option (Bool)
  | 0, _, _, _, _, _, _, _, _, _, _ => none
  | k + 1, x0, x1, x2, x4, x11, x12, x13, x14, x15, x16 => if x16 < x15 then (if x12.size + 2 ≤ 9223372036854775807 then (if x13.size + 1 ≤ 9223372036854775807 then (targumlaw20_PlainFolds.l1 k x0 x1 x2 x4 x11 (x12 ++ (⟨#[9, 10]⟩ : ByteArray)) (x13 ++ (⟨#[10]⟩ : ByteArray)) x14 x15 (wrap64 (x16 + 1))) else (none)) else (none)) else (if x15 = 0 then (if x13.size + 1 ≤ 9223372036854775807 then (targumlaw20_PlainFolds.j3 k x0 x1 x2 x4 x11 x12 (x13 ++ (⟨#[32]⟩ : ByteArray)) x14) else (none)) else (targumlaw20_PlainFolds.j3 k x0 x1 x2 x4 x11 x12 x13 x14))
def targumlaw20_PlainFolds.j3 : Nat → List ByteArray → List Int → List Int → Bool → Int → ByteArray → ByteArray → Int → Option (Bool)
  | 0, _, _, _, _, _, _, _, _ => none
  | k + 1, x0, x1, x2, x4, x11, x12, x13, x14 => targumlaw20_PlainFolds.l2 k x0 x1 x2 x4 x11 x12 x13 x14 0
def targumlaw20_PlainFolds.l2 : Nat → List ByteArray → List Int → List Int → Bool → Int → ByteArray → ByteArray → Int → Int → Option (Bool)
  | 0, _, _, _, _, _, _, _, _, _ => none
  | k + 1, x0, x1, x2, x4, x11, x12, x13, x14, x17 => if 0 ≤ x14 then (if x14 < (x2.length : Int) then (if x17 < (wrap64 ((wrap64 (x11 + 1)) + (wrap64 (Int.tmod (rd x2 x14) 4)))) then (if x12.size + 1 ≤ 9223372036854775807 then (targumlaw20_PlainFolds.l2 k x0 x1 x2 x4 x11 (x12 ++ (⟨#[32]⟩ : ByteArray)) x13 x14 (wrap64 (x17 + 1))) else (none)) else (if x14 < (x0.length : Int) then ((targumlaw20_letters.f k (rdOf ByteArray.empty x0 x14)).bind fun t121 => (if x12.size + t121.size ≤ 9223372036854775807 then ((targumlaw20_letters.f k (rdOf ByteArray.empty x0 x14)).bind fun t123 => (if x13.size + t123.size ≤ 9223372036854775807 then (targumlaw20_PlainFolds.l0 k x0 x1 x2 x4 x11 (x12 ++ t121) (x13 ++ t123) (wrap64 (x14 + 1))) else (none))) else (none))) else (none))) else (none)) else (none)
end
def targumlaw20_PlainFolds.f (k : Nat) (l0 : List ByteArray) (l1 : List Int) (l2 : List Int) (a3 : Int) (a4 : Bool) : Option (Bool) := (targumlaw20_known.f).bind fun t116 => (if t116 = true then (if (l0.length : Int) < 1 then (targumlaw20_PlainFolds.j0 k l0 l1 l2 a3 a4 true) else (if (l0.length : Int) > 8 then (targumlaw20_PlainFolds.j0 k l0 l1 l2 a3 a4 true) else (if (l1.length : Int) < (l0.length : Int) then (targumlaw20_PlainFolds.j0 k l0 l1 l2 a3 a4 true) else (targumlaw20_PlainFolds.j0 k l0 l1 l2 a3 a4 (decide ((l2.length : Int) < (l0.length : Int))))))) else (some false))
theorem targumlaw20_PlainFolds.mono_l : ∀ k, (∀ y0 y1 y2 y3 y4 y5, LeO (targumlaw20_PlainFolds.j0 k y0 y1 y2 y3 y4 y5) (targumlaw20_PlainFolds.j0 (k + 1) y0 y1 y2 y3 y4 y5)) ∧ (∀ y0 y1 y2 y3 y4 y5 y6 y7, LeO (targumlaw20_PlainFolds.l0 k y0 y1 y2 y3 y4 y5 y6 y7) (targumlaw20_PlainFolds.l0 (k + 1) y0 y1 y2 y3 y4 y5 y6 y7)) ∧ (∀ y0 y1 y2 y3 y4 y5 y6 y7 y8 y9, LeO (targumlaw20_PlainFolds.l1 k y0 y1 y2 y3 y4 y5 y6 y7 y8 y9) (targumlaw20_PlainFolds.l1 (k + 1) y0 y1 y2 y3 y4 y5 y6 y7 y8 y9)) ∧ (∀ y0 y1 y2 y3 y4 y5 y6 y7, LeO (targumlaw20_PlainFolds.j3 k y0 y1 y2 y3 y4 y5 y6 y7) (targumlaw20_PlainFolds.j3 (k + 1) y0 y1 y2 y3 y4 y5 y6 y7)) ∧ (∀ y0 y1 y2 y3 y4 y5 y6 y7 y8, LeO (targumlaw20_PlainFolds.l2 k y0 y1 y2 y3 y4 y5 y6 y7 y8) (targumlaw20_PlainFolds.l2 (k + 1) y0 y1 y2 y3 y4 y5 y6 y7 y8))
  | 0 => ⟨fun _ _ _ _ _ _ r h => by simp [targumlaw20_PlainFolds.j0] at h, fun _ _ _ _ _ _ _ _ r h => by simp [targumlaw20_PlainFolds.l0] at h, fun _ _ _ _ _ _ _ _ _ _ r h => by simp [targumlaw20_PlainFolds.l1] at h, fun _ _ _ _ _ _ _ _ r h => by simp [targumlaw20_PlainFolds.j3] at h, fun _ _ _ _ _ _ _ _ _ r h => by simp [targumlaw20_PlainFolds.l2] at h⟩
  | k + 1 => by
    obtain ⟨ih0, ih1, ih2, ih3, ih4⟩ := targumlaw20_PlainFolds.mono_l k
    refine ⟨?_, ?_, ?_, ?_, ?_⟩
    · intro y0 y1 y2 y3 y4 y5
      unfold targumlaw20_PlainFolds.j0
      repeat' first
      | (with_reducible exact ih0 _ _ _ _ _ _)
      | (with_reducible exact ih1 _ _ _ _ _ _ _ _)
      | (with_reducible exact ih2 _ _ _ _ _ _ _ _ _ _)
      | (with_reducible exact ih3 _ _ _ _ _ _ _ _)
      | (with_reducible exact ih4 _ _ _ _ _ _ _ _ _)
      | (with_reducible exact targumlaw20_letters.mono _ _)
      | (with_reducible exact LeO.refl _)
      | (with_reducible exact LeO.none _)
      | (with_reducible refine LeO.ite ?_ ?_)
      | (with_reducible refine LeO.bind ?_ (fun _ => ?_))
      | exact ih0 _ _ _ _ _ _
      | exact ih1 _ _ _ _ _ _ _ _
      | exact ih2 _ _ _ _ _ _ _ _ _ _
      | exact ih3 _ _ _ _ _ _ _ _
      | exact ih4 _ _ _ _ _ _ _ _ _
      | exact targumlaw20_letters.mono _ _
      | exact LeO.none _
      | refine LeO.ite ?_ ?_
      | refine LeO.bind ?_ (fun _ => ?_)
    · intro y0 y1 y2 y3 y4 y5 y6 y7
      unfold targumlaw20_PlainFolds.l0
      repeat' first
      | (with_reducible exact ih0 _ _ _ _ _ _)
      | (with_reducible exact ih1 _ _ _ _ _ _ _ _)
      | (with_reducible exact ih2 _ _ _ _ _ _ _ _ _ _)
      | (with_reducible exact ih3 _ _ _ _ _ _ _ _)
      | (with_reducible exact ih4 _ _ _ _ _ _ _ _ _)
      | (with_reducible exact targumlaw20_letters.mono _ _)
      | (with_reducible exact LeO.refl _)
      | (with_reducible exact LeO.none _)
      | (with_reducible refine LeO.ite ?_ ?_)
      | (with_reducible refine LeO.bind ?_ (fun _ => ?_))
      | exact ih0 _ _ _ _ _ _
      | exact ih1 _ _ _ _ _ _ _ _
      | exact ih2 _ _ _ _ _ _ _ _ _ _
      | exact ih3 _ _ _ _ _ _ _ _
      | exact ih4 _ _ _ _ _ _ _ _ _
      | exact targumlaw20_letters.mono _ _
      | exact LeO.none _
      | refine LeO.ite ?_ ?_
      | refine LeO.bind ?_ (fun _ => ?_)
    · intro y0 y1 y2 y3 y4 y5 y6 y7 y8 y9
      unfold targumlaw20_PlainFolds.l1
      repeat' first
      | (with_reducible exact ih0 _ _ _ _ _ _)
      | (with_reducible exact ih1 _ _ _ _ _ _ _ _)
      | (with_reducible exact ih2 _ _ _ _ _ _ _ _ _ _)
      | (with_reducible exact ih3 _ _ _ _ _ _ _ _)
      | (with_reducible exact ih4 _ _ _ _ _ _ _ _ _)
      | (with_reducible exact targumlaw20_letters.mono _ _)
      | (with_reducible exact LeO.refl _)
      | (with_reducible exact LeO.none _)
      | (with_reducible refine LeO.ite ?_ ?_)
      | (with_reducible refine LeO.bind ?_ (fun _ => ?_))
      | exact ih0 _ _ _ _ _ _
      | exact ih1 _ _ _ _ _ _ _ _
      | exact ih2 _ _ _ _ _ _ _ _ _ _
      | exact ih3 _ _ _ _ _ _ _ _
      | exact ih4 _ _ _ _ _ _ _ _ _
      | exact targumlaw20_letters.mono _ _
      | exact LeO.none _
      | refine LeO.ite ?_ ?_
      | refine LeO.bind ?_ (fun _ => ?_)
    · intro y0 y1 y2 y3 y4 y5 y6 y7
      unfold targumlaw20_PlainFolds.j3
      repeat' first
      | (with_reducible exact ih0 _ _ _ _ _ _)
      | (with_reducible exact ih1 _ _ _ _ _ _ _ _)
      | (with_reducible exact ih2 _ _ _ _ _ _ _ _ _ _)
      | (with_reducible exact ih3 _ _ _ _ _ _ _ _)
      | (with_reducible exact ih4 _ _ _ _ _ _ _ _ _)
      | (with_reducible exact targumlaw20_letters.mono _ _)
      | (with_reducible exact LeO.refl _)
      | (with_reducible exact LeO.none _)
      | (with_reducible refine LeO.ite ?_ ?_)
      | (with_reducible refine LeO.bind ?_ (fun _ => ?_))
      | exact ih0 _ _ _ _ _ _
      | exact ih1 _ _ _ _ _ _ _ _
      | exact ih2 _ _ _ _ _ _ _ _ _ _
      | exact ih3 _ _ _ _ _ _ _ _
      | exact ih4 _ _ _ _ _ _ _ _ _
      | exact targumlaw20_letters.mono _ _
      | exact LeO.none _
      | refine LeO.ite ?_ ?_
      | refine LeO.bind ?_ (fun _ => ?_)
    · intro y0 y1 y2 y3 y4 y5 y6 y7 y8
      unfold targumlaw20_PlainFolds.l2
      repeat' first
      | (with_reducible exact ih0 _ _ _ _ _ _)
      | (with_reducible exact ih1 _ _ _ _ _ _ _ _)
      | (with_reducible exact ih2 _ _ _ _ _ _ _ _ _ _)
      | (with_reducible exact ih3 _ _ _ _ _ _ _ _)
      | (with_reducible exact ih4 _ _ _ _ _ _ _ _ _)
      | (with_reducible exact targumlaw20_letters.mono _ _)
      | (with_reducible exact LeO.refl _)
      | (with_reducible exact LeO.none _)
      | (with_reducible refine LeO.ite ?_ ?_)
      | (with_reducible refine LeO.bind ?_ (fun _ => ?_))
      | exact ih0 _ _ _ _ _ _
      | exact ih1 _ _ _ _ _ _ _ _
      | exact ih2 _ _ _ _ _ _ _ _ _ _
      | exact ih3 _ _ _ _ _ _ _ _
      | exact ih4 _ _ _ _ _ _ _ _ _
      | exact targumlaw20_letters.mono _ _
      | exact LeO.none _
      | refine LeO.ite ?_ ?_
      | refine LeO.bind ?_ (fun _ => ?_)
theorem targumlaw20_PlainFolds.mono : ∀ a0 a1 a2 a3 a4 k, LeO (targumlaw20_PlainFolds.f k a0 a1 a2 a3 a4) (targumlaw20_PlainFolds.f (k + 1) a0 a1 a2 a3 a4) := by
  intro a0 a1 a2 a3 a4 k
  obtain ⟨ih0, ih1, ih2, ih3, ih4⟩ := targumlaw20_PlainFolds.mono_l k
  unfold targumlaw20_PlainFolds.f
  repeat' first
      | (with_reducible exact ih0 _ _ _ _ _ _)
      | (with_reducible exact ih1 _ _ _ _ _ _ _ _)
      | (with_reducible exact ih2 _ _ _ _ _ _ _ _ _ _)
      | (with_reducible exact ih3 _ _ _ _ _ _ _ _)
      | (with_reducible exact ih4 _ _ _ _ _ _ _ _ _)
      | (with_reducible exact targumlaw20_letters.mono _ _)
      | (with_reducible exact LeO.refl _)
      | (with_reducible exact LeO.none _)
      | (with_reducible refine LeO.ite ?_ ?_)
      | (with_reducible refine LeO.bind ?_ (fun _ => ?_))
      | exact ih0 _ _ _ _ _ _
      | exact ih1 _ _ _ _ _ _ _ _
      | exact ih2 _ _ _ _ _ _ _ _ _ _
      | exact ih3 _ _ _ _ _ _ _ _
      | exact ih4 _ _ _ _ _ _ _ _ _
      | exact targumlaw20_letters.mono _ _
      | exact LeO.none _
      | refine LeO.ite ?_ ?_
      | refine LeO.bind ?_ (fun _ => ?_)
def targumlaw20_PlainFolds.T25 : Bool × List (List Nat × List Nat) := (true, [([], []), ([], []), ([], []), ([1, 2], [1, 2]), ([3], [3]), ([4], [4]), ([0, 5], [0, 5]), ([], []), ([], []), ([], []), ([8, 9], [8, 9]), ([10], [10]), ([11, 5], [11]), ([7, 12], [7, 12]), ([6, 12, 0, 1, 2, 3, 4, 5, 6], [0, 6]), ([13, 14, 0, 1, 2, 3, 4, 5, 6, 7, 8, 9, 10, 11, 12, 13, 14], [7, 13])])
def targumlaw20_PlainFolds.B25 : List Nat := [0, 0, 0, 6, 14, 30, 63, 0, 0, 0, 768, 1792, 3902, 8126, 8063, 32767]
theorem targumlaw20_PlainFolds.tab25 : rtab .any (opsOf Tryd.f5 25) = targumlaw20_PlainFolds.T25 := by kernel_rfl
theorem targumlaw20_PlainFolds.bits25 : waitsOk targumlaw20_PlainFolds.T25.2 targumlaw20_PlainFolds.B25 = true := by kernel_rfl
set_option maxHeartbeats 8000000 in
set_option maxRecDepth 100000 in
theorem targumlaw20_PlainFolds.calls (k : Nat) (A0 : Option Addr) (c0 : Nat) (l0 : List ByteArray) (A1 : Option Addr) (c1 : Nat) (l1 : List Int) (A2 : Option Addr) (c2 : Nat) (l2 : List Int) (a3 : Int) (a4 : Bool) (r : Bool) (w : World) (hr0 : Kd.C Kd.string w A0 l0.length l0) (hc0 : l0.length ≤ c0) (hr1 : Kd.C (Kd.int .u8) w A1 l1.length l1) (hc1 : l1.length ≤ c1) (hr2 : Kd.C (Kd.int .u8) w A2 l2.length l2) (hc2 : l2.length ≤ c2) (h : targumlaw20_PlainFolds.f k l0 l1 l2 a3 a4 = some r) :
    Calls Tryd.prog 5 #[.slice A0 l0.length c0, .slice A1 l1.length c1, .slice A2 l2.length c2, .int .u8 a3, .bool a4] w fun e w' => e = .returned (.bool r) ∧ Below w.heap.size w w' := by
  have HR0 := Aside0.mk hr0
  have HC0 := Aside0.mk hc0
  clear hr0 hc0
  have HR1 := Aside0.mk hr1
  have HC1 := Aside0.mk hc1
  clear hr1 hc1
  have HR2 := Aside0.mk hr2
  have HC2 := Aside0.mk hc2
  clear hr2 hc2
  have HB := Aside0.mk (Below.refl w.heap.size w)
  have H : ((targumlaw20_known.f).bind fun t116 => (if t116 = true then (if (l0.length : Int) < 1 then (targumlaw20_PlainFolds.j0 k l0 l1 l2 a3 a4 true) else (if (l0.length : Int) > 8 then (targumlaw20_PlainFolds.j0 k l0 l1 l2 a3 a4 true) else (if (l1.length : Int) < (l0.length : Int) then (targumlaw20_PlainFolds.j0 k l0 l1 l2 a3 a4 true) else (targumlaw20_PlainFolds.j0 k l0 l1 l2 a3 a4 (decide ((l2.length : Int) < (l0.length : Int))))))) else (some false))) = some r := h
  clear h
  replace H := Option.bind_eq_some_iff.mp H
  obtain ⟨t116, A60, H⟩ := H
  replace H : (if t116 = true then (if (l0.length : Int) < 1 then (targumlaw20_PlainFolds.j0 k l0 l1 l2 a3 a4 true) else (if (l0.length : Int) > 8 then (targumlaw20_PlainFolds.j0 k l0 l1 l2 a3 a4 true) else (if (l1.length : Int) < (l0.length : Int) then (targumlaw20_PlainFolds.j0 k l0 l1 l2 a3 a4 true) else (targumlaw20_PlainFolds.j0 k l0 l1 l2 a3 a4 (decide ((l2.length : Int) < (l0.length : Int))))))) else (some false)) = some r := H
  have A6 := Aside0.mk A60
  clear A60
  by_cases c7 : t116 = true
  · subst c7
    have H1 : (if (l0.length : Int) < 1 then (targumlaw20_PlainFolds.j0 k l0 l1 l2 a3 a4 true) else (if (l0.length : Int) > 8 then (targumlaw20_PlainFolds.j0 k l0 l1 l2 a3 a4 true) else (if (l1.length : Int) < (l0.length : Int) then (targumlaw20_PlainFolds.j0 k l0 l1 l2 a3 a4 true) else (targumlaw20_PlainFolds.j0 k l0 l1 l2 a3 a4 (decide ((l2.length : Int) < (l0.length : Int))))))) = some r := by rw [if_pos rfl] at H; exact H
    clear H
    have H := H1
    clear H1
    have HC8 := Aside0.mk H
    clear H
    go_enter Tryd.func5, Tryd.ntmps5
    go_upto_region 3 with (first | ((with_reducible refine gate_callee (f := 15) rfl ?_); refine goesL_ (some 27) rfl rfl Tryd.func15 (by kernel_rfl) rfl #[] rfl (by (try simp only [List.map_toArray, List.map_cons, List.map_nil]); first | done | rfl | (simp only [List.length_drop, List.length_take]; rfl)) ?_; (with_reducible refine (targumlaw20_known.calls  true _ A6.out).mono ?_); rintro e w9 ⟨rfl, hb⟩; refine ⟨_, rfl, ?_⟩; have n0_ := Aside0.mk (below_step (by repeat (first | (with_reducible first | exact HB.out | apply below_alloc | apply pw_below_drewN | apply below_drew1) | exact HB.out)) hb); clear HB; have HB := n0_; clear n0_; (try clear hb); (try clear hb2); (try clear hk); (try clear hi)))
    (try simp only [Act.put, List.setIfInBounds_toArray, List.set_cons_zero, List.set_cons_succ])
    go_cut [50] (fun v50 wc => ∃ (kq : Nat) (x50_7 : Bool), v50 = .bool x50_7 ∧ Aside0 (targumlaw20_PlainFolds.j0 kq l0 l1 l2 a3 a4 x50_7 = some r) ∧ Aside0 (kq ≤ k) ∧ Aside0 (Below w.heap.size w wc))
    case first =>
      have H := HC8.out
      clear HC8
      by_cases c10 : (l0.length : Int) < 1
      · rw [if_pos c10] at H
        have c10b0 : decide ((l0.length : Int) < 1) = true := decide_eq_true c10
        have c10b1 : decide (l0.length < 1) = true := decide_eq_true (by omega)
        clear c10
        (first | rw [c10b0] | (simp only [i64_w, i32_w]; rw [c10b0]) | skip)
        have H' := Aside0.mk H
        clear H
        go_wp2
        go_meet
        case rel => exact ⟨_, (true), (by first | rfl | (simp; done) | (simp [*]; done)), H', ⟨by first | omega | exact Nat.le_refl _⟩, ⟨by repeat (first | (with_reducible first | exact HB.out | apply below_alloc | apply pw_below_drewN | apply below_drew1) | exact HB.out)⟩⟩
      · rw [if_neg c10] at H
        have c10b0 : decide ((l0.length : Int) < 1) = false := decide_eq_false c10
        have c10b1 : decide (l0.length < 1) = false := decide_eq_false (by omega)
        clear c10
        (first | rw [c10b0] | (simp only [i64_w, i32_w]; rw [c10b0]) | skip)
        by_cases c11 : (l0.length : Int) > 8
        · rw [if_pos c11] at H
          have c11b0 : decide (8 < (l0.length : Int)) = true := decide_eq_true c11
          have c11b1 : decide (8 < l0.length) = true := decide_eq_true (by omega)
          clear c11
          have H' := Aside0.mk H
          clear H
          go_wp2
          go_meet
          case rel => exact ⟨_, (true), (by first | rfl | (simp; done) | (simp [*]; done)), H', ⟨by first | omega | exact Nat.le_refl _⟩, ⟨by repeat (first | (with_reducible first | exact HB.out | apply below_alloc | apply pw_below_drewN | apply below_drew1) | exact HB.out)⟩⟩
        · rw [if_neg c11] at H
          have c11b0 : decide (8 < (l0.length : Int)) = false := decide_eq_false c11
          have c11b1 : decide (8 < l0.length) = false := decide_eq_false (by omega)
          clear c11
          by_cases c12 : (l1.length : Int) < (l0.length : Int)
          · rw [if_pos c12] at H
            have c12b0 : decide ((l1.length : Int) < (l0.length : Int)) = true := decide_eq_true c12
            have c12b1 : decide (l1.length < l0.length) = true := decide_eq_true (Int.ofNat_lt.mp c12)
            clear c12
            have H' := Aside0.mk H
            clear H
            go_wp2
            go_meet
            case rel => exact ⟨_, (true), (by first | rfl | (simp; done) | (simp [*]; done)), H', ⟨by first | omega | exact Nat.le_refl _⟩, ⟨by repeat (first | (with_reducible first | exact HB.out | apply below_alloc | apply pw_below_drewN | apply below_drew1) | exact HB.out)⟩⟩
          · rw [if_neg c12] at H
            have c12b0 : decide ((l1.length : Int) < (l0.length : Int)) = false := decide_eq_false c12
            have c12b1 : decide (l1.length < l0.length) = false := decide_eq_false (fun h => c12 (Int.ofNat_lt.mpr h))
            clear c12
            have H' := Aside0.mk H
            clear H
            go_wp2
            go_meet
            case rel => exact ⟨_, (decide ((l2.length : Int) < (l0.length : Int))), (by first | rfl | (simp; done) | (simp [*]; done)), H', ⟨by first | omega | exact Nat.le_refl _⟩, ⟨by repeat (first | (with_reducible first | exact HB.out | apply below_alloc | apply pw_below_drewN | apply below_drew1) | exact HB.out)⟩⟩
    case rest =>
      clear HC8
      try clear c1
      try clear c2
      try clear p2
      try clear c5
      try clear c7
      try clear c10
      try clear c10b0
      try clear c10b1
      try clear c11
      try clear c11b0
      try clear c11b1
      try clear c12
      try clear c12b0
      try clear c12b1
      obtain ⟨kq, x50_7, rfl, HA, HJ7, HB⟩ := hcut
      cases kq with
      | zero => exact absurd HA.out (by simp [targumlaw20_PlainFolds.j0])
      | succ kj7 =>
        have H := HA.out
        clear HA
        simp only [targumlaw20_PlainFolds.j0] at H
        by_cases c13 : x50_7 = true
        · subst c13
          have H1 : (some true) = some r := by rw [if_pos rfl] at H; exact H
          clear H
          have H := H1
          clear H1
          obtain rfl := Option.some.inj H
          go_wp2
          go_ret
          exact ⟨by first | rfl | (simp [errW_none, errW_some] <;> rfl) | (simp [*, errW_none, errW_some] <;> rfl), by repeat (first | (with_reducible first | exact HB.out | apply below_alloc | apply pw_below_drewN | apply below_drew1) | exact HB.out)⟩
        · replace c13 := Bool.eq_false_iff.mpr c13
          subst c13
          have H1 : (targumlaw20_PlainFolds.l0 kj7 l0 l1 l2 a4 (wrap64 ((wrap64 (Int.tmod a3 5)) - 1)) (⟨#[]⟩ : ByteArray) (⟨#[]⟩ : ByteArray) 0) = some r := by rw [if_neg (show ¬ (false = true) by decide)] at H; exact H
          clear H
          have H := H1
          clear H1
          have H' := Aside0.mk H
          clear H
          go_wp2
          go_loopg [12, 13, 14] kj7 (fun kq v12 v13 v14 w' => ∃ (x12_2 : ByteArray) (x13_2 : ByteArray) (x14_2 : Int), v12 = .string x12_2 ∧ v13 = .string x13_2 ∧ v14 = .int .i64 x14_2 ∧ Aside0 (targumlaw20_PlainFolds.l0 kq l0 l1 l2 a4 (wrap64 ((wrap64 (Int.tmod a3 5)) - 1)) x12_2 x13_2 x14_2 = some r) ∧ Aside0 (kq ≤ kj7) ∧ Aside0 (Below w.heap.size w w'))
          case atStart => exact ⟨((⟨#[]⟩ : ByteArray)), ((⟨#[]⟩ : ByteArray)), (0), (by first | rfl | (simp; done) | (simp [*]; done)), (by first | rfl | (simp; done) | (simp [*]; done)), (by first | rfl | (simp; done) | (simp [*]; done)), H', ⟨Nat.le_refl _⟩, ⟨by repeat (first | (with_reducible first | exact HB.out | apply below_alloc | apply pw_below_drewN | apply below_drew1) | exact HB.out)⟩⟩
          case round =>
            clear H'
            try clear c1
            try clear c2
            try clear p2
            try clear c5
            try clear p6
            try clear c7
            try clear c10
            try clear c10b0
            try clear c10b1
            try clear c11
            try clear c11b0
            try clear c11b1
            try clear c12
            try clear c12b0
            try clear c12b1
            try clear c13
            try clear p2
            obtain ⟨x12_2, x13_2, x14_2, rfl, rfl, rfl, HA, HK2, HB⟩ := hrel
            cases gk with
            | zero => exact absurd HA.out (by simp [targumlaw20_PlainFolds.l0])
            | succ k2 =>
              have H := HA.out
              clear HA
              simp only [targumlaw20_PlainFolds.l0] at H
              by_cases c14 : x14_2 < (l0.length : Int)
              · rw [if_pos c14] at H
                have c14b0 : decide (x14_2 < (l0.length : Int)) = true := decide_eq_true c14
                clear c14
                by_cases c15 : 0 ≤ x14_2
                · rw [if_pos c15] at H
                  have c15b0 : decide (0 ≤ x14_2) = true := decide_eq_true c15
                  clear c15
                  by_cases c16 : ((rdOf ByteArray.empty l0 x14_2).size : Int) > 30
                  · rw [if_pos c16] at H
                    have c16b0 : decide (30 < ((rdOf ByteArray.empty l0 x14_2).size : Int)) = true := decide_eq_true c16
                    have c16b1 : decide (30 < (rdOf ByteArray.empty l0 x14_2).size) = true := decide_eq_true (by omega)
                    clear c16
                    obtain rfl := Option.some.inj H
                    have p117 : 0 ≤ (x14_2 : Int) := of_decide_eq_true (by first | (with_reducible assumption) | assumption)
                    have q117 : x14_2 < (l0.length : Int) := of_decide_eq_true (by first | (with_reducible assumption) | assumption)
                    obtain ⟨ad117, e117, hx117_0⟩ := Kd.at_string HR0.out x14_2 p117 q117
                    cases e117
                    replace hx117_0 := (HB.out.cell (World.block_lt_of_cell? w _ hx117_0)).trans hx117_0
                    replace p117 := eq_true p117
                    replace q117 := eq_true q117
                    go_wp2
                    go_ret
                    exact ⟨by first | rfl | (simp [errW_none, errW_some] <;> rfl) | (simp [*, errW_none, errW_some] <;> rfl), by repeat (first | (with_reducible first | exact HB.out | apply below_alloc | apply pw_below_drewN | apply below_drew1) | exact HB.out)⟩
                  · rw [if_neg c16] at H
                    have c16b0 : decide (30 < ((rdOf ByteArray.empty l0 x14_2).size : Int)) = false := decide_eq_false c16
                    have c16b1 : decide (30 < (rdOf ByteArray.empty l0 x14_2).size) = false := decide_eq_false (by omega)
                    clear c16
                    by_cases c17 : x14_2 > 0
                    · rw [if_pos c17] at H
                      have c17b0 : decide (0 < x14_2) = true := decide_eq_true c17
                      clear c17
                      by_cases c18 : x14_2 < (l1.length : Int)
                      · rw [if_pos c18] at H
                        have c18b0 : decide (x14_2 < (l1.length : Int)) = true := decide_eq_true c18
                        clear c18
                        by_cases c19 : x12_2.size + 2 ≤ 9223372036854775807
                        · rw [if_pos c19] at H
                          have c19b0 := eq_true c19
                          have c19b1 : decide (x12_2.size + 2 ≤ 9223372036854775807) = true := decide_eq_true c19
                          try have c19b2 : (9223372036854775807 < x12_2.size + 2) = False := eq_false (Nat.not_lt.2 c19)
                          have H' := Aside0.mk H
                          clear H
                          have p117 : 0 ≤ (x14_2 : Int) := of_decide_eq_true (by first | (with_reducible assumption) | assumption)
                          have q117 : x14_2 < (l0.length : Int) := of_decide_eq_true (by first | (with_reducible assumption) | assumption)
                          obtain ⟨ad117, e117, hx117_0⟩ := Kd.at_string HR0.out x14_2 p117 q117
                          cases e117
                          replace hx117_0 := (HB.out.cell (World.block_lt_of_cell? w _ hx117_0)).trans hx117_0
                          replace p117 := eq_true p117
                          replace q117 := eq_true q117
                          have p118 : 0 ≤ (x14_2 : Int) := of_decide_eq_true (by first | (with_reducible assumption) | assumption)
                          have q118 : x14_2 < (l1.length : Int) := of_decide_eq_true (by first | (with_reducible assumption) | assumption)
                          obtain ⟨ad118, e118, hx118_0⟩ := Kd.at_int HR1.out x14_2 p118 q118
                          cases e118
                          replace hx118_0 := (HB.out.cell (World.block_lt_of_cell? w _ hx118_0)).trans hx118_0
                          replace p118 := eq_true p118
                          replace q118 := eq_true q118
                          go_wp2
                          go_loopg [12, 13, 16] k2 (fun kq v12 v13 v16 w' => ∃ (x12_3 : ByteArray) (x13_3 : ByteArray) (x16_3 : Int), v12 = .string x12_3 ∧ v13 = .string x13_3 ∧ v16 = .int .i64 x16_3 ∧ Aside0 (targumlaw20_PlainFolds.l1 kq l0 l1 l2 a4 (wrap64 ((wrap64 (Int.tmod a3 5)) - 1)) x12_3 x13_3 x14_2 (wrap64 (Int.tmod (rd l1 x14_2) 4)) x16_3 = some r) ∧ Aside0 (kq ≤ k2) ∧ Aside0 (Below w.heap.size w w'))
                          case atStart => exact ⟨(x12_2 ++ (⟨#[32, 10]⟩ : ByteArray)), (x13_2), (0), (by first | rfl | (simp; done) | (simp [*]; done)), (by first | rfl | (simp; done) | (simp [*]; done)), (by first | rfl | (simp; done) | (simp [*]; done)), H', ⟨Nat.le_refl _⟩, ⟨by repeat (first | (with_reducible first | exact HB.out | apply below_alloc | apply pw_below_drewN | apply below_drew1) | exact HB.out)⟩⟩
                          case round =>
                            clear H'
                            try clear c1
                            try clear p1
                            try clear q1
                            try clear hx1
                            try clear c2
                            try clear p2
                            try clear c5
                            try clear p6
                            try clear c7
                            try clear c10
                            try clear c10b0
                            try clear c10b1
                            try clear c11
                            try clear c11b0
                            try clear c11b1
                            try clear p11
                            try clear q11
                            try clear hx11
                            try clear c12
                            try clear c12b0
                            try clear c12b1
                            try clear c13
                            try clear c14
                            try clear c14b0
                            try clear c15
                            try clear c15b0
                            try clear c16
                            try clear c16b0
                            try clear c16b1
                            try clear c17
                            try clear c17b0
                            try clear c18
                            try clear c18b0
                            try clear c19
                            try clear c19b0
                            try clear c19b1
                            try clear c19b2
                            try clear hx117_0
                            try clear hx118_0
                            try clear p117
                            try clear p118
                            try clear p2
                            try clear p6
                            try clear q117
                            try clear q118
                            obtain ⟨x12_3, x13_3, x16_3, rfl, rfl, rfl, HA, HK3, HB⟩ := hrel
                            cases gk with
                            | zero => exact absurd HA.out (by simp [targumlaw20_PlainFolds.l1])
                            | succ k3 =>
                              have H := HA.out
                              clear HA
                              simp only [targumlaw20_PlainFolds.l1] at H
                              by_cases c20 : x16_3 < (wrap64 (Int.tmod (rd l1 x14_2) 4))
                              · rw [if_pos c20] at H
                                have c20b0 : decide (x16_3 < (wrap64 (Int.tmod (rd l1 x14_2) 4))) = true := decide_eq_true c20
                                clear c20
                                by_cases c21 : x12_3.size + 2 ≤ 9223372036854775807
                                · rw [if_pos c21] at H
                                  have c21b0 := eq_true c21
                                  have c21b1 : decide (x12_3.size + 2 ≤ 9223372036854775807) = true := decide_eq_true c21
                                  try have c21b2 : (9223372036854775807 < x12_3.size + 2) = False := eq_false (Nat.not_lt.2 c21)
                                  by_cases c22 : x13_3.size + 1 ≤ 9223372036854775807
                                  · rw [if_pos c22] at H
                                    have c22b0 := eq_true c22
                                    have c22b1 : decide (x13_3.size + 1 ≤ 9223372036854775807) = true := decide_eq_true c22
                                    try have c22b2 : (9223372036854775807 < x13_3.size + 1) = False := eq_false (Nat.not_lt.2 c22)
                                    have H' := Aside0.mk H
                                    clear H
                                    go_wp2
                                    go_roundg k3
                                    case measure => have := HJ7.out; have := HK2.out; have := HK3.out; omega
                                    case rel => exact ⟨(x12_3 ++ (⟨#[9, 10]⟩ : ByteArray)), (x13_3 ++ (⟨#[10]⟩ : ByteArray)), (wrap64 (x16_3 + 1)), (by first | rfl | (simp; done) | (simp [*]; done)), (by first | rfl | (simp; done) | (simp [*]; done)), (by first | rfl | (simp; done) | (simp [*]; done)), H', ⟨by have := HJ7.out; have := HK2.out; have := HK3.out; omega⟩, ⟨by repeat (first | (with_reducible first | exact HB.out | apply below_alloc | apply pw_below_drewN | apply below_drew1) | exact HB.out)⟩⟩
                                  · rw [if_neg c22] at H
                                    exact absurd H (by simp)
                                · rw [if_neg c21] at H
                                  exact absurd H (by simp)
                              · rw [if_neg c20] at H
                                have c20b0 : decide (x16_3 < (wrap64 (Int.tmod (rd l1 x14_2) 4))) = false := decide_eq_false c20
                                clear c20
                                have HC23 := Aside0.mk H
                                clear H
                                go_upto_if 87 with (fail)
                                go_cut [13] (fun v13 wc => ∃ (kq : Nat) (x13_22 : ByteArray), v13 = .string x13_22 ∧ Aside0 (targumlaw20_PlainFolds.j3 kq l0 l1 l2 a4 (wrap64 ((wrap64 (Int.tmod a3 5)) - 1)) x12_3 x13_22 x14_2 = some r) ∧ Aside0 (kq ≤ k3) ∧ Aside0 (Below w.heap.size w wc))
                                case first =>
                                  have H := HC23.out
                                  clear HC23
                                  by_cases c24 : (wrap64 (Int.tmod (rd l1 x14_2) 4)) = 0
                                  · rw [if_pos c24] at H
                                    have c24b0 : ((wrap64 (Int.tmod (rd l1 x14_2) 4)) == 0) = true := beq_iff_eq.mpr c24
                                    have c24b1 : ((wrap64 (Int.tmod (rd l1 x14_2) 4)) != 0) = false := bne_eq_false_iff_eq.mpr c24
                                    clear c24
                                    (first | rw [c24b0] | (simp only [i64_w, i32_w]; rw [c24b0]) | skip)
                                    by_cases c25 : x13_3.size + 1 ≤ 9223372036854775807
                                    · rw [if_pos c25] at H
                                      have c25b0 := eq_true c25
                                      have c25b1 : decide (x13_3.size + 1 ≤ 9223372036854775807) = true := decide_eq_true c25
                                      try have c25b2 : (9223372036854775807 < x13_3.size + 1) = False := eq_false (Nat.not_lt.2 c25)
                                      have H' := Aside0.mk H
                                      clear H
                                      go_wp2
                                      go_meet
                                      case rel => exact ⟨_, (x13_3 ++ (⟨#[32]⟩ : ByteArray)), (by first | rfl | (simp; done) | (simp [*]; done)), H', ⟨by have := HJ7.out; have := HK2.out; have := HK3.out; first | omega | exact Nat.le_refl _⟩, ⟨by repeat (first | (with_reducible first | exact HB.out | apply below_alloc | apply pw_below_drewN | apply below_drew1) | exact HB.out)⟩⟩
                                    · rw [if_neg c25] at H
                                      exact absurd H (by simp)
                                  · rw [if_neg c24] at H
                                    have c24b0 : ((wrap64 (Int.tmod (rd l1 x14_2) 4)) == 0) = false := beq_eq_false_iff_ne.mpr c24
                                    have c24b1 : ((wrap64 (Int.tmod (rd l1 x14_2) 4)) != 0) = true := bne_iff_ne.mpr c24
                                    (first | rw [c24b0] | (simp only [i64_w, i32_w]; rw [c24b0]) | skip)
                                    have H' := Aside0.mk H
                                    clear H
                                    go_wp2
                                    go_meet
                                    case rel => exact ⟨_, (x13_3), (by first | rfl | (simp; done) | (simp [*]; done)), H', ⟨by have := HJ7.out; have := HK2.out; have := HK3.out; first | omega | exact Nat.le_refl _⟩, ⟨by repeat (first | (with_reducible first | exact HB.out | apply below_alloc | apply pw_below_drewN | apply below_drew1) | exact HB.out)⟩⟩
                                case rest =>
                                  clear HC23
                                  try clear c1
                                  try clear p1
                                  try clear q1
                                  try clear hx1
                                  try clear c2
                                  try clear p2
                                  try clear c5
                                  try clear p6
                                  try clear c7
                                  try clear c10
                                  try clear c10b0
                                  try clear c10b1
                                  try clear c11
                                  try clear c11b0
                                  try clear c11b1
                                  try clear p11
                                  try clear q11
                                  try clear hx11
                                  try clear c12
                                  try clear c12b0
                                  try clear c12b1
                                  try clear c13
                                  try clear c14
                                  try clear c14b0
                                  try clear c15
                                  try clear c15b0
                                  try clear c16
                                  try clear c16b0
                                  try clear c16b1
                                  try clear c17
                                  try clear c17b0
                                  try clear c18
                                  try clear c18b0
                                  try clear c19
                                  try clear c19b0
                                  try clear c19b1
                                  try clear c19b2
                                  try clear c20
                                  try clear c20b0
                                  try clear c21
                                  try clear c21b0
                                  try clear c21b1
                                  try clear c21b2
                                  try clear c22
                                  try clear c22b0
                                  try clear c22b1
                                  try clear c22b2
                                  try clear c24
                                  try clear c24b0
                                  try clear c24b1
                                  try clear c25
                                  try clear c25b0
                                  try clear c25b1
                                  try clear c25b2
                                  try clear hx117_0
                                  try clear hx118_0
                                  try clear p1
                                  try clear p11
                                  try clear p117
                                  try clear p118
                                  try clear p2
                                  try clear p6
                                  try clear q1
                                  try clear q11
                                  try clear q117
                                  try clear q118
                                  obtain ⟨kq, x13_22, rfl, HA, HJ22, HB⟩ := hcut
                                  cases kq with
                                  | zero => exact absurd HA.out (by simp [targumlaw20_PlainFolds.j3])
                                  | succ kj22 =>
                                    have H := HA.out
                                    clear HA
                                    simp only [targumlaw20_PlainFolds.j3] at H
                                    have H' := Aside0.mk H
                                    clear H
                                    go_wp2
                                    go_loopg [12, 17] kj22 (fun kq v12 v17 w' => ∃ (x12_5 : ByteArray) (x17_5 : Int), v12 = .string x12_5 ∧ v17 = .int .i64 x17_5 ∧ Aside0 (targumlaw20_PlainFolds.l2 kq l0 l1 l2 a4 (wrap64 ((wrap64 (Int.tmod a3 5)) - 1)) x12_5 x13_22 x14_2 x17_5 = some r) ∧ Aside0 (kq ≤ kj22) ∧ Aside0 (Below w.heap.size w w'))
                                    case atStart => exact ⟨(x12_3), (0), (by first | rfl | (simp; done) | (simp [*]; done)), (by first | rfl | (simp; done) | (simp [*]; done)), H', ⟨Nat.le_refl _⟩, ⟨by repeat (first | (with_reducible first | exact HB.out | apply below_alloc | apply pw_below_drewN | apply below_drew1) | exact HB.out)⟩⟩
                                    case round =>
                                      clear H'
                                      try clear c1
                                      try clear p1
                                      try clear q1
                                      try clear hx1
                                      try clear c2
                                      try clear p2
                                      try clear c5
                                      try clear p6
                                      try clear c7
                                      try clear c10
                                      try clear c10b0
                                      try clear c10b1
                                      try clear c11
                                      try clear c11b0
                                      try clear c11b1
                                      try clear p11
                                      try clear q11
                                      try clear hx11
                                      try clear c12
                                      try clear c12b0
                                      try clear c12b1
                                      try clear c13
                                      try clear c14
                                      try clear c14b0
                                      try clear c15
                                      try clear c15b0
                                      try clear c16
                                      try clear c16b0
                                      try clear c16b1
                                      try clear c17
                                      try clear c17b0
                                      try clear c18
                                      try clear c18b0
                                      try clear c19
                                      try clear c19b0
                                      try clear c19b1
                                      try clear c19b2
                                      try clear c20
                                      try clear c20b0
                                      try clear c21
                                      try clear c21b0
                                      try clear c21b1
                                      try clear c21b2
                                      try clear c22
                                      try clear c22b0
                                      try clear c22b1
                                      try clear c22b2
                                      try clear c24
                                      try clear c24b0
                                      try clear c24b1
                                      try clear c25
                                      try clear c25b0
                                      try clear c25b1
                                      try clear c25b2
                                      try clear hx117_0
                                      try clear hx118_0
                                      try clear p1
                                      try clear p11
                                      try clear p117
                                      try clear p118
                                      try clear p2
                                      try clear p6
                                      try clear q1
                                      try clear q11
                                      try clear q117
                                      try clear q118
                                      obtain ⟨x12_5, x17_5, rfl, rfl, HA, HK5, HB⟩ := hrel
                                      cases gk with
                                      | zero => exact absurd HA.out (by simp [targumlaw20_PlainFolds.l2])
                                      | succ k5 =>
                                        have H := HA.out
                                        clear HA
                                        simp only [targumlaw20_PlainFolds.l2] at H
                                        by_cases c26 : 0 ≤ x14_2
                                        · rw [if_pos c26] at H
                                          have c26b0 : decide (0 ≤ x14_2) = true := decide_eq_true c26
                                          clear c26
                                          by_cases c27 : x14_2 < (l2.length : Int)
                                          · rw [if_pos c27] at H
                                            have c27b0 : decide (x14_2 < (l2.length : Int)) = true := decide_eq_true c27
                                            clear c27
                                            by_cases c28 : x17_5 < (wrap64 ((wrap64 ((wrap64 ((wrap64 (Int.tmod a3 5)) - 1)) + 1)) + (wrap64 (Int.tmod (rd l2 x14_2) 4))))
                                            · rw [if_pos c28] at H
                                              have c28b0 : decide (x17_5 < (wrap64 ((wrap64 ((wrap64 ((wrap64 (Int.tmod a3 5)) - 1)) + 1)) + (wrap64 (Int.tmod (rd l2 x14_2) 4))))) = true := decide_eq_true c28
                                              clear c28
                                              by_cases c29 : x12_5.size + 1 ≤ 9223372036854775807
                                              · rw [if_pos c29] at H
                                                have c29b0 := eq_true c29
                                                have c29b1 : decide (x12_5.size + 1 ≤ 9223372036854775807) = true := decide_eq_true c29
                                                try have c29b2 : (9223372036854775807 < x12_5.size + 1) = False := eq_false (Nat.not_lt.2 c29)
                                                have H' := Aside0.mk H
                                                clear H
                                                have p119 : 0 ≤ (x14_2 : Int) := of_decide_eq_true (by first | (with_reducible assumption) | assumption)
                                                have q119 : x14_2 < (l2.length : Int) := of_decide_eq_true (by first | (with_reducible assumption) | assumption)
                                                obtain ⟨ad119, e119, hx119_0⟩ := Kd.at_int HR2.out x14_2 p119 q119
                                                cases e119
                                                replace hx119_0 := (HB.out.cell (World.block_lt_of_cell? w _ hx119_0)).trans hx119_0
                                                replace p119 := eq_true p119
                                                replace q119 := eq_true q119
                                                go_wp2
                                                go_roundg k5
                                                case measure => have := HJ7.out; have := HK2.out; have := HK3.out; have := HJ22.out; have := HK5.out; omega
                                                case rel => exact ⟨(x12_5 ++ (⟨#[32]⟩ : ByteArray)), (wrap64 (x17_5 + 1)), (by first | rfl | (simp; done) | (simp [*]; done)), (by first | rfl | (simp; done) | (simp [*]; done)), H', ⟨by have := HJ7.out; have := HK2.out; have := HK3.out; have := HJ22.out; have := HK5.out; omega⟩, ⟨by repeat (first | (with_reducible first | exact HB.out | apply below_alloc | apply pw_below_drewN | apply below_drew1) | exact HB.out)⟩⟩
                                              · rw [if_neg c29] at H
                                                exact absurd H (by simp)
                                            · rw [if_neg c28] at H
                                              have c28b0 : decide (x17_5 < (wrap64 ((wrap64 ((wrap64 ((wrap64 (Int.tmod a3 5)) - 1)) + 1)) + (wrap64 (Int.tmod (rd l2 x14_2) 4))))) = false := decide_eq_false c28
                                              clear c28
                                              by_cases c30 : x14_2 < (l0.length : Int)
                                              · rw [if_pos c30] at H
                                                have c30b0 : decide (x14_2 < (l0.length : Int)) = true := decide_eq_true c30
                                                clear c30
                                                replace H := Option.bind_eq_some_iff.mp H
                                                obtain ⟨t121, A310, H⟩ := H
                                                replace H : (if x12_5.size + t121.size ≤ 9223372036854775807 then ((targumlaw20_letters.f k5 (rdOf ByteArray.empty l0 x14_2)).bind fun t123 => (if x13_22.size + t123.size ≤ 9223372036854775807 then (targumlaw20_PlainFolds.l0 k5 l0 l1 l2 a4 (wrap64 ((wrap64 (Int.tmod a3 5)) - 1)) (x12_5 ++ t121) (x13_22 ++ t123) (wrap64 (x14_2 + 1))) else (none))) else (none)) = some r := H
                                                have A31 := Aside0.mk A310
                                                clear A310
                                                by_cases c32 : x12_5.size + t121.size ≤ 9223372036854775807
                                                · rw [if_pos c32] at H
                                                  have c32b0 := eq_true c32
                                                  have c32b1 : decide (x12_5.size + t121.size ≤ 9223372036854775807) = true := decide_eq_true c32
                                                  try have c32b2 : (9223372036854775807 < x12_5.size + t121.size) = False := eq_false (Nat.not_lt.2 c32)
                                                  replace H := Option.bind_eq_some_iff.mp H
                                                  obtain ⟨t123, A330, H⟩ := H
                                                  replace H : (if x13_22.size + t123.size ≤ 9223372036854775807 then (targumlaw20_PlainFolds.l0 k5 l0 l1 l2 a4 (wrap64 ((wrap64 (Int.tmod a3 5)) - 1)) (x12_5 ++ t121) (x13_22 ++ t123) (wrap64 (x14_2 + 1))) else (none)) = some r := H
                                                  have A33 := Aside0.mk A330
                                                  clear A330
                                                  by_cases c34 : x13_22.size + t123.size ≤ 9223372036854775807
                                                  · rw [if_pos c34] at H
                                                    have c34b0 := eq_true c34
                                                    have c34b1 : decide (x13_22.size + t123.size ≤ 9223372036854775807) = true := decide_eq_true c34
                                                    try have c34b2 : (9223372036854775807 < x13_22.size + t123.size) = False := eq_false (Nat.not_lt.2 c34)
                                                    have H' := Aside0.mk H
                                                    clear H
                                                    have p119 : 0 ≤ (x14_2 : Int) := of_decide_eq_true (by first | (with_reducible assumption) | assumption)
                                                    have q119 : x14_2 < (l2.length : Int) := of_decide_eq_true (by first | (with_reducible assumption) | assumption)
                                                    obtain ⟨ad119, e119, hx119_0⟩ := Kd.at_int HR2.out x14_2 p119 q119
                                                    cases e119
                                                    replace hx119_0 := (HB.out.cell (World.block_lt_of_cell? w _ hx119_0)).trans hx119_0
                                                    replace p119 := eq_true p119
                                                    replace q119 := eq_true q119
                                                    try go_wp2
                                                    have n0_ := Aside0.mk (below_drew1 HB.out)
                                                    clear HB
                                                    have HB := n0_
                                                    clear n0_
                                                    have p120 : 0 ≤ (x14_2 : Int) := of_decide_eq_true (by first | (with_reducible assumption) | assumption)
                                                    have q120 : x14_2 < (l0.length : Int) := of_decide_eq_true (by first | (with_reducible assumption) | assumption)
                                                    obtain ⟨ad120, e120, hx120_0⟩ := Kd.at_string HR0.out x14_2 p120 q120
                                                    have hw120_0 := hx120_0
                                                    obtain rfl : ad117 = ad120 := (by injection e120)
                                                    replace hx120_0 := (HB.out.cell (World.block_lt_of_cell? w _ hx120_0)).trans hx120_0
                                                    replace p120 := eq_true p120
                                                    replace q120 := eq_true q120
                                                    have p122 : 0 ≤ (x14_2 : Int) := of_decide_eq_true (by first | (with_reducible assumption) | assumption)
                                                    have q122 : x14_2 < (l0.length : Int) := of_decide_eq_true (by first | (with_reducible assumption) | assumption)
                                                    obtain ⟨ad122, e122, hx122_0⟩ := Kd.at_string HR0.out x14_2 p122 q122
                                                    have hw122_0 := hx122_0
                                                    obtain rfl : ad117 = ad122 := (by injection e122)
                                                    replace hx122_0 := (HB.out.cell (World.block_lt_of_cell? w _ hx122_0)).trans hx122_0
                                                    replace p122 := eq_true p122
                                                    replace q122 := eq_true q122
                                                    refine start_ (n := 16) (S := fun w' => w'.cell? (ad117.add (x14_2).toNat) = some (.string (rdOf ByteArray.empty l0 x14_2)) ∧ w'.cell? (ad117.add (x14_2).toNat) = some (.string (rdOf ByteArray.empty l0 x14_2))) (ds := []) #[false, false, false, false, false, false, false, false, false, false, false, false, false, false, false, false] (by kernel_rfl) rfl rfl ⟨((HB.out.cell (World.block_lt_of_cell? w _ hw120_0)).trans hw120_0), ((HB.out.cell (World.block_lt_of_cell? w _ hw122_0)).trans hw122_0)⟩ (fun hHeld => ?_); refine with_tabW targumlaw20_PlainFolds.tab25 targumlaw20_PlainFolds.bits25 (fun HT_ HW_ => ?_)
                                                    generalize wr.drew = w35 at HB hx120_0 hx122_0 hHeld ⊢
                                                    refine pure_ (i := 0) (N := some 105) (v := ?_) (a' := ?_) #[true, false, false, false, false, false, false, false, false, false, false, false, false, false, false, false] rfl rfl (any_of HT_.out (by kernel_rfl)) (fun _ _ _ h => h) (Or.inl ⟨by rfl, ?_⟩) ?_ ?_
                                                    rotate_left
                                                    · intro w'
                                                      go_simp
                                                      with_reducible rfl
                                                    rotate_left
                                                    · simp only [Act.put, List.setIfInBounds_toArray, List.set_cons_zero, List.set_cons_succ, i64_w, i32_w]
                                                      rfl
                                                    refine pure_ (i := 1) (N := some 106) (v := ?_) (a' := ?_) #[true, true, false, false, false, false, false, false, false, false, false, false, false, false, false, false] rfl rfl (any_of HT_.out (by kernel_rfl)) (fun _ _ _ h => h) (Or.inl ⟨by rfl, ?_⟩) ?_ ?_
                                                    rotate_left
                                                    · intro w'
                                                      go_simp
                                                      with_reducible rfl
                                                    rotate_left
                                                    · simp only [Act.put, List.setIfInBounds_toArray, List.set_cons_zero, List.set_cons_succ, i64_w, i32_w]
                                                      rfl
                                                    refine pure_ (i := 2) (N := some 107) (v := ?_) (a' := ?_) #[true, true, true, false, false, false, false, false, false, false, false, false, false, false, false, false] rfl rfl (any_of HT_.out (by kernel_rfl)) (fun _ _ _ h => h) (Or.inl ⟨by rfl, ?_⟩) ?_ ?_
                                                    rotate_left
                                                    · intro w'
                                                      go_simp
                                                      with_reducible rfl
                                                    rotate_left
                                                    · simp only [Act.put, List.setIfInBounds_toArray, List.set_cons_zero, List.set_cons_succ, i64_w, i32_w]
                                                      rfl
                                                    refine pure_ (i := 3) (N := some 108) (v := ?_) (a' := ?_) #[true, true, true, true, false, false, false, false, false, false, false, false, false, false, false, false] rfl rfl (any_of HT_.out (by kernel_rfl)) (fun _ _ _ h => h) (Or.inl ⟨by rfl, ?_⟩) ?_ ?_
                                                    rotate_left
                                                    · intro w'
                                                      go_simp
                                                      with_reducible rfl
                                                    rotate_left
                                                    · simp only [Act.put, List.setIfInBounds_toArray, List.set_cons_zero, List.set_cons_succ, i64_w, i32_w]
                                                      rfl
                                                    refine pure_ (i := 7) (N := some 112) (v := ?_) (a' := ?_) #[true, true, true, true, false, false, false, true, false, false, false, false, false, false, false, false] rfl rfl (any_of HT_.out (by kernel_rfl)) (fun _ _ _ h => h) (Or.inl ⟨by rfl, ?_⟩) ?_ ?_
                                                    rotate_left
                                                    · intro w'
                                                      go_simp
                                                      with_reducible rfl
                                                    rotate_left
                                                    · simp only [Act.put, List.setIfInBounds_toArray, List.set_cons_zero, List.set_cons_succ, i64_w, i32_w]
                                                      rfl
                                                    refine pure_ (i := 8) (N := some 113) (v := ?_) (a' := ?_) #[true, true, true, true, false, false, false, true, true, false, false, false, false, false, false, false] rfl rfl (any_of HT_.out (by kernel_rfl)) (fun _ _ _ h => h) (Or.inl ⟨by rfl, ?_⟩) ?_ ?_
                                                    rotate_left
                                                    · intro w'
                                                      go_simp
                                                      with_reducible rfl
                                                    rotate_left
                                                    · simp only [Act.put, List.setIfInBounds_toArray, List.set_cons_zero, List.set_cons_succ, i64_w, i32_w]
                                                      rfl
                                                    refine pure_ (i := 9) (N := some 114) (v := ?_) (a' := ?_) #[true, true, true, true, false, false, false, true, true, true, false, false, false, false, false, false] rfl rfl (any_of HT_.out (by kernel_rfl)) (fun _ _ _ h => h) (Or.inl ⟨by rfl, ?_⟩) ?_ ?_
                                                    rotate_left
                                                    · intro w'
                                                      go_simp
                                                      with_reducible rfl
                                                    rotate_left
                                                    · simp only [Act.put, List.setIfInBounds_toArray, List.set_cons_zero, List.set_cons_succ, i64_w, i32_w]
                                                      rfl
                                                    refine pure_ (i := 10) (N := some 115) (v := ?_) (a' := ?_) #[true, true, true, true, false, false, false, true, true, true, true, false, false, false, false, false] rfl rfl (any_of HT_.out (by kernel_rfl)) (fun _ _ _ h => h) (Or.inl ⟨by rfl, ?_⟩) ?_ ?_
                                                    rotate_left
                                                    · intro w'
                                                      go_simp
                                                      with_reducible rfl
                                                    rotate_left
                                                    · simp only [Act.put, List.setIfInBounds_toArray, List.set_cons_zero, List.set_cons_succ, i64_w, i32_w]
                                                      rfl
                                                    refine take_ (i := 4) (N := some 109) (v := ?_) (a' := ?_) #[true, true, true, true, true, false, false, true, true, true, true, false, false, false, false, false] rfl rfl (take_ofW HT_.out HW_.out (by kernel_rfl)) (fun _ _ _ h => h) (Or.inl ⟨by rfl, ?_⟩) hHeld ?_ ?_
                                                    rotate_left
                                                    · rintro w' ⟨s0, s1⟩
                                                      go_simp
                                                      with_reducible rfl
                                                    rotate_left
                                                    · simp only [Act.put, List.setIfInBounds_toArray, List.set_cons_zero, List.set_cons_succ, i64_w, i32_w]
                                                      rfl
                                                    refine take_ (i := 11) (N := some 116) (v := ?_) (a' := ?_) #[true, true, true, true, true, false, false, true, true, true, true, true, false, false, false, false] rfl rfl (take_ofW HT_.out HW_.out (by kernel_rfl)) (fun _ _ _ h => h) (Or.inl ⟨by rfl, ?_⟩) hHeld ?_ ?_
                                                    rotate_left
                                                    · rintro w' ⟨s0, s1⟩
                                                      go_simp
                                                      with_reducible rfl
                                                    rotate_left
                                                    · simp only [Act.put, List.setIfInBounds_toArray, List.set_cons_zero, List.set_cons_succ, i64_w, i32_w]
                                                      rfl
                                                    refine one_ (i := 5) (N := some 110) #[true, true, true, true, true, true, false, true, true, true, true, true, false, false, false, false] rfl rfl (one_of HT_.out (by kernel_rfl)) (by decide) (fun K hK => ?_)
                                                    refine goes_ Tryd.func28 (by kernel_rfl) rfl #[.string (rdOf ByteArray.empty l0 x14_2)] (by rfl) rfl rfl (by (try simp only [List.map_toArray, List.map_cons, List.map_nil]); first | done | rfl | (simp only [List.length_drop, List.length_take]; rfl)) ?_
                                                    with_reducible refine (targumlaw20_letters.calls k5 (rdOf ByteArray.empty l0 x14_2) t121 _ A31.out).mono ?_
                                                    rintro e w36 ⟨rfl, hb⟩
                                                    refine ⟨_, rfl, ?_⟩
                                                    have n0_ := Aside0.mk (below_step (by repeat (first | (with_reducible first | exact HB.out | apply below_alloc | apply pw_below_drewN | apply below_drew1) | exact HB.out)) hb)
                                                    clear HB
                                                    have HB := n0_
                                                    clear n0_
                                                    (try clear hb)
                                                    (try clear hb2)
                                                    (try clear hk)
                                                    (try clear hi)
                                                    refine hK.out _ _ ⟨((HB.out.cell (World.block_lt_of_cell? w _ hw120_0)).trans hw120_0), ((HB.out.cell (World.block_lt_of_cell? w _ hw122_0)).trans hw122_0)⟩ (fun hHeld => ?_)
                                                    clear hK K
                                                    refine norm_ (a' := ?_) ?_ ?_
                                                    rotate_left
                                                    · show Act.put _ (some 110) _ = _
                                                      simp only [Act.put, List.setIfInBounds_toArray, List.set_cons_zero, List.set_cons_succ, i64_w, i32_w]
                                                      rfl
                                                    refine pure_ (i := 6) (N := some 111) (v := ?_) (a' := ?_) #[true, true, true, true, true, true, true, true, true, true, true, true, false, false, false, false] rfl rfl (any_of HT_.out (by kernel_rfl)) (fun _ _ _ h => h) (Or.inl ⟨by rfl, ?_⟩) ?_ ?_
                                                    rotate_left
                                                    · intro w'
                                                      go_simp
                                                      with_reducible rfl
                                                    rotate_left
                                                    · simp only [Act.put, List.setIfInBounds_toArray, List.set_cons_zero, List.set_cons_succ, i64_w, i32_w]
                                                      rfl
                                                    refine one_ (i := 12) (N := some 117) #[true, true, true, true, true, true, true, true, true, true, true, true, true, false, false, false] rfl rfl (one_of HT_.out (by kernel_rfl)) (by decide) (fun K hK => ?_)
                                                    refine goes_ Tryd.func28 (by kernel_rfl) rfl #[.string (rdOf ByteArray.empty l0 x14_2)] (by rfl) rfl rfl (by (try simp only [List.map_toArray, List.map_cons, List.map_nil]); first | done | rfl | (simp only [List.length_drop, List.length_take]; rfl)) ?_
                                                    with_reducible refine (targumlaw20_letters.calls k5 (rdOf ByteArray.empty l0 x14_2) t123 _ A33.out).mono ?_
                                                    rintro e w37 ⟨rfl, hb⟩
                                                    refine ⟨_, rfl, ?_⟩
                                                    have n0_ := Aside0.mk (below_step (by repeat (first | (with_reducible first | exact HB.out | apply below_alloc | apply pw_below_drewN | apply below_drew1) | exact HB.out)) hb)
                                                    clear HB
                                                    have HB := n0_
                                                    clear n0_
                                                    (try clear hb)
                                                    (try clear hb2)
                                                    (try clear hk)
                                                    (try clear hi)
                                                    refine hK.out _ _ ⟨((HB.out.cell (World.block_lt_of_cell? w _ hw120_0)).trans hw120_0), ((HB.out.cell (World.block_lt_of_cell? w _ hw122_0)).trans hw122_0)⟩ (fun hHeld => ?_)
                                                    clear hK K
                                                    refine norm_ (a' := ?_) ?_ ?_
                                                    rotate_left
                                                    · show Act.put _ (some 117) _ = _
                                                      simp only [Act.put, List.setIfInBounds_toArray, List.set_cons_zero, List.set_cons_succ, i64_w, i32_w]
                                                      rfl
                                                    refine pure_ (i := 13) (N := some 118) (v := ?_) (a' := ?_) #[true, true, true, true, true, true, true, true, true, true, true, true, true, true, false, false] rfl rfl (any_of HT_.out (by kernel_rfl)) (fun _ _ _ h => h) (Or.inl ⟨by rfl, ?_⟩) ?_ ?_
                                                    rotate_left
                                                    · intro w'
                                                      go_simp
                                                      with_reducible rfl
                                                    rotate_left
                                                    · simp only [Act.put, List.setIfInBounds_toArray, List.set_cons_zero, List.set_cons_succ, i64_w, i32_w]
                                                      rfl
                                                    refine pure_ (i := 14) (N := some 12) (v := ?_) (a' := ?_) #[true, true, true, true, true, true, true, true, true, true, true, true, true, true, true, false] rfl rfl (any_of HT_.out (by kernel_rfl)) (fun _ _ _ h => h) (Or.inl ⟨by rfl, ?_⟩) ?_ ?_
                                                    rotate_left
                                                    · intro w'
                                                      go_simp
                                                      with_reducible rfl
                                                    rotate_left
                                                    · simp only [Act.put, List.setIfInBounds_toArray, List.set_cons_zero, List.set_cons_succ, i64_w, i32_w]
                                                      rfl
                                                    refine pure_ (i := 15) (N := some 13) (v := ?_) (a' := ?_) #[true, true, true, true, true, true, true, true, true, true, true, true, true, true, true, true] rfl rfl (any_of HT_.out (by kernel_rfl)) (fun _ _ _ h => h) (Or.inl ⟨by rfl, ?_⟩) ?_ ?_
                                                    rotate_left
                                                    · intro w'
                                                      go_simp
                                                      with_reducible rfl
                                                    rotate_left
                                                    · simp only [Act.put, List.setIfInBounds_toArray, List.set_cons_zero, List.set_cons_succ, i64_w, i32_w]
                                                      rfl
                                                    refine done_ (done_of HT_.out (by kernel_rfl)) ?_
                                                    try go_wp2
                                                    go_roundg k5
                                                    case measure => have := HJ7.out; have := HK2.out; have := HK3.out; have := HJ22.out; have := HK5.out; omega
                                                    case rel => exact ⟨(x12_5 ++ t121), (x13_22 ++ t123), (wrap64 (x14_2 + 1)), (by first | rfl | (simp; done) | (simp [*]; done)), (by first | rfl | (simp; done) | (simp [*]; done)), (by first | rfl | (simp; done) | (simp [*]; done)), H', ⟨by have := HJ7.out; have := HK2.out; have := HK3.out; have := HJ22.out; have := HK5.out; omega⟩, ⟨by repeat (first | (with_reducible first | exact HB.out | apply below_alloc | apply pw_below_drewN | apply below_drew1) | exact HB.out)⟩⟩
                                                  · rw [if_neg c34] at H
                                                    exact absurd H (by simp)
                                                · rw [if_neg c32] at H
                                                  exact absurd H (by simp)
                                              · rw [if_neg c30] at H
                                                exact absurd H (by simp)
                                          · rw [if_neg c27] at H
                                            exact absurd H (by simp)
                                        · rw [if_neg c26] at H
                                          exact absurd H (by simp)
                        · rw [if_neg c19] at H
                          exact absurd H (by simp)
                      · rw [if_neg c18] at H
                        exact absurd H (by simp)
                    · rw [if_neg c17] at H
                      have c17b0 : decide (0 < x14_2) = false := decide_eq_false c17
                      clear c17
                      replace H := Option.bind_eq_some_iff.mp H
                      obtain ⟨t125, A380, H⟩ := H
                      replace H : (if x12_2.size + t125.size ≤ 9223372036854775807 then ((targumlaw20_letters.f k2 (rdOf ByteArray.empty l0 x14_2)).bind fun t127 => (if x13_2.size + t127.size ≤ 9223372036854775807 then (targumlaw20_PlainFolds.l0 k2 l0 l1 l2 a4 (wrap64 ((wrap64 (Int.tmod a3 5)) - 1)) (x12_2 ++ t125) (x13_2 ++ t127) (wrap64 (x14_2 + 1))) else (none))) else (none)) = some r := H
                      have A38 := Aside0.mk A380
                      clear A380
                      by_cases c39 : x12_2.size + t125.size ≤ 9223372036854775807
                      · rw [if_pos c39] at H
                        have c39b0 := eq_true c39
                        have c39b1 : decide (x12_2.size + t125.size ≤ 9223372036854775807) = true := decide_eq_true c39
                        try have c39b2 : (9223372036854775807 < x12_2.size + t125.size) = False := eq_false (Nat.not_lt.2 c39)
                        replace H := Option.bind_eq_some_iff.mp H
                        obtain ⟨t127, A400, H⟩ := H
                        replace H : (if x13_2.size + t127.size ≤ 9223372036854775807 then (targumlaw20_PlainFolds.l0 k2 l0 l1 l2 a4 (wrap64 ((wrap64 (Int.tmod a3 5)) - 1)) (x12_2 ++ t125) (x13_2 ++ t127) (wrap64 (x14_2 + 1))) else (none)) = some r := H
                        have A40 := Aside0.mk A400
                        clear A400
                        by_cases c41 : x13_2.size + t127.size ≤ 9223372036854775807
                        · rw [if_pos c41] at H
                          have c41b0 := eq_true c41
                          have c41b1 : decide (x13_2.size + t127.size ≤ 9223372036854775807) = true := decide_eq_true c41
                          try have c41b2 : (9223372036854775807 < x13_2.size + t127.size) = False := eq_false (Nat.not_lt.2 c41)
                          have H' := Aside0.mk H
                          clear H
                          have p117 : 0 ≤ (x14_2 : Int) := of_decide_eq_true (by first | (with_reducible assumption) | assumption)
                          have q117 : x14_2 < (l0.length : Int) := of_decide_eq_true (by first | (with_reducible assumption) | assumption)
                          obtain ⟨ad117, e117, hx117_0⟩ := Kd.at_string HR0.out x14_2 p117 q117
                          cases e117
                          replace hx117_0 := (HB.out.cell (World.block_lt_of_cell? w _ hx117_0)).trans hx117_0
                          replace p117 := eq_true p117
                          replace q117 := eq_true q117
                          try go_wp2
                          have n0_ := Aside0.mk (below_drew1 HB.out)
                          clear HB
                          have HB := n0_
                          clear n0_
                          have p124 : 0 ≤ (x14_2 : Int) := of_decide_eq_true (by first | (with_reducible assumption) | assumption)
                          have q124 : x14_2 < (l0.length : Int) := of_decide_eq_true (by first | (with_reducible assumption) | assumption)
                          obtain ⟨ad124, e124, hx124_0⟩ := Kd.at_string HR0.out x14_2 p124 q124
                          have hw124_0 := hx124_0
                          obtain rfl : ad117 = ad124 := (by injection e124)
                          replace hx124_0 := (HB.out.cell (World.block_lt_of_cell? w _ hx124_0)).trans hx124_0
                          replace p124 := eq_true p124
                          replace q124 := eq_true q124
                          have p126 : 0 ≤ (x14_2 : Int) := of_decide_eq_true (by first | (with_reducible assumption) | assumption)
                          have q126 : x14_2 < (l0.length : Int) := of_decide_eq_true (by first | (with_reducible assumption) | assumption)
                          obtain ⟨ad126, e126, hx126_0⟩ := Kd.at_string HR0.out x14_2 p126 q126
                          have hw126_0 := hx126_0
                          obtain rfl : ad117 = ad126 := (by injection e126)
                          replace hx126_0 := (HB.out.cell (World.block_lt_of_cell? w _ hx126_0)).trans hx126_0
                          replace p126 := eq_true p126
                          replace q126 := eq_true q126
                          refine start_ (n := 16) (S := fun w' => w'.cell? (ad117.add (x14_2).toNat) = some (.string (rdOf ByteArray.empty l0 x14_2)) ∧ w'.cell? (ad117.add (x14_2).toNat) = some (.string (rdOf ByteArray.empty l0 x14_2))) (ds := []) #[false, false, false, false, false, false, false, false, false, false, false, false, false, false, false, false] (by kernel_rfl) rfl rfl ⟨((HB.out.cell (World.block_lt_of_cell? w _ hw124_0)).trans hw124_0), ((HB.out.cell (World.block_lt_of_cell? w _ hw126_0)).trans hw126_0)⟩ (fun hHeld => ?_); refine with_tabW targumlaw20_PlainFolds.tab25 targumlaw20_PlainFolds.bits25 (fun HT_ HW_ => ?_)
                          generalize wr.drew = w42 at HB hx124_0 hx126_0 hHeld ⊢
                          refine pure_ (i := 0) (N := some 105) (v := ?_) (a' := ?_) #[true, false, false, false, false, false, false, false, false, false, false, false, false, false, false, false] rfl rfl (any_of HT_.out (by kernel_rfl)) (fun _ _ _ h => h) (Or.inl ⟨by rfl, ?_⟩) ?_ ?_
                          rotate_left
                          · intro w'
                            go_simp
                            with_reducible rfl
                          rotate_left
                          · simp only [Act.put, List.setIfInBounds_toArray, List.set_cons_zero, List.set_cons_succ, i64_w, i32_w]
                            rfl
                          refine pure_ (i := 1) (N := some 106) (v := ?_) (a' := ?_) #[true, true, false, false, false, false, false, false, false, false, false, false, false, false, false, false] rfl rfl (any_of HT_.out (by kernel_rfl)) (fun _ _ _ h => h) (Or.inl ⟨by rfl, ?_⟩) ?_ ?_
                          rotate_left
                          · intro w'
                            go_simp
                            with_reducible rfl
                          rotate_left
                          · simp only [Act.put, List.setIfInBounds_toArray, List.set_cons_zero, List.set_cons_succ, i64_w, i32_w]
                            rfl
                          refine pure_ (i := 2) (N := some 107) (v := ?_) (a' := ?_) #[true, true, true, false, false, false, false, false, false, false, false, false, false, false, false, false] rfl rfl (any_of HT_.out (by kernel_rfl)) (fun _ _ _ h => h) (Or.inl ⟨by rfl, ?_⟩) ?_ ?_
                          rotate_left
                          · intro w'
                            go_simp
                            with_reducible rfl
                          rotate_left
                          · simp only [Act.put, List.setIfInBounds_toArray, List.set_cons_zero, List.set_cons_succ, i64_w, i32_w]
                            rfl
                          refine pure_ (i := 3) (N := some 108) (v := ?_) (a' := ?_) #[true, true, true, true, false, false, false, false, false, false, false, false, false, false, false, false] rfl rfl (any_of HT_.out (by kernel_rfl)) (fun _ _ _ h => h) (Or.inl ⟨by rfl, ?_⟩) ?_ ?_
                          rotate_left
                          · intro w'
                            go_simp
                            with_reducible rfl
                          rotate_left
                          · simp only [Act.put, List.setIfInBounds_toArray, List.set_cons_zero, List.set_cons_succ, i64_w, i32_w]
                            rfl
                          refine pure_ (i := 7) (N := some 112) (v := ?_) (a' := ?_) #[true, true, true, true, false, false, false, true, false, false, false, false, false, false, false, false] rfl rfl (any_of HT_.out (by kernel_rfl)) (fun _ _ _ h => h) (Or.inl ⟨by rfl, ?_⟩) ?_ ?_
                          rotate_left
                          · intro w'
                            go_simp
                            with_reducible rfl
                          rotate_left
                          · simp only [Act.put, List.setIfInBounds_toArray, List.set_cons_zero, List.set_cons_succ, i64_w, i32_w]
                            rfl
                          refine pure_ (i := 8) (N := some 113) (v := ?_) (a' := ?_) #[true, true, true, true, false, false, false, true, true, false, false, false, false, false, false, false] rfl rfl (any_of HT_.out (by kernel_rfl)) (fun _ _ _ h => h) (Or.inl ⟨by rfl, ?_⟩) ?_ ?_
                          rotate_left
                          · intro w'
                            go_simp
                            with_reducible rfl
                          rotate_left
                          · simp only [Act.put, List.setIfInBounds_toArray, List.set_cons_zero, List.set_cons_succ, i64_w, i32_w]
                            rfl
                          refine pure_ (i := 9) (N := some 114) (v := ?_) (a' := ?_) #[true, true, true, true, false, false, false, true, true, true, false, false, false, false, false, false] rfl rfl (any_of HT_.out (by kernel_rfl)) (fun _ _ _ h => h) (Or.inl ⟨by rfl, ?_⟩) ?_ ?_
                          rotate_left
                          · intro w'
                            go_simp
                            with_reducible rfl
                          rotate_left
                          · simp only [Act.put, List.setIfInBounds_toArray, List.set_cons_zero, List.set_cons_succ, i64_w, i32_w]
                            rfl
                          refine pure_ (i := 10) (N := some 115) (v := ?_) (a' := ?_) #[true, true, true, true, false, false, false, true, true, true, true, false, false, false, false, false] rfl rfl (any_of HT_.out (by kernel_rfl)) (fun _ _ _ h => h) (Or.inl ⟨by rfl, ?_⟩) ?_ ?_
                          rotate_left
                          · intro w'
                            go_simp
                            with_reducible rfl
                          rotate_left
                          · simp only [Act.put, List.setIfInBounds_toArray, List.set_cons_zero, List.set_cons_succ, i64_w, i32_w]
                            rfl
                          refine take_ (i := 4) (N := some 109) (v := ?_) (a' := ?_) #[true, true, true, true, true, false, false, true, true, true, true, false, false, false, false, false] rfl rfl (take_ofW HT_.out HW_.out (by kernel_rfl)) (fun _ _ _ h => h) (Or.inl ⟨by rfl, ?_⟩) hHeld ?_ ?_
                          rotate_left
                          · rintro w' ⟨s0, s1⟩
                            go_simp
                            with_reducible rfl
                          rotate_left
                          · simp only [Act.put, List.setIfInBounds_toArray, List.set_cons_zero, List.set_cons_succ, i64_w, i32_w]
                            rfl
                          refine take_ (i := 11) (N := some 116) (v := ?_) (a' := ?_) #[true, true, true, true, true, false, false, true, true, true, true, true, false, false, false, false] rfl rfl (take_ofW HT_.out HW_.out (by kernel_rfl)) (fun _ _ _ h => h) (Or.inl ⟨by rfl, ?_⟩) hHeld ?_ ?_
                          rotate_left
                          · rintro w' ⟨s0, s1⟩
                            go_simp
                            with_reducible rfl
                          rotate_left
                          · simp only [Act.put, List.setIfInBounds_toArray, List.set_cons_zero, List.set_cons_succ, i64_w, i32_w]
                            rfl
                          refine one_ (i := 5) (N := some 110) #[true, true, true, true, true, true, false, true, true, true, true, true, false, false, false, false] rfl rfl (one_of HT_.out (by kernel_rfl)) (by decide) (fun K hK => ?_)
                          refine goes_ Tryd.func28 (by kernel_rfl) rfl #[.string (rdOf ByteArray.empty l0 x14_2)] (by rfl) rfl rfl (by (try simp only [List.map_toArray, List.map_cons, List.map_nil]); first | done | rfl | (simp only [List.length_drop, List.length_take]; rfl)) ?_
                          with_reducible refine (targumlaw20_letters.calls k2 (rdOf ByteArray.empty l0 x14_2) t125 _ A38.out).mono ?_
                          rintro e w43 ⟨rfl, hb⟩
                          refine ⟨_, rfl, ?_⟩
                          have n0_ := Aside0.mk (below_step (by repeat (first | (with_reducible first | exact HB.out | apply below_alloc | apply pw_below_drewN | apply below_drew1) | exact HB.out)) hb)
                          clear HB
                          have HB := n0_
                          clear n0_
                          (try clear hb)
                          (try clear hb2)
                          (try clear hk)
                          (try clear hi)
                          refine hK.out _ _ ⟨((HB.out.cell (World.block_lt_of_cell? w _ hw124_0)).trans hw124_0), ((HB.out.cell (World.block_lt_of_cell? w _ hw126_0)).trans hw126_0)⟩ (fun hHeld => ?_)
                          clear hK K
                          refine norm_ (a' := ?_) ?_ ?_
                          rotate_left
                          · show Act.put _ (some 110) _ = _
                            simp only [Act.put, List.setIfInBounds_toArray, List.set_cons_zero, List.set_cons_succ, i64_w, i32_w]
                            rfl
                          refine pure_ (i := 6) (N := some 111) (v := ?_) (a' := ?_) #[true, true, true, true, true, true, true, true, true, true, true, true, false, false, false, false] rfl rfl (any_of HT_.out (by kernel_rfl)) (fun _ _ _ h => h) (Or.inl ⟨by rfl, ?_⟩) ?_ ?_
                          rotate_left
                          · intro w'
                            go_simp
                            with_reducible rfl
                          rotate_left
                          · simp only [Act.put, List.setIfInBounds_toArray, List.set_cons_zero, List.set_cons_succ, i64_w, i32_w]
                            rfl
                          refine one_ (i := 12) (N := some 117) #[true, true, true, true, true, true, true, true, true, true, true, true, true, false, false, false] rfl rfl (one_of HT_.out (by kernel_rfl)) (by decide) (fun K hK => ?_)
                          refine goes_ Tryd.func28 (by kernel_rfl) rfl #[.string (rdOf ByteArray.empty l0 x14_2)] (by rfl) rfl rfl (by (try simp only [List.map_toArray, List.map_cons, List.map_nil]); first | done | rfl | (simp only [List.length_drop, List.length_take]; rfl)) ?_
                          with_reducible refine (targumlaw20_letters.calls k2 (rdOf ByteArray.empty l0 x14_2) t127 _ A40.out).mono ?_
                          rintro e w44 ⟨rfl, hb⟩
                          refine ⟨_, rfl, ?_⟩
                          have n0_ := Aside0.mk (below_step (by repeat (first | (with_reducible first | exact HB.out | apply below_alloc | apply pw_below_drewN | apply below_drew1) | exact HB.out)) hb)
                          clear HB
                          have HB := n0_
                          clear n0_
                          (try clear hb)
                          (try clear hb2)
                          (try clear hk)
                          (try clear hi)
                          refine hK.out _ _ ⟨((HB.out.cell (World.block_lt_of_cell? w _ hw124_0)).trans hw124_0), ((HB.out.cell (World.block_lt_of_cell? w _ hw126_0)).trans hw126_0)⟩ (fun hHeld => ?_)
                          clear hK K
                          refine norm_ (a' := ?_) ?_ ?_
                          rotate_left
                          · show Act.put _ (some 117) _ = _
                            simp only [Act.put, List.setIfInBounds_toArray, List.set_cons_zero, List.set_cons_succ, i64_w, i32_w]
                            rfl
                          refine pure_ (i := 13) (N := some 118) (v := ?_) (a' := ?_) #[true, true, true, true, true, true, true, true, true, true, true, true, true, true, false, false] rfl rfl (any_of HT_.out (by kernel_rfl)) (fun _ _ _ h => h) (Or.inl ⟨by rfl, ?_⟩) ?_ ?_
                          rotate_left
                          · intro w'
                            go_simp
                            with_reducible rfl
                          rotate_left
                          · simp only [Act.put, List.setIfInBounds_toArray, List.set_cons_zero, List.set_cons_succ, i64_w, i32_w]
                            rfl
                          refine pure_ (i := 14) (N := some 12) (v := ?_) (a' := ?_) #[true, true, true, true, true, true, true, true, true, true, true, true, true, true, true, false] rfl rfl (any_of HT_.out (by kernel_rfl)) (fun _ _ _ h => h) (Or.inl ⟨by rfl, ?_⟩) ?_ ?_
                          rotate_left
                          · intro w'
                            go_simp
                            with_reducible rfl
                          rotate_left
                          · simp only [Act.put, List.setIfInBounds_toArray, List.set_cons_zero, List.set_cons_succ, i64_w, i32_w]
                            rfl
                          refine pure_ (i := 15) (N := some 13) (v := ?_) (a' := ?_) #[true, true, true, true, true, true, true, true, true, true, true, true, true, true, true, true] rfl rfl (any_of HT_.out (by kernel_rfl)) (fun _ _ _ h => h) (Or.inl ⟨by rfl, ?_⟩) ?_ ?_
                          rotate_left
                          · intro w'
                            go_simp
                            with_reducible rfl
                          rotate_left
                          · simp only [Act.put, List.setIfInBounds_toArray, List.set_cons_zero, List.set_cons_succ, i64_w, i32_w]
                            rfl
                          refine done_ (done_of HT_.out (by kernel_rfl)) ?_
                          try go_wp2
                          go_roundg k2
                          case measure => have := HJ7.out; have := HK2.out; omega
                          case rel => exact ⟨(x12_2 ++ t125), (x13_2 ++ t127), (wrap64 (x14_2 + 1)), (by first | rfl | (simp; done) | (simp [*]; done)), (by first | rfl | (simp; done) | (simp [*]; done)), (by first | rfl | (simp; done) | (simp [*]; done)), H', ⟨by have := HJ7.out; have := HK2.out; omega⟩, ⟨by repeat (first | (with_reducible first | exact HB.out | apply below_alloc | apply pw_below_drewN | apply below_drew1) | exact HB.out)⟩⟩
                        · rw [if_neg c41] at H
                          exact absurd H (by simp)
                      · rw [if_neg c39] at H
                        exact absurd H (by simp)
                · rw [if_neg c15] at H
                  exact absurd H (by simp)
              · rw [if_neg c14] at H
                have c14b0 : decide (x14_2 < (l0.length : Int)) = false := decide_eq_false c14
                clear c14
                replace H := Option.bind_eq_some_iff.mp H
                obtain ⟨t128, A450, H⟩ := H
                replace H : ((plain_Read.f t128 x12_2 0 (wrap64 ((wrap64 (Int.tmod a3 5)) - 1))).bind fun bt129 => (if x12_2.size + 8 ≤ 9223372036854775807 then ((plain_Read.f t128 (x12_2 ++ (⟨#[10, 35, 32, 120, 10, 32, 32, 121]⟩ : ByteArray)) 0 (wrap64 ((wrap64 (Int.tmod a3 5)) - 1))).bind fun bt131 => (if x12_2.size + 22 ≤ 9223372036854775807 then ((plain_Read.f t128 (x12_2 ++ (⟨#[32, 35, 32, 120, 10, 32, 32, 32, 32, 32, 32, 32, 32, 32, 32, 32, 32, 32, 32, 32, 32, 121]⟩ : ByteArray)) 0 (wrap64 ((wrap64 (Int.tmod a3 5)) - 1))).bind fun bt133 => (if x12_2.size + 5 ≤ 9223372036854775807 then ((plain_Read.f t128 (x12_2 ++ (⟨#[10, 46, 46, 46, 10]⟩ : ByteArray)) 0 (wrap64 ((wrap64 (Int.tmod a3 5)) - 1))).bind fun bt135 => (if bt129.1.toList = x13_2.toList then (if bt129.2 = (x12_2.size : Int) then (if bt131.1.toList = x13_2.toList then (if bt131.2 = bt129.2 then (if bt133.1.toList = x13_2.toList then (if bt133.2 = bt129.2 then (if bt135.1.toList = x13_2.toList then (some (bt135.2 == bt129.2)) else (some false)) else (some false)) else (some false)) else (some false)) else (some false)) else (some false)) else (some false))) else (none))) else (none))) else (none))) = some r := H
                have A45 := Aside0.mk A450
                clear A450
                replace H := Option.bind_eq_some_iff.mp H
                obtain ⟨⟨t129, t130⟩, A460, H⟩ := H
                replace H : (if x12_2.size + 8 ≤ 9223372036854775807 then ((plain_Read.f t128 (x12_2 ++ (⟨#[10, 35, 32, 120, 10, 32, 32, 121]⟩ : ByteArray)) 0 (wrap64 ((wrap64 (Int.tmod a3 5)) - 1))).bind fun bt131 => (if x12_2.size + 22 ≤ 9223372036854775807 then ((plain_Read.f t128 (x12_2 ++ (⟨#[32, 35, 32, 120, 10, 32, 32, 32, 32, 32, 32, 32, 32, 32, 32, 32, 32, 32, 32, 32, 32, 121]⟩ : ByteArray)) 0 (wrap64 ((wrap64 (Int.tmod a3 5)) - 1))).bind fun bt133 => (if x12_2.size + 5 ≤ 9223372036854775807 then ((plain_Read.f t128 (x12_2 ++ (⟨#[10, 46, 46, 46, 10]⟩ : ByteArray)) 0 (wrap64 ((wrap64 (Int.tmod a3 5)) - 1))).bind fun bt135 => (if t129.toList = x13_2.toList then (if t130 = (x12_2.size : Int) then (if bt131.1.toList = x13_2.toList then (if bt131.2 = t130 then (if bt133.1.toList = x13_2.toList then (if bt133.2 = t130 then (if bt135.1.toList = x13_2.toList then (some (bt135.2 == t130)) else (some false)) else (some false)) else (some false)) else (some false)) else (some false)) else (some false)) else (some false))) else (none))) else (none))) else (none)) = some r := H
                have A46 := Aside0.mk A460
                clear A460
                by_cases c47 : x12_2.size + 8 ≤ 9223372036854775807
                · rw [if_pos c47] at H
                  have c47b0 := eq_true c47
                  have c47b1 : decide (x12_2.size + 8 ≤ 9223372036854775807) = true := decide_eq_true c47
                  try have c47b2 : (9223372036854775807 < x12_2.size + 8) = False := eq_false (Nat.not_lt.2 c47)
                  replace H := Option.bind_eq_some_iff.mp H
                  obtain ⟨⟨t131, t132⟩, A480, H⟩ := H
                  replace H : (if x12_2.size + 22 ≤ 9223372036854775807 then ((plain_Read.f t128 (x12_2 ++ (⟨#[32, 35, 32, 120, 10, 32, 32, 32, 32, 32, 32, 32, 32, 32, 32, 32, 32, 32, 32, 32, 32, 121]⟩ : ByteArray)) 0 (wrap64 ((wrap64 (Int.tmod a3 5)) - 1))).bind fun bt133 => (if x12_2.size + 5 ≤ 9223372036854775807 then ((plain_Read.f t128 (x12_2 ++ (⟨#[10, 46, 46, 46, 10]⟩ : ByteArray)) 0 (wrap64 ((wrap64 (Int.tmod a3 5)) - 1))).bind fun bt135 => (if t129.toList = x13_2.toList then (if t130 = (x12_2.size : Int) then (if t131.toList = x13_2.toList then (if t132 = t130 then (if bt133.1.toList = x13_2.toList then (if bt133.2 = t130 then (if bt135.1.toList = x13_2.toList then (some (bt135.2 == t130)) else (some false)) else (some false)) else (some false)) else (some false)) else (some false)) else (some false)) else (some false))) else (none))) else (none)) = some r := H
                  have A48 := Aside0.mk A480
                  clear A480
                  by_cases c49 : x12_2.size + 22 ≤ 9223372036854775807
                  · rw [if_pos c49] at H
                    have c49b0 := eq_true c49
                    have c49b1 : decide (x12_2.size + 22 ≤ 9223372036854775807) = true := decide_eq_true c49
                    try have c49b2 : (9223372036854775807 < x12_2.size + 22) = False := eq_false (Nat.not_lt.2 c49)
                    replace H := Option.bind_eq_some_iff.mp H
                    obtain ⟨⟨t133, t134⟩, A500, H⟩ := H
                    replace H : (if x12_2.size + 5 ≤ 9223372036854775807 then ((plain_Read.f t128 (x12_2 ++ (⟨#[10, 46, 46, 46, 10]⟩ : ByteArray)) 0 (wrap64 ((wrap64 (Int.tmod a3 5)) - 1))).bind fun bt135 => (if t129.toList = x13_2.toList then (if t130 = (x12_2.size : Int) then (if t131.toList = x13_2.toList then (if t132 = t130 then (if t133.toList = x13_2.toList then (if t134 = t130 then (if bt135.1.toList = x13_2.toList then (some (bt135.2 == t130)) else (some false)) else (some false)) else (some false)) else (some false)) else (some false)) else (some false)) else (some false))) else (none)) = some r := H
                    have A50 := Aside0.mk A500
                    clear A500
                    by_cases c51 : x12_2.size + 5 ≤ 9223372036854775807
                    · rw [if_pos c51] at H
                      have c51b0 := eq_true c51
                      have c51b1 : decide (x12_2.size + 5 ≤ 9223372036854775807) = true := decide_eq_true c51
                      try have c51b2 : (9223372036854775807 < x12_2.size + 5) = False := eq_false (Nat.not_lt.2 c51)
                      replace H := Option.bind_eq_some_iff.mp H
                      obtain ⟨⟨t135, t136⟩, A520, H⟩ := H
                      replace H : (if t129.toList = x13_2.toList then (if t130 = (x12_2.size : Int) then (if t131.toList = x13_2.toList then (if t132 = t130 then (if t133.toList = x13_2.toList then (if t134 = t130 then (if t135.toList = x13_2.toList then (some (t136 == t130)) else (some false)) else (some false)) else (some false)) else (some false)) else (some false)) else (some false)) else (some false)) = some r := H
                      have A52 := Aside0.mk A520
                      clear A520
                      by_cases c53 : t129.toList = x13_2.toList
                      · rw [if_pos c53] at H
                        have c53b0 : (t129.toList == x13_2.toList) = true := beq_iff_eq.mpr c53
                        have c53b1 : (t129.toList != x13_2.toList) = false := bne_eq_false_iff_eq.mpr c53
                        clear c53
                        by_cases c54 : t130 = (x12_2.size : Int)
                        · rw [if_pos c54] at H
                          have c54b0 : (t130 == (x12_2.size : Int)) = true := beq_iff_eq.mpr c54
                          have c54b1 : (t130 != (x12_2.size : Int)) = false := bne_eq_false_iff_eq.mpr c54
                          clear c54
                          by_cases c55 : t131.toList = x13_2.toList
                          · rw [if_pos c55] at H
                            have c55b0 : (t131.toList == x13_2.toList) = true := beq_iff_eq.mpr c55
                            have c55b1 : (t131.toList != x13_2.toList) = false := bne_eq_false_iff_eq.mpr c55
                            clear c55
                            by_cases c56 : t132 = t130
                            · rw [if_pos c56] at H
                              have c56b0 : (t132 == t130) = true := beq_iff_eq.mpr c56
                              have c56b1 : (t132 != t130) = false := bne_eq_false_iff_eq.mpr c56
                              clear c56
                              by_cases c57 : t133.toList = x13_2.toList
                              · rw [if_pos c57] at H
                                have c57b0 : (t133.toList == x13_2.toList) = true := beq_iff_eq.mpr c57
                                have c57b1 : (t133.toList != x13_2.toList) = false := bne_eq_false_iff_eq.mpr c57
                                clear c57
                                by_cases c58 : t134 = t130
                                · rw [if_pos c58] at H
                                  have c58b0 : (t134 == t130) = true := beq_iff_eq.mpr c58
                                  have c58b1 : (t134 != t130) = false := bne_eq_false_iff_eq.mpr c58
                                  clear c58
                                  by_cases c59 : t135.toList = x13_2.toList
                                  · rw [if_pos c59] at H
                                    have c59b0 : (t135.toList == x13_2.toList) = true := beq_iff_eq.mpr c59
                                    have c59b1 : (t135.toList != x13_2.toList) = false := bne_eq_false_iff_eq.mpr c59
                                    clear c59
                                    obtain rfl := Option.some.inj H
                                    go_wp2_with (first | ((with_reducible refine gate_callee (f := 17) rfl ?_); refine goesL_ (some 120) rfl rfl Tryd.func17 (by kernel_rfl) rfl #[.bool a4] rfl (by (try simp only [List.map_toArray, List.map_cons, List.map_nil]); first | done | rfl | (simp only [List.length_drop, List.length_take]; rfl)) ?_; (with_reducible refine (targumhelp_Version.calls a4 t128 _ A45.out).mono ?_); rintro e w' ⟨rfl, ⟨nd, rfl⟩⟩; refine ⟨_, rfl, ?_⟩) | ((with_reducible refine gate_callee (f := 21) rfl ?_); refine goesL_ (some 125) rfl rfl Tryd.func21 (by kernel_rfl) rfl #[.int .i64 t128, .string x12_2, .int .i64 0, .int .i64 (wrap64 ((wrap64 (Int.tmod a3 5)) - 1))] rfl (by (try simp only [List.map_toArray, List.map_cons, List.map_nil]); first | done | rfl | (simp only [List.length_drop, List.length_take]; rfl)) ?_; (with_reducible refine (plain_Read.calls t128 x12_2 0 (wrap64 ((wrap64 (Int.tmod a3 5)) - 1)) t129 t130 _ A46.out).mono ?_); rintro e w60 ⟨rfl, hb⟩; refine ⟨_, rfl, ?_⟩; have n0_ := Aside0.mk (below_step (by repeat (first | (with_reducible first | exact HB.out | apply below_alloc | apply pw_below_drewN | apply below_drew1) | exact HB.out)) hb); clear HB; have HB := n0_; clear n0_; (try clear hb); (try clear hb2); (try clear hk); (try clear hi)) | ((with_reducible refine gate_callee (f := 21) rfl ?_); refine goesL_ (some 133) rfl rfl Tryd.func21 (by kernel_rfl) rfl #[.int .i64 t128, .string (x12_2 ++ (⟨#[10, 35, 32, 120, 10, 32, 32, 121]⟩ : ByteArray)), .int .i64 0, .int .i64 (wrap64 ((wrap64 (Int.tmod a3 5)) - 1))] rfl (by (try simp only [List.map_toArray, List.map_cons, List.map_nil]); first | done | rfl | (simp only [List.length_drop, List.length_take]; rfl)) ?_; (with_reducible refine (plain_Read.calls t128 (x12_2 ++ (⟨#[10, 35, 32, 120, 10, 32, 32, 121]⟩ : ByteArray)) 0 (wrap64 ((wrap64 (Int.tmod a3 5)) - 1)) t131 t132 _ A48.out).mono ?_); rintro e w61 ⟨rfl, hb⟩; refine ⟨_, rfl, ?_⟩; have n0_ := Aside0.mk (below_step (by repeat (first | (with_reducible first | exact HB.out | apply below_alloc | apply pw_below_drewN | apply below_drew1) | exact HB.out)) hb); clear HB; have HB := n0_; clear n0_; (try clear hb); (try clear hb2); (try clear hk); (try clear hi)) | ((with_reducible refine gate_callee (f := 21) rfl ?_); refine goesL_ (some 141) rfl rfl Tryd.func21 (by kernel_rfl) rfl #[.int .i64 t128, .string (x12_2 ++ (⟨#[32, 35, 32, 120, 10, 32, 32, 32, 32, 32, 32, 32, 32, 32, 32, 32, 32, 32, 32, 32, 32, 121]⟩ : ByteArray)), .int .i64 0, .int .i64 (wrap64 ((wrap64 (Int.tmod a3 5)) - 1))] rfl (by (try simp only [List.map_toArray, List.map_cons, List.map_nil]); first | done | rfl | (simp only [List.length_drop, List.length_take]; rfl)) ?_; (with_reducible refine (plain_Read.calls t128 (x12_2 ++ (⟨#[32, 35, 32, 120, 10, 32, 32, 32, 32, 32, 32, 32, 32, 32, 32, 32, 32, 32, 32, 32, 32, 121]⟩ : ByteArray)) 0 (wrap64 ((wrap64 (Int.tmod a3 5)) - 1)) t133 t134 _ A50.out).mono ?_); rintro e w62 ⟨rfl, hb⟩; refine ⟨_, rfl, ?_⟩; have n0_ := Aside0.mk (below_step (by repeat (first | (with_reducible first | exact HB.out | apply below_alloc | apply pw_below_drewN | apply below_drew1) | exact HB.out)) hb); clear HB; have HB := n0_; clear n0_; (try clear hb); (try clear hb2); (try clear hk); (try clear hi)) | ((with_reducible refine gate_callee (f := 21) rfl ?_); refine goesL_ (some 149) rfl rfl Tryd.func21 (by kernel_rfl) rfl #[.int .i64 t128, .string (x12_2 ++ (⟨#[10, 46, 46, 46, 10]⟩ : ByteArray)), .int .i64 0, .int .i64 (wrap64 ((wrap64 (Int.tmod a3 5)) - 1))] rfl (by (try simp only [List.map_toArray, List.map_cons, List.map_nil]); first | done | rfl | (simp only [List.length_drop, List.length_take]; rfl)) ?_; (with_reducible refine (plain_Read.calls t128 (x12_2 ++ (⟨#[10, 46, 46, 46, 10]⟩ : ByteArray)) 0 (wrap64 ((wrap64 (Int.tmod a3 5)) - 1)) t135 t136 _ A52.out).mono ?_); rintro e w63 ⟨rfl, hb⟩; refine ⟨_, rfl, ?_⟩; have n0_ := Aside0.mk (below_step (by repeat (first | (with_reducible first | exact HB.out | apply below_alloc | apply pw_below_drewN | apply below_drew1) | exact HB.out)) hb); clear HB; have HB := n0_; clear n0_; (try clear hb); (try clear hb2); (try clear hk); (try clear hi)))
                                    go_ret
                                    exact ⟨by first | rfl | (simp [errW_none, errW_some] <;> rfl) | (simp [*, errW_none, errW_some] <;> rfl), by repeat (first | (with_reducible first | exact HB.out | apply below_alloc | apply pw_below_drewN | apply below_drew1) | exact HB.out)⟩
                                  · rw [if_neg c59] at H
                                    have c59b0 : (t135.toList == x13_2.toList) = false := beq_eq_false_iff_ne.mpr c59
                                    have c59b1 : (t135.toList != x13_2.toList) = true := bne_iff_ne.mpr c59
                                    obtain rfl := Option.some.inj H
                                    go_wp2_with (first | ((with_reducible refine gate_callee (f := 17) rfl ?_); refine goesL_ (some 120) rfl rfl Tryd.func17 (by kernel_rfl) rfl #[.bool a4] rfl (by (try simp only [List.map_toArray, List.map_cons, List.map_nil]); first | done | rfl | (simp only [List.length_drop, List.length_take]; rfl)) ?_; (with_reducible refine (targumhelp_Version.calls a4 t128 _ A45.out).mono ?_); rintro e w' ⟨rfl, ⟨nd, rfl⟩⟩; refine ⟨_, rfl, ?_⟩) | ((with_reducible refine gate_callee (f := 21) rfl ?_); refine goesL_ (some 125) rfl rfl Tryd.func21 (by kernel_rfl) rfl #[.int .i64 t128, .string x12_2, .int .i64 0, .int .i64 (wrap64 ((wrap64 (Int.tmod a3 5)) - 1))] rfl (by (try simp only [List.map_toArray, List.map_cons, List.map_nil]); first | done | rfl | (simp only [List.length_drop, List.length_take]; rfl)) ?_; (with_reducible refine (plain_Read.calls t128 x12_2 0 (wrap64 ((wrap64 (Int.tmod a3 5)) - 1)) t129 t130 _ A46.out).mono ?_); rintro e w64 ⟨rfl, hb⟩; refine ⟨_, rfl, ?_⟩; have n0_ := Aside0.mk (below_step (by repeat (first | (with_reducible first | exact HB.out | apply below_alloc | apply pw_below_drewN | apply below_drew1) | exact HB.out)) hb); clear HB; have HB := n0_; clear n0_; (try clear hb); (try clear hb2); (try clear hk); (try clear hi)) | ((with_reducible refine gate_callee (f := 21) rfl ?_); refine goesL_ (some 133) rfl rfl Tryd.func21 (by kernel_rfl) rfl #[.int .i64 t128, .string (x12_2 ++ (⟨#[10, 35, 32, 120, 10, 32, 32, 121]⟩ : ByteArray)), .int .i64 0, .int .i64 (wrap64 ((wrap64 (Int.tmod a3 5)) - 1))] rfl (by (try simp only [List.map_toArray, List.map_cons, List.map_nil]); first | done | rfl | (simp only [List.length_drop, List.length_take]; rfl)) ?_; (with_reducible refine (plain_Read.calls t128 (x12_2 ++ (⟨#[10, 35, 32, 120, 10, 32, 32, 121]⟩ : ByteArray)) 0 (wrap64 ((wrap64 (Int.tmod a3 5)) - 1)) t131 t132 _ A48.out).mono ?_); rintro e w65 ⟨rfl, hb⟩; refine ⟨_, rfl, ?_⟩; have n0_ := Aside0.mk (below_step (by repeat (first | (with_reducible first | exact HB.out | apply below_alloc | apply pw_below_drewN | apply below_drew1) | exact HB.out)) hb); clear HB; have HB := n0_; clear n0_; (try clear hb); (try clear hb2); (try clear hk); (try clear hi)) | ((with_reducible refine gate_callee (f := 21) rfl ?_); refine goesL_ (some 141) rfl rfl Tryd.func21 (by kernel_rfl) rfl #[.int .i64 t128, .string (x12_2 ++ (⟨#[32, 35, 32, 120, 10, 32, 32, 32, 32, 32, 32, 32, 32, 32, 32, 32, 32, 32, 32, 32, 32, 121]⟩ : ByteArray)), .int .i64 0, .int .i64 (wrap64 ((wrap64 (Int.tmod a3 5)) - 1))] rfl (by (try simp only [List.map_toArray, List.map_cons, List.map_nil]); first | done | rfl | (simp only [List.length_drop, List.length_take]; rfl)) ?_; (with_reducible refine (plain_Read.calls t128 (x12_2 ++ (⟨#[32, 35, 32, 120, 10, 32, 32, 32, 32, 32, 32, 32, 32, 32, 32, 32, 32, 32, 32, 32, 32, 121]⟩ : ByteArray)) 0 (wrap64 ((wrap64 (Int.tmod a3 5)) - 1)) t133 t134 _ A50.out).mono ?_); rintro e w66 ⟨rfl, hb⟩; refine ⟨_, rfl, ?_⟩; have n0_ := Aside0.mk (below_step (by repeat (first | (with_reducible first | exact HB.out | apply below_alloc | apply pw_below_drewN | apply below_drew1) | exact HB.out)) hb); clear HB; have HB := n0_; clear n0_; (try clear hb); (try clear hb2); (try clear hk); (try clear hi)) | ((with_reducible refine gate_callee (f := 21) rfl ?_); refine goesL_ (some 149) rfl rfl Tryd.func21 (by kernel_rfl) rfl #[.int .i64 t128, .string (x12_2 ++ (⟨#[10, 46, 46, 46, 10]⟩ : ByteArray)), .int .i64 0, .int .i64 (wrap64 ((wrap64 (Int.tmod a3 5)) - 1))] rfl (by (try simp only [List.map_toArray, List.map_cons, List.map_nil]); first | done | rfl | (simp only [List.length_drop, List.length_take]; rfl)) ?_; (with_reducible refine (plain_Read.calls t128 (x12_2 ++ (⟨#[10, 46, 46, 46, 10]⟩ : ByteArray)) 0 (wrap64 ((wrap64 (Int.tmod a3 5)) - 1)) t135 t136 _ A52.out).mono ?_); rintro e w67 ⟨rfl, hb⟩; refine ⟨_, rfl, ?_⟩; have n0_ := Aside0.mk (below_step (by repeat (first | (with_reducible first | exact HB.out | apply below_alloc | apply pw_below_drewN | apply below_drew1) | exact HB.out)) hb); clear HB; have HB := n0_; clear n0_; (try clear hb); (try clear hb2); (try clear hk); (try clear hi)))
                                    go_ret
                                    exact ⟨by first | rfl | (simp [errW_none, errW_some] <;> rfl) | (simp [*, errW_none, errW_some] <;> rfl), by repeat (first | (with_reducible first | exact HB.out | apply below_alloc | apply pw_below_drewN | apply below_drew1) | exact HB.out)⟩
                                · rw [if_neg c58] at H
                                  have c58b0 : (t134 == t130) = false := beq_eq_false_iff_ne.mpr c58
                                  have c58b1 : (t134 != t130) = true := bne_iff_ne.mpr c58
                                  obtain rfl := Option.some.inj H
                                  go_wp2_with (first | ((with_reducible refine gate_callee (f := 17) rfl ?_); refine goesL_ (some 120) rfl rfl Tryd.func17 (by kernel_rfl) rfl #[.bool a4] rfl (by (try simp only [List.map_toArray, List.map_cons, List.map_nil]); first | done | rfl | (simp only [List.length_drop, List.length_take]; rfl)) ?_; (with_reducible refine (targumhelp_Version.calls a4 t128 _ A45.out).mono ?_); rintro e w' ⟨rfl, ⟨nd, rfl⟩⟩; refine ⟨_, rfl, ?_⟩) | ((with_reducible refine gate_callee (f := 21) rfl ?_); refine goesL_ (some 125) rfl rfl Tryd.func21 (by kernel_rfl) rfl #[.int .i64 t128, .string x12_2, .int .i64 0, .int .i64 (wrap64 ((wrap64 (Int.tmod a3 5)) - 1))] rfl (by (try simp only [List.map_toArray, List.map_cons, List.map_nil]); first | done | rfl | (simp only [List.length_drop, List.length_take]; rfl)) ?_; (with_reducible refine (plain_Read.calls t128 x12_2 0 (wrap64 ((wrap64 (Int.tmod a3 5)) - 1)) t129 t130 _ A46.out).mono ?_); rintro e w68 ⟨rfl, hb⟩; refine ⟨_, rfl, ?_⟩; have n0_ := Aside0.mk (below_step (by repeat (first | (with_reducible first | exact HB.out | apply below_alloc | apply pw_below_drewN | apply below_drew1) | exact HB.out)) hb); clear HB; have HB := n0_; clear n0_; (try clear hb); (try clear hb2); (try clear hk); (try clear hi)) | ((with_reducible refine gate_callee (f := 21) rfl ?_); refine goesL_ (some 133) rfl rfl Tryd.func21 (by kernel_rfl) rfl #[.int .i64 t128, .string (x12_2 ++ (⟨#[10, 35, 32, 120, 10, 32, 32, 121]⟩ : ByteArray)), .int .i64 0, .int .i64 (wrap64 ((wrap64 (Int.tmod a3 5)) - 1))] rfl (by (try simp only [List.map_toArray, List.map_cons, List.map_nil]); first | done | rfl | (simp only [List.length_drop, List.length_take]; rfl)) ?_; (with_reducible refine (plain_Read.calls t128 (x12_2 ++ (⟨#[10, 35, 32, 120, 10, 32, 32, 121]⟩ : ByteArray)) 0 (wrap64 ((wrap64 (Int.tmod a3 5)) - 1)) t131 t132 _ A48.out).mono ?_); rintro e w69 ⟨rfl, hb⟩; refine ⟨_, rfl, ?_⟩; have n0_ := Aside0.mk (below_step (by repeat (first | (with_reducible first | exact HB.out | apply below_alloc | apply pw_below_drewN | apply below_drew1) | exact HB.out)) hb); clear HB; have HB := n0_; clear n0_; (try clear hb); (try clear hb2); (try clear hk); (try clear hi)) | ((with_reducible refine gate_callee (f := 21) rfl ?_); refine goesL_ (some 141) rfl rfl Tryd.func21 (by kernel_rfl) rfl #[.int .i64 t128, .string (x12_2 ++ (⟨#[32, 35, 32, 120, 10, 32, 32, 32, 32, 32, 32, 32, 32, 32, 32, 32, 32, 32, 32, 32, 32, 121]⟩ : ByteArray)), .int .i64 0, .int .i64 (wrap64 ((wrap64 (Int.tmod a3 5)) - 1))] rfl (by (try simp only [List.map_toArray, List.map_cons, List.map_nil]); first | done | rfl | (simp only [List.length_drop, List.length_take]; rfl)) ?_; (with_reducible refine (plain_Read.calls t128 (x12_2 ++ (⟨#[32, 35, 32, 120, 10, 32, 32, 32, 32, 32, 32, 32, 32, 32, 32, 32, 32, 32, 32, 32, 32, 121]⟩ : ByteArray)) 0 (wrap64 ((wrap64 (Int.tmod a3 5)) - 1)) t133 t134 _ A50.out).mono ?_); rintro e w70 ⟨rfl, hb⟩; refine ⟨_, rfl, ?_⟩; have n0_ := Aside0.mk (below_step (by repeat (first | (with_reducible first | exact HB.out | apply below_alloc | apply pw_below_drewN | apply below_drew1) | exact HB.out)) hb); clear HB; have HB := n0_; clear n0_; (try clear hb); (try clear hb2); (try clear hk); (try clear hi)) | ((with_reducible refine gate_callee (f := 21) rfl ?_); refine goesL_ (some 149) rfl rfl Tryd.func21 (by kernel_rfl) rfl #[.int .i64 t128, .string (x12_2 ++ (⟨#[10, 46, 46, 46, 10]⟩ : ByteArray)), .int .i64 0, .int .i64 (wrap64 ((wrap64 (Int.tmod a3 5)) - 1))] rfl (by (try simp only [List.map_toArray, List.map_cons, List.map_nil]); first | done | rfl | (simp only [List.length_drop, List.length_take]; rfl)) ?_; (with_reducible refine (plain_Read.calls t128 (x12_2 ++ (⟨#[10, 46, 46, 46, 10]⟩ : ByteArray)) 0 (wrap64 ((wrap64 (Int.tmod a3 5)) - 1)) t135 t136 _ A52.out).mono ?_); rintro e w71 ⟨rfl, hb⟩; refine ⟨_, rfl, ?_⟩; have n0_ := Aside0.mk (below_step (by repeat (first | (with_reducible first | exact HB.out | apply below_alloc | apply pw_below_drewN | apply below_drew1) | exact HB.out)) hb); clear HB; have HB := n0_; clear n0_; (try clear hb); (try clear hb2); (try clear hk); (try clear hi)))
                                  go_ret
                                  exact ⟨by first | rfl | (simp [errW_none, errW_some] <;> rfl) | (simp [*, errW_none, errW_some] <;> rfl), by repeat (first | (with_reducible first | exact HB.out | apply below_alloc | apply pw_below_drewN | apply below_drew1) | exact HB.out)⟩
                              · rw [if_neg c57] at H
                                have c57b0 : (t133.toList == x13_2.toList) = false := beq_eq_false_iff_ne.mpr c57
                                have c57b1 : (t133.toList != x13_2.toList) = true := bne_iff_ne.mpr c57
                                obtain rfl := Option.some.inj H
                                go_wp2_with (first | ((with_reducible refine gate_callee (f := 17) rfl ?_); refine goesL_ (some 120) rfl rfl Tryd.func17 (by kernel_rfl) rfl #[.bool a4] rfl (by (try simp only [List.map_toArray, List.map_cons, List.map_nil]); first | done | rfl | (simp only [List.length_drop, List.length_take]; rfl)) ?_; (with_reducible refine (targumhelp_Version.calls a4 t128 _ A45.out).mono ?_); rintro e w' ⟨rfl, ⟨nd, rfl⟩⟩; refine ⟨_, rfl, ?_⟩) | ((with_reducible refine gate_callee (f := 21) rfl ?_); refine goesL_ (some 125) rfl rfl Tryd.func21 (by kernel_rfl) rfl #[.int .i64 t128, .string x12_2, .int .i64 0, .int .i64 (wrap64 ((wrap64 (Int.tmod a3 5)) - 1))] rfl (by (try simp only [List.map_toArray, List.map_cons, List.map_nil]); first | done | rfl | (simp only [List.length_drop, List.length_take]; rfl)) ?_; (with_reducible refine (plain_Read.calls t128 x12_2 0 (wrap64 ((wrap64 (Int.tmod a3 5)) - 1)) t129 t130 _ A46.out).mono ?_); rintro e w72 ⟨rfl, hb⟩; refine ⟨_, rfl, ?_⟩; have n0_ := Aside0.mk (below_step (by repeat (first | (with_reducible first | exact HB.out | apply below_alloc | apply pw_below_drewN | apply below_drew1) | exact HB.out)) hb); clear HB; have HB := n0_; clear n0_; (try clear hb); (try clear hb2); (try clear hk); (try clear hi)) | ((with_reducible refine gate_callee (f := 21) rfl ?_); refine goesL_ (some 133) rfl rfl Tryd.func21 (by kernel_rfl) rfl #[.int .i64 t128, .string (x12_2 ++ (⟨#[10, 35, 32, 120, 10, 32, 32, 121]⟩ : ByteArray)), .int .i64 0, .int .i64 (wrap64 ((wrap64 (Int.tmod a3 5)) - 1))] rfl (by (try simp only [List.map_toArray, List.map_cons, List.map_nil]); first | done | rfl | (simp only [List.length_drop, List.length_take]; rfl)) ?_; (with_reducible refine (plain_Read.calls t128 (x12_2 ++ (⟨#[10, 35, 32, 120, 10, 32, 32, 121]⟩ : ByteArray)) 0 (wrap64 ((wrap64 (Int.tmod a3 5)) - 1)) t131 t132 _ A48.out).mono ?_); rintro e w73 ⟨rfl, hb⟩; refine ⟨_, rfl, ?_⟩; have n0_ := Aside0.mk (below_step (by repeat (first | (with_reducible first | exact HB.out | apply below_alloc | apply pw_below_drewN | apply below_drew1) | exact HB.out)) hb); clear HB; have HB := n0_; clear n0_; (try clear hb); (try clear hb2); (try clear hk); (try clear hi)) | ((with_reducible refine gate_callee (f := 21) rfl ?_); refine goesL_ (some 141) rfl rfl Tryd.func21 (by kernel_rfl) rfl #[.int .i64 t128, .string (x12_2 ++ (⟨#[32, 35, 32, 120, 10, 32, 32, 32, 32, 32, 32, 32, 32, 32, 32, 32, 32, 32, 32, 32, 32, 121]⟩ : ByteArray)), .int .i64 0, .int .i64 (wrap64 ((wrap64 (Int.tmod a3 5)) - 1))] rfl (by (try simp only [List.map_toArray, List.map_cons, List.map_nil]); first | done | rfl | (simp only [List.length_drop, List.length_take]; rfl)) ?_; (with_reducible refine (plain_Read.calls t128 (x12_2 ++ (⟨#[32, 35, 32, 120, 10, 32, 32, 32, 32, 32, 32, 32, 32, 32, 32, 32, 32, 32, 32, 32, 32, 121]⟩ : ByteArray)) 0 (wrap64 ((wrap64 (Int.tmod a3 5)) - 1)) t133 t134 _ A50.out).mono ?_); rintro e w74 ⟨rfl, hb⟩; refine ⟨_, rfl, ?_⟩; have n0_ := Aside0.mk (below_step (by repeat (first | (with_reducible first | exact HB.out | apply below_alloc | apply pw_below_drewN | apply below_drew1) | exact HB.out)) hb); clear HB; have HB := n0_; clear n0_; (try clear hb); (try clear hb2); (try clear hk); (try clear hi)) | ((with_reducible refine gate_callee (f := 21) rfl ?_); refine goesL_ (some 149) rfl rfl Tryd.func21 (by kernel_rfl) rfl #[.int .i64 t128, .string (x12_2 ++ (⟨#[10, 46, 46, 46, 10]⟩ : ByteArray)), .int .i64 0, .int .i64 (wrap64 ((wrap64 (Int.tmod a3 5)) - 1))] rfl (by (try simp only [List.map_toArray, List.map_cons, List.map_nil]); first | done | rfl | (simp only [List.length_drop, List.length_take]; rfl)) ?_; (with_reducible refine (plain_Read.calls t128 (x12_2 ++ (⟨#[10, 46, 46, 46, 10]⟩ : ByteArray)) 0 (wrap64 ((wrap64 (Int.tmod a3 5)) - 1)) t135 t136 _ A52.out).mono ?_); rintro e w75 ⟨rfl, hb⟩; refine ⟨_, rfl, ?_⟩; have n0_ := Aside0.mk (below_step (by repeat (first | (with_reducible first | exact HB.out | apply below_alloc | apply pw_below_drewN | apply below_drew1) | exact HB.out)) hb); clear HB; have HB := n0_; clear n0_; (try clear hb); (try clear hb2); (try clear hk); (try clear hi)))
                                go_ret
                                exact ⟨by first | rfl | (simp [errW_none, errW_some] <;> rfl) | (simp [*, errW_none, errW_some] <;> rfl), by repeat (first | (with_reducible first | exact HB.out | apply below_alloc | apply pw_below_drewN | apply below_drew1) | exact HB.out)⟩
                            · rw [if_neg c56] at H
                              have c56b0 : (t132 == t130) = false := beq_eq_false_iff_ne.mpr c56
                              have c56b1 : (t132 != t130) = true := bne_iff_ne.mpr c56
                              obtain rfl := Option.some.inj H
                              go_wp2_with (first | ((with_reducible refine gate_callee (f := 17) rfl ?_); refine goesL_ (some 120) rfl rfl Tryd.func17 (by kernel_rfl) rfl #[.bool a4] rfl (by (try simp only [List.map_toArray, List.map_cons, List.map_nil]); first | done | rfl | (simp only [List.length_drop, List.length_take]; rfl)) ?_; (with_reducible refine (targumhelp_Version.calls a4 t128 _ A45.out).mono ?_); rintro e w' ⟨rfl, ⟨nd, rfl⟩⟩; refine ⟨_, rfl, ?_⟩) | ((with_reducible refine gate_callee (f := 21) rfl ?_); refine goesL_ (some 125) rfl rfl Tryd.func21 (by kernel_rfl) rfl #[.int .i64 t128, .string x12_2, .int .i64 0, .int .i64 (wrap64 ((wrap64 (Int.tmod a3 5)) - 1))] rfl (by (try simp only [List.map_toArray, List.map_cons, List.map_nil]); first | done | rfl | (simp only [List.length_drop, List.length_take]; rfl)) ?_; (with_reducible refine (plain_Read.calls t128 x12_2 0 (wrap64 ((wrap64 (Int.tmod a3 5)) - 1)) t129 t130 _ A46.out).mono ?_); rintro e w76 ⟨rfl, hb⟩; refine ⟨_, rfl, ?_⟩; have n0_ := Aside0.mk (below_step (by repeat (first | (with_reducible first | exact HB.out | apply below_alloc | apply pw_below_drewN | apply below_drew1) | exact HB.out)) hb); clear HB; have HB := n0_; clear n0_; (try clear hb); (try clear hb2); (try clear hk); (try clear hi)) | ((with_reducible refine gate_callee (f := 21) rfl ?_); refine goesL_ (some 133) rfl rfl Tryd.func21 (by kernel_rfl) rfl #[.int .i64 t128, .string (x12_2 ++ (⟨#[10, 35, 32, 120, 10, 32, 32, 121]⟩ : ByteArray)), .int .i64 0, .int .i64 (wrap64 ((wrap64 (Int.tmod a3 5)) - 1))] rfl (by (try simp only [List.map_toArray, List.map_cons, List.map_nil]); first | done | rfl | (simp only [List.length_drop, List.length_take]; rfl)) ?_; (with_reducible refine (plain_Read.calls t128 (x12_2 ++ (⟨#[10, 35, 32, 120, 10, 32, 32, 121]⟩ : ByteArray)) 0 (wrap64 ((wrap64 (Int.tmod a3 5)) - 1)) t131 t132 _ A48.out).mono ?_); rintro e w77 ⟨rfl, hb⟩; refine ⟨_, rfl, ?_⟩; have n0_ := Aside0.mk (below_step (by repeat (first | (with_reducible first | exact HB.out | apply below_alloc | apply pw_below_drewN | apply below_drew1) | exact HB.out)) hb); clear HB; have HB := n0_; clear n0_; (try clear hb); (try clear hb2); (try clear hk); (try clear hi)) | ((with_reducible refine gate_callee (f := 21) rfl ?_); refine goesL_ (some 141) rfl rfl Tryd.func21 (by kernel_rfl) rfl #[.int .i64 t128, .string (x12_2 ++ (⟨#[32, 35, 32, 120, 10, 32, 32, 32, 32, 32, 32, 32, 32, 32, 32, 32, 32, 32, 32, 32, 32, 121]⟩ : ByteArray)), .int .i64 0, .int .i64 (wrap64 ((wrap64 (Int.tmod a3 5)) - 1))] rfl (by (try simp only [List.map_toArray, List.map_cons, List.map_nil]); first | done | rfl | (simp only [List.length_drop, List.length_take]; rfl)) ?_; (with_reducible refine (plain_Read.calls t128 (x12_2 ++ (⟨#[32, 35, 32, 120, 10, 32, 32, 32, 32, 32, 32, 32, 32, 32, 32, 32, 32, 32, 32, 32, 32, 121]⟩ : ByteArray)) 0 (wrap64 ((wrap64 (Int.tmod a3 5)) - 1)) t133 t134 _ A50.out).mono ?_); rintro e w78 ⟨rfl, hb⟩; refine ⟨_, rfl, ?_⟩; have n0_ := Aside0.mk (below_step (by repeat (first | (with_reducible first | exact HB.out | apply below_alloc | apply pw_below_drewN | apply below_drew1) | exact HB.out)) hb); clear HB; have HB := n0_; clear n0_; (try clear hb); (try clear hb2); (try clear hk); (try clear hi)) | ((with_reducible refine gate_callee (f := 21) rfl ?_); refine goesL_ (some 149) rfl rfl Tryd.func21 (by kernel_rfl) rfl #[.int .i64 t128, .string (x12_2 ++ (⟨#[10, 46, 46, 46, 10]⟩ : ByteArray)), .int .i64 0, .int .i64 (wrap64 ((wrap64 (Int.tmod a3 5)) - 1))] rfl (by (try simp only [List.map_toArray, List.map_cons, List.map_nil]); first | done | rfl | (simp only [List.length_drop, List.length_take]; rfl)) ?_; (with_reducible refine (plain_Read.calls t128 (x12_2 ++ (⟨#[10, 46, 46, 46, 10]⟩ : ByteArray)) 0 (wrap64 ((wrap64 (Int.tmod a3 5)) - 1)) t135 t136 _ A52.out).mono ?_); rintro e w79 ⟨rfl, hb⟩; refine ⟨_, rfl, ?_⟩; have n0_ := Aside0.mk (below_step (by repeat (first | (with_reducible first | exact HB.out | apply below_alloc | apply pw_below_drewN | apply below_drew1) | exact HB.out)) hb); clear HB; have HB := n0_; clear n0_; (try clear hb); (try clear hb2); (try clear hk); (try clear hi)))
                              go_ret
                              exact ⟨by first | rfl | (simp [errW_none, errW_some] <;> rfl) | (simp [*, errW_none, errW_some] <;> rfl), by repeat (first | (with_reducible first | exact HB.out | apply below_alloc | apply pw_below_drewN | apply below_drew1) | exact HB.out)⟩
                          · rw [if_neg c55] at H
                            have c55b0 : (t131.toList == x13_2.toList) = false := beq_eq_false_iff_ne.mpr c55
                            have c55b1 : (t131.toList != x13_2.toList) = true := bne_iff_ne.mpr c55
                            obtain rfl := Option.some.inj H
                            go_wp2_with (first | ((with_reducible refine gate_callee (f := 17) rfl ?_); refine goesL_ (some 120) rfl rfl Tryd.func17 (by kernel_rfl) rfl #[.bool a4] rfl (by (try simp only [List.map_toArray, List.map_cons, List.map_nil]); first | done | rfl | (simp only [List.length_drop, List.length_take]; rfl)) ?_; (with_reducible refine (targumhelp_Version.calls a4 t128 _ A45.out).mono ?_); rintro e w' ⟨rfl, ⟨nd, rfl⟩⟩; refine ⟨_, rfl, ?_⟩) | ((with_reducible refine gate_callee (f := 21) rfl ?_); refine goesL_ (some 125) rfl rfl Tryd.func21 (by kernel_rfl) rfl #[.int .i64 t128, .string x12_2, .int .i64 0, .int .i64 (wrap64 ((wrap64 (Int.tmod a3 5)) - 1))] rfl (by (try simp only [List.map_toArray, List.map_cons, List.map_nil]); first | done | rfl | (simp only [List.length_drop, List.length_take]; rfl)) ?_; (with_reducible refine (plain_Read.calls t128 x12_2 0 (wrap64 ((wrap64 (Int.tmod a3 5)) - 1)) t129 t130 _ A46.out).mono ?_); rintro e w80 ⟨rfl, hb⟩; refine ⟨_, rfl, ?_⟩; have n0_ := Aside0.mk (below_step (by repeat (first | (with_reducible first | exact HB.out | apply below_alloc | apply pw_below_drewN | apply below_drew1) | exact HB.out)) hb); clear HB; have HB := n0_; clear n0_; (try clear hb); (try clear hb2); (try clear hk); (try clear hi)) | ((with_reducible refine gate_callee (f := 21) rfl ?_); refine goesL_ (some 133) rfl rfl Tryd.func21 (by kernel_rfl) rfl #[.int .i64 t128, .string (x12_2 ++ (⟨#[10, 35, 32, 120, 10, 32, 32, 121]⟩ : ByteArray)), .int .i64 0, .int .i64 (wrap64 ((wrap64 (Int.tmod a3 5)) - 1))] rfl (by (try simp only [List.map_toArray, List.map_cons, List.map_nil]); first | done | rfl | (simp only [List.length_drop, List.length_take]; rfl)) ?_; (with_reducible refine (plain_Read.calls t128 (x12_2 ++ (⟨#[10, 35, 32, 120, 10, 32, 32, 121]⟩ : ByteArray)) 0 (wrap64 ((wrap64 (Int.tmod a3 5)) - 1)) t131 t132 _ A48.out).mono ?_); rintro e w81 ⟨rfl, hb⟩; refine ⟨_, rfl, ?_⟩; have n0_ := Aside0.mk (below_step (by repeat (first | (with_reducible first | exact HB.out | apply below_alloc | apply pw_below_drewN | apply below_drew1) | exact HB.out)) hb); clear HB; have HB := n0_; clear n0_; (try clear hb); (try clear hb2); (try clear hk); (try clear hi)) | ((with_reducible refine gate_callee (f := 21) rfl ?_); refine goesL_ (some 141) rfl rfl Tryd.func21 (by kernel_rfl) rfl #[.int .i64 t128, .string (x12_2 ++ (⟨#[32, 35, 32, 120, 10, 32, 32, 32, 32, 32, 32, 32, 32, 32, 32, 32, 32, 32, 32, 32, 32, 121]⟩ : ByteArray)), .int .i64 0, .int .i64 (wrap64 ((wrap64 (Int.tmod a3 5)) - 1))] rfl (by (try simp only [List.map_toArray, List.map_cons, List.map_nil]); first | done | rfl | (simp only [List.length_drop, List.length_take]; rfl)) ?_; (with_reducible refine (plain_Read.calls t128 (x12_2 ++ (⟨#[32, 35, 32, 120, 10, 32, 32, 32, 32, 32, 32, 32, 32, 32, 32, 32, 32, 32, 32, 32, 32, 121]⟩ : ByteArray)) 0 (wrap64 ((wrap64 (Int.tmod a3 5)) - 1)) t133 t134 _ A50.out).mono ?_); rintro e w82 ⟨rfl, hb⟩; refine ⟨_, rfl, ?_⟩; have n0_ := Aside0.mk (below_step (by repeat (first | (with_reducible first | exact HB.out | apply below_alloc | apply pw_below_drewN | apply below_drew1) | exact HB.out)) hb); clear HB; have HB := n0_; clear n0_; (try clear hb); (try clear hb2); (try clear hk); (try clear hi)) | ((with_reducible refine gate_callee (f := 21) rfl ?_); refine goesL_ (some 149) rfl rfl Tryd.func21 (by kernel_rfl) rfl #[.int .i64 t128, .string (x12_2 ++ (⟨#[10, 46, 46, 46, 10]⟩ : ByteArray)), .int .i64 0, .int .i64 (wrap64 ((wrap64 (Int.tmod a3 5)) - 1))] rfl (by (try simp only [List.map_toArray, List.map_cons, List.map_nil]); first | done | rfl | (simp only [List.length_drop, List.length_take]; rfl)) ?_; (with_reducible refine (plain_Read.calls t128 (x12_2 ++ (⟨#[10, 46, 46, 46, 10]⟩ : ByteArray)) 0 (wrap64 ((wrap64 (Int.tmod a3 5)) - 1)) t135 t136 _ A52.out).mono ?_); rintro e w83 ⟨rfl, hb⟩; refine ⟨_, rfl, ?_⟩; have n0_ := Aside0.mk (below_step (by repeat (first | (with_reducible first | exact HB.out | apply below_alloc | apply pw_below_drewN | apply below_drew1) | exact HB.out)) hb); clear HB; have HB := n0_; clear n0_; (try clear hb); (try clear hb2); (try clear hk); (try clear hi)))
                            go_ret
                            exact ⟨by first | rfl | (simp [errW_none, errW_some] <;> rfl) | (simp [*, errW_none, errW_some] <;> rfl), by repeat (first | (with_reducible first | exact HB.out | apply below_alloc | apply pw_below_drewN | apply below_drew1) | exact HB.out)⟩
                        · rw [if_neg c54] at H
                          have c54b0 : (t130 == (x12_2.size : Int)) = false := beq_eq_false_iff_ne.mpr c54
                          have c54b1 : (t130 != (x12_2.size : Int)) = true := bne_iff_ne.mpr c54
                          obtain rfl := Option.some.inj H
                          go_wp2_with (first | ((with_reducible refine gate_callee (f := 17) rfl ?_); refine goesL_ (some 120) rfl rfl Tryd.func17 (by kernel_rfl) rfl #[.bool a4] rfl (by (try simp only [List.map_toArray, List.map_cons, List.map_nil]); first | done | rfl | (simp only [List.length_drop, List.length_take]; rfl)) ?_; (with_reducible refine (targumhelp_Version.calls a4 t128 _ A45.out).mono ?_); rintro e w' ⟨rfl, ⟨nd, rfl⟩⟩; refine ⟨_, rfl, ?_⟩) | ((with_reducible refine gate_callee (f := 21) rfl ?_); refine goesL_ (some 125) rfl rfl Tryd.func21 (by kernel_rfl) rfl #[.int .i64 t128, .string x12_2, .int .i64 0, .int .i64 (wrap64 ((wrap64 (Int.tmod a3 5)) - 1))] rfl (by (try simp only [List.map_toArray, List.map_cons, List.map_nil]); first | done | rfl | (simp only [List.length_drop, List.length_take]; rfl)) ?_; (with_reducible refine (plain_Read.calls t128 x12_2 0 (wrap64 ((wrap64 (Int.tmod a3 5)) - 1)) t129 t130 _ A46.out).mono ?_); rintro e w84 ⟨rfl, hb⟩; refine ⟨_, rfl, ?_⟩; have n0_ := Aside0.mk (below_step (by repeat (first | (with_reducible first | exact HB.out | apply below_alloc | apply pw_below_drewN | apply below_drew1) | exact HB.out)) hb); clear HB; have HB := n0_; clear n0_; (try clear hb); (try clear hb2); (try clear hk); (try clear hi)) | ((with_reducible refine gate_callee (f := 21) rfl ?_); refine goesL_ (some 133) rfl rfl Tryd.func21 (by kernel_rfl) rfl #[.int .i64 t128, .string (x12_2 ++ (⟨#[10, 35, 32, 120, 10, 32, 32, 121]⟩ : ByteArray)), .int .i64 0, .int .i64 (wrap64 ((wrap64 (Int.tmod a3 5)) - 1))] rfl (by (try simp only [List.map_toArray, List.map_cons, List.map_nil]); first | done | rfl | (simp only [List.length_drop, List.length_take]; rfl)) ?_; (with_reducible refine (plain_Read.calls t128 (x12_2 ++ (⟨#[10, 35, 32, 120, 10, 32, 32, 121]⟩ : ByteArray)) 0 (wrap64 ((wrap64 (Int.tmod a3 5)) - 1)) t131 t132 _ A48.out).mono ?_); rintro e w85 ⟨rfl, hb⟩; refine ⟨_, rfl, ?_⟩; have n0_ := Aside0.mk (below_step (by repeat (first | (with_reducible first | exact HB.out | apply below_alloc | apply pw_below_drewN | apply below_drew1) | exact HB.out)) hb); clear HB; have HB := n0_; clear n0_; (try clear hb); (try clear hb2); (try clear hk); (try clear hi)) | ((with_reducible refine gate_callee (f := 21) rfl ?_); refine goesL_ (some 141) rfl rfl Tryd.func21 (by kernel_rfl) rfl #[.int .i64 t128, .string (x12_2 ++ (⟨#[32, 35, 32, 120, 10, 32, 32, 32, 32, 32, 32, 32, 32, 32, 32, 32, 32, 32, 32, 32, 32, 121]⟩ : ByteArray)), .int .i64 0, .int .i64 (wrap64 ((wrap64 (Int.tmod a3 5)) - 1))] rfl (by (try simp only [List.map_toArray, List.map_cons, List.map_nil]); first | done | rfl | (simp only [List.length_drop, List.length_take]; rfl)) ?_; (with_reducible refine (plain_Read.calls t128 (x12_2 ++ (⟨#[32, 35, 32, 120, 10, 32, 32, 32, 32, 32, 32, 32, 32, 32, 32, 32, 32, 32, 32, 32, 32, 121]⟩ : ByteArray)) 0 (wrap64 ((wrap64 (Int.tmod a3 5)) - 1)) t133 t134 _ A50.out).mono ?_); rintro e w86 ⟨rfl, hb⟩; refine ⟨_, rfl, ?_⟩; have n0_ := Aside0.mk (below_step (by repeat (first | (with_reducible first | exact HB.out | apply below_alloc | apply pw_below_drewN | apply below_drew1) | exact HB.out)) hb); clear HB; have HB := n0_; clear n0_; (try clear hb); (try clear hb2); (try clear hk); (try clear hi)) | ((with_reducible refine gate_callee (f := 21) rfl ?_); refine goesL_ (some 149) rfl rfl Tryd.func21 (by kernel_rfl) rfl #[.int .i64 t128, .string (x12_2 ++ (⟨#[10, 46, 46, 46, 10]⟩ : ByteArray)), .int .i64 0, .int .i64 (wrap64 ((wrap64 (Int.tmod a3 5)) - 1))] rfl (by (try simp only [List.map_toArray, List.map_cons, List.map_nil]); first | done | rfl | (simp only [List.length_drop, List.length_take]; rfl)) ?_; (with_reducible refine (plain_Read.calls t128 (x12_2 ++ (⟨#[10, 46, 46, 46, 10]⟩ : ByteArray)) 0 (wrap64 ((wrap64 (Int.tmod a3 5)) - 1)) t135 t136 _ A52.out).mono ?_); rintro e w87 ⟨rfl, hb⟩; refine ⟨_, rfl, ?_⟩; have n0_ := Aside0.mk (below_step (by repeat (first | (with_reducible first | exact HB.out | apply below_alloc | apply pw_below_drewN | apply below_drew1) | exact HB.out)) hb); clear HB; have HB := n0_; clear n0_; (try clear hb); (try clear hb2); (try clear hk); (try clear hi)))
                          go_ret
                          exact ⟨by first | rfl | (simp [errW_none, errW_some] <;> rfl) | (simp [*, errW_none, errW_some] <;> rfl), by repeat (first | (with_reducible first | exact HB.out | apply below_alloc | apply pw_below_drewN | apply below_drew1) | exact HB.out)⟩
                      · rw [if_neg c53] at H
                        have c53b0 : (t129.toList == x13_2.toList) = false := beq_eq_false_iff_ne.mpr c53
                        have c53b1 : (t129.toList != x13_2.toList) = true := bne_iff_ne.mpr c53
                        obtain rfl := Option.some.inj H
                        go_wp2_with (first | ((with_reducible refine gate_callee (f := 17) rfl ?_); refine goesL_ (some 120) rfl rfl Tryd.func17 (by kernel_rfl) rfl #[.bool a4] rfl (by (try simp only [List.map_toArray, List.map_cons, List.map_nil]); first | done | rfl | (simp only [List.length_drop, List.length_take]; rfl)) ?_; (with_reducible refine (targumhelp_Version.calls a4 t128 _ A45.out).mono ?_); rintro e w' ⟨rfl, ⟨nd, rfl⟩⟩; refine ⟨_, rfl, ?_⟩) | ((with_reducible refine gate_callee (f := 21) rfl ?_); refine goesL_ (some 125) rfl rfl Tryd.func21 (by kernel_rfl) rfl #[.int .i64 t128, .string x12_2, .int .i64 0, .int .i64 (wrap64 ((wrap64 (Int.tmod a3 5)) - 1))] rfl (by (try simp only [List.map_toArray, List.map_cons, List.map_nil]); first | done | rfl | (simp only [List.length_drop, List.length_take]; rfl)) ?_; (with_reducible refine (plain_Read.calls t128 x12_2 0 (wrap64 ((wrap64 (Int.tmod a3 5)) - 1)) t129 t130 _ A46.out).mono ?_); rintro e w88 ⟨rfl, hb⟩; refine ⟨_, rfl, ?_⟩; have n0_ := Aside0.mk (below_step (by repeat (first | (with_reducible first | exact HB.out | apply below_alloc | apply pw_below_drewN | apply below_drew1) | exact HB.out)) hb); clear HB; have HB := n0_; clear n0_; (try clear hb); (try clear hb2); (try clear hk); (try clear hi)) | ((with_reducible refine gate_callee (f := 21) rfl ?_); refine goesL_ (some 133) rfl rfl Tryd.func21 (by kernel_rfl) rfl #[.int .i64 t128, .string (x12_2 ++ (⟨#[10, 35, 32, 120, 10, 32, 32, 121]⟩ : ByteArray)), .int .i64 0, .int .i64 (wrap64 ((wrap64 (Int.tmod a3 5)) - 1))] rfl (by (try simp only [List.map_toArray, List.map_cons, List.map_nil]); first | done | rfl | (simp only [List.length_drop, List.length_take]; rfl)) ?_; (with_reducible refine (plain_Read.calls t128 (x12_2 ++ (⟨#[10, 35, 32, 120, 10, 32, 32, 121]⟩ : ByteArray)) 0 (wrap64 ((wrap64 (Int.tmod a3 5)) - 1)) t131 t132 _ A48.out).mono ?_); rintro e w89 ⟨rfl, hb⟩; refine ⟨_, rfl, ?_⟩; have n0_ := Aside0.mk (below_step (by repeat (first | (with_reducible first | exact HB.out | apply below_alloc | apply pw_below_drewN | apply below_drew1) | exact HB.out)) hb); clear HB; have HB := n0_; clear n0_; (try clear hb); (try clear hb2); (try clear hk); (try clear hi)) | ((with_reducible refine gate_callee (f := 21) rfl ?_); refine goesL_ (some 141) rfl rfl Tryd.func21 (by kernel_rfl) rfl #[.int .i64 t128, .string (x12_2 ++ (⟨#[32, 35, 32, 120, 10, 32, 32, 32, 32, 32, 32, 32, 32, 32, 32, 32, 32, 32, 32, 32, 32, 121]⟩ : ByteArray)), .int .i64 0, .int .i64 (wrap64 ((wrap64 (Int.tmod a3 5)) - 1))] rfl (by (try simp only [List.map_toArray, List.map_cons, List.map_nil]); first | done | rfl | (simp only [List.length_drop, List.length_take]; rfl)) ?_; (with_reducible refine (plain_Read.calls t128 (x12_2 ++ (⟨#[32, 35, 32, 120, 10, 32, 32, 32, 32, 32, 32, 32, 32, 32, 32, 32, 32, 32, 32, 32, 32, 121]⟩ : ByteArray)) 0 (wrap64 ((wrap64 (Int.tmod a3 5)) - 1)) t133 t134 _ A50.out).mono ?_); rintro e w90 ⟨rfl, hb⟩; refine ⟨_, rfl, ?_⟩; have n0_ := Aside0.mk (below_step (by repeat (first | (with_reducible first | exact HB.out | apply below_alloc | apply pw_below_drewN | apply below_drew1) | exact HB.out)) hb); clear HB; have HB := n0_; clear n0_; (try clear hb); (try clear hb2); (try clear hk); (try clear hi)) | ((with_reducible refine gate_callee (f := 21) rfl ?_); refine goesL_ (some 149) rfl rfl Tryd.func21 (by kernel_rfl) rfl #[.int .i64 t128, .string (x12_2 ++ (⟨#[10, 46, 46, 46, 10]⟩ : ByteArray)), .int .i64 0, .int .i64 (wrap64 ((wrap64 (Int.tmod a3 5)) - 1))] rfl (by (try simp only [List.map_toArray, List.map_cons, List.map_nil]); first | done | rfl | (simp only [List.length_drop, List.length_take]; rfl)) ?_; (with_reducible refine (plain_Read.calls t128 (x12_2 ++ (⟨#[10, 46, 46, 46, 10]⟩ : ByteArray)) 0 (wrap64 ((wrap64 (Int.tmod a3 5)) - 1)) t135 t136 _ A52.out).mono ?_); rintro e w91 ⟨rfl, hb⟩; refine ⟨_, rfl, ?_⟩; have n0_ := Aside0.mk (below_step (by repeat (first | (with_reducible first | exact HB.out | apply below_alloc | apply pw_below_drewN | apply below_drew1) | exact HB.out)) hb); clear HB; have HB := n0_; clear n0_; (try clear hb); (try clear hb2); (try clear hk); (try clear hi)))
                        go_ret
                        exact ⟨by first | rfl | (simp [errW_none, errW_some] <;> rfl) | (simp [*, errW_none, errW_some] <;> rfl), by repeat (first | (with_reducible first | exact HB.out | apply below_alloc | apply pw_below_drewN | apply below_drew1) | exact HB.out)⟩
                    · rw [if_neg c51] at H
                      exact absurd H (by simp)
                  · rw [if_neg c49] at H
                    exact absurd H (by simp)
                · rw [if_neg c47] at H
                  exact absurd H (by simp)
  · replace c7 := Bool.eq_false_iff.mpr c7
    subst c7
    have H1 : (some false) = some r := by rw [if_neg (show ¬ (false = true) by decide)] at H; exact H
    clear H
    have H := H1
    clear H1
    obtain rfl := Option.some.inj H
    go_enter Tryd.func5, Tryd.ntmps5
    go_wp2_with (first | ((with_reducible refine gate_callee (f := 15) rfl ?_); refine goesL_ (some 27) rfl rfl Tryd.func15 (by kernel_rfl) rfl #[] rfl (by (try simp only [List.map_toArray, List.map_cons, List.map_nil]); first | done | rfl | (simp only [List.length_drop, List.length_take]; rfl)) ?_; (with_reducible refine (targumlaw20_known.calls  false _ A6.out).mono ?_); rintro e w92 ⟨rfl, hb⟩; refine ⟨_, rfl, ?_⟩; have n0_ := Aside0.mk (below_step (by repeat (first | (with_reducible first | exact HB.out | apply below_alloc | apply pw_below_drewN | apply below_drew1) | exact HB.out)) hb); clear HB; have HB := n0_; clear n0_; (try clear hb); (try clear hb2); (try clear hk); (try clear hi)))
    go_ret
    exact ⟨by first | rfl | (simp [errW_none, errW_some] <;> rfl) | (simp [*, errW_none, errW_some] <;> rfl), by repeat (first | (with_reducible first | exact HB.out | apply below_alloc | apply pw_below_drewN | apply below_drew1) | exact HB.out)⟩

end Go.Proofs.YtmfjdlmhejabiaaDoor.PL
