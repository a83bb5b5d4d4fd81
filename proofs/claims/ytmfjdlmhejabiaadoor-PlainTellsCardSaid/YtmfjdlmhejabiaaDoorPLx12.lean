-- Written by wip/myprint.py (a program of this session's) over the kit's print.
import Derived.Test.YtmfjdlmhejabiaaDoorPLx0
import Derived.Test.YtmfjdlmhejabiaaDoorPLx5
import Derived.Test.YtmfjdlmhejabiaaDoorPLx6
import Derived.Test.YtmfjdlmhejabiaaDoorPLx7
import Derived.Test.YtmfjdlmhejabiaaDoorPLx9
import Derived.Test.YtmfjdlmhejabiaaDoorPLx10
import Derived.Test.YtmfjdlmhejabiaaDoorPLx11
namespace Go.Proofs.YtmfjdlmhejabiaaDoor.PL
open Go.Proofs.YtmfjdlmhejabiaaDoor.X
open Go.RowKit Go.Proofs.YtmfjdlmhejabiaaDoorW.PrintWords Go.Proofs.YtmfjdlmhejabiaaDoorW.PrintLast Go.Proofs.YtmfjdlmhejabiaaDoorW.PrintMore
attribute [local go_sem] max2_int min2_int max_two min_two max_three min_three max_four min_four   -- for this text's walks alone
set_option linter.unusedVariables false
set_option linter.unusedSimpArgs false

/-! ### targumref17_Plain: function 22 -/
mutual
def targumref17_Plain.l0 : Nat → Int → ByteArray → Int → Int → ByteArray → List (S59) → Option (ByteArray × Int)
  | 0, _, _, _, _, _, _ => none
  | k + 1, x0, x1, x3, x10, x11, x12 => (targumref17_over.f k x1 x10).bind fun t163 => (if t163 = (x1.size : Int) then (targumref17_Plain.j1 k x0 x1 x3 x10 x11 x12 t163 true) else ((targumref1_Break.f k x0 x1 t163).bind fun t164 => (targumref17_Plain.j1 k x0 x1 x3 x10 x11 x12 t163 (t164 == 0))))
def targumref17_Plain.j1 : Nat → Int → ByteArray → Int → Int → ByteArray → List (S59) → Int → Bool → Option (ByteArray × Int)
  | 0, _, _, _, _, _, _, _, _ => none
  | k + 1, x0, x1, x3, x10, x11, x12, x13, x42 => if x42 = true then (some (x11, x10)) else (targumref17_Plain.l1 k x0 x1 x3 x10 x11 x12 x13 0)
def targumref17_Plain.j3 : Nat → Int → ByteArray → Int → Int → ByteArray → List (S59) → Int → Option (ByteArray × Int)
  | 0, _, _, _, _, _, _, _ => none
  | k + 1, x0, x1, x3, x10, x11, x12, x14 => targumref17_Plain.l2 k x0 x1 x3 x10 x11 x12 x14
def targumref17_Plain.j5 : Nat → Int → ByteArray → Int → Int → ByteArray → List (S59) → Int → Option (ByteArray × Int)
  | 0, _, _, _, _, _, _, _ => none
  | k + 1, x0, x1, x3, x10, x11, x12, x14 => if (x12.length : Int) = 0 then (targumref17_Plain.j6 k x0 x1 x3 x10 x11 x12 x14 true) else (if 0 < (x12.length : Int) then ((targumref1_Indent.f k x1 ((rd_T59 x12 0).f0) ((rd_T59 x12 0).f1) ((rd_T59 x12 0).f2)).bind fun t175 => (if t175 ≤ x3 then (targumref17_Plain.j6 k x0 x1 x3 x10 x11 x12 x14 true) else ((targumref1_Marker.f k x1 ((rd_T59 x12 0).f0) ((rd_T59 x12 0).f1) ((rd_T59 x12 0).f2)).bind fun t177 => (targumref17_Plain.j6 k x0 x1 x3 x10 x11 x12 x14 (decide (t177 > 0)))))) else (none))
def targumref17_Plain.j6 : Nat → Int → ByteArray → Int → Int → ByteArray → List (S59) → Int → Bool → Option (ByteArray × Int)
  | 0, _, _, _, _, _, _, _, _ => none
  | k + 1, x0, x1, x3, x10, x11, x12, x14, x91 => if x91 = true then (some (x11, x10)) else (if 0 < (x12.length : Int) then ((targumref17_over.f k x1 ((rd_T59 x12 0).f0)).bind fun t179 => (if 0 ≤ t179 then (if t179 < (x1.size : Int) then (if (bt x1 t179) = 35 then (targumref17_Plain.j7 k x0 x1 x3 x10 x11 x12 x14 t179 true) else (if (bt x1 t179) = 58 then ((targumref17_Stop.f k x0 x1 (wrap64 (t179 + 1)) false).bind fun t180 => (targumref17_Plain.j7 k x0 x1 x3 x10 x11 x12 x14 t179 t180)) else (targumref17_Plain.j7 k x0 x1 x3 x10 x11 x12 x14 t179 false))) else (none)) else (none))) else (none))
def targumref17_Plain.j7 : Nat → Int → ByteArray → Int → Int → ByteArray → List (S59) → Int → Int → Bool → Option (ByteArray × Int)
  | 0, _, _, _, _, _, _, _, _, _ => none
  | k + 1, x0, x1, x3, x10, x11, x12, x14, x15, x116 => if x116 = true then (some (x11, x10)) else ((targumref17_ends.f k x0 x1 x15 false).bind fun t181 => (if x14 = 0 then (if x11.size + 1 ≤ 9223372036854775807 then (if 0 ≤ x15 then (if x15 ≤ t181 then (if t181 ≤ (x1.size : Int) then (if (x11 ++ (⟨#[32]⟩ : ByteArray)).size + (x1.extract (x15 : Int).toNat (t181 : Int).toNat).size ≤ 9223372036854775807 then (targumref17_Plain.l0 k x0 x1 x3 t181 ((x11 ++ (⟨#[32]⟩ : ByteArray)) ++ (x1.extract (x15 : Int).toNat (t181 : Int).toNat)) x12) else (none)) else (none)) else (none)) else (none)) else (none)) else ((targumref17_feeds.f k x14).bind fun t182 => (if x11.size + t182.size ≤ 9223372036854775807 then (if 0 ≤ x15 then (if x15 ≤ t181 then (if t181 ≤ (x1.size : Int) then (if (x11 ++ t182).size + (x1.extract (x15 : Int).toNat (t181 : Int).toNat).size ≤ 9223372036854775807 then (targumref17_Plain.l0 k x0 x1 x3 t181 ((x11 ++ t182) ++ (x1.extract (x15 : Int).toNat (t181 : Int).toNat)) x12) else (none)) else (none)) else (none)) else (none)) else (none)))))
def targumref17_Plain.l2 : Nat → Int → ByteArray → Int → Int → ByteArray → List (S59) → Int → Option (ByteArray × Int)
  | 0, _, _, _, _, _, _, _ => none
  | k + 1, x0, x1, x3, x10, x11, x12, x14 => if (x12.length : Int) > 0 then (if 0 < (x12.length : Int) then ((targumref1_Blank.f k x1 ((rd_T59 x12 0).f0) ((rd_T59 x12 0).f1) ((rd_T59 x12 0).f2)).bind fun t170 => (if t170 = true then (if 1 ≤ (x12.length : Int) then (targumref17_Plain.l2 k x0 x1 x3 x10 x11 (x12.drop (1 : Int).toNat) (wrap64 (x14 + 1))) else (none)) else (targumref17_Plain.j5 k x0 x1 x3 x10 x11 x12 x14))) else (none)) else (targumref17_Plain.j5 k x0 x1 x3 x10 x11 x12 x14)
def targumref17_Plain.l1 : Nat → Int → ByteArray → Int → Int → ByteArray → List (S59) → Int → Int → Option (ByteArray × Int)
  | 0, _, _, _, _, _, _, _, _ => none
  | k + 1, x0, x1, x3, x10, x11, x12, x13, x14 => if (x12.length : Int) > 0 then (if 0 < (x12.length : Int) then (if ((rd_T59 x12 0).f0) ≤ x13 then (if 1 ≤ (x12.length : Int) then (targumref17_Plain.l1 k x0 x1 x3 x10 x11 (x12.drop (1 : Int).toNat) x13 x14) else (none)) else (targumref17_Plain.j3 k x0 x1 x3 x10 x11 x12 x14)) else (none)) else (targumref17_Plain.j3 k x0 x1 x3 x10 x11 x12 x14)
end
def targumref17_Plain.f (k : Nat) (a0 : Int) (a1 : ByteArray) (a2 : Int) (a3 : Int) : Option (ByteArray × Int) := (targumref17_Part.f k a0 a1 a2 false).bind fun t159 => (if t159 < 0 then (some ((⟨#[]⟩ : ByteArray), (-1))) else (if 0 ≤ a2 then (if a2 ≤ t159 then (if t159 ≤ (a1.size : Int) then ((targumref1_Lines.f k a0 a1).bind fun t160 => (targumref17_Plain.l0 k a0 a1 a3 t159 (a1.extract (a2 : Int).toNat (t159 : Int).toNat) t160)) else (none)) else (none)) else (none)))
theorem targumref17_Plain.mono_l : ∀ k, (∀ y0 y1 y2 y3 y4 y5, LeO (targumref17_Plain.l0 k y0 y1 y2 y3 y4 y5) (targumref17_Plain.l0 (k + 1) y0 y1 y2 y3 y4 y5)) ∧ (∀ y0 y1 y2 y3 y4 y5 y6 y7, LeO (targumref17_Plain.j1 k y0 y1 y2 y3 y4 y5 y6 y7) (targumref17_Plain.j1 (k + 1) y0 y1 y2 y3 y4 y5 y6 y7)) ∧ (∀ y0 y1 y2 y3 y4 y5 y6, LeO (targumref17_Plain.j3 k y0 y1 y2 y3 y4 y5 y6) (targumref17_Plain.j3 (k + 1) y0 y1 y2 y3 y4 y5 y6)) ∧ (∀ y0 y1 y2 y3 y4 y5 y6, LeO (targumref17_Plain.j5 k y0 y1 y2 y3 y4 y5 y6) (targumref17_Plain.j5 (k + 1) y0 y1 y2 y3 y4 y5 y6)) ∧ (∀ y0 y1 y2 y3 y4 y5 y6 y7, LeO (targumref17_Plain.j6 k y0 y1 y2 y3 y4 y5 y6 y7) (targumref17_Plain.j6 (k + 1) y0 y1 y2 y3 y4 y5 y6 y7)) ∧ (∀ y0 y1 y2 y3 y4 y5 y6 y7 y8, LeO (targumref17_Plain.j7 k y0 y1 y2 y3 y4 y5 y6 y7 y8) (targumref17_Plain.j7 (k + 1) y0 y1 y2 y3 y4 y5 y6 y7 y8)) ∧ (∀ y0 y1 y2 y3 y4 y5 y6, LeO (targumref17_Plain.l2 k y0 y1 y2 y3 y4 y5 y6) (targumref17_Plain.l2 (k + 1) y0 y1 y2 y3 y4 y5 y6)) ∧ (∀ y0 y1 y2 y3 y4 y5 y6 y7, LeO (targumref17_Plain.l1 k y0 y1 y2 y3 y4 y5 y6 y7) (targumref17_Plain.l1 (k + 1) y0 y1 y2 y3 y4 y5 y6 y7))
  | 0 => ⟨fun _ _ _ _ _ _ r h => by simp [targumref17_Plain.l0] at h, fun _ _ _ _ _ _ _ _ r h => by simp [targumref17_Plain.j1] at h, fun _ _ _ _ _ _ _ r h => by simp [targumref17_Plain.j3] at h, fun _ _ _ _ _ _ _ r h => by simp [targumref17_Plain.j5] at h, fun _ _ _ _ _ _ _ _ r h => by simp [targumref17_Plain.j6] at h, fun _ _ _ _ _ _ _ _ _ r h => by simp [targumref17_Plain.j7] at h, fun _ _ _ _ _ _ _ r h => by simp [targumref17_Plain.l2] at h, fun _ _ _ _ _ _ _ _ r h => by simp [targumref17_Plain.l1] at h⟩
  | k + 1 => by
    obtain ⟨ih0, ih1, ih2, ih3, ih4, ih5, ih6, ih7⟩ := targumref17_Plain.mono_l k
    refine ⟨?_, ?_, ?_, ?_, ?_, ?_, ?_, ?_⟩
    · intro y0 y1 y2 y3 y4 y5
      unfold targumref17_Plain.l0
      repeat' first
      | (with_reducible exact ih0 _ _ _ _ _ _)
      | (with_reducible exact ih1 _ _ _ _ _ _ _ _)
      | (with_reducible exact ih2 _ _ _ _ _ _ _)
      | (with_reducible exact ih3 _ _ _ _ _ _ _)
      | (with_reducible exact ih4 _ _ _ _ _ _ _ _)
      | (with_reducible exact ih5 _ _ _ _ _ _ _ _ _)
      | (with_reducible exact ih6 _ _ _ _ _ _ _)
      | (with_reducible exact ih7 _ _ _ _ _ _ _ _)
      | (with_reducible exact targumref17_Part.mono _ _ _ _ _)
      | (with_reducible exact targumref17_Stop.mono _ _ _ _ _)
      | (with_reducible exact targumref17_ends.mono _ _ _ _ _)
      | (with_reducible exact targumref17_feeds.mono _ _)
      | (with_reducible exact targumref17_over.mono _ _ _)
      | (with_reducible exact targumref1_Blank.mono _ _ _ _ _)
      | (with_reducible exact targumref1_Break.mono _ _ _ _)
      | (with_reducible exact targumref1_Indent.mono _ _ _ _ _)
      | (with_reducible exact targumref1_Lines.mono _ _ _)
      | (with_reducible exact targumref1_Marker.mono _ _ _ _ _)
      | (with_reducible exact LeO.refl _)
      | (with_reducible exact LeO.none _)
      | (with_reducible refine LeO.ite ?_ ?_)
      | (with_reducible refine LeO.bind ?_ (fun _ => ?_))
      | exact ih0 _ _ _ _ _ _
      | exact ih1 _ _ _ _ _ _ _ _
      | exact ih2 _ _ _ _ _ _ _
      | exact ih3 _ _ _ _ _ _ _
      | exact ih4 _ _ _ _ _ _ _ _
      | exact ih5 _ _ _ _ _ _ _ _ _
      | exact ih6 _ _ _ _ _ _ _
      | exact ih7 _ _ _ _ _ _ _ _
      | exact targumref17_Part.mono _ _ _ _ _
      | exact targumref17_Stop.mono _ _ _ _ _
      | exact targumref17_ends.mono _ _ _ _ _
      | exact targumref17_feeds.mono _ _
      | exact targumref17_over.mono _ _ _
      | exact targumref1_Blank.mono _ _ _ _ _
      | exact targumref1_Break.mono _ _ _ _
      | exact targumref1_Indent.mono _ _ _ _ _
      | exact targumref1_Lines.mono _ _ _
      | exact targumref1_Marker.mono _ _ _ _ _
      | exact LeO.none _
      | refine LeO.ite ?_ ?_
      | refine LeO.bind ?_ (fun _ => ?_)
    · intro y0 y1 y2 y3 y4 y5 y6 y7
      unfold targumref17_Plain.j1
      repeat' first
      | (with_reducible exact ih0 _ _ _ _ _ _)
      | (with_reducible exact ih1 _ _ _ _ _ _ _ _)
      | (with_reducible exact ih2 _ _ _ _ _ _ _)
      | (with_reducible exact ih3 _ _ _ _ _ _ _)
      | (with_reducible exact ih4 _ _ _ _ _ _ _ _)
      | (with_reducible exact ih5 _ _ _ _ _ _ _ _ _)
      | (with_reducible exact ih6 _ _ _ _ _ _ _)
      | (with_reducible exact ih7 _ _ _ _ _ _ _ _)
      | (with_reducible exact targumref17_Part.mono _ _ _ _ _)
      | (with_reducible exact targumref17_Stop.mono _ _ _ _ _)
      | (with_reducible exact targumref17_ends.mono _ _ _ _ _)
      | (with_reducible exact targumref17_feeds.mono _ _)
      | (with_reducible exact targumref17_over.mono _ _ _)
      | (with_reducible exact targumref1_Blank.mono _ _ _ _ _)
      | (with_reducible exact targumref1_Break.mono _ _ _ _)
      | (with_reducible exact targumref1_Indent.mono _ _ _ _ _)
      | (with_reducible exact targumref1_Lines.mono _ _ _)
      | (with_reducible exact targumref1_Marker.mono _ _ _ _ _)
      | (with_reducible exact LeO.refl _)
      | (with_reducible exact LeO.none _)
      | (with_reducible refine LeO.ite ?_ ?_)
      | (with_reducible refine LeO.bind ?_ (fun _ => ?_))
      | exact ih0 _ _ _ _ _ _
      | exact ih1 _ _ _ _ _ _ _ _
      | exact ih2 _ _ _ _ _ _ _
      | exact ih3 _ _ _ _ _ _ _
      | exact ih4 _ _ _ _ _ _ _ _
      | exact ih5 _ _ _ _ _ _ _ _ _
      | exact ih6 _ _ _ _ _ _ _
      | exact ih7 _ _ _ _ _ _ _ _
      | exact targumref17_Part.mono _ _ _ _ _
      | exact targumref17_Stop.mono _ _ _ _ _
      | exact targumref17_ends.mono _ _ _ _ _
      | exact targumref17_feeds.mono _ _
      | exact targumref17_over.mono _ _ _
      | exact targumref1_Blank.mono _ _ _ _ _
      | exact targumref1_Break.mono _ _ _ _
      | exact targumref1_Indent.mono _ _ _ _ _
      | exact targumref1_Lines.mono _ _ _
      | exact targumref1_Marker.mono _ _ _ _ _
      | exact LeO.none _
      | refine LeO.ite ?_ ?_
      | refine LeO.bind ?_ (fun _ => ?_)
    · intro y0 y1 y2 y3 y4 y5 y6
      unfold targumref17_Plain.j3
      repeat' first
      | (with_reducible exact ih0 _ _ _ _ _ _)
      | (with_reducible exact ih1 _ _ _ _ _ _ _ _)
      | (with_reducible exact ih2 _ _ _ _ _ _ _)
      | (with_reducible exact ih3 _ _ _ _ _ _ _)
      | (with_reducible exact ih4 _ _ _ _ _ _ _ _)
      | (with_reducible exact ih5 _ _ _ _ _ _ _ _ _)
      | (with_reducible exact ih6 _ _ _ _ _ _ _)
      | (with_reducible exact ih7 _ _ _ _ _ _ _ _)
      | (with_reducible exact targumref17_Part.mono _ _ _ _ _)
      | (with_reducible exact targumref17_Stop.mono _ _ _ _ _)
      | (with_reducible exact targumref17_ends.mono _ _ _ _ _)
      | (with_reducible exact targumref17_feeds.mono _ _)
      | (with_reducible exact targumref17_over.mono _ _ _)
      | (with_reducible exact targumref1_Blank.mono _ _ _ _ _)
      | (with_reducible exact targumref1_Break.mono _ _ _ _)
      | (with_reducible exact targumref1_Indent.mono _ _ _ _ _)
      | (with_reducible exact targumref1_Lines.mono _ _ _)
      | (with_reducible exact targumref1_Marker.mono _ _ _ _ _)
      | (with_reducible exact LeO.refl _)
      | (with_reducible exact LeO.none _)
      | (with_reducible refine LeO.ite ?_ ?_)
      | (with_reducible refine LeO.bind ?_ (fun _ => ?_))
      | exact ih0 _ _ _ _ _ _
      | exact ih1 _ _ _ _ _ _ _ _
      | exact ih2 _ _ _ _ _ _ _
      | exact ih3 _ _ _ _ _ _ _
      | exact ih4 _ _ _ _ _ _ _ _
      | exact ih5 _ _ _ _ _ _ _ _ _
      | exact ih6 _ _ _ _ _ _ _
      | exact ih7 _ _ _ _ _ _ _ _
      | exact targumref17_Part.mono _ _ _ _ _
      | exact targumref17_Stop.mono _ _ _ _ _
      | exact targumref17_ends.mono _ _ _ _ _
      | exact targumref17_feeds.mono _ _
      | exact targumref17_over.mono _ _ _
      | exact targumref1_Blank.mono _ _ _ _ _
      | exact targumref1_Break.mono _ _ _ _
      | exact targumref1_Indent.mono _ _ _ _ _
      | exact targumref1_Lines.mono _ _ _
      | exact targumref1_Marker.mono _ _ _ _ _
      | exact LeO.none _
      | refine LeO.ite ?_ ?_
      | refine LeO.bind ?_ (fun _ => ?_)
    · intro y0 y1 y2 y3 y4 y5 y6
      unfold targumref17_Plain.j5
      repeat' first
      | (with_reducible exact ih0 _ _ _ _ _ _)
      | (with_reducible exact ih1 _ _ _ _ _ _ _ _)
      | (with_reducible exact ih2 _ _ _ _ _ _ _)
      | (with_reducible exact ih3 _ _ _ _ _ _ _)
      | (with_reducible exact ih4 _ _ _ _ _ _ _ _)
      | (with_reducible exact ih5 _ _ _ _ _ _ _ _ _)
      | (with_reducible exact ih6 _ _ _ _ _ _ _)
      | (with_reducible exact ih7 _ _ _ _ _ _ _ _)
      | (with_reducible exact targumref17_Part.mono _ _ _ _ _)
      | (with_reducible exact targumref17_Stop.mono _ _ _ _ _)
      | (with_reducible exact targumref17_ends.mono _ _ _ _ _)
      | (with_reducible exact targumref17_feeds.mono _ _)
      | (with_reducible exact targumref17_over.mono _ _ _)
      | (with_reducible exact targumref1_Blank.mono _ _ _ _ _)
      | (with_reducible exact targumref1_Break.mono _ _ _ _)
      | (with_reducible exact targumref1_Indent.mono _ _ _ _ _)
      | (with_reducible exact targumref1_Lines.mono _ _ _)
      | (with_reducible exact targumref1_Marker.mono _ _ _ _ _)
      | (with_reducible exact LeO.refl _)
      | (with_reducible exact LeO.none _)
      | (with_reducible refine LeO.ite ?_ ?_)
      | (with_reducible refine LeO.bind ?_ (fun _ => ?_))
      | exact ih0 _ _ _ _ _ _
      | exact ih1 _ _ _ _ _ _ _ _
      | exact ih2 _ _ _ _ _ _ _
      | exact ih3 _ _ _ _ _ _ _
      | exact ih4 _ _ _ _ _ _ _ _
      | exact ih5 _ _ _ _ _ _ _ _ _
      | exact ih6 _ _ _ _ _ _ _
      | exact ih7 _ _ _ _ _ _ _ _
      | exact targumref17_Part.mono _ _ _ _ _
      | exact targumref17_Stop.mono _ _ _ _ _
      | exact targumref17_ends.mono _ _ _ _ _
      | exact targumref17_feeds.mono _ _
      | exact targumref17_over.mono _ _ _
      | exact targumref1_Blank.mono _ _ _ _ _
      | exact targumref1_Break.mono _ _ _ _
      | exact targumref1_Indent.mono _ _ _ _ _
      | exact targumref1_Lines.mono _ _ _
      | exact targumref1_Marker.mono _ _ _ _ _
      | exact LeO.none _
      | refine LeO.ite ?_ ?_
      | refine LeO.bind ?_ (fun _ => ?_)
    · intro y0 y1 y2 y3 y4 y5 y6 y7
      unfold targumref17_Plain.j6
      repeat' first
      | (with_reducible exact ih0 _ _ _ _ _ _)
      | (with_reducible exact ih1 _ _ _ _ _ _ _ _)
      | (with_reducible exact ih2 _ _ _ _ _ _ _)
      | (with_reducible exact ih3 _ _ _ _ _ _ _)
      | (with_reducible exact ih4 _ _ _ _ _ _ _ _)
      | (with_reducible exact ih5 _ _ _ _ _ _ _ _ _)
      | (with_reducible exact ih6 _ _ _ _ _ _ _)
      | (with_reducible exact ih7 _ _ _ _ _ _ _ _)
      | (with_reducible exact targumref17_Part.mono _ _ _ _ _)
      | (with_reducible exact targumref17_Stop.mono _ _ _ _ _)
      | (with_reducible exact targumref17_ends.mono _ _ _ _ _)
      | (with_reducible exact targumref17_feeds.mono _ _)
      | (with_reducible exact targumref17_over.mono _ _ _)
      | (with_reducible exact targumref1_Blank.mono _ _ _ _ _)
      | (with_reducible exact targumref1_Break.mono _ _ _ _)
      | (with_reducible exact targumref1_Indent.mono _ _ _ _ _)
      | (with_reducible exact targumref1_Lines.mono _ _ _)
      | (with_reducible exact targumref1_Marker.mono _ _ _ _ _)
      | (with_reducible exact LeO.refl _)
      | (with_reducible exact LeO.none _)
      | (with_reducible refine LeO.ite ?_ ?_)
      | (with_reducible refine LeO.bind ?_ (fun _ => ?_))
      | exact ih0 _ _ _ _ _ _
      | exact ih1 _ _ _ _ _ _ _ _
      | exact ih2 _ _ _ _ _ _ _
      | exact ih3 _ _ _ _ _ _ _
      | exact ih4 _ _ _ _ _ _ _ _
      | exact ih5 _ _ _ _ _ _ _ _ _
      | exact ih6 _ _ _ _ _ _ _
      | exact ih7 _ _ _ _ _ _ _ _
      | exact targumref17_Part.mono _ _ _ _ _
      | exact targumref17_Stop.mono _ _ _ _ _
      | exact targumref17_ends.mono _ _ _ _ _
      | exact targumref17_feeds.mono _ _
      | exact targumref17_over.mono _ _ _
      | exact targumref1_Blank.mono _ _ _ _ _
      | exact targumref1_Break.mono _ _ _ _
      | exact targumref1_Indent.mono _ _ _ _ _
      | exact targumref1_Lines.mono _ _ _
      | exact targumref1_Marker.mono _ _ _ _ _
      | exact LeO.none _
      | refine LeO.ite ?_ ?_
      | refine LeO.bind ?_ (fun _ => ?_)
    · intro y0 y1 y2 y3 y4 y5 y6 y7 y8
      unfold targumref17_Plain.j7
      repeat' first
      | (with_reducible exact ih0 _ _ _ _ _ _)
      | (with_reducible exact ih1 _ _ _ _ _ _ _ _)
      | (with_reducible exact ih2 _ _ _ _ _ _ _)
      | (with_reducible exact ih3 _ _ _ _ _ _ _)
      | (with_reducible exact ih4 _ _ _ _ _ _ _ _)
      | (with_reducible exact ih5 _ _ _ _ _ _ _ _ _)
      | (with_reducible exact ih6 _ _ _ _ _ _ _)
      | (with_reducible exact ih7 _ _ _ _ _ _ _ _)
      | (with_reducible exact targumref17_Part.mono _ _ _ _ _)
      | (with_reducible exact targumref17_Stop.mono _ _ _ _ _)
      | (with_reducible exact targumref17_ends.mono _ _ _ _ _)
      | (with_reducible exact targumref17_feeds.mono _ _)
      | (with_reducible exact targumref17_over.mono _ _ _)
      | (with_reducible exact targumref1_Blank.mono _ _ _ _ _)
      | (with_reducible exact targumref1_Break.mono _ _ _ _)
      | (with_reducible exact targumref1_Indent.mono _ _ _ _ _)
      | (with_reducible exact targumref1_Lines.mono _ _ _)
      | (with_reducible exact targumref1_Marker.mono _ _ _ _ _)
      | (with_reducible exact LeO.refl _)
      | (with_reducible exact LeO.none _)
      | (with_reducible refine LeO.ite ?_ ?_)
      | (with_reducible refine LeO.bind ?_ (fun _ => ?_))
      | exact ih0 _ _ _ _ _ _
      | exact ih1 _ _ _ _ _ _ _ _
      | exact ih2 _ _ _ _ _ _ _
      | exact ih3 _ _ _ _ _ _ _
      | exact ih4 _ _ _ _ _ _ _ _
      | exact ih5 _ _ _ _ _ _ _ _ _
      | exact ih6 _ _ _ _ _ _ _
      | exact ih7 _ _ _ _ _ _ _ _
      | exact targumref17_Part.mono _ _ _ _ _
      | exact targumref17_Stop.mono _ _ _ _ _
      | exact targumref17_ends.mono _ _ _ _ _
      | exact targumref17_feeds.mono _ _
      | exact targumref17_over.mono _ _ _
      | exact targumref1_Blank.mono _ _ _ _ _
      | exact targumref1_Break.mono _ _ _ _
      | exact targumref1_Indent.mono _ _ _ _ _
      | exact targumref1_Lines.mono _ _ _
      | exact targumref1_Marker.mono _ _ _ _ _
      | exact LeO.none _
      | refine LeO.ite ?_ ?_
      | refine LeO.bind ?_ (fun _ => ?_)
    · intro y0 y1 y2 y3 y4 y5 y6
      unfold targumref17_Plain.l2
      repeat' first
      | (with_reducible exact ih0 _ _ _ _ _ _)
      | (with_reducible exact ih1 _ _ _ _ _ _ _ _)
      | (with_reducible exact ih2 _ _ _ _ _ _ _)
      | (with_reducible exact ih3 _ _ _ _ _ _ _)
      | (with_reducible exact ih4 _ _ _ _ _ _ _ _)
      | (with_reducible exact ih5 _ _ _ _ _ _ _ _ _)
      | (with_reducible exact ih6 _ _ _ _ _ _ _)
      | (with_reducible exact ih7 _ _ _ _ _ _ _ _)
      | (with_reducible exact targumref17_Part.mono _ _ _ _ _)
      | (with_reducible exact targumref17_Stop.mono _ _ _ _ _)
      | (with_reducible exact targumref17_ends.mono _ _ _ _ _)
      | (with_reducible exact targumref17_feeds.mono _ _)
      | (with_reducible exact targumref17_over.mono _ _ _)
      | (with_reducible exact targumref1_Blank.mono _ _ _ _ _)
      | (with_reducible exact targumref1_Break.mono _ _ _ _)
      | (with_reducible exact targumref1_Indent.mono _ _ _ _ _)
      | (with_reducible exact targumref1_Lines.mono _ _ _)
      | (with_reducible exact targumref1_Marker.mono _ _ _ _ _)
      | (with_reducible exact LeO.refl _)
      | (with_reducible exact LeO.none _)
      | (with_reducible refine LeO.ite ?_ ?_)
      | (with_reducible refine LeO.bind ?_ (fun _ => ?_))
      | exact ih0 _ _ _ _ _ _
      | exact ih1 _ _ _ _ _ _ _ _
      | exact ih2 _ _ _ _ _ _ _
      | exact ih3 _ _ _ _ _ _ _
      | exact ih4 _ _ _ _ _ _ _ _
      | exact ih5 _ _ _ _ _ _ _ _ _
      | exact ih6 _ _ _ _ _ _ _
      | exact ih7 _ _ _ _ _ _ _ _
      | exact targumref17_Part.mono _ _ _ _ _
      | exact targumref17_Stop.mono _ _ _ _ _
      | exact targumref17_ends.mono _ _ _ _ _
      | exact targumref17_feeds.mono _ _
      | exact targumref17_over.mono _ _ _
      | exact targumref1_Blank.mono _ _ _ _ _
      | exact targumref1_Break.mono _ _ _ _
      | exact targumref1_Indent.mono _ _ _ _ _
      | exact targumref1_Lines.mono _ _ _
      | exact targumref1_Marker.mono _ _ _ _ _
      | exact LeO.none _
      | refine LeO.ite ?_ ?_
      | refine LeO.bind ?_ (fun _ => ?_)
    · intro y0 y1 y2 y3 y4 y5 y6 y7
      unfold targumref17_Plain.l1
      repeat' first
      | (with_reducible exact ih0 _ _ _ _ _ _)
      | (with_reducible exact ih1 _ _ _ _ _ _ _ _)
      | (with_reducible exact ih2 _ _ _ _ _ _ _)
      | (with_reducible exact ih3 _ _ _ _ _ _ _)
      | (with_reducible exact ih4 _ _ _ _ _ _ _ _)
      | (with_reducible exact ih5 _ _ _ _ _ _ _ _ _)
      | (with_reducible exact ih6 _ _ _ _ _ _ _)
      | (with_reducible exact ih7 _ _ _ _ _ _ _ _)
      | (with_reducible exact targumref17_Part.mono _ _ _ _ _)
      | (with_reducible exact targumref17_Stop.mono _ _ _ _ _)
      | (with_reducible exact targumref17_ends.mono _ _ _ _ _)
      | (with_reducible exact targumref17_feeds.mono _ _)
      | (with_reducible exact targumref17_over.mono _ _ _)
      | (with_reducible exact targumref1_Blank.mono _ _ _ _ _)
      | (with_reducible exact targumref1_Break.mono _ _ _ _)
      | (with_reducible exact targumref1_Indent.mono _ _ _ _ _)
      | (with_reducible exact targumref1_Lines.mono _ _ _)
      | (with_reducible exact targumref1_Marker.mono _ _ _ _ _)
      | (with_reducible exact LeO.refl _)
      | (with_reducible exact LeO.none _)
      | (with_reducible refine LeO.ite ?_ ?_)
      | (with_reducible refine LeO.bind ?_ (fun _ => ?_))
      | exact ih0 _ _ _ _ _ _
      | exact ih1 _ _ _ _ _ _ _ _
      | exact ih2 _ _ _ _ _ _ _
      | exact ih3 _ _ _ _ _ _ _
      | exact ih4 _ _ _ _ _ _ _ _
      | exact ih5 _ _ _ _ _ _ _ _ _
      | exact ih6 _ _ _ _ _ _ _
      | exact ih7 _ _ _ _ _ _ _ _
      | exact targumref17_Part.mono _ _ _ _ _
      | exact targumref17_Stop.mono _ _ _ _ _
      | exact targumref17_ends.mono _ _ _ _ _
      | exact targumref17_feeds.mono _ _
      | exact targumref17_over.mono _ _ _
      | exact targumref1_Blank.mono _ _ _ _ _
      | exact targumref1_Break.mono _ _ _ _
      | exact targumref1_Indent.mono _ _ _ _ _
      | exact targumref1_Lines.mono _ _ _
      | exact targumref1_Marker.mono _ _ _ _ _
      | exact LeO.none _
      | refine LeO.ite ?_ ?_
      | refine LeO.bind ?_ (fun _ => ?_)
theorem targumref17_Plain.mono : ∀ a0 a1 a2 a3 k, LeO (targumref17_Plain.f k a0 a1 a2 a3) (targumref17_Plain.f (k + 1) a0 a1 a2 a3) := by
  intro a0 a1 a2 a3 k
  obtain ⟨ih0, ih1, ih2, ih3, ih4, ih5, ih6, ih7⟩ := targumref17_Plain.mono_l k
  unfold targumref17_Plain.f
  repeat' first
      | (with_reducible exact ih0 _ _ _ _ _ _)
      | (with_reducible exact ih1 _ _ _ _ _ _ _ _)
      | (with_reducible exact ih2 _ _ _ _ _ _ _)
      | (with_reducible exact ih3 _ _ _ _ _ _ _)
      | (with_reducible exact ih4 _ _ _ _ _ _ _ _)
      | (with_reducible exact ih5 _ _ _ _ _ _ _ _ _)
      | (with_reducible exact ih6 _ _ _ _ _ _ _)
      | (with_reducible exact ih7 _ _ _ _ _ _ _ _)
      | (with_reducible exact targumref17_Part.mono _ _ _ _ _)
      | (with_reducible exact targumref17_Stop.mono _ _ _ _ _)
      | (with_reducible exact targumref17_ends.mono _ _ _ _ _)
      | (with_reducible exact targumref17_feeds.mono _ _)
      | (with_reducible exact targumref17_over.mono _ _ _)
      | (with_reducible exact targumref1_Blank.mono _ _ _ _ _)
      | (with_reducible exact targumref1_Break.mono _ _ _ _)
      | (with_reducible exact targumref1_Indent.mono _ _ _ _ _)
      | (with_reducible exact targumref1_Lines.mono _ _ _)
      | (with_reducible exact targumref1_Marker.mono _ _ _ _ _)
      | (with_reducible exact LeO.refl _)
      | (with_reducible exact LeO.none _)
      | (with_reducible refine LeO.ite ?_ ?_)
      | (with_reducible refine LeO.bind ?_ (fun _ => ?_))
      | exact ih0 _ _ _ _ _ _
      | exact ih1 _ _ _ _ _ _ _ _
      | exact ih2 _ _ _ _ _ _ _
      | exact ih3 _ _ _ _ _ _ _
      | exact ih4 _ _ _ _ _ _ _ _
      | exact ih5 _ _ _ _ _ _ _ _ _
      | exact ih6 _ _ _ _ _ _ _
      | exact ih7 _ _ _ _ _ _ _ _
      | exact targumref17_Part.mono _ _ _ _ _
      | exact targumref17_Stop.mono _ _ _ _ _
      | exact targumref17_ends.mono _ _ _ _ _
      | exact targumref17_feeds.mono _ _
      | exact targumref17_over.mono _ _ _
      | exact targumref1_Blank.mono _ _ _ _ _
      | exact targumref1_Break.mono _ _ _ _
      | exact targumref1_Indent.mono _ _ _ _ _
      | exact targumref1_Lines.mono _ _ _
      | exact targumref1_Marker.mono _ _ _ _ _
      | exact LeO.none _
      | refine LeO.ite ?_ ?_
      | refine LeO.bind ?_ (fun _ => ?_)
set_option maxHeartbeats 8000000 in
set_option maxRecDepth 100000 in
theorem targumref17_Plain.calls (k : Nat) (a0 : Int) (a1 : ByteArray) (a2 : Int) (a3 : Int) (r1 : ByteArray) (r2 : Int) (w : World) (h : targumref17_Plain.f k a0 a1 a2 a3 = some (r1, r2)) :
    Calls Tryd.prog 22 #[.int .i64 a0, .string a1, .int .i64 a2, .int .i64 a3] w fun e w' => e = .returned (.tuple #[.string r1, .int .i64 r2]) ∧ Below w.heap.size w w' := by
  have hu59 := Tryd.underlying59
  have HB := Aside0.mk (Below.refl w.heap.size w)
  have H : ((targumref17_Part.f k a0 a1 a2 false).bind fun t159 => (if t159 < 0 then (some ((⟨#[]⟩ : ByteArray), (-1))) else (if 0 ≤ a2 then (if a2 ≤ t159 then (if t159 ≤ (a1.size : Int) then ((targumref1_Lines.f k a0 a1).bind fun t160 => (targumref17_Plain.l0 k a0 a1 a3 t159 (a1.extract (a2 : Int).toNat (t159 : Int).toNat) t160)) else (none)) else (none)) else (none)))) = some (r1, r2) := h
  clear h
  replace H := Option.bind_eq_some_iff.mp H
  obtain ⟨t159, A50, H⟩ := H
  replace H : (if t159 < 0 then (some ((⟨#[]⟩ : ByteArray), (-1))) else (if 0 ≤ a2 then (if a2 ≤ t159 then (if t159 ≤ (a1.size : Int) then ((targumref1_Lines.f k a0 a1).bind fun t160 => (targumref17_Plain.l0 k a0 a1 a3 t159 (a1.extract (a2 : Int).toNat (t159 : Int).toNat) t160)) else (none)) else (none)) else (none))) = some (r1, r2) := H
  have A5 := Aside0.mk A50
  clear A50
  by_cases c6 : t159 < 0
  · rw [if_pos c6] at H
    have c6b0 : decide (t159 < 0) = true := decide_eq_true c6
    clear c6
    simp only [Option.some.injEq, Prod.mk.injEq] at H
    obtain ⟨rfl, rfl⟩ := H
    go_enter Tryd.func22, Tryd.ntmps22
    go_wp2_with (first | ((with_reducible refine gate_callee (f := 24) rfl ?_); refine goesL_ (some 19) rfl rfl Tryd.func24 (by kernel_rfl) rfl #[.int .i64 a0, .string a1, .int .i64 a2, .bool false] rfl (by (try simp only [List.map_toArray, List.map_cons, List.map_nil]); first | done | rfl | (simp only [List.length_drop, List.length_take]; rfl)) ?_; (with_reducible refine (targumref17_Part.calls k a0 a1 a2 false t159 _ A5.out).mono ?_); rintro e w' ⟨rfl, ⟨nd, rfl⟩⟩; refine ⟨_, rfl, ?_⟩))
    go_ret2
    exact ⟨by first | rfl | (simp [errW_none, errW_some] <;> rfl) | (simp [*, errW_none, errW_some] <;> rfl), by repeat (first | (with_reducible first | exact HB.out | apply below_alloc | apply pw_below_drewN | apply below_drew1) | exact HB.out)⟩
  · rw [if_neg c6] at H
    have c6b0 : decide (t159 < 0) = false := decide_eq_false c6
    clear c6
    by_cases c7 : 0 ≤ a2
    · rw [if_pos c7] at H
      have c7b0 := eq_true c7
      have c7b1 : decide (0 ≤ a2) = true := decide_eq_true c7
      clear c7
      by_cases c8 : a2 ≤ t159
      · rw [if_pos c8] at H
        have c8b0 := eq_true c8
        have c8b1 : decide (a2 ≤ t159) = true := decide_eq_true c8
        clear c8
        by_cases c9 : t159 ≤ (a1.size : Int)
        · rw [if_pos c9] at H
          have c9b0 := eq_true c9
          have c9b1 : decide (t159 ≤ (a1.size : Int)) = true := decide_eq_true c9
          clear c9
          replace H := Option.bind_eq_some_iff.mp H
          obtain ⟨t160, A100, H⟩ := H
          replace H : (targumref17_Plain.l0 k a0 a1 a3 t159 (a1.extract (a2 : Int).toNat (t159 : Int).toNat) t160) = some (r1, r2) := H
          have A10 := Aside0.mk A100
          clear A100
          have H' := Aside0.mk H
          clear H
          go_enter Tryd.func22, Tryd.ntmps22
          go_wp2_with (first | ((with_reducible refine gate_callee (f := 24) rfl ?_); refine goesL_ (some 19) rfl rfl Tryd.func24 (by kernel_rfl) rfl #[.int .i64 a0, .string a1, .int .i64 a2, .bool false] rfl (by (try simp only [List.map_toArray, List.map_cons, List.map_nil]); first | done | rfl | (simp only [List.length_drop, List.length_take]; rfl)) ?_; (with_reducible refine (targumref17_Part.calls k a0 a1 a2 false t159 _ A5.out).mono ?_); rintro e w' ⟨rfl, ⟨nd, rfl⟩⟩; refine ⟨_, rfl, ?_⟩) | ((with_reducible refine gate_callee (f := 27) rfl ?_); refine goesL_ (some 28) rfl rfl Tryd.func27 (by kernel_rfl) rfl #[.int .i64 a0, .string a1] rfl (by (try simp only [List.map_toArray, List.map_cons, List.map_nil]); first | done | rfl | (simp only [List.length_drop, List.length_take]; rfl)) ?_; (with_reducible refine (targumref1_Lines.calls k a0 a1 t160 _ A10.out).mono ?_); rintro e w11 ⟨v161, rfl, ho0, hb⟩; refine ⟨_, rfl, ?_⟩; have n0_ := Aside0.mk (Kd.R_lower ho0 (below_size (by repeat (first | (with_reducible first | exact HB.out | apply below_alloc | apply pw_below_drewN | apply below_drew1) | exact HB.out)))); have n1_ := Aside0.mk (below_step (by repeat (first | (with_reducible first | exact HB.out | apply below_alloc | apply pw_below_drewN | apply below_drew1) | exact HB.out)) hb); clear HB; have HO162 := n0_; have HB := n1_; clear n0_ n1_; (try clear hb); (try clear hb2); (try clear hk); (try clear hi); (try clear ho0)))
          go_loopg [10, 11, 12] k (fun kq v10 v11 v12 w' => ∃ (x10_1 : Int) (x11_1 : ByteArray) (x12_1 : List (S59)), v10 = .int .i64 x10_1 ∧ v11 = .string x11_1 ∧ Aside0 (targumref17_Plain.l0 kq a0 a1 a3 x10_1 x11_1 x12_1 = some (r1, r2)) ∧ Aside0 (kq ≤ k) ∧ Aside0 (Kd.Q k59 59 w' w.heap.size (fun _ => True) v12 x12_1) ∧ Aside0 (Below w.heap.size w w'))
          case atStart => exact ⟨(t159), (a1.extract (a2 : Int).toNat (t159 : Int).toNat), (t160), (by first | rfl | (simp; done) | (simp [*]; done)), (by first | rfl | (simp; done) | (simp [*]; done)), H', ⟨Nat.le_refl _⟩, ⟨Kd.Q_of_R (by (with_reducible repeat (first | apply Kd.R_alloc | apply Kd.R_drewN | apply Kd.R_drew)); exact HO162.out)⟩, ⟨by repeat (first | (with_reducible first | exact HB.out | apply below_alloc | apply pw_below_drewN | apply below_drew1) | exact HB.out)⟩⟩
          case round =>
            clear H'
            try clear c2
            try clear p2
            try clear c6
            try clear c6b0
            try clear c7
            try clear c7b0
            try clear c7b1
            try clear c8
            try clear c8b0
            try clear c8b1
            try clear c9
            try clear c9b0
            try clear c9b1
            obtain ⟨x10_1, x11_1, x12_1, rfl, rfl, HA, HK1, HO_12, HB⟩ := hrel
            cases gk with
            | zero => exact absurd HA.out (by simp [targumref17_Plain.l0])
            | succ k1 =>
              have H := HA.out
              clear HA
              simp only [targumref17_Plain.l0] at H
              replace H := Option.bind_eq_some_iff.mp H
              obtain ⟨t163, A120, H⟩ := H
              replace H : (if t163 = (a1.size : Int) then (targumref17_Plain.j1 k1 a0 a1 a3 x10_1 x11_1 x12_1 t163 true) else ((targumref1_Break.f k1 a0 a1 t163).bind fun t164 => (targumref17_Plain.j1 k1 a0 a1 a3 x10_1 x11_1 x12_1 t163 (t164 == 0)))) = some (r1, r2) := H
              have A12 := Aside0.mk A120
              clear A120
              have HC13 := Aside0.mk H
              clear H
              go_upto_region 7 with (first | ((with_reducible refine gate_callee (f := 46) rfl ?_); refine goesL_ (some 31) rfl rfl Tryd.func46 (by kernel_rfl) rfl #[.string a1, .int .i64 x10_1] rfl (by (try simp only [List.map_toArray, List.map_cons, List.map_nil]); first | done | rfl | (simp only [List.length_drop, List.length_take]; rfl)) ?_; (with_reducible refine (targumref17_over.calls k1 a1 x10_1 t163 _ A12.out).mono ?_); rintro e w' ⟨rfl, ⟨nd, rfl⟩⟩; refine ⟨_, rfl, ?_⟩))
              (try simp only [Act.put, List.setIfInBounds_toArray, List.set_cons_zero, List.set_cons_succ])
              go_cut [42] (fun v42 wc => ∃ (kq : Nat) (x42_12 : Bool), v42 = .bool x42_12 ∧ Aside0 (targumref17_Plain.j1 kq a0 a1 a3 x10_1 x11_1 x12_1 t163 x42_12 = some (r1, r2)) ∧ Aside0 (kq ≤ k1) ∧ Aside0 (Kd.Q k59 59 wc w.heap.size (fun _ => True) u12 x12_1) ∧ Aside0 (Below w.heap.size w wc))
              case first =>
                have H := HC13.out
                clear HC13
                by_cases c14 : t163 = (a1.size : Int)
                · rw [if_pos c14] at H
                  have c14b0 : (t163 == (a1.size : Int)) = true := beq_iff_eq.mpr c14
                  have c14b1 : (t163 != (a1.size : Int)) = false := bne_eq_false_iff_eq.mpr c14
                  clear c14
                  (first | rw [c14b0] | (simp only [i64_w, i32_w]; rw [c14b0]) | skip)
                  have H' := Aside0.mk H
                  clear H
                  go_wp2
                  go_meet
                  case rel => exact ⟨_, (true), (by first | rfl | (simp; done) | (simp [*]; done)), H', ⟨by have := HK1.out; first | omega | exact Nat.le_refl _⟩, ⟨by (with_reducible repeat (first | apply Kd.Q_alloc | apply Kd.Q_drewN | apply Kd.Q_drew)); exact HO_12.out⟩, ⟨by repeat (first | (with_reducible first | exact HB.out | apply below_alloc | apply pw_below_drewN | apply below_drew1) | exact HB.out)⟩⟩
                · rw [if_neg c14] at H
                  have c14b0 : (t163 == (a1.size : Int)) = false := beq_eq_false_iff_ne.mpr c14
                  have c14b1 : (t163 != (a1.size : Int)) = true := bne_iff_ne.mpr c14
                  (first | rw [c14b0] | (simp only [i64_w, i32_w]; rw [c14b0]) | skip)
                  replace H := Option.bind_eq_some_iff.mp H
                  obtain ⟨t164, A150, H⟩ := H
                  replace H : (targumref17_Plain.j1 k1 a0 a1 a3 x10_1 x11_1 x12_1 t163 (t164 == 0)) = some (r1, r2) := H
                  have A15 := Aside0.mk A150
                  clear A150
                  have H' := Aside0.mk H
                  clear H
                  go_wp2_with (first | (go_at_call 47; (with_reducible refine (targumref1_Break.calls k1 a0 a1 t163 t164 _ A15.out).mono ?_); rintro e w' ⟨rfl, ⟨nd, rfl⟩⟩))
                  go_meet
                  case rel => exact ⟨_, ((t164 == 0)), (by first | rfl | (simp; done) | (simp [*]; done)), H', ⟨by have := HK1.out; first | omega | exact Nat.le_refl _⟩, ⟨by (with_reducible repeat (first | apply Kd.Q_alloc | apply Kd.Q_drewN | apply Kd.Q_drew)); exact HO_12.out⟩, ⟨by repeat (first | (with_reducible first | exact HB.out | apply below_alloc | apply pw_below_drewN | apply below_drew1) | exact HB.out)⟩⟩
              case rest =>
                clear HC13
                try clear c1
                try clear c2
                try clear p2
                try clear c4
                try clear c6
                try clear c6b0
                try clear c7
                try clear c7b0
                try clear c7b1
                try clear c8
                try clear c8b0
                try clear c8b1
                try clear c9
                try clear c9b0
                try clear c9b1
                try clear c14
                try clear c14b0
                try clear c14b1
                try clear p2
                obtain ⟨kq, x42_12, rfl, HA, HJ12, HO_12, HB⟩ := hcut
                cases kq with
                | zero => exact absurd HA.out (by simp [targumref17_Plain.j1])
                | succ kj12 =>
                  have H := HA.out
                  clear HA
                  simp only [targumref17_Plain.j1] at H
                  by_cases c16 : x42_12 = true
                  · subst c16
                    have H1 : (some (x11_1, x10_1)) = some (r1, r2) := by rw [if_pos rfl] at H; exact H
                    clear H
                    have H := H1
                    clear H1
                    simp only [Option.some.injEq, Prod.mk.injEq] at H
                    obtain ⟨rfl, rfl⟩ := H
                    go_wp2
                    go_ret2
                    exact ⟨by first | rfl | (simp [errW_none, errW_some] <;> rfl) | (simp [*, errW_none, errW_some] <;> rfl), by repeat (first | (with_reducible first | exact HB.out | apply below_alloc | apply pw_below_drewN | apply below_drew1) | exact HB.out)⟩
                  · replace c16 := Bool.eq_false_iff.mpr c16
                    subst c16
                    have H1 : (targumref17_Plain.l1 kj12 a0 a1 a3 x10_1 x11_1 x12_1 t163 0) = some (r1, r2) := by rw [if_neg (show ¬ (false = true) by decide)] at H; exact H
                    clear H
                    have H := H1
                    clear H1
                    have HC17 := Aside0.mk H
                    clear H
                    go_upto_block 2 with (fail)
                    go_cut [12] (fun v12 wc => ∃ (kq : Nat) (x12_16 : List (S59)), Aside0 (targumref17_Plain.j3 kq a0 a1 a3 x10_1 x11_1 x12_16 0 = some (r1, r2)) ∧ Aside0 (kq ≤ kj12) ∧ Aside0 (Kd.Q k59 59 wc w.heap.size (fun _ => True) v12 x12_16) ∧ Aside0 (Below w.heap.size w wc))
                    case first =>
                      have H := HC17.out
                      clear HC17
                      have H' := Aside0.mk H
                      clear H
                      go_wp2
                      go_loopg [12] kj12 (fun kq v12 w' => ∃ (x12_3 : List (S59)), Aside0 (targumref17_Plain.l1 kq a0 a1 a3 x10_1 x11_1 x12_3 t163 0 = some (r1, r2)) ∧ Aside0 (kq ≤ kj12) ∧ Aside0 (Kd.Q k59 59 w' w.heap.size (fun _ => True) v12 x12_3) ∧ Aside0 (Below w.heap.size w w'))
                      case atStart => exact ⟨(x12_1), H', ⟨Nat.le_refl _⟩, ⟨by (with_reducible repeat (first | apply Kd.Q_alloc | apply Kd.Q_drewN | apply Kd.Q_drew)); exact HO_12.out⟩, ⟨by repeat (first | (with_reducible first | exact HB.out | apply below_alloc | apply pw_below_drewN | apply below_drew1) | exact HB.out)⟩⟩
                      case round =>
                        clear H'
                        try clear c1
                        try clear c2
                        try clear p2
                        try clear c4
                        try clear c6
                        try clear c6b0
                        try clear c7
                        try clear c7b0
                        try clear c7b1
                        try clear c8
                        try clear c8b0
                        try clear c8b1
                        try clear c9
                        try clear c9b0
                        try clear c9b1
                        try clear c14
                        try clear c14b0
                        try clear c14b1
                        try clear c16
                        try clear p2
                        obtain ⟨x12_3, HA, HK3, HO_12, HB⟩ := hrel
                        cases gk with
                        | zero => exact absurd HA.out (by simp [targumref17_Plain.l1])
                        | succ k3 =>
                          have H := HA.out
                          clear HA
                          simp only [targumref17_Plain.l1] at H
                          by_cases c18 : (x12_3.length : Int) > 0
                          · rw [if_pos c18] at H
                            have c18b0 : decide (0 < (x12_3.length : Int)) = true := decide_eq_true c18
                            have c18b1 : decide (0 < x12_3.length) = true := decide_eq_true (by omega)
                            clear c18
                            (first | rw [c18b0] | (simp only [i64_w, i32_w]; rw [c18b0]) | skip)
                            by_cases c19 : 0 < (x12_3.length : Int)
                            · rw [if_pos c19] at H
                              have c19b0 : decide (0 < (x12_3.length : Int)) = true := decide_eq_true c19
                              have c19b1 : decide (0 < x12_3.length) = true := decide_eq_true (by omega)
                              clear c19
                              by_cases c20 : ((rd_T59 x12_3 0).f0) ≤ t163
                              · rw [if_pos c20] at H
                                have c20b0 : decide (((rd_T59 x12_3 0).f0) ≤ t163) = true := decide_eq_true c20
                                clear c20
                                by_cases c21 : 1 ≤ (x12_3.length : Int)
                                · rw [if_pos c21] at H
                                  have c21b0 := eq_true c21
                                  have c21b1 : decide (1 ≤ (x12_3.length : Int)) = true := decide_eq_true c21
                                  clear c21
                                  obtain ⟨y166, hy166⟩ : ∃ y_ : List (S59), y_ = (x12_3.drop (1 : Int).toNat) := ⟨_, rfl⟩
                                  replace H : (targumref17_Plain.l1 k3 a0 a1 a3 x10_1 x11_1 y166 t163 0) = some (r1, r2) := by first | (rw [hy166]; with_reducible exact H) | (have H2_ := (Option.bind_some _ _).symm.trans H; rw [hy166]; with_reducible exact H2_) | (have H2_ := (Option.bind_some _ _).symm.trans H; with_reducible exact H2_) | with_reducible exact H | (rw [hy166]; exact H) | exact H
                                  have Ny166 := Aside0.mk hy166
                                  clear hy166
                                  have H' := Aside0.mk H
                                  clear H
                                  obtain ⟨Ao22, co22, eo22, _⟩ := Kd.Q_slice HO_12.out
                                  subst eo22
                                  have p165 : 0 ≤ (0 : Int) := (by omega)
                                  have q165 : 0 < (x12_3.length : Int) := of_decide_eq_true (by first | (with_reducible assumption) | assumption)
                                  obtain ⟨ad165, e165, hx165_0, hx165_1, hx165_2⟩ := at_T59 (Kd.Q_reads' HO_12.out).2.2 0 p165 q165
                                  cases e165
                                  have qi165 : (0 < x12_3.length) = True := eq_true (by omega)
                                  (try rw [show ((0 : Int)).toNat = 0 from rfl] at hx165_0)
                                  (try rw [show 0 * 3 = 0 from rfl] at hx165_0)
                                  (try rw [Addr.add_zero'] at hx165_0)
                                  (try rw [show ((0 : Int)).toNat = 0 from rfl] at hx165_1)
                                  (try rw [show 0 * 3 = 0 from rfl] at hx165_1)
                                  (try rw [Addr.add_zero'] at hx165_1)
                                  (try rw [show ((0 : Int)).toNat = 0 from rfl] at hx165_2)
                                  (try rw [show 0 * 3 = 0 from rfl] at hx165_2)
                                  (try rw [Addr.add_zero'] at hx165_2)
                                  replace p165 := eq_true p165
                                  replace q165 := eq_true q165
                                  have q23 : (1 : Int) ≤ ((x12_3.length : Int) : Int) := of_decide_eq_true (by first | (with_reducible assumption) | assumption)
                                  obtain ⟨i023, hi023, _, hsz23, _⟩ := info_parts info59
                                  have hcut23 := cut_from (P := Tryd.prog) 35 59 .i64 Tryd.underlying35 hi023 3 hsz23 (some ad165) x12_3.length co22 1 (by omega) q23
                                  have hr23 := Kd.Q_drop (k := (1 : Int).toNat) HO_12.out (by omega)
                                  obtain ⟨A23, hA23⟩ : ∃ A1, A1 = (if co22 = (1 : Int).toNat then (some ad165) else ((some ad165) : Option Addr).map (·.add ((1 : Int).toNat * 3))) := ⟨_, rfl⟩
                                  obtain ⟨c23, hc23⟩ : ∃ c1, c1 = co22 - (1 : Int).toNat := ⟨_, rfl⟩
                                  have hy23 : y166.length = x12_3.length - (1 : Int).toNat := (by rw [Ny166.out, List.length_drop])
                                  rw [← Ny166.out] at hr23
                                  rw [← hy23, ← hA23, ← hc23] at hcut23
                                  replace hr23 : Kd.Q k59 59 wr w.heap.size (fun _ => True) (.slice A23 y166.length c23) y166 := (by rw [hA23, hc23, hy23]; exact hr23)
                                  have HE23 : Aside0 ((Value.slice A23 y166.length c23).ownBlock = (.slice (some ad165) x12_3.length co22 : Value).ownBlock) := ⟨by rw [hA23]; split <;> (cases ((some ad165) : Option Addr) <;> rfl)⟩
                                  clear hy23 hi023 hsz23 HO_12 hA23 hc23
                                  have HO168 := Aside0.mk hr23
                                  clear hr23
                                  replace q23 := eq_true q23
                                  go_wp2
                                  go_roundg k3
                                  case measure => have := HK1.out; have := HJ12.out; have := HK3.out; omega
                                  case rel => exact ⟨(y166), H', ⟨by have := HK1.out; have := HJ12.out; have := HK3.out; omega⟩, ⟨by (with_reducible repeat (first | apply Kd.Q_alloc | apply Kd.Q_drewN | apply Kd.Q_drew)); exact HO168.out⟩, ⟨by repeat (first | (with_reducible first | exact HB.out | apply below_alloc | apply pw_below_drewN | apply below_drew1) | exact HB.out)⟩⟩
                                · rw [if_neg c21] at H
                                  exact absurd H (by simp)
                              · rw [if_neg c20] at H
                                have c20b0 : decide (((rd_T59 x12_3 0).f0) ≤ t163) = false := decide_eq_false c20
                                clear c20
                                have H' := Aside0.mk H
                                clear H
                                obtain ⟨Ao24, co24, eo24, _⟩ := Kd.Q_slice HO_12.out
                                subst eo24
                                have p165 : 0 ≤ (0 : Int) := (by omega)
                                have q165 : 0 < (x12_3.length : Int) := of_decide_eq_true (by first | (with_reducible assumption) | assumption)
                                obtain ⟨ad165, e165, hx165_0, hx165_1, hx165_2⟩ := at_T59 (Kd.Q_reads' HO_12.out).2.2 0 p165 q165
                                cases e165
                                have qi165 : (0 < x12_3.length) = True := eq_true (by omega)
                                (try rw [show ((0 : Int)).toNat = 0 from rfl] at hx165_0)
                                (try rw [show 0 * 3 = 0 from rfl] at hx165_0)
                                (try rw [Addr.add_zero'] at hx165_0)
                                (try rw [show ((0 : Int)).toNat = 0 from rfl] at hx165_1)
                                (try rw [show 0 * 3 = 0 from rfl] at hx165_1)
                                (try rw [Addr.add_zero'] at hx165_1)
                                (try rw [show ((0 : Int)).toNat = 0 from rfl] at hx165_2)
                                (try rw [show 0 * 3 = 0 from rfl] at hx165_2)
                                (try rw [Addr.add_zero'] at hx165_2)
                                replace p165 := eq_true p165
                                replace q165 := eq_true q165
                                go_wp2
                                go_meet
                                case rel => exact ⟨_, (x12_3), H', ⟨by have := HK1.out; have := HJ12.out; have := HK3.out; first | omega | exact Nat.le_refl _⟩, ⟨by (with_reducible repeat (first | apply Kd.Q_alloc | apply Kd.Q_drewN | apply Kd.Q_drew)); exact HO_12.out⟩, ⟨by repeat (first | (with_reducible first | exact HB.out | apply below_alloc | apply pw_below_drewN | apply below_drew1) | exact HB.out)⟩⟩
                            · rw [if_neg c19] at H
                              exact absurd H (by simp)
                          · rw [if_neg c18] at H
                            have c18b0 : decide (0 < (x12_3.length : Int)) = false := decide_eq_false c18
                            have c18b1 : decide (0 < x12_3.length) = false := decide_eq_false (by omega)
                            clear c18
                            (first | rw [c18b0] | (simp only [i64_w, i32_w]; rw [c18b0]) | skip)
                            have H' := Aside0.mk H
                            clear H
                            obtain ⟨Ao25, co25, eo25, _⟩ := Kd.Q_slice HO_12.out
                            subst eo25
                            go_wp2
                            go_meet
                            case rel => exact ⟨_, (x12_3), H', ⟨by have := HK1.out; have := HJ12.out; have := HK3.out; first | omega | exact Nat.le_refl _⟩, ⟨by (with_reducible repeat (first | apply Kd.Q_alloc | apply Kd.Q_drewN | apply Kd.Q_drew)); exact HO_12.out⟩, ⟨by repeat (first | (with_reducible first | exact HB.out | apply below_alloc | apply pw_below_drewN | apply below_drew1) | exact HB.out)⟩⟩
                    case rest =>
                      clear HC17
                      try clear c1
                      try clear p1
                      try clear q1
                      try clear hx1
                      try clear qi1
                      try clear c2
                      try clear p2
                      try clear q2
                      try clear c4
                      try clear c6
                      try clear c6b0
                      try clear c7
                      try clear c7b0
                      try clear c7b1
                      try clear c8
                      try clear c8b0
                      try clear c8b1
                      try clear c9
                      try clear c9b0
                      try clear c9b1
                      try clear c14
                      try clear c14b0
                      try clear c14b1
                      try clear c16
                      try clear p16
                      try clear q16
                      try clear hx16
                      try clear qi16
                      try clear c18
                      try clear c18b0
                      try clear c18b1
                      try clear c19
                      try clear c19b0
                      try clear c19b1
                      try clear c20
                      try clear c20b0
                      try clear c21
                      try clear c21b0
                      try clear c21b1
                      try clear c22
                      try clear c23
                      try clear q23
                      try clear c24
                      try clear hx165_0
                      try clear hx165_1
                      try clear hx165_2
                      try clear p165
                      try clear p2
                      try clear q165
                      try clear q23
                      obtain ⟨kq, x12_16, HA, HJ16, HO_12, HB⟩ := hcut
                      cases kq with
                      | zero => exact absurd HA.out (by simp [targumref17_Plain.j3])
                      | succ kj16 =>
                        have H := HA.out
                        clear HA
                        simp only [targumref17_Plain.j3] at H
                        have HC26 := Aside0.mk H
                        clear H
                        go_upto_block 4 with (fail)
                        go_cut [12, 14] (fun v12 v14 wc => ∃ (kq : Nat) (x12_25 : List (S59)) (x14_25 : Int), v14 = .int .i64 x14_25 ∧ Aside0 (targumref17_Plain.j5 kq a0 a1 a3 x10_1 x11_1 x12_25 x14_25 = some (r1, r2)) ∧ Aside0 (kq ≤ kj16) ∧ Aside0 (Kd.Q k59 59 wc w.heap.size (fun _ => True) v12 x12_25) ∧ Aside0 (Below w.heap.size w wc))
                        case first =>
                          have H := HC26.out
                          clear HC26
                          have H' := Aside0.mk H
                          clear H
                          go_wp2
                          go_loopg [12, 14] kj16 (fun kq v12 v14 w' => ∃ (x12_4 : List (S59)) (x14_4 : Int), v14 = .int .i64 x14_4 ∧ Aside0 (targumref17_Plain.l2 kq a0 a1 a3 x10_1 x11_1 x12_4 x14_4 = some (r1, r2)) ∧ Aside0 (kq ≤ kj16) ∧ Aside0 (Kd.Q k59 59 w' w.heap.size (fun _ => True) v12 x12_4) ∧ Aside0 (Below w.heap.size w w'))
                          case atStart => exact ⟨(x12_16), (0), (by first | rfl | (simp; done) | (simp [*]; done)), H', ⟨Nat.le_refl _⟩, ⟨by (with_reducible repeat (first | apply Kd.Q_alloc | apply Kd.Q_drewN | apply Kd.Q_drew)); exact HO_12.out⟩, ⟨by repeat (first | (with_reducible first | exact HB.out | apply below_alloc | apply pw_below_drewN | apply below_drew1) | exact HB.out)⟩⟩
                          case round =>
                            clear H'
                            try clear c1
                            try clear p1
                            try clear q1
                            try clear hx1
                            try clear qi1
                            try clear c2
                            try clear p2
                            try clear q2
                            try clear c4
                            try clear c6
                            try clear c6b0
                            try clear c7
                            try clear c7b0
                            try clear c7b1
                            try clear c8
                            try clear c8b0
                            try clear c8b1
                            try clear c9
                            try clear c9b0
                            try clear c9b1
                            try clear c14
                            try clear c14b0
                            try clear c14b1
                            try clear c16
                            try clear p16
                            try clear q16
                            try clear hx16
                            try clear qi16
                            try clear c18
                            try clear c18b0
                            try clear c18b1
                            try clear c19
                            try clear c19b0
                            try clear c19b1
                            try clear c20
                            try clear c20b0
                            try clear c21
                            try clear c21b0
                            try clear c21b1
                            try clear c22
                            try clear c23
                            try clear q23
                            try clear c24
                            try clear hx165_0
                            try clear hx165_1
                            try clear hx165_2
                            try clear p1
                            try clear p16
                            try clear p165
                            try clear p2
                            try clear q1
                            try clear q16
                            try clear q165
                            try clear q2
                            try clear q23
                            obtain ⟨x12_4, x14_4, rfl, HA, HK4, HO_12, HB⟩ := hrel
                            cases gk with
                            | zero => exact absurd HA.out (by simp [targumref17_Plain.l2])
                            | succ k4 =>
                              have H := HA.out
                              clear HA
                              simp only [targumref17_Plain.l2] at H
                              by_cases c27 : (x12_4.length : Int) > 0
                              · rw [if_pos c27] at H
                                have c27b0 : decide (0 < (x12_4.length : Int)) = true := decide_eq_true c27
                                have c27b1 : decide (0 < x12_4.length) = true := decide_eq_true (by omega)
                                clear c27
                                (first | rw [c27b0] | (simp only [i64_w, i32_w]; rw [c27b0]) | skip)
                                by_cases c28 : 0 < (x12_4.length : Int)
                                · rw [if_pos c28] at H
                                  have c28b0 : decide (0 < (x12_4.length : Int)) = true := decide_eq_true c28
                                  have c28b1 : decide (0 < x12_4.length) = true := decide_eq_true (by omega)
                                  clear c28
                                  replace H := Option.bind_eq_some_iff.mp H
                                  obtain ⟨t170, A290, H⟩ := H
                                  replace H : (if t170 = true then (if 1 ≤ (x12_4.length : Int) then (targumref17_Plain.l2 k4 a0 a1 a3 x10_1 x11_1 (x12_4.drop (1 : Int).toNat) (wrap64 (x14_4 + 1))) else (none)) else (targumref17_Plain.j5 k4 a0 a1 a3 x10_1 x11_1 x12_4 x14_4)) = some (r1, r2) := H
                                  have A29 := Aside0.mk A290
                                  clear A290
                                  by_cases c30 : t170 = true
                                  · subst c30
                                    have H1 : (if 1 ≤ (x12_4.length : Int) then (targumref17_Plain.l2 k4 a0 a1 a3 x10_1 x11_1 (x12_4.drop (1 : Int).toNat) (wrap64 (x14_4 + 1))) else (none)) = some (r1, r2) := by rw [if_pos rfl] at H; exact H
                                    clear H
                                    have H := H1
                                    clear H1
                                    by_cases c31 : 1 ≤ (x12_4.length : Int)
                                    · rw [if_pos c31] at H
                                      have c31b0 := eq_true c31
                                      have c31b1 : decide (1 ≤ (x12_4.length : Int)) = true := decide_eq_true c31
                                      clear c31
                                      obtain ⟨y171, hy171⟩ : ∃ y_ : List (S59), y_ = (x12_4.drop (1 : Int).toNat) := ⟨_, rfl⟩
                                      replace H : (targumref17_Plain.l2 k4 a0 a1 a3 x10_1 x11_1 y171 (wrap64 (x14_4 + 1))) = some (r1, r2) := by first | (rw [hy171]; with_reducible exact H) | (have H2_ := (Option.bind_some _ _).symm.trans H; rw [hy171]; with_reducible exact H2_) | (have H2_ := (Option.bind_some _ _).symm.trans H; with_reducible exact H2_) | with_reducible exact H | (rw [hy171]; exact H) | exact H
                                      have Ny171 := Aside0.mk hy171
                                      clear hy171
                                      have H' := Aside0.mk H
                                      clear H
                                      obtain ⟨Ao32, co32, eo32, _⟩ := Kd.Q_slice HO_12.out
                                      subst eo32
                                      have p169 : 0 ≤ (0 : Int) := (by omega)
                                      have q169 : 0 < (x12_4.length : Int) := of_decide_eq_true (by first | (with_reducible assumption) | assumption)
                                      obtain ⟨ad169, e169, hx169_0, hx169_1, hx169_2⟩ := at_T59 (Kd.Q_reads' HO_12.out).2.2 0 p169 q169
                                      cases e169
                                      have qi169 : (0 < x12_4.length) = True := eq_true (by omega)
                                      (try rw [show ((0 : Int)).toNat = 0 from rfl] at hx169_0)
                                      (try rw [show 0 * 3 = 0 from rfl] at hx169_0)
                                      (try rw [Addr.add_zero'] at hx169_0)
                                      (try rw [show ((0 : Int)).toNat = 0 from rfl] at hx169_1)
                                      (try rw [show 0 * 3 = 0 from rfl] at hx169_1)
                                      (try rw [Addr.add_zero'] at hx169_1)
                                      (try rw [show ((0 : Int)).toNat = 0 from rfl] at hx169_2)
                                      (try rw [show 0 * 3 = 0 from rfl] at hx169_2)
                                      (try rw [Addr.add_zero'] at hx169_2)
                                      replace p169 := eq_true p169
                                      replace q169 := eq_true q169
                                      go_wp2_with (first | (go_at_call 48; (with_reducible refine (targumref1_Blank.calls k4 a1 ((rd_T59 x12_4 0).f0) ((rd_T59 x12_4 0).f1) ((rd_T59 x12_4 0).f2) true _ A29.out).mono ?_); rintro e w33 ⟨rfl, hb⟩; have n0_ := Aside0.mk (Kd.Q_below (by (with_reducible repeat (first | apply Kd.Q_alloc | apply Kd.Q_drewN | apply Kd.Q_drew)); exact HO_12.out) hb); have n1_ := Aside0.mk (below_step (by repeat (first | (with_reducible first | exact HB.out | apply below_alloc | apply pw_below_drewN | apply below_drew1) | exact HB.out)) hb); clear HO_12; clear HB; have HO_12 := n0_; have HB := n1_; clear n0_ n1_; (try clear hb); (try clear hb2); (try clear hk); (try clear hi); have q34 : (1 : Int) ≤ ((x12_4.length : Int) : Int) := of_decide_eq_true (by first | (with_reducible assumption) | assumption); obtain ⟨i034, hi034, _, hsz34, _⟩ := info_parts info59; have hcut34 := cut_from (P := Tryd.prog) 35 59 .i64 Tryd.underlying35 hi034 3 hsz34 (some ad169) x12_4.length co32 1 (by omega) q34; have hr34 := Kd.Q_drop (k := (1 : Int).toNat) HO_12.out (by omega); obtain ⟨A34, hA34⟩ : ∃ A1, A1 = (if co32 = (1 : Int).toNat then (some ad169) else ((some ad169) : Option Addr).map (·.add ((1 : Int).toNat * 3))) := ⟨_, rfl⟩; obtain ⟨c34, hc34⟩ : ∃ c1, c1 = co32 - (1 : Int).toNat := ⟨_, rfl⟩; have hy34 : y171.length = x12_4.length - (1 : Int).toNat := (by rw [Ny171.out, List.length_drop]); rw [← Ny171.out] at hr34; rw [← hy34, ← hA34, ← hc34] at hcut34; replace hr34 : Kd.Q k59 59 w33 w.heap.size (fun _ => True) (.slice A34 y171.length c34) y171 := (by rw [hA34, hc34, hy34]; exact hr34); have HE34 : Aside0 ((Value.slice A34 y171.length c34).ownBlock = (.slice (some ad169) x12_4.length co32 : Value).ownBlock) := ⟨by rw [hA34]; split <;> (cases ((some ad169) : Option Addr) <;> rfl)⟩; clear hy34 hi034 hsz34 HO_12 hA34 hc34; have HO173 := Aside0.mk hr34; clear hr34; replace q34 := eq_true q34))
                                      go_roundg k4
                                      case measure => have := HK1.out; have := HJ12.out; have := HJ16.out; have := HK4.out; omega
                                      case rel => exact ⟨(y171), (wrap64 (x14_4 + 1)), (by first | rfl | (simp; done) | (simp [*]; done)), H', ⟨by have := HK1.out; have := HJ12.out; have := HJ16.out; have := HK4.out; omega⟩, ⟨by (with_reducible repeat (first | apply Kd.Q_alloc | apply Kd.Q_drewN | apply Kd.Q_drew)); exact HO173.out⟩, ⟨by repeat (first | (with_reducible first | exact HB.out | apply below_alloc | apply pw_below_drewN | apply below_drew1) | exact HB.out)⟩⟩
                                    · rw [if_neg c31] at H
                                      exact absurd H (by simp)
                                  · replace c30 := Bool.eq_false_iff.mpr c30
                                    subst c30
                                    have H1 : (targumref17_Plain.j5 k4 a0 a1 a3 x10_1 x11_1 x12_4 x14_4) = some (r1, r2) := by rw [if_neg (show ¬ (false = true) by decide)] at H; exact H
                                    clear H
                                    have H := H1
                                    clear H1
                                    have H' := Aside0.mk H
                                    clear H
                                    obtain ⟨Ao35, co35, eo35, _⟩ := Kd.Q_slice HO_12.out
                                    subst eo35
                                    have p169 : 0 ≤ (0 : Int) := (by omega)
                                    have q169 : 0 < (x12_4.length : Int) := of_decide_eq_true (by first | (with_reducible assumption) | assumption)
                                    obtain ⟨ad169, e169, hx169_0, hx169_1, hx169_2⟩ := at_T59 (Kd.Q_reads' HO_12.out).2.2 0 p169 q169
                                    cases e169
                                    have qi169 : (0 < x12_4.length) = True := eq_true (by omega)
                                    (try rw [show ((0 : Int)).toNat = 0 from rfl] at hx169_0)
                                    (try rw [show 0 * 3 = 0 from rfl] at hx169_0)
                                    (try rw [Addr.add_zero'] at hx169_0)
                                    (try rw [show ((0 : Int)).toNat = 0 from rfl] at hx169_1)
                                    (try rw [show 0 * 3 = 0 from rfl] at hx169_1)
                                    (try rw [Addr.add_zero'] at hx169_1)
                                    (try rw [show ((0 : Int)).toNat = 0 from rfl] at hx169_2)
                                    (try rw [show 0 * 3 = 0 from rfl] at hx169_2)
                                    (try rw [Addr.add_zero'] at hx169_2)
                                    replace p169 := eq_true p169
                                    replace q169 := eq_true q169
                                    go_wp2_with (first | (go_at_call 48; (with_reducible refine (targumref1_Blank.calls k4 a1 ((rd_T59 x12_4 0).f0) ((rd_T59 x12_4 0).f1) ((rd_T59 x12_4 0).f2) false _ A29.out).mono ?_); rintro e w36 ⟨rfl, hb⟩; have n0_ := Aside0.mk (Kd.Q_below (by (with_reducible repeat (first | apply Kd.Q_alloc | apply Kd.Q_drewN | apply Kd.Q_drew)); exact HO_12.out) hb); have n1_ := Aside0.mk (below_step (by repeat (first | (with_reducible first | exact HB.out | apply below_alloc | apply pw_below_drewN | apply below_drew1) | exact HB.out)) hb); clear HO_12; clear HB; have HO_12 := n0_; have HB := n1_; clear n0_ n1_; (try clear hb); (try clear hb2); (try clear hk); (try clear hi)))
                                    go_meet
                                    case rel => exact ⟨_, (x12_4), (x14_4), (by first | rfl | (simp; done) | (simp [*]; done)), H', ⟨by have := HK1.out; have := HJ12.out; have := HJ16.out; have := HK4.out; first | omega | exact Nat.le_refl _⟩, ⟨by (with_reducible repeat (first | apply Kd.Q_alloc | apply Kd.Q_drewN | apply Kd.Q_drew)); exact HO_12.out⟩, ⟨by repeat (first | (with_reducible first | exact HB.out | apply below_alloc | apply pw_below_drewN | apply below_drew1) | exact HB.out)⟩⟩
                                · rw [if_neg c28] at H
                                  exact absurd H (by simp)
                              · rw [if_neg c27] at H
                                have c27b0 : decide (0 < (x12_4.length : Int)) = false := decide_eq_false c27
                                have c27b1 : decide (0 < x12_4.length) = false := decide_eq_false (by omega)
                                clear c27
                                (first | rw [c27b0] | (simp only [i64_w, i32_w]; rw [c27b0]) | skip)
                                have H' := Aside0.mk H
                                clear H
                                obtain ⟨Ao37, co37, eo37, _⟩ := Kd.Q_slice HO_12.out
                                subst eo37
                                go_wp2
                                go_meet
                                case rel => exact ⟨_, (x12_4), (x14_4), (by first | rfl | (simp; done) | (simp [*]; done)), H', ⟨by have := HK1.out; have := HJ12.out; have := HJ16.out; have := HK4.out; first | omega | exact Nat.le_refl _⟩, ⟨by (with_reducible repeat (first | apply Kd.Q_alloc | apply Kd.Q_drewN | apply Kd.Q_drew)); exact HO_12.out⟩, ⟨by repeat (first | (with_reducible first | exact HB.out | apply below_alloc | apply pw_below_drewN | apply below_drew1) | exact HB.out)⟩⟩
                        case rest =>
                          clear HC26
                          try clear c1
                          try clear p1
                          try clear q1
                          try clear hx1
                          try clear qi1
                          try clear c2
                          try clear p2
                          try clear q2
                          try clear c3
                          try clear q3
                          try clear c4
                          try clear c6
                          try clear c6b0
                          try clear p6
                          try clear c7
                          try clear c7b0
                          try clear c7b1
                          try clear c8
                          try clear c8b0
                          try clear c8b1
                          try clear c9
                          try clear c9b0
                          try clear c9b1
                          try clear c14
                          try clear c14b0
                          try clear c14b1
                          try clear c16
                          try clear p16
                          try clear q16
                          try clear hx16
                          try clear qi16
                          try clear c18
                          try clear c18b0
                          try clear c18b1
                          try clear c19
                          try clear c19b0
                          try clear c19b1
                          try clear c20
                          try clear c20b0
                          try clear c21
                          try clear c21b0
                          try clear c21b1
                          try clear c22
                          try clear c23
                          try clear q23
                          try clear c24
                          try clear c27
                          try clear c27b0
                          try clear c27b1
                          try clear c28
                          try clear c28b0
                          try clear c28b1
                          try clear c30
                          try clear c31
                          try clear c31b0
                          try clear c31b1
                          try clear c34
                          try clear q34
                          try clear hx165_0
                          try clear hx165_1
                          try clear hx165_2
                          try clear hx169_0
                          try clear hx169_1
                          try clear hx169_2
                          try clear p1
                          try clear p16
                          try clear p165
                          try clear p169
                          try clear p2
                          try clear q1
                          try clear q16
                          try clear q165
                          try clear q169
                          try clear q2
                          try clear q23
                          try clear q34
                          obtain ⟨kq, x12_25, x14_25, rfl, HA, HJ25, HO_12, HB⟩ := hcut
                          cases kq with
                          | zero => exact absurd HA.out (by simp [targumref17_Plain.j5])
                          | succ kj25 =>
                            have H := HA.out
                            clear HA
                            simp only [targumref17_Plain.j5] at H
                            have HC38 := Aside0.mk H
                            clear H
                            go_upto_region 15 with (fail)
                            go_cut [91] (fun v91 wc => ∃ (kq : Nat) (x91_37 : Bool), v91 = .bool x91_37 ∧ Aside0 (targumref17_Plain.j6 kq a0 a1 a3 x10_1 x11_1 x12_25 x14_25 x91_37 = some (r1, r2)) ∧ Aside0 (kq ≤ kj25) ∧ Aside0 (Kd.Q k59 59 wc w.heap.size (fun _ => True) u12 x12_25) ∧ Aside0 (Below w.heap.size w wc))
                            case first =>
                              have H := HC38.out
                              clear HC38
                              by_cases c39 : (x12_25.length : Int) = 0
                              · rw [if_pos c39] at H
                                have c39b0 : ((x12_25.length : Int) == 0) = true := beq_iff_eq.mpr c39
                                have c39b1 : ((x12_25.length : Int) != 0) = false := bne_eq_false_iff_eq.mpr c39
                                clear c39
                                (first | rw [c39b0] | (simp only [i64_w, i32_w]; rw [c39b0]) | skip)
                                have H' := Aside0.mk H
                                clear H
                                obtain ⟨Ao40, co40, eo40, _⟩ := Kd.Q_slice HO_12.out
                                subst eo40
                                go_wp2
                                go_meet
                                case rel => exact ⟨_, (true), (by first | rfl | (simp; done) | (simp [*]; done)), H', ⟨by have := HK1.out; have := HJ12.out; have := HJ16.out; have := HJ25.out; first | omega | exact Nat.le_refl _⟩, ⟨by (with_reducible repeat (first | apply Kd.Q_alloc | apply Kd.Q_drewN | apply Kd.Q_drew)); exact HO_12.out⟩, ⟨by repeat (first | (with_reducible first | exact HB.out | apply below_alloc | apply pw_below_drewN | apply below_drew1) | exact HB.out)⟩⟩
                              · rw [if_neg c39] at H
                                have c39b0 : ((x12_25.length : Int) == 0) = false := beq_eq_false_iff_ne.mpr c39
                                have c39b1 : ((x12_25.length : Int) != 0) = true := bne_iff_ne.mpr c39
                                have c39b2 : ¬ (x12_25 = []) := fun h_ => c39 (by rw [h_]; rfl)
                                (first | rw [c39b0] | (simp only [i64_w, i32_w]; rw [c39b0]) | skip)
                                by_cases c41 : 0 < (x12_25.length : Int)
                                · rw [if_pos c41] at H
                                  have c41b0 : decide (0 < (x12_25.length : Int)) = true := decide_eq_true c41
                                  have c41b1 : decide (0 < x12_25.length) = true := decide_eq_true (by omega)
                                  clear c41
                                  replace H := Option.bind_eq_some_iff.mp H
                                  obtain ⟨t175, A420, H⟩ := H
                                  replace H : (if t175 ≤ a3 then (targumref17_Plain.j6 kj25 a0 a1 a3 x10_1 x11_1 x12_25 x14_25 true) else ((targumref1_Marker.f kj25 a1 ((rd_T59 x12_25 0).f0) ((rd_T59 x12_25 0).f1) ((rd_T59 x12_25 0).f2)).bind fun t177 => (targumref17_Plain.j6 kj25 a0 a1 a3 x10_1 x11_1 x12_25 x14_25 (decide (t177 > 0))))) = some (r1, r2) := H
                                  have A42 := Aside0.mk A420
                                  clear A420
                                  by_cases c43 : t175 ≤ a3
                                  · rw [if_pos c43] at H
                                    have c43b0 : decide (t175 ≤ a3) = true := decide_eq_true c43
                                    clear c43
                                    have H' := Aside0.mk H
                                    clear H
                                    obtain ⟨Ao44, co44, eo44, _⟩ := Kd.Q_slice HO_12.out
                                    subst eo44
                                    have p174 : 0 ≤ (0 : Int) := (by omega)
                                    have q174 : 0 < (x12_25.length : Int) := of_decide_eq_true (by first | (with_reducible assumption) | assumption)
                                    obtain ⟨ad174, e174, hx174_0, hx174_1, hx174_2⟩ := at_T59 (Kd.Q_reads' HO_12.out).2.2 0 p174 q174
                                    cases e174
                                    have qi174 : (0 < x12_25.length) = True := eq_true (by omega)
                                    (try rw [show ((0 : Int)).toNat = 0 from rfl] at hx174_0)
                                    (try rw [show 0 * 3 = 0 from rfl] at hx174_0)
                                    (try rw [Addr.add_zero'] at hx174_0)
                                    (try rw [show ((0 : Int)).toNat = 0 from rfl] at hx174_1)
                                    (try rw [show 0 * 3 = 0 from rfl] at hx174_1)
                                    (try rw [Addr.add_zero'] at hx174_1)
                                    (try rw [show ((0 : Int)).toNat = 0 from rfl] at hx174_2)
                                    (try rw [show 0 * 3 = 0 from rfl] at hx174_2)
                                    (try rw [Addr.add_zero'] at hx174_2)
                                    replace p174 := eq_true p174
                                    replace q174 := eq_true q174
                                    go_wp2_with (first | (go_at_call 49; (with_reducible refine (targumref1_Indent.calls kj25 a1 ((rd_T59 x12_25 0).f0) ((rd_T59 x12_25 0).f1) ((rd_T59 x12_25 0).f2) t175 _ A42.out).mono ?_); rintro e w45 ⟨rfl, hb⟩; have n0_ := Aside0.mk (Kd.Q_below (by (with_reducible repeat (first | apply Kd.Q_alloc | apply Kd.Q_drewN | apply Kd.Q_drew)); exact HO_12.out) hb); have n1_ := Aside0.mk (below_step (by repeat (first | (with_reducible first | exact HB.out | apply below_alloc | apply pw_below_drewN | apply below_drew1) | exact HB.out)) hb); clear HO_12; clear HB; have HO_12 := n0_; have HB := n1_; clear n0_ n1_; (try clear hb); (try clear hb2); (try clear hk); (try clear hi)))
                                    go_meet
                                    case rel => exact ⟨_, (true), (by first | rfl | (simp; done) | (simp [*]; done)), H', ⟨by have := HK1.out; have := HJ12.out; have := HJ16.out; have := HJ25.out; first | omega | exact Nat.le_refl _⟩, ⟨by (with_reducible repeat (first | apply Kd.Q_alloc | apply Kd.Q_drewN | apply Kd.Q_drew)); exact HO_12.out⟩, ⟨by repeat (first | (with_reducible first | exact HB.out | apply below_alloc | apply pw_below_drewN | apply below_drew1) | exact HB.out)⟩⟩
                                  · rw [if_neg c43] at H
                                    have c43b0 : decide (t175 ≤ a3) = false := decide_eq_false c43
                                    clear c43
                                    replace H := Option.bind_eq_some_iff.mp H
                                    obtain ⟨t177, A460, H⟩ := H
                                    replace H : (targumref17_Plain.j6 kj25 a0 a1 a3 x10_1 x11_1 x12_25 x14_25 (decide (t177 > 0))) = some (r1, r2) := H
                                    have A46 := Aside0.mk A460
                                    clear A460
                                    have H' := Aside0.mk H
                                    clear H
                                    obtain ⟨Ao47, co47, eo47, _⟩ := Kd.Q_slice HO_12.out
                                    subst eo47
                                    have p174 : 0 ≤ (0 : Int) := (by omega)
                                    have q174 : 0 < (x12_25.length : Int) := of_decide_eq_true (by first | (with_reducible assumption) | assumption)
                                    obtain ⟨ad174, e174, hx174_0, hx174_1, hx174_2⟩ := at_T59 (Kd.Q_reads' HO_12.out).2.2 0 p174 q174
                                    cases e174
                                    have qi174 : (0 < x12_25.length) = True := eq_true (by omega)
                                    (try rw [show ((0 : Int)).toNat = 0 from rfl] at hx174_0)
                                    (try rw [show 0 * 3 = 0 from rfl] at hx174_0)
                                    (try rw [Addr.add_zero'] at hx174_0)
                                    (try rw [show ((0 : Int)).toNat = 0 from rfl] at hx174_1)
                                    (try rw [show 0 * 3 = 0 from rfl] at hx174_1)
                                    (try rw [Addr.add_zero'] at hx174_1)
                                    (try rw [show ((0 : Int)).toNat = 0 from rfl] at hx174_2)
                                    (try rw [show 0 * 3 = 0 from rfl] at hx174_2)
                                    (try rw [Addr.add_zero'] at hx174_2)
                                    replace p174 := eq_true p174
                                    replace q174 := eq_true q174
                                    go_wp2_with (first | (go_at_call 49; (with_reducible refine (targumref1_Indent.calls kj25 a1 ((rd_T59 x12_25 0).f0) ((rd_T59 x12_25 0).f1) ((rd_T59 x12_25 0).f2) t175 _ A42.out).mono ?_); rintro e w48 ⟨rfl, hb⟩; have n0_ := Aside0.mk (Kd.Q_below (by (with_reducible repeat (first | apply Kd.Q_alloc | apply Kd.Q_drewN | apply Kd.Q_drew)); exact HO_12.out) hb); have n1_ := Aside0.mk (below_step (by repeat (first | (with_reducible first | exact HB.out | apply below_alloc | apply pw_below_drewN | apply below_drew1) | exact HB.out)) hb); clear HO_12; clear HB; have HO_12 := n0_; have HB := n1_; clear n0_ n1_; (try clear hb); (try clear hb2); (try clear hk); (try clear hi); have p176 : 0 ≤ (0 : Int) := (by omega); have q176 : 0 < (x12_25.length : Int) := of_decide_eq_true (by first | (with_reducible assumption) | assumption); obtain ⟨ad176, e176, hx176_0, hx176_1, hx176_2⟩ := at_T59 (Kd.Q_reads' HO_12.out).2.2 0 p176 q176; obtain rfl : ad174 = ad176 := (by injection e176); have qi176 : (0 < x12_25.length) = True := eq_true (by omega); (try rw [show ((0 : Int)).toNat = 0 from rfl] at hx176_0); (try rw [show 0 * 3 = 0 from rfl] at hx176_0); (try rw [Addr.add_zero'] at hx176_0); (try rw [show ((0 : Int)).toNat = 0 from rfl] at hx176_1); (try rw [show 0 * 3 = 0 from rfl] at hx176_1); (try rw [Addr.add_zero'] at hx176_1); (try rw [show ((0 : Int)).toNat = 0 from rfl] at hx176_2); (try rw [show 0 * 3 = 0 from rfl] at hx176_2); (try rw [Addr.add_zero'] at hx176_2); replace p176 := eq_true p176; replace q176 := eq_true q176) | (go_at_call 50; (with_reducible refine (targumref1_Marker.calls kj25 a1 ((rd_T59 x12_25 0).f0) ((rd_T59 x12_25 0).f1) ((rd_T59 x12_25 0).f2) t177 _ A46.out).mono ?_); rintro e w49 ⟨rfl, hb⟩; have n0_ := Aside0.mk (Kd.Q_below (by (with_reducible repeat (first | apply Kd.Q_alloc | apply Kd.Q_drewN | apply Kd.Q_drew)); exact HO_12.out) hb); have n1_ := Aside0.mk (below_step (by repeat (first | (with_reducible first | exact HB.out | apply below_alloc | apply pw_below_drewN | apply below_drew1) | exact HB.out)) hb); clear HO_12; clear HB; have HO_12 := n0_; have HB := n1_; clear n0_ n1_; (try clear hb); (try clear hb2); (try clear hk); (try clear hi)))
                                    go_meet
                                    case rel => exact ⟨_, (decide (t177 > 0)), (by first | rfl | (simp; done) | (simp [*]; done)), H', ⟨by have := HK1.out; have := HJ12.out; have := HJ16.out; have := HJ25.out; first | omega | exact Nat.le_refl _⟩, ⟨by (with_reducible repeat (first | apply Kd.Q_alloc | apply Kd.Q_drewN | apply Kd.Q_drew)); exact HO_12.out⟩, ⟨by repeat (first | (with_reducible first | exact HB.out | apply below_alloc | apply pw_below_drewN | apply below_drew1) | exact HB.out)⟩⟩
                                · rw [if_neg c41] at H
                                  exact absurd H (by simp)
                            case rest =>
                              clear HC38
                              try clear c1
                              try clear p1
                              try clear q1
                              try clear hx1
                              try clear qi1
                              try clear c2
                              try clear p2
                              try clear q2
                              try clear c3
                              try clear q3
                              try clear c4
                              try clear c6
                              try clear c6b0
                              try clear p6
                              try clear c7
                              try clear c7b0
                              try clear c7b1
                              try clear c8
                              try clear c8b0
                              try clear c8b1
                              try clear c9
                              try clear c9b0
                              try clear c9b1
                              try clear c14
                              try clear c14b0
                              try clear c14b1
                              try clear c16
                              try clear p16
                              try clear q16
                              try clear hx16
                              try clear qi16
                              try clear p17
                              try clear q17
                              try clear hx17
                              try clear qi17
                              try clear c18
                              try clear c18b0
                              try clear c18b1
                              try clear c19
                              try clear c19b0
                              try clear c19b1
                              try clear c20
                              try clear c20b0
                              try clear c21
                              try clear c21b0
                              try clear c21b1
                              try clear c22
                              try clear c23
                              try clear q23
                              try clear c24
                              try clear c27
                              try clear c27b0
                              try clear c27b1
                              try clear c28
                              try clear c28b0
                              try clear c28b1
                              try clear c30
                              try clear c31
                              try clear c31b0
                              try clear c31b1
                              try clear c34
                              try clear q34
                              try clear c39
                              try clear c39b0
                              try clear c39b1
                              try clear c39b2
                              try clear c41
                              try clear c41b0
                              try clear c41b1
                              try clear c43
                              try clear c43b0
                              try clear hx165_0
                              try clear hx165_1
                              try clear hx165_2
                              try clear hx169_0
                              try clear hx169_1
                              try clear hx169_2
                              try clear hx174_0
                              try clear hx174_1
                              try clear hx174_2
                              try clear hx176_0
                              try clear hx176_1
                              try clear hx176_2
                              try clear p1
                              try clear p16
                              try clear p165
                              try clear p169
                              try clear p174
                              try clear p176
                              try clear p2
                              try clear p6
                              try clear q1
                              try clear q16
                              try clear q165
                              try clear q169
                              try clear q174
                              try clear q176
                              try clear q2
                              try clear q23
                              try clear q3
                              try clear q34
                              obtain ⟨kq, x91_37, rfl, HA, HJ37, HO_12, HB⟩ := hcut
                              cases kq with
                              | zero => exact absurd HA.out (by simp [targumref17_Plain.j6])
                              | succ kj37 =>
                                have H := HA.out
                                clear HA
                                simp only [targumref17_Plain.j6] at H
                                by_cases c50 : x91_37 = true
                                · subst c50
                                  have H1 : (some (x11_1, x10_1)) = some (r1, r2) := by rw [if_pos rfl] at H; exact H
                                  clear H
                                  have H := H1
                                  clear H1
                                  simp only [Option.some.injEq, Prod.mk.injEq] at H
                                  obtain ⟨rfl, rfl⟩ := H
                                  go_wp2
                                  go_ret2
                                  exact ⟨by first | rfl | (simp [errW_none, errW_some] <;> rfl) | (simp [*, errW_none, errW_some] <;> rfl), by repeat (first | (with_reducible first | exact HB.out | apply below_alloc | apply pw_below_drewN | apply below_drew1) | exact HB.out)⟩
                                · replace c50 := Bool.eq_false_iff.mpr c50
                                  subst c50
                                  have H1 : (if 0 < (x12_25.length : Int) then ((targumref17_over.f kj37 a1 ((rd_T59 x12_25 0).f0)).bind fun t179 => (if 0 ≤ t179 then (if t179 < (a1.size : Int) then (if (bt a1 t179) = 35 then (targumref17_Plain.j7 kj37 a0 a1 a3 x10_1 x11_1 x12_25 x14_25 t179 true) else (if (bt a1 t179) = 58 then ((targumref17_Stop.f kj37 a0 a1 (wrap64 (t179 + 1)) false).bind fun t180 => (targumref17_Plain.j7 kj37 a0 a1 a3 x10_1 x11_1 x12_25 x14_25 t179 t180)) else (targumref17_Plain.j7 kj37 a0 a1 a3 x10_1 x11_1 x12_25 x14_25 t179 false))) else (none)) else (none))) else (none)) = some (r1, r2) := by rw [if_neg (show ¬ (false = true) by decide)] at H; exact H
                                  clear H
                                  have H := H1
                                  clear H1
                                  by_cases c51 : 0 < (x12_25.length : Int)
                                  · rw [if_pos c51] at H
                                    have c51b0 : decide (0 < (x12_25.length : Int)) = true := decide_eq_true c51
                                    have c51b1 : decide (0 < x12_25.length) = true := decide_eq_true (by omega)
                                    clear c51
                                    replace H := Option.bind_eq_some_iff.mp H
                                    obtain ⟨t179, A520, H⟩ := H
                                    replace H : (if 0 ≤ t179 then (if t179 < (a1.size : Int) then (if (bt a1 t179) = 35 then (targumref17_Plain.j7 kj37 a0 a1 a3 x10_1 x11_1 x12_25 x14_25 t179 true) else (if (bt a1 t179) = 58 then ((targumref17_Stop.f kj37 a0 a1 (wrap64 (t179 + 1)) false).bind fun t180 => (targumref17_Plain.j7 kj37 a0 a1 a3 x10_1 x11_1 x12_25 x14_25 t179 t180)) else (targumref17_Plain.j7 kj37 a0 a1 a3 x10_1 x11_1 x12_25 x14_25 t179 false))) else (none)) else (none)) = some (r1, r2) := H
                                    have A52 := Aside0.mk A520
                                    clear A520
                                    have HC53 := Aside0.mk H
                                    clear H
                                    obtain ⟨Ao54, co54, eo54, _⟩ := Kd.Q_slice HO_12.out
                                    subst eo54
                                    have p178 : 0 ≤ (0 : Int) := (by omega)
                                    have q178 : 0 < (x12_25.length : Int) := of_decide_eq_true (by first | (with_reducible assumption) | assumption)
                                    obtain ⟨ad178, e178, hx178_0, hx178_1, hx178_2⟩ := at_T59 (Kd.Q_reads' HO_12.out).2.2 0 p178 q178
                                    cases e178
                                    have qi178 : (0 < x12_25.length) = True := eq_true (by omega)
                                    (try rw [show ((0 : Int)).toNat = 0 from rfl] at hx178_0)
                                    (try rw [show 0 * 3 = 0 from rfl] at hx178_0)
                                    (try rw [Addr.add_zero'] at hx178_0)
                                    (try rw [show ((0 : Int)).toNat = 0 from rfl] at hx178_1)
                                    (try rw [show 0 * 3 = 0 from rfl] at hx178_1)
                                    (try rw [Addr.add_zero'] at hx178_1)
                                    (try rw [show ((0 : Int)).toNat = 0 from rfl] at hx178_2)
                                    (try rw [show 0 * 3 = 0 from rfl] at hx178_2)
                                    (try rw [Addr.add_zero'] at hx178_2)
                                    replace p178 := eq_true p178
                                    replace q178 := eq_true q178
                                    go_upto_region 18 with (first | ((with_reducible refine gate_callee (f := 46) rfl ?_); refine goesL_ (some 99) rfl rfl Tryd.func46 (by kernel_rfl) rfl #[.string a1, .int .i64 ((rd_T59 x12_25 0).f0)] rfl (by (try simp only [List.map_toArray, List.map_cons, List.map_nil]); first | done | rfl | (simp only [List.length_drop, List.length_take]; rfl)) ?_; (with_reducible refine (targumref17_over.calls kj37 a1 ((rd_T59 x12_25 0).f0) t179 _ A52.out).mono ?_); rintro e w' ⟨rfl, ⟨nd, rfl⟩⟩; refine ⟨_, rfl, ?_⟩))
                                    (try simp only [Act.put, List.setIfInBounds_toArray, List.set_cons_zero, List.set_cons_succ])
                                    go_cut [116] (fun v116 wc => ∃ (kq : Nat) (x116_52 : Bool), v116 = .bool x116_52 ∧ Aside0 (targumref17_Plain.j7 kq a0 a1 a3 x10_1 x11_1 x12_25 x14_25 t179 x116_52 = some (r1, r2)) ∧ Aside0 (kq ≤ kj37) ∧ Aside0 (Kd.Q k59 59 wc w.heap.size (fun _ => True) (.slice (some ad178) x12_25.length co54) x12_25) ∧ Aside0 (Below w.heap.size w wc))
                                    case first =>
                                      have H := HC53.out
                                      clear HC53
                                      by_cases c55 : 0 ≤ t179
                                      · rw [if_pos c55] at H
                                        have c55b0 : decide (0 ≤ t179) = true := decide_eq_true c55
                                        clear c55
                                        (first | rw [c55b0] | (simp only [i64_w, i32_w]; rw [c55b0]) | skip)
                                        by_cases c56 : t179 < (a1.size : Int)
                                        · rw [if_pos c56] at H
                                          have c56b0 : decide (t179 < (a1.size : Int)) = true := decide_eq_true c56
                                          clear c56
                                          by_cases c58 : (bt a1 t179) = 35
                                          · rw [if_pos c58] at H
                                            have c58b0 : ((bt a1 t179) == 35) = true := beq_iff_eq.mpr c58
                                            have c58b1 : ((bt a1 t179) != 35) = false := bne_eq_false_iff_eq.mpr c58
                                            clear c58
                                            have H' := Aside0.mk H
                                            clear H
                                            have p57 : 0 ≤ (t179 : Int) := of_decide_eq_true (by first | (with_reducible assumption) | assumption)
                                            have q57 : t179 < (a1.size : Int) := of_decide_eq_true (by first | (with_reducible assumption) | assumption)
                                            have hx57 := bt_at a1 t179
                                            replace p57 := eq_true p57
                                            replace q57 := eq_true q57
                                            go_wp2
                                            go_meet
                                            case rel => exact ⟨_, (true), (by first | rfl | (simp; done) | (simp [*]; done)), H', ⟨by have := HK1.out; have := HJ12.out; have := HJ16.out; have := HJ25.out; have := HJ37.out; first | omega | exact Nat.le_refl _⟩, ⟨by (with_reducible repeat (first | apply Kd.Q_alloc | apply Kd.Q_drewN | apply Kd.Q_drew)); exact HO_12.out⟩, ⟨by repeat (first | (with_reducible first | exact HB.out | apply below_alloc | apply pw_below_drewN | apply below_drew1) | exact HB.out)⟩⟩
                                          · rw [if_neg c58] at H
                                            have c58b0 : ((bt a1 t179) == 35) = false := beq_eq_false_iff_ne.mpr c58
                                            have c58b1 : ((bt a1 t179) != 35) = true := bne_iff_ne.mpr c58
                                            by_cases c60 : (bt a1 t179) = 58
                                            · rw [if_pos c60] at H
                                              have c60b0 : ((bt a1 t179) == 58) = true := beq_iff_eq.mpr c60
                                              have c60b1 : ((bt a1 t179) != 58) = false := bne_eq_false_iff_eq.mpr c60
                                              clear c60
                                              replace H := Option.bind_eq_some_iff.mp H
                                              obtain ⟨t180, A610, H⟩ := H
                                              replace H : (targumref17_Plain.j7 kj37 a0 a1 a3 x10_1 x11_1 x12_25 x14_25 t179 t180) = some (r1, r2) := H
                                              have A61 := Aside0.mk A610
                                              clear A610
                                              have H' := Aside0.mk H
                                              clear H
                                              have p57 : 0 ≤ (t179 : Int) := of_decide_eq_true (by first | (with_reducible assumption) | assumption)
                                              have q57 : t179 < (a1.size : Int) := of_decide_eq_true (by first | (with_reducible assumption) | assumption)
                                              have hx57 := bt_at a1 t179
                                              replace p57 := eq_true p57
                                              replace q57 := eq_true q57
                                              have p59 : 0 ≤ (t179 : Int) := of_decide_eq_true (by first | (with_reducible assumption) | assumption)
                                              have q59 : t179 < (a1.size : Int) := of_decide_eq_true (by first | (with_reducible assumption) | assumption)
                                              have hx59 := bt_at a1 t179
                                              replace p59 := eq_true p59
                                              replace q59 := eq_true q59
                                              go_wp2_with (first | (go_at_call 51; (with_reducible refine (targumref17_Stop.calls kj37 a0 a1 (wrap64 (t179 + 1)) false t180 _ A61.out).mono ?_); rintro e w' ⟨rfl, ⟨nd, rfl⟩⟩))
                                              go_meet
                                              case rel => exact ⟨_, (t180), (by first | rfl | (simp; done) | (simp [*]; done)), H', ⟨by have := HK1.out; have := HJ12.out; have := HJ16.out; have := HJ25.out; have := HJ37.out; first | omega | exact Nat.le_refl _⟩, ⟨by (with_reducible repeat (first | apply Kd.Q_alloc | apply Kd.Q_drewN | apply Kd.Q_drew)); exact HO_12.out⟩, ⟨by repeat (first | (with_reducible first | exact HB.out | apply below_alloc | apply pw_below_drewN | apply below_drew1) | exact HB.out)⟩⟩
                                            · rw [if_neg c60] at H
                                              have c60b0 : ((bt a1 t179) == 58) = false := beq_eq_false_iff_ne.mpr c60
                                              have c60b1 : ((bt a1 t179) != 58) = true := bne_iff_ne.mpr c60
                                              have H' := Aside0.mk H
                                              clear H
                                              have p57 : 0 ≤ (t179 : Int) := of_decide_eq_true (by first | (with_reducible assumption) | assumption)
                                              have q57 : t179 < (a1.size : Int) := of_decide_eq_true (by first | (with_reducible assumption) | assumption)
                                              have hx57 := bt_at a1 t179
                                              replace p57 := eq_true p57
                                              replace q57 := eq_true q57
                                              have p59 : 0 ≤ (t179 : Int) := of_decide_eq_true (by first | (with_reducible assumption) | assumption)
                                              have q59 : t179 < (a1.size : Int) := of_decide_eq_true (by first | (with_reducible assumption) | assumption)
                                              have hx59 := bt_at a1 t179
                                              replace p59 := eq_true p59
                                              replace q59 := eq_true q59
                                              go_wp2
                                              go_meet
                                              case rel => exact ⟨_, (false), (by first | rfl | (simp; done) | (simp [*]; done)), H', ⟨by have := HK1.out; have := HJ12.out; have := HJ16.out; have := HJ25.out; have := HJ37.out; first | omega | exact Nat.le_refl _⟩, ⟨by (with_reducible repeat (first | apply Kd.Q_alloc | apply Kd.Q_drewN | apply Kd.Q_drew)); exact HO_12.out⟩, ⟨by repeat (first | (with_reducible first | exact HB.out | apply below_alloc | apply pw_below_drewN | apply below_drew1) | exact HB.out)⟩⟩
                                        · rw [if_neg c56] at H
                                          exact absurd H (by simp)
                                      · rw [if_neg c55] at H
                                        exact absurd H (by simp)
                                    case rest =>
                                      clear HC53
                                      try clear c1
                                      try clear p1
                                      try clear q1
                                      try clear hx1
                                      try clear qi1
                                      try clear c2
                                      try clear p2
                                      try clear q2
                                      try clear c3
                                      try clear q3
                                      try clear c4
                                      try clear c5
                                      try clear p5
                                      try clear q5
                                      try clear hx5
                                      try clear c6
                                      try clear c6b0
                                      try clear p6
                                      try clear c7
                                      try clear c7b0
                                      try clear c7b1
                                      try clear c8
                                      try clear c8b0
                                      try clear c8b1
                                      try clear c9
                                      try clear c9b0
                                      try clear c9b1
                                      try clear c14
                                      try clear c14b0
                                      try clear c14b1
                                      try clear c16
                                      try clear p16
                                      try clear q16
                                      try clear hx16
                                      try clear qi16
                                      try clear p17
                                      try clear q17
                                      try clear hx17
                                      try clear qi17
                                      try clear c18
                                      try clear c18b0
                                      try clear c18b1
                                      try clear c19
                                      try clear c19b0
                                      try clear c19b1
                                      try clear c20
                                      try clear c20b0
                                      try clear c21
                                      try clear c21b0
                                      try clear c21b1
                                      try clear c22
                                      try clear c23
                                      try clear q23
                                      try clear c24
                                      try clear c27
                                      try clear c27b0
                                      try clear c27b1
                                      try clear c28
                                      try clear c28b0
                                      try clear c28b1
                                      try clear c30
                                      try clear c31
                                      try clear c31b0
                                      try clear c31b1
                                      try clear c34
                                      try clear q34
                                      try clear c39
                                      try clear c39b0
                                      try clear c39b1
                                      try clear c39b2
                                      try clear c41
                                      try clear c41b0
                                      try clear c41b1
                                      try clear c43
                                      try clear c43b0
                                      try clear c46
                                      try clear c50
                                      try clear c51
                                      try clear c51b0
                                      try clear c51b1
                                      try clear c55
                                      try clear c55b0
                                      try clear c56
                                      try clear c56b0
                                      try clear p57
                                      try clear q57
                                      try clear hx57
                                      try clear c58
                                      try clear c58b0
                                      try clear c58b1
                                      try clear p59
                                      try clear q59
                                      try clear hx59
                                      try clear c60
                                      try clear c60b0
                                      try clear c60b1
                                      try clear hx165_0
                                      try clear hx165_1
                                      try clear hx165_2
                                      try clear hx169_0
                                      try clear hx169_1
                                      try clear hx169_2
                                      try clear hx174_0
                                      try clear hx174_1
                                      try clear hx174_2
                                      try clear hx176_0
                                      try clear hx176_1
                                      try clear hx176_2
                                      try clear hx178_0
                                      try clear hx178_1
                                      try clear hx178_2
                                      try clear p1
                                      try clear p16
                                      try clear p165
                                      try clear p169
                                      try clear p17
                                      try clear p174
                                      try clear p176
                                      try clear p178
                                      try clear p2
                                      try clear p57
                                      try clear p59
                                      try clear p6
                                      try clear q1
                                      try clear q16
                                      try clear q165
                                      try clear q169
                                      try clear q17
                                      try clear q174
                                      try clear q176
                                      try clear q178
                                      try clear q2
                                      try clear q23
                                      try clear q3
                                      try clear q34
                                      try clear q57
                                      try clear q59
                                      obtain ⟨kq, x116_52, rfl, HA, HJ52, HO_12, HB⟩ := hcut
                                      cases kq with
                                      | zero => exact absurd HA.out (by simp [targumref17_Plain.j7])
                                      | succ kj52 =>
                                        have H := HA.out
                                        clear HA
                                        simp only [targumref17_Plain.j7] at H
                                        by_cases c62 : x116_52 = true
                                        · subst c62
                                          have H1 : (some (x11_1, x10_1)) = some (r1, r2) := by rw [if_pos rfl] at H; exact H
                                          clear H
                                          have H := H1
                                          clear H1
                                          simp only [Option.some.injEq, Prod.mk.injEq] at H
                                          obtain ⟨rfl, rfl⟩ := H
                                          go_wp2
                                          go_ret2
                                          exact ⟨by first | rfl | (simp [errW_none, errW_some] <;> rfl) | (simp [*, errW_none, errW_some] <;> rfl), by repeat (first | (with_reducible first | exact HB.out | apply below_alloc | apply pw_below_drewN | apply below_drew1) | exact HB.out)⟩
                                        · replace c62 := Bool.eq_false_iff.mpr c62
                                          subst c62
                                          have H1 : ((targumref17_ends.f kj52 a0 a1 t179 false).bind fun t181 => (if x14_25 = 0 then (if x11_1.size + 1 ≤ 9223372036854775807 then (if 0 ≤ t179 then (if t179 ≤ t181 then (if t181 ≤ (a1.size : Int) then (if (x11_1 ++ (⟨#[32]⟩ : ByteArray)).size + (a1.extract (t179 : Int).toNat (t181 : Int).toNat).size ≤ 9223372036854775807 then (targumref17_Plain.l0 kj52 a0 a1 a3 t181 ((x11_1 ++ (⟨#[32]⟩ : ByteArray)) ++ (a1.extract (t179 : Int).toNat (t181 : Int).toNat)) x12_25) else (none)) else (none)) else (none)) else (none)) else (none)) else ((targumref17_feeds.f kj52 x14_25).bind fun t182 => (if x11_1.size + t182.size ≤ 9223372036854775807 then (if 0 ≤ t179 then (if t179 ≤ t181 then (if t181 ≤ (a1.size : Int) then (if (x11_1 ++ t182).size + (a1.extract (t179 : Int).toNat (t181 : Int).toNat).size ≤ 9223372036854775807 then (targumref17_Plain.l0 kj52 a0 a1 a3 t181 ((x11_1 ++ t182) ++ (a1.extract (t179 : Int).toNat (t181 : Int).toNat)) x12_25) else (none)) else (none)) else (none)) else (none)) else (none))))) = some (r1, r2) := by rw [if_neg (show ¬ (false = true) by decide)] at H; exact H
                                          clear H
                                          have H := H1
                                          clear H1
                                          replace H := Option.bind_eq_some_iff.mp H
                                          obtain ⟨t181, A630, H⟩ := H
                                          replace H : (if x14_25 = 0 then (if x11_1.size + 1 ≤ 9223372036854775807 then (if 0 ≤ t179 then (if t179 ≤ t181 then (if t181 ≤ (a1.size : Int) then (if (x11_1 ++ (⟨#[32]⟩ : ByteArray)).size + (a1.extract (t179 : Int).toNat (t181 : Int).toNat).size ≤ 9223372036854775807 then (targumref17_Plain.l0 kj52 a0 a1 a3 t181 ((x11_1 ++ (⟨#[32]⟩ : ByteArray)) ++ (a1.extract (t179 : Int).toNat (t181 : Int).toNat)) x12_25) else (none)) else (none)) else (none)) else (none)) else (none)) else ((targumref17_feeds.f kj52 x14_25).bind fun t182 => (if x11_1.size + t182.size ≤ 9223372036854775807 then (if 0 ≤ t179 then (if t179 ≤ t181 then (if t181 ≤ (a1.size : Int) then (if (x11_1 ++ t182).size + (a1.extract (t179 : Int).toNat (t181 : Int).toNat).size ≤ 9223372036854775807 then (targumref17_Plain.l0 kj52 a0 a1 a3 t181 ((x11_1 ++ t182) ++ (a1.extract (t179 : Int).toNat (t181 : Int).toNat)) x12_25) else (none)) else (none)) else (none)) else (none)) else (none)))) = some (r1, r2) := H
                                          have A63 := Aside0.mk A630
                                          clear A630
                                          by_cases c64 : x14_25 = 0
                                          · rw [if_pos c64] at H
                                            have c64b0 : (x14_25 == 0) = true := beq_iff_eq.mpr c64
                                            have c64b1 : (x14_25 != 0) = false := bne_eq_false_iff_eq.mpr c64
                                            clear c64
                                            by_cases c65 : x11_1.size + 1 ≤ 9223372036854775807
                                            · rw [if_pos c65] at H
                                              have c65b0 := eq_true c65
                                              have c65b1 : decide (x11_1.size + 1 ≤ 9223372036854775807) = true := decide_eq_true c65
                                              try have c65b2 : (9223372036854775807 < x11_1.size + 1) = False := eq_false (Nat.not_lt.2 c65)
                                              by_cases c66 : 0 ≤ t179
                                              · rw [if_pos c66] at H
                                                have c66b0 := eq_true c66
                                                have c66b1 : decide (0 ≤ t179) = true := decide_eq_true c66
                                                clear c66
                                                by_cases c67 : t179 ≤ t181
                                                · rw [if_pos c67] at H
                                                  have c67b0 := eq_true c67
                                                  have c67b1 : decide (t179 ≤ t181) = true := decide_eq_true c67
                                                  clear c67
                                                  by_cases c68 : t181 ≤ (a1.size : Int)
                                                  · rw [if_pos c68] at H
                                                    have c68b0 := eq_true c68
                                                    have c68b1 : decide (t181 ≤ (a1.size : Int)) = true := decide_eq_true c68
                                                    clear c68
                                                    by_cases c69 : (x11_1 ++ (⟨#[32]⟩ : ByteArray)).size + (a1.extract (t179 : Int).toNat (t181 : Int).toNat).size ≤ 9223372036854775807
                                                    · rw [if_pos c69] at H
                                                      have c69b0 := eq_true c69
                                                      have c69b1 : decide ((x11_1 ++ (⟨#[32]⟩ : ByteArray)).size + (a1.extract (t179 : Int).toNat (t181 : Int).toNat).size ≤ 9223372036854775807) = true := decide_eq_true c69
                                                      try have c69b2 : (9223372036854775807 < (x11_1 ++ (⟨#[32]⟩ : ByteArray)).size + (a1.extract (t179 : Int).toNat (t181 : Int).toNat).size) = False := eq_false (Nat.not_lt.2 c69)
                                                      try have c69b3 : (9223372036854775807 < (x11_1 ++ (⟨#[32]⟩ : ByteArray)).size + (a1.extract (t179 : Int).toNat (t181 : Int).toNat).size) = False := c69b2
                                                      try simp only [ByteArray.size_append, show ((⟨#[32]⟩ : ByteArray)).size = 1 from rfl] at c69b3
                                                      have H' := Aside0.mk H
                                                      clear H
                                                      go_wp2_with (first | ((with_reducible refine gate_callee (f := 52) rfl ?_); refine goesL_ (some 122) rfl rfl Tryd.func52 (by kernel_rfl) rfl #[.int .i64 a0, .string a1, .int .i64 t179, .bool false] rfl (by (try simp only [List.map_toArray, List.map_cons, List.map_nil]); first | done | rfl | (simp only [List.length_drop, List.length_take]; rfl)) ?_; (with_reducible refine (targumref17_ends.calls kj52 a0 a1 t179 false t181 _ A63.out).mono ?_); rintro e w' ⟨rfl, ⟨nd, rfl⟩⟩; refine ⟨_, rfl, ?_⟩))
                                                      go_roundg kj52
                                                      case measure => have := HK1.out; have := HJ12.out; have := HJ16.out; have := HJ25.out; have := HJ37.out; have := HJ52.out; omega
                                                      case rel => exact ⟨(t181), ((x11_1 ++ (⟨#[32]⟩ : ByteArray)) ++ (a1.extract (t179 : Int).toNat (t181 : Int).toNat)), (x12_25), (by first | rfl | (simp; done) | (simp [*]; done)), (by first | rfl | (simp; done) | (simp [*]; done)), H', ⟨by have := HK1.out; have := HJ12.out; have := HJ16.out; have := HJ25.out; have := HJ37.out; have := HJ52.out; omega⟩, ⟨by (with_reducible repeat (first | apply Kd.Q_alloc | apply Kd.Q_drewN | apply Kd.Q_drew)); exact HO_12.out⟩, ⟨by repeat (first | (with_reducible first | exact HB.out | apply below_alloc | apply pw_below_drewN | apply below_drew1) | exact HB.out)⟩⟩
                                                    · rw [if_neg c69] at H
                                                      exact absurd H (by simp)
                                                  · rw [if_neg c68] at H
                                                    exact absurd H (by simp)
                                                · rw [if_neg c67] at H
                                                  exact absurd H (by simp)
                                              · rw [if_neg c66] at H
                                                exact absurd H (by simp)
                                            · rw [if_neg c65] at H
                                              exact absurd H (by simp)
                                          · rw [if_neg c64] at H
                                            have c64b0 : (x14_25 == 0) = false := beq_eq_false_iff_ne.mpr c64
                                            have c64b1 : (x14_25 != 0) = true := bne_iff_ne.mpr c64
                                            replace H := Option.bind_eq_some_iff.mp H
                                            obtain ⟨t182, A700, H⟩ := H
                                            replace H : (if x11_1.size + t182.size ≤ 9223372036854775807 then (if 0 ≤ t179 then (if t179 ≤ t181 then (if t181 ≤ (a1.size : Int) then (if (x11_1 ++ t182).size + (a1.extract (t179 : Int).toNat (t181 : Int).toNat).size ≤ 9223372036854775807 then (targumref17_Plain.l0 kj52 a0 a1 a3 t181 ((x11_1 ++ t182) ++ (a1.extract (t179 : Int).toNat (t181 : Int).toNat)) x12_25) else (none)) else (none)) else (none)) else (none)) else (none)) = some (r1, r2) := H
                                            have A70 := Aside0.mk A700
                                            clear A700
                                            by_cases c71 : x11_1.size + t182.size ≤ 9223372036854775807
                                            · rw [if_pos c71] at H
                                              have c71b0 := eq_true c71
                                              have c71b1 : decide (x11_1.size + t182.size ≤ 9223372036854775807) = true := decide_eq_true c71
                                              try have c71b2 : (9223372036854775807 < x11_1.size + t182.size) = False := eq_false (Nat.not_lt.2 c71)
                                              by_cases c72 : 0 ≤ t179
                                              · rw [if_pos c72] at H
                                                have c72b0 := eq_true c72
                                                have c72b1 : decide (0 ≤ t179) = true := decide_eq_true c72
                                                clear c72
                                                by_cases c73 : t179 ≤ t181
                                                · rw [if_pos c73] at H
                                                  have c73b0 := eq_true c73
                                                  have c73b1 : decide (t179 ≤ t181) = true := decide_eq_true c73
                                                  clear c73
                                                  by_cases c74 : t181 ≤ (a1.size : Int)
                                                  · rw [if_pos c74] at H
                                                    have c74b0 := eq_true c74
                                                    have c74b1 : decide (t181 ≤ (a1.size : Int)) = true := decide_eq_true c74
                                                    clear c74
                                                    by_cases c75 : (x11_1 ++ t182).size + (a1.extract (t179 : Int).toNat (t181 : Int).toNat).size ≤ 9223372036854775807
                                                    · rw [if_pos c75] at H
                                                      have c75b0 := eq_true c75
                                                      have c75b1 : decide ((x11_1 ++ t182).size + (a1.extract (t179 : Int).toNat (t181 : Int).toNat).size ≤ 9223372036854775807) = true := decide_eq_true c75
                                                      try have c75b2 : (9223372036854775807 < (x11_1 ++ t182).size + (a1.extract (t179 : Int).toNat (t181 : Int).toNat).size) = False := eq_false (Nat.not_lt.2 c75)
                                                      try have c75b3 : (9223372036854775807 < (x11_1 ++ t182).size + (a1.extract (t179 : Int).toNat (t181 : Int).toNat).size) = False := c75b2
                                                      try simp only [ByteArray.size_append] at c75b3
                                                      have H' := Aside0.mk H
                                                      clear H
                                                      go_wp2_with (first | ((with_reducible refine gate_callee (f := 52) rfl ?_); refine goesL_ (some 122) rfl rfl Tryd.func52 (by kernel_rfl) rfl #[.int .i64 a0, .string a1, .int .i64 t179, .bool false] rfl (by (try simp only [List.map_toArray, List.map_cons, List.map_nil]); first | done | rfl | (simp only [List.length_drop, List.length_take]; rfl)) ?_; (with_reducible refine (targumref17_ends.calls kj52 a0 a1 t179 false t181 _ A63.out).mono ?_); rintro e w' ⟨rfl, ⟨nd, rfl⟩⟩; refine ⟨_, rfl, ?_⟩) | ((with_reducible refine gate_callee (f := 53) rfl ?_); refine goesL_ (some 129) rfl rfl Tryd.func53 (by kernel_rfl) rfl #[.int .i64 x14_25] rfl (by (try simp only [List.map_toArray, List.map_cons, List.map_nil]); first | done | rfl | (simp only [List.length_drop, List.length_take]; rfl)) ?_; (with_reducible refine (targumref17_feeds.calls kj52 x14_25 t182 _ A70.out).mono ?_); rintro e w' ⟨rfl, ⟨nd, rfl⟩⟩; refine ⟨_, rfl, ?_⟩))
                                                      go_roundg kj52
                                                      case measure => have := HK1.out; have := HJ12.out; have := HJ16.out; have := HJ25.out; have := HJ37.out; have := HJ52.out; omega
                                                      case rel => exact ⟨(t181), ((x11_1 ++ t182) ++ (a1.extract (t179 : Int).toNat (t181 : Int).toNat)), (x12_25), (by first | rfl | (simp; done) | (simp [*]; done)), (by first | rfl | (simp; done) | (simp [*]; done)), H', ⟨by have := HK1.out; have := HJ12.out; have := HJ16.out; have := HJ25.out; have := HJ37.out; have := HJ52.out; omega⟩, ⟨by (with_reducible repeat (first | apply Kd.Q_alloc | apply Kd.Q_drewN | apply Kd.Q_drew)); exact HO_12.out⟩, ⟨by repeat (first | (with_reducible first | exact HB.out | apply below_alloc | apply pw_below_drewN | apply below_drew1) | exact HB.out)⟩⟩
                                                    · rw [if_neg c75] at H
                                                      exact absurd H (by simp)
                                                  · rw [if_neg c74] at H
                                                    exact absurd H (by simp)
                                                · rw [if_neg c73] at H
                                                  exact absurd H (by simp)
                                              · rw [if_neg c72] at H
                                                exact absurd H (by simp)
                                            · rw [if_neg c71] at H
                                              exact absurd H (by simp)
                                  · rw [if_neg c51] at H
                                    exact absurd H (by simp)
        · rw [if_neg c9] at H
          exact absurd H (by simp)
      · rw [if_neg c8] at H
        exact absurd H (by simp)
    · rw [if_neg c7] at H
      exact absurd H (by simp)

end Go.Proofs.YtmfjdlmhejabiaaDoor.PL
