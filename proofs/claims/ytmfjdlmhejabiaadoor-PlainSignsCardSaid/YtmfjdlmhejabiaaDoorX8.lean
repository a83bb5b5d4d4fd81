/- PlainSigns: what the row asks for: it answers true. -/
import Derived.Test.YtmfjdlmhejabiaaDoorX7a
import Derived.Test.YtmfjdlmhejabiaaDoorX7b
import Derived.Test.YtmfjdlmhejabiaaDoorX7c
import Derived.Test.YtmfjdlmhejabiaaDoorX7d
import Derived.Test.YtmfjdlmhejabiaaDoorX7e
namespace Go.Proofs.YtmfjdlmhejabiaaDoor.PL
open Go.RowKit Go.Proofs.Tg Go.Proofs.YtmfjdlmhejabiaaDoor.X Go.Proofs.YtmfjdlmhejabiaaDoor.M Go.Proofs.YtmfjdlmhejabiaaDoorW.PrintWords
set_option linter.unusedVariables false
set_option linter.unusedSimpArgs false

theorem part_of (v : Int) (flow : Bool) (s : ByteArray) (l : List UInt8) (r : Int) (hs : s.size ≤ 1000) (hl : s.data.toList = l) (h : partL (decide (v = 11)) flow l = r) (w : World) :
    Calls Tryd.prog 23 #[.int .i64 v, .string s, .int .i64 0, .bool flow] w fun e w' => e = .returned (.int .i64 r) ∧ Drawn0 w w' := by
  have := part_any v s 0 flow w (by omega)
  rw [partI_L, hl, h] at this
  exact this

set_option maxHeartbeats 4000000 in
set_option maxRecDepth 100000 in
theorem signs_long (a0 : ByteArray) (a1 : Int) (flow old : Bool) (w : World) (h40 : 40 < a0.size) :
    Calls Tryd.prog 6 #[.string a0, .int .u8 a1, .bool flow, .bool old] w fun e w' => e = .returned (.bool true) ∧ Below w.heap.size w w' := by
  have HKN := Aside0.mk known20
  go_enter Tryd.func6, Tryd.ntmps6
  go_wp2_with (first | (go_at_call 15; (with_reducible refine (targumlaw20_known.calls true _ HKN.out).mono ?_); rintro e_ w1 ⟨rfl, hb1⟩; have HB1 := Aside0.mk hb1; clear hb1))
  go_ret
  exact ⟨rfl, HB1.out⟩

theorem size_of1 {x : ByteArray} {c : UInt8} (h : x.data.toList = [c]) : x.size = 1 := by show x.data.toList.length = 1; rw [h]; rfl
theorem lit_of1 {x : ByteArray} {c : UInt8} (h : x.data.toList = [c]) : x = ⟨#[c]⟩ := by
  have : x = ⟨x.data.toList.toArray⟩ := rfl
  rw [this, h]

theorem signs_all (a0 t : ByteArray) (a1 v : Int) (flow old : Bool) (k : Nat) (w : World) (h0 : 0 ≤ a1) (h255 : a1 ≤ 255) (h40 : a0.size ≤ 40) (hv : targumhelp_Version.f old = some v) (ht : targumlaw20_letters.f k a0 = some t) (hts : t.size ≤ 41) (ht0 : t.data.toList ≠ []) (hw : ∀ c ∈ t.data.toList, low c) :
    Calls Tryd.prog 6 #[.string a0, .int .u8 a1, .bool flow, .bool old] w fun e w' => e = .returned (.bool true) ∧ Below w.heap.size w w' := by
  obtain ⟨i, hi⟩ : ∃ i : Nat, a1 % 16 = (i : Int) := ⟨(a1 % 16).toNat, by omega⟩
  obtain ⟨c, hc1, hc2⟩ := never_at i (by omega)
  obtain ⟨d, hd1, hd2⟩ := first_at (a1 % 3).toNat (by omega)
  obtain ⟨x10, h10⟩ : ∃ x, (⟨#[44, 91, 93, 123, 125, 35, 38, 42, 33, 124, 62, 39, 34, 37, 64, 96]⟩ : ByteArray).extract i (i + 1) = x := ⟨_, rfl⟩
  obtain ⟨x13, h13⟩ : ∃ x, pickS ([⟨#[45]⟩, ⟨#[63]⟩, ⟨#[58]⟩] : List ByteArray) (a1 % 3).toNat = x := ⟨_, rfl⟩
  have hc1' : x10.data.toList = [c] := h10 ▸ hc1
  have hd1' : x13.data.toList = [d] := h13 ▸ hd1
  have s10 := size_of1 hc1'
  have s13 := size_of1 hd1'
  have hl : t.data.toList.length = t.size := rfl
  have e32 : (⟨#[32]⟩ : ByteArray).size = 1 := rfl
  have e93 : (⟨#[93]⟩ : ByteArray).size = 1 := rfl
  have e58 : (⟨#[58]⟩ : ByteArray).size = 1 := rfl
  have e2 : (⟨#[32, 35]⟩ : ByteArray).size = 2 := rfl
  have e3 : (⟨#[32, 58, 32]⟩ : ByteArray).size = 3 := rfl
  have e4 : (⟨#[58, 10]⟩ : ByteArray).size = 2 := rfl
  have P1 := part_of v flow (x10 ++ t) (c :: t.data.toList) (-1) (by rw [ByteArray.size_append]; omega) (by simp [hc1']) (sg1 _ flow _ c hc2)
  have P2 := part_of v flow (x13 ++ t) (d :: t.data.toList) ((t.size : Int) + 1) (by rw [ByteArray.size_append]; omega) (by simp [hd1']) (by rw [sg2 _ flow _ hw ht0 d hd2]; omega)
  have P3 := part_of v flow (x13 ++ (⟨#[32]⟩ : ByteArray) ++ t) (d :: 32 :: t.data.toList) (-1) (by rw [ByteArray.size_append, ByteArray.size_append]; omega) (by simp [hd1']) (sg3 _ flow _ d hd2)
  have P4 := part_of v flow x13 [d] (-1) (by omega) hd1' (sg4 _ flow d hd2)
  have P5 := part_of v flow (x13 ++ (⟨#[93]⟩ : ByteArray) ++ t) (d :: 93 :: t.data.toList) _ (by rw [ByteArray.size_append, ByteArray.size_append]; omega) (by simp [hd1']) rfl
  have q5 := sg5 (decide (v = 11)) flow t.data.toList d hd2
  have P6 := part_of v flow (t ++ x10 ++ t) (t.data.toList ++ c :: t.data.toList) _ (by rw [ByteArray.size_append, ByteArray.size_append]; omega) (by simp [hc1']) (sg6 _ flow _ hw ht0 c hc2)
  have P7 := part_of v flow (t ++ (⟨#[32]⟩ : ByteArray) ++ t ++ (⟨#[32, 35]⟩ : ByteArray) ++ t) (t.data.toList ++ (32 :: (t.data.toList ++ (32 :: 35 :: t.data.toList)))) (2 * (t.size : Int) + 1) (by rw [ByteArray.size_append, ByteArray.size_append, ByteArray.size_append, ByteArray.size_append]; omega) (by simp) (by rw [sg7 _ flow _ hw ht0]; omega)
  have P8 := part_of v flow (t ++ (⟨#[58]⟩ : ByteArray) ++ t) (t.data.toList ++ 58 :: t.data.toList) (2 * (t.size : Int) + 1) (by rw [ByteArray.size_append, ByteArray.size_append]; omega) (by simp) (by rw [sg8 _ flow _ hw ht0]; omega)
  have P9 := part_of v flow (t ++ (⟨#[32, 58, 32]⟩ : ByteArray) ++ t) (t.data.toList ++ (32 :: 58 :: 32 :: t.data.toList)) (t.size : Int) (by rw [ByteArray.size_append, ByteArray.size_append]; omega) (by simp) (by rw [sg9 _ flow _ hw ht0, hl])
  have P10 := part_of v flow (t ++ (⟨#[58, 10]⟩ : ByteArray)) (t.data.toList ++ [58, 10]) (t.size : Int) (by rw [ByteArray.size_append]; omega) (by simp) (by rw [sg10 _ flow _ hw ht0, hl])
  rw [hl] at P6
  clear hc1 hd1
  cases flow with
  | false =>
    rw [if_neg (fun x => absurd x.1 (by decide)), show ((2 * t.size + 1 : Nat) : Int) = 2 * (t.size : Int) + 1 by omega] at P6
    exact signs_no a0 t x10 x13 a1 v _ old k i w h0 h255 hi h40 hv ht hts h10 h13 s10 s13 q5 P1 P2 P3 P4 P5 P6 P7 P8 P9 P10
  | true =>
    have r5 : partL (decide (v = 11)) true (d :: 93 :: t.data.toList) = -1 := by simpa using q5
    rw [r5] at P5
    by_cases hs : flowSign c = true
    · rw [if_pos ⟨rfl, hs⟩] at P6
      obtain rfl := lit_of1 hc1'
      unfold flowSign at hs
      simp only [Bool.or_eq_true, beq_iff_eq] at hs
      rcases hs with (((rfl | rfl) | rfl) | rfl) | rfl
      · exact signs_44 a0 t x13 a1 v 0 old k i w h0 h255 hi h40 hv ht hts h10 h13 s10 s13 P1 P2 P3 P4 P5 P6 P7 P8 P9 P10
      · exact signs_91 a0 t x13 a1 v 0 old k i w h0 h255 hi h40 hv ht hts h10 h13 s10 s13 P1 P2 P3 P4 P5 P6 P7 P8 P9 P10
      · exact signs_93 a0 t x13 a1 v 0 old k i w h0 h255 hi h40 hv ht hts h10 h13 s10 s13 P1 P2 P3 P4 P5 P6 P7 P8 P9 P10
      · exact signs_123 a0 t x13 a1 v 0 old k i w h0 h255 hi h40 hv ht hts h10 h13 s10 s13 P1 P2 P3 P4 P5 P6 P7 P8 P9 P10
      · exact signs_125 a0 t x13 a1 v 0 old k i w h0 h255 hi h40 hv ht hts h10 h13 s10 s13 P1 P2 P3 P4 P5 P6 P7 P8 P9 P10
    · rw [if_neg (fun x => hs x.2), show ((2 * t.size + 1 : Nat) : Int) = 2 * (t.size : Int) + 1 by omega] at P6
      refine signs_none a0 t x10 x13 a1 v 0 old k i w h0 h255 hi h40 hv ht hts h10 h13 s10 s13 ?_ P1 P2 P3 P4 P5 P6 P7 P8 P9 P10
      intro b hb q
      rw [Lib.toList_data, hc1'] at q
      injection q with q _
      subst q
      apply hs
      simp only [List.mem_cons, List.not_mem_nil, or_false] at hb
      rcases hb with rfl | rfl | rfl | rfl | rfl <;> rfl

def targumlaw20_PlainSigns.f (a0 : ByteArray) (a1 : Int) (a2 a3 : Bool) : Option Bool := if 0 ≤ a1 ∧ a1 ≤ 255 then some true else none
theorem targumlaw20_PlainSigns.calls (a0 : ByteArray) (a1 : Int) (a2 : Bool) (a3 : Bool) (r : Bool) (w : World) (h : targumlaw20_PlainSigns.f a0 a1 a2 a3 = some r) :
    Calls Tryd.prog 6 #[.string a0, .int .u8 a1, .bool a2, .bool a3] w fun e w' => e = .returned (.bool r) ∧ Below w.heap.size w w' := by
  unfold targumlaw20_PlainSigns.f at h
  split at h
  · rename_i hb
    cases h
    by_cases h40 : 40 < a0.size
    · exact signs_long a0 a1 a2 a3 w h40
    · obtain ⟨t, ht, hts, ht0, htl⟩ := letters_some a0 (by omega) 100 (by omega)
      obtain ⟨v, hv⟩ : ∃ v, targumhelp_Version.f a3 = some v := by unfold targumhelp_Version.f; cases a3 <;> simp
      exact signs_all a0 t a1 v a2 a3 100 w hb.1 hb.2 (by omega) hv ht (by omega) ht0 htl
  · cases h
end Go.Proofs.YtmfjdlmhejabiaaDoor.PL
