/- PlainFolds, in plain words: parts on lines of their own are folded as they are laid. -/
import Derived.Test.YtmfjdlmhejabiaaDoorM5
import Derived.Test.YtmfjdlmhejabiaaDoorPLx2
import Derived.OpenShut
namespace Go.Proofs.YtmfjdlmhejabiaaDoor.Pure
open Go.RowKit Go.Proofs.Tg Go.Proofs.YtmfjdlmhejabiaaDoor.X Go.Proofs.YtmfjdlmhejabiaaDoor.PL Go.Proofs.YtmfjdlmhejabiaaDoor.M Go.Proofs.YtmfjdlmhejabiaaDoorW.PrintWords
set_option linter.unusedVariables false
set_option linter.unusedSimpArgs false

def good (p : Int) (r : List (Nat × Nat × List UInt8)) : Prop := ∀ x ∈ r, p < (x.2.1 : Int) ∧ x.2.2 ≠ [] ∧ ∀ c ∈ x.2.2, low c

theorem read_of (v : Int) (s : ByteArray) (p : Int) (w : List UInt8) (r : List (Nat × Nat × List UInt8)) (t : List UInt8) (ht : stops t) (hw0 : w ≠ []) (hw : ∀ c ∈ w, low c) (hr : good p r)
    (hs : s.size ≤ 100000) (h : s.data.toList = w ++ (linesL r ++ t)) : plain_Read.f v s 0 p = some (⟨(w ++ saysL r).toArray⟩, ((w ++ linesL r).length : Int)) := by
  unfold plain_Read.f
  rw [if_pos (by omega), readI_lines v s p w r t ht hw0 hw hr h]

theorem last (v : Int) (hv : v = 11 ∨ v = 12) (p : Int) (s t : ByteArray) (w : List UInt8) (r : List (Nat × Nat × List UInt8)) (hw0 : w ≠ []) (hw : ∀ c ∈ w, low c) (hr : good p r)
    (hs : s.size ≤ 10000) (h : s.data.toList = w ++ linesL r) (ht : t.data.toList = w ++ saysL r) :
    ((plain_Read.f v s 0 p).bind fun bt129 => (if s.size + 8 ≤ 9223372036854775807 then ((plain_Read.f v (s ++ (⟨#[10, 35, 32, 120, 10, 32, 32, 121]⟩ : ByteArray)) 0 p).bind fun bt131 => (if s.size + 22 ≤ 9223372036854775807 then ((plain_Read.f v (s ++ (⟨#[32, 35, 32, 120, 10, 32, 32, 32, 32, 32, 32, 32, 32, 32, 32, 32, 32, 32, 32, 32, 32, 121]⟩ : ByteArray)) 0 p).bind fun bt133 => (if s.size + 5 ≤ 9223372036854775807 then ((plain_Read.f v (s ++ (⟨#[10, 46, 46, 46, 10]⟩ : ByteArray)) 0 p).bind fun bt135 => (if bt129.1.toList = t.toList then (if bt129.2 = (s.size : Int) then (if bt131.1.toList = t.toList then (if bt131.2 = bt129.2 then (if bt133.1.toList = t.toList then (if bt133.2 = bt129.2 then (if bt135.1.toList = t.toList then (some (bt135.2 == bt129.2)) else (some false)) else (some false)) else (some false)) else (some false)) else (some false)) else (some false)) else (some false))) else (none))) else (none))) else (none))) = some true := by
  have e1 := read_of v s p w r [] (.inl rfl) hw0 hw hr (by omega) (by rw [h]; simp)
  have e2 := read_of v (s ++ (⟨#[10, 35, 32, 120, 10, 32, 32, 121]⟩ : ByteArray)) p w r _ (.inr (.inr (.inl ⟨_, rfl⟩))) hw0 hw hr (by rw [ByteArray.size_append]; show s.size + 8 ≤ _; omega)
    (show _ = w ++ (linesL r ++ (10 :: 35 :: [32, 120, 10, 32, 32, 121])) by simp [h])
  have e3 := read_of v (s ++ (⟨#[32, 35, 32, 120, 10, 32, 32, 32, 32, 32, 32, 32, 32, 32, 32, 32, 32, 32, 32, 32, 32, 121]⟩ : ByteArray)) p w r _ (.inr (.inl ⟨_, rfl⟩)) hw0 hw hr (by rw [ByteArray.size_append]; show s.size + 22 ≤ _; omega)
    (show _ = w ++ (linesL r ++ (32 :: 35 :: [32, 120, 10, 32, 32, 32, 32, 32, 32, 32, 32, 32, 32, 32, 32, 32, 32, 32, 32, 121])) by simp [h])
  have e4 := read_of v (s ++ (⟨#[10, 46, 46, 46, 10]⟩ : ByteArray)) p w r _ (.inr (.inr (.inr rfl))) hw0 hw hr (by rw [ByteArray.size_append]; show s.size + 5 ≤ _; omega)
    (by simp [h])
  have hsz : ((w ++ linesL r).length : Int) = (s.size : Int) := by rw [← h]; rfl
  have htl : (⟨(w ++ saysL r).toArray⟩ : ByteArray).toList = t.toList := by
    rw [Lib.toList_data, Lib.toList_data, ht]
  rw [e1, e2, e3, e4]
  simp only [Option.bind_some]
  rw [if_pos (by omega), if_pos (by omega), if_pos (by omega), if_pos htl, if_pos hsz]
  simp [htl]

theorem wrapS (i : Int) (h0 : -9223372036854775808 ≤ i) (h1 : i ≤ 9223372036854775807) : wrap64 i = i := by unfold wrap64; omega

section
variable (l0 : List ByteArray) (l1 l2 : List Int) (a4 : Bool) (P : Int)

/-- Spaces ahead of a word, the word, and on. -/
theorem ev_l2 (x13 : ByteArray) (i : Nat) (hi : i < l0.length) (hl8 : l0.length ≤ 8) (hi2 : i < l2.length) (wd : ByteArray) (hsz : (rdOf ByteArray.empty l0 (i : Int)).size ≤ 30)
    (D : Nat) (hD : wrap64 ((wrap64 (P + 1)) + (wrap64 (Int.tmod (rd l2 (i : Int)) 4))) = (D : Int)) (hwd : ∀ k, 31 < k → targumlaw20_letters.f k (rdOf ByteArray.empty l0 (i : Int)) = some wd)
    (hws : wd.size ≤ 31) (h13 : x13.size ≤ 10000) (hDD : D ≤ 100) :
    ∀ (d j : Nat) (x12 : ByteArray), d = D - j → j ≤ D → x12.size ≤ 9000 + j →
      (∀ y : ByteArray, y.data.toList = x12.data.toList ++ List.replicate d 32 → Ev (fun k => targumlaw20_PlainFolds.l0 k l0 l1 l2 a4 P (y ++ wd) (x13 ++ wd) ((i : Int) + 1)) true) →
      Ev (fun k => targumlaw20_PlainFolds.l2 k l0 l1 l2 a4 P x12 x13 i (j : Int)) true := by
  intro d
  induction d with
  | zero =>
    intro j x12 hd hj hx hk
    have hk' := hk x12 (by simp)
    obtain ⟨K, hK⟩ := hk'
    refine ⟨K + 40, fun k hk2 => ?_⟩
    obtain ⟨k, rfl⟩ : ∃ q, k = q + 1 := ⟨k - 1, by omega⟩
    simp only [targumlaw20_PlainFolds.l2]
    rw [if_pos (by omega), if_pos (by omega), hD, if_neg (by omega), if_pos (by omega), hwd k (by omega)]
    simp only [Option.bind_some]
    rw [if_pos (by omega), if_pos (by omega), wrapS _ (by omega) (by omega)]
    exact hK k (by omega)
  | succ d ih =>
    intro j x12 hd hj hx hk
    obtain ⟨K, hK⟩ := ih (j + 1) (x12 ++ (⟨#[32]⟩ : ByteArray)) (by omega) (by omega) (by rw [ByteArray.size_append]; show x12.size + 1 ≤ _; omega)
      (fun y hy => hk y (by rw [hy]; simp [List.replicate_succ]))
    refine ⟨K + 1, fun k hk2 => ?_⟩
    obtain ⟨k, rfl⟩ : ∃ q, k = q + 1 := ⟨k - 1, by omega⟩
    simp only [targumlaw20_PlainFolds.l2]
    rw [if_pos (by omega), if_pos (by omega), hD, if_pos (by omega), if_pos (by omega), wrapS _ (by omega) (by omega)]
    exact hK k (by omega)

/-- Blank lines ahead of that. -/
theorem ev_l1 (i : Nat) (hi : i < l0.length) (hl8 : l0.length ≤ 8) (g : Nat) (hg : g ≤ 3) :
    ∀ (d j : Nat) (x12 x13 : ByteArray), d = g - j → j ≤ g → x12.size ≤ 8000 + 2 * j → x13.size ≤ 8000 + j →
      (∀ y z : ByteArray, y.data.toList = x12.data.toList ++ tabsL d → z.data.toList = x13.data.toList ++ List.replicate d 10 ++ (if g = 0 then [32] else []) →
        Ev (fun k => targumlaw20_PlainFolds.l2 k l0 l1 l2 a4 P y z i 0) true) →
      Ev (fun k => targumlaw20_PlainFolds.l1 k l0 l1 l2 a4 P x12 x13 i (g : Int) (j : Int)) true := by
  intro d
  induction d with
  | zero =>
    intro j x12 x13 hd hj hx hy hk
    by_cases h0 : g = 0
    · obtain ⟨K, hK⟩ := hk x12 (x13 ++ (⟨#[32]⟩ : ByteArray)) (by simp [tabsL]) (by simp [h0])
      refine ⟨K + 2, fun k hk2 => ?_⟩
      obtain ⟨k, rfl⟩ : ∃ q, k = q + 1 + 1 := ⟨k - 2, by omega⟩
      simp only [targumlaw20_PlainFolds.l1]
      rw [if_neg (by omega), if_pos (by omega), if_pos (by omega)]
      simp only [targumlaw20_PlainFolds.j3]
      exact hK k (by omega)
    · obtain ⟨K, hK⟩ := hk x12 x13 (by simp [tabsL]) (by simp [h0])
      refine ⟨K + 2, fun k hk2 => ?_⟩
      obtain ⟨k, rfl⟩ : ∃ q, k = q + 1 + 1 := ⟨k - 2, by omega⟩
      simp only [targumlaw20_PlainFolds.l1]
      rw [if_neg (by omega), if_neg (by omega)]
      simp only [targumlaw20_PlainFolds.j3]
      exact hK k (by omega)
  | succ d ih =>
    intro j x12 x13 hd hj hx hy hk
    obtain ⟨K, hK⟩ := ih (j + 1) (x12 ++ (⟨#[9, 10]⟩ : ByteArray)) (x13 ++ (⟨#[10]⟩ : ByteArray)) (by omega) (by omega) (by rw [ByteArray.size_append]; show x12.size + 2 ≤ _; omega) (by rw [ByteArray.size_append]; show x13.size + 1 ≤ _; omega)
      (fun y z hy hz => hk y z (by rw [hy]; simp [tabsL]) (by rw [hz]; simp [List.replicate_succ]))
    refine ⟨K + 1, fun k hk2 => ?_⟩
    obtain ⟨k, rfl⟩ : ∃ q, k = q + 1 := ⟨k - 1, by omega⟩
    simp only [targumlaw20_PlainFolds.l1]
    rw [if_pos (by omega), if_pos (by omega), if_pos (by omega), wrapS _ (by omega) (by omega)]
    exact hK k (by omega)
end
theorem linesL_append : ∀ r s : List (Nat × Nat × List UInt8), linesL (r ++ s) = linesL r ++ linesL s
  | [], s => rfl
  | (g, d, w) :: r, s => by simp [linesL, linesL_append r s]
theorem saysL_append : ∀ r s : List (Nat × Nat × List UInt8), saysL (r ++ s) = saysL r ++ saysL s
  | [], s => rfl
  | (g, d, w) :: r, s => by simp [saysL, saysL_append r s]
theorem folded_of (g : Nat) : foldedL (g + 1) = List.replicate g 10 ++ (if g = 0 then [32] else []) := by
  unfold foldedL
  by_cases h : g = 0
  · subst h; rfl
  · rw [if_neg (by omega), if_neg h]; simp

theorem size_of_list (x : ByteArray) : x.size = x.data.toList.length := rfl

theorem ev_l0 (l0 : List ByteArray) (l1 l2 : List Int) (a4 : Bool) (P : Int) (hP : -1 ≤ P ∧ P ≤ 3) (hl8 : l0.length ≤ 8) (hl0 : 1 ≤ l0.length) (h1 : l0.length ≤ l1.length) (h2 : l0.length ≤ l2.length)
    (hr1 : ∀ i, 0 ≤ rd l1 i ∧ rd l1 i ≤ 255) (hr2 : ∀ i, 0 ≤ rd l2 i ∧ rd l2 i ≤ 255) :
    ∀ (n i : Nat) (x12 x13 : ByteArray), n = l0.length - i → i ≤ l0.length → x12.size ≤ 200 * i → x13.size ≤ 200 * i →
      ((i = 0 ∧ x12.data.toList = [] ∧ x13.data.toList = []) ∨ (∃ w r, 0 < i ∧ w ≠ [] ∧ (∀ c ∈ w, low c) ∧ good P r ∧ x12.data.toList = w ++ linesL r ∧ x13.data.toList = w ++ saysL r)) →
      Ev (fun k => targumlaw20_PlainFolds.l0 k l0 l1 l2 a4 P x12 x13 (i : Int)) true := by
  intro n
  induction n with
  | zero =>
    intro i x12 x13 hn hi hx hy hst
    rcases hst with ⟨rfl, _⟩ | ⟨w, r, _, hw0, hw, hr, e12, e13⟩
    · omega
    · refine ⟨1, fun k hk => ?_⟩
      obtain ⟨k, rfl⟩ : ∃ q, k = q + 1 := ⟨k - 1, by omega⟩
      simp only [targumlaw20_PlainFolds.l0]
      rw [if_neg (by omega)]
      have hv : ∃ v, targumhelp_Version.f a4 = some v ∧ (v = 11 ∨ v = 12) := by unfold targumhelp_Version.f; cases a4 <;> simp
      obtain ⟨v, hv, hv2⟩ := hv
      rw [hv]
      exact last v hv2 P x12 x13 w r hw0 hw hr (by omega) e12 e13
  | succ n ih =>
    intro i x12 x13 hn hi hx hy hst
    have hlt : i < l0.length := by omega
    by_cases hbig : ((rdOf ByteArray.empty l0 (i : Int)).size : Int) > 30
    · refine ⟨1, fun k hk => ?_⟩
      obtain ⟨k, rfl⟩ : ∃ q, k = q + 1 := ⟨k - 1, by omega⟩
      simp only [targumlaw20_PlainFolds.l0]
      rw [if_pos (by omega), if_pos (by omega), if_pos hbig]
    · have hsz : (rdOf ByteArray.empty l0 (i : Int)).size ≤ 30 := by omega
      obtain ⟨wd, _, hws, hwd0, hwl⟩ := letters_some (rdOf ByteArray.empty l0 (i : Int)) (by omega) 32 (by omega)
      have hwd : ∀ k, 31 < k → targumlaw20_letters.f k (rdOf ByteArray.empty l0 (i : Int)) = some wd := fun k hk => at_rounds (targumlaw20_letters.mono _) (show 32 ≤ k by omega) (by assumption)
      rcases hst with ⟨rfl, e12, e13⟩ | ⟨w, r, hi0, hw0, hw, hr, e12, e13⟩
      · obtain ⟨K, hK⟩ := ih 1 (x12 ++ wd) (x13 ++ wd) (by omega) (by omega) (by rw [ByteArray.size_append]; omega) (by rw [ByteArray.size_append]; omega)
          (.inr ⟨wd.data.toList, [], by omega, hwd0, hwl, (fun x hx => by cases hx), by simp [e12, linesL], by simp [e13, saysL]⟩)
        refine ⟨K + 40, fun k hk => ?_⟩
        obtain ⟨k, rfl⟩ : ∃ q, k = q + 1 := ⟨k - 1, by omega⟩
        simp only [targumlaw20_PlainFolds.l0]
        rw [if_pos (by omega), if_pos (by omega), if_neg hbig, if_neg (by omega), hwd k (by omega)]
        simp only [Option.bind_some]
        rw [if_pos (by omega), if_pos (by omega), wrapS _ (by omega) (by omega)]
        exact hK k (by omega)
      · have g1 := hr1 (i : Int)
        have g2 := hr2 (i : Int)
        obtain ⟨g, hg⟩ : ∃ g : Nat, Int.tmod (rd l1 (i : Int)) 4 = (g : Int) := ⟨(Int.tmod (rd l1 (i : Int)) 4).toNat, by rw [Int.tmod_eq_emod_of_nonneg g1.1]; omega⟩
        obtain ⟨d, hd⟩ : ∃ d : Nat, Int.tmod (rd l2 (i : Int)) 4 = (d : Int) := ⟨(Int.tmod (rd l2 (i : Int)) 4).toNat, by rw [Int.tmod_eq_emod_of_nonneg g2.1]; omega⟩
        have hg3 : g ≤ 3 := by rw [Int.tmod_eq_emod_of_nonneg g1.1] at hg; omega
        have hd3 : d ≤ 3 := by rw [Int.tmod_eq_emod_of_nonneg g2.1] at hd; omega
        obtain ⟨D, hD⟩ : ∃ D : Nat, P + 1 + (d : Int) = (D : Int) := ⟨(P + 1 + d).toNat, by omega⟩
        have hDw : wrap64 ((wrap64 (P + 1)) + (wrap64 (Int.tmod (rd l2 (i : Int)) 4))) = (D : Int) := by
          rw [hd, wrapS (P + 1) (by omega) (by omega), wrapS (d : Int) (by omega) (by omega), wrapS _ (by omega) (by omega)]; exact hD
        have E1 : Ev (fun k => targumlaw20_PlainFolds.l1 k l0 l1 l2 a4 P (x12 ++ (⟨#[32, 10]⟩ : ByteArray)) x13 i (g : Int) ((0 : Nat) : Int)) true := by
          refine ev_l1 l0 l1 l2 a4 P i hlt hl8 g hg3 g 0 _ _ rfl (Nat.zero_le _) (by rw [ByteArray.size_append]; show x12.size + 2 ≤ _; omega) (by omega) ?_
          intro y z hy hz
          have hys : y.size ≤ 200 * i + 8 := by rw [size_of_list, hy]; simp [tabsL_len]; have : x12.data.size = x12.size := rfl; omega
          have hzs : z.size ≤ 200 * i + 4 := by rw [size_of_list, hz]; have : x13.data.size = x13.size := rfl; split <;> simp <;> omega
          refine ev_l2 l0 l1 l2 a4 P z i hlt hl8 (by omega) wd hsz D hDw hwd (by omega) (by omega) (by omega) D 0 y rfl (Nat.zero_le _) (by omega) ?_
          intro y2 hy2
          have hys2 : y2.size ≤ 200 * i + 8 + D := by rw [size_of_list, hy2]; simp; have : y.data.size = y.size := rfl; omega
          have := ih (i + 1) (y2 ++ wd) (z ++ wd) (by omega) (by omega) (by rw [ByteArray.size_append]; omega) (by rw [ByteArray.size_append]; omega)
            (.inr ⟨w, r ++ [(g, D, wd.data.toList)], by omega, hw0, hw, by
              intro x hx
              rw [List.mem_append] at hx
              rcases hx with hx | hx
              · exact hr x hx
              · simp at hx; subst hx; exact ⟨by dsimp only; omega, hwd0, hwl⟩, by
              simp [hy2, hy, e12, linesL_append, linesL], by
              simp [hz, e13, saysL_append, saysL, folded_of]⟩)
          exact this
        obtain ⟨K, hK⟩ := E1
        refine ⟨K + 40, fun k hk => ?_⟩
        obtain ⟨k, rfl⟩ : ∃ q, k = q + 1 := ⟨k - 1, by omega⟩
        simp only [targumlaw20_PlainFolds.l0]
        rw [if_pos (by omega), if_pos (by omega), if_neg hbig, if_pos (by omega), if_pos (by omega), if_pos (by omega), hg, wrapS _ (by omega) (by omega)]
        exact hK k (by omega)

theorem rd_u8 (l : List Int) (h : ∀ x ∈ l, (Lit.int .u8 x).wf = true) (i : Int) : 0 ≤ rd l i ∧ rd l i ≤ 255 := by
  unfold rd
  rw [List.getD_eq_getElem?_getD]
  by_cases hi : i.toNat < l.length
  · rw [List.getElem?_eq_getElem hi]
    have := h _ (List.getElem_mem hi)
    have hb := bounds_u8 this
    simp only [Option.getD_some]
    omega
  · rw [List.getElem?_eq_none (by omega)]; simp

theorem PlainFolds : ∀ (l0 : List ByteArray) (l1 : List Int) (l2 : List Int) (a3 : Int) (a4 : Bool), l0.length ≤ maxLen → l1.length ≤ maxLen → (∀ x ∈ l1, (Lit.int .u8 x).wf = true) → l2.length ≤ maxLen → (∀ x ∈ l2, (Lit.int .u8 x).wf = true) → (Lit.int .u8 a3).wf = true → ∃ k, Go.Proofs.YtmfjdlmhejabiaaDoor.PL.targumlaw20_PlainFolds.f k l0 l1 l2 a3 a4 = some true := by
  intro l0 l1 l2 a3 a4 _ _ h1 _ h2 h3
  have ha := rd_u8 [a3] (by simpa using h3) 0
  have ha3 : 0 ≤ a3 ∧ a3 ≤ 255 := by simpa [rd] using ha
  have hm : 0 ≤ Int.tmod a3 5 ∧ Int.tmod a3 5 ≤ 4 := by rw [Int.tmod_eq_emod_of_nonneg ha3.1]; omega
  have hj : ∀ k, targumlaw20_PlainFolds.j0 (k + 1) l0 l1 l2 a3 a4 true = some true := fun k => by simp [targumlaw20_PlainFolds.j0]
  unfold targumlaw20_PlainFolds.f
  rw [known20]
  simp only [Option.bind_some, if_true]
  by_cases c1 : (l0.length : Int) < 1
  · exact ⟨1, by rw [if_pos c1]; exact hj 0⟩
  · simp only [if_neg c1]
    by_cases c2 : (l0.length : Int) > 8
    · exact ⟨1, by rw [if_pos c2]; exact hj 0⟩
    · simp only [if_neg c2]
      by_cases c3 : (l1.length : Int) < (l0.length : Int)
      · exact ⟨1, by rw [if_pos c3]; exact hj 0⟩
      · simp only [if_neg c3]
        by_cases c4 : (l2.length : Int) < (l0.length : Int)
        · exact ⟨1, by rw [decide_eq_true c4]; exact hj 0⟩
        · obtain ⟨K, hK⟩ := ev_l0 l0 l1 l2 a4 (wrap64 ((wrap64 (Int.tmod a3 5)) - 1)) (by rw [wrapS (Int.tmod a3 5) (by omega) (by omega), wrapS _ (by omega) (by omega)]; omega) (by omega) (by omega) (by omega) (by omega) (rd_u8 l1 h1) (rd_u8 l2 h2)
            l0.length 0 ⟨#[]⟩ ⟨#[]⟩ (by omega) (by omega) (by decide) (by decide) (.inl ⟨rfl, rfl, rfl⟩)
          refine ⟨K + 1, ?_⟩
          rw [decide_eq_false c4]
          simp only [targumlaw20_PlainFolds.j0]
          rw [if_neg (by decide)]
          exact hK K (Nat.le_refl _)
end Go.Proofs.YtmfjdlmhejabiaaDoor.Pure
