/- Plain laws on plain texts, sign by sign: which begin one, which may stand within. -/
import Derived.Test.YtmfjdlmhejabiaaDoorM5
import Derived.Test.YtmfjdlmhejabiaaDoorX5i
namespace Go.Proofs.YtmfjdlmhejabiaaDoor.M
open Go.RowKit Go.Proofs.Tg Go.Proofs.YtmfjdlmhejabiaaDoor.X Go.Proofs.YtmfjdlmhejabiaaDoor.PL Go.Proofs.YtmfjdlmhejabiaaDoorW.PrintWords
set_option linter.unusedVariables false
set_option linter.unusedSimpArgs false

theorem brk_other (old : Bool) (c : UInt8) (l : List UInt8) (h1 : c ≠ 226) (h2 : c ≠ 194) (h3 : c ≠ 13) (h4 : c ≠ 10) : brk old (c :: l) = 0 := by
  have g1 := h1.symm; have g2 := h2.symm; have g3 := h3.symm
  unfold brk
  simp [List.isPrefixOf, g1, g2, g3, h3, h4]
theorem low_sign {c : UInt8} (h : low c) : flowSign c = false := by
  have h1 := low_ne h 44 (by decide); have h2 := low_ne h 91 (by decide); have h3 := low_ne h 93 (by decide); have h4 := low_ne h 123 (by decide); have h5 := low_ne h 125 (by decide)
  unfold flowSign; simp [h1, h2, h3, h4, h5]
theorem ends_wordF (old flow : Bool) : ∀ (w : List UInt8) (p : Bool) (cur e : Nat) (t : List UInt8), (∀ c ∈ w, low c) → w ≠ [] →
    ends old flow p cur e (w ++ t) = ends old flow false (cur + w.length) (cur + w.length) t
  | [], _, _, _, _, _, h => absurd rfl h
  | c :: w, p, cur, e, t, hw, _ => by
    have hc : low c := hw c (by simp)
    have h1 := low_ne hc 35 (by decide); have h2 := low_ne hc 58 (by decide)
    rw [List.cons_append, ends, low_brk hc, if_neg (by omega), if_neg (fun h => h1 h.1), if_neg (fun h => h2 h.1), low_bl hc, if_neg (by decide), low_sign hc, if_neg (by simp)]
    cases w with
    | nil => simp
    | cons d w =>
      rw [ends_wordF old flow (d :: w) false (cur + 1) (cur + 1) t (fun x hx => hw x (by simp [List.mem_cons] at hx ⊢; exact .inr hx)) (by simp)]
      simp only [List.length_cons]
      rw [show cur + 1 + (w.length + 1) = cur + (w.length + 1 + 1) by omega]

/-- Where the part ends that a text begins with; -1: none. -/
def partL (old flow : Bool) (l : List UInt8) : Int := if opens old flow l = true then (ends old flow false 0 0 l : Nat) else -1
theorem partI_L (v : Int) (s : ByteArray) (flow : Bool) : partI v s 0 flow = partL (decide (v = 11)) flow s.data.toList := by
  unfold partI partL
  rw [if_neg (by decide)]; rfl

theorem stop_low (old flow : Bool) {c : UInt8} (h : low c) (l : List UInt8) : stop old flow (c :: l) = false := by
  simp [stop, low_bl h, low_brk h, low_sign h]
theorem opens_low (old flow : Bool) {c : UInt8} (hc : low c) (l : List UInt8) : opens old flow (c :: l) = true := by
  have hn : ¬ c ∈ neverL := fun hm => by
    have : ∀ d ∈ neverL, ¬ low d := by decide
    exact this c hm hc
  have hm : ¬ c ∈ ([45, 63, 58] : List UInt8) := fun hm => by
    have : ∀ d ∈ ([45, 63, 58] : List UInt8), ¬ low d := by decide
    exact this c hm hc
  rw [opens, stop_low old false hc]
  simp [hn, hm]

theorem sg1 (old flow : Bool) (w : List UInt8) (c : UInt8) (hc : c ∈ neverL) : partL old flow (c :: w) = -1 := by
  unfold partL
  rw [if_neg]
  simp [opens, hc]
theorem d_facts (old : Bool) (d : UInt8) (hd : d ∈ ([45, 63, 58] : List UInt8)) (l : List UInt8) : stop old false (d :: l) = false ∧ ¬ d ∈ neverL ∧ brk old (d :: l) = 0 ∧ isBl d = false ∧ d ≠ 35 ∧ flowSign d = false := by
  simp only [List.mem_cons, List.not_mem_nil, or_false] at hd
  have hb : brk old (d :: l) = 0 := by
    rcases hd with rfl | rfl | rfl <;> exact brk_other old _ l (by decide) (by decide) (by decide) (by decide)
  have hbl : isBl d = false := by rcases hd with rfl | rfl | rfl <;> decide
  have hs : flowSign d = false := by rcases hd with rfl | rfl | rfl <;> decide
  refine ⟨by simp [stop, hb, hbl, hs], by rcases hd with rfl | rfl | rfl <;> decide, hb, hbl, by rcases hd with rfl | rfl | rfl <;> decide, hs⟩
theorem d_opens (old flow : Bool) (d : UInt8) (hd : d ∈ ([45, 63, 58] : List UInt8)) (l : List UInt8) : opens old flow (d :: l) = !(stop old flow l) := by
  obtain ⟨g1, g2, _⟩ := d_facts old d hd l
  rw [opens, g1]
  simp [g2, hd]
theorem sg3 (old flow : Bool) (w : List UInt8) (d : UInt8) (hd : d ∈ ([45, 63, 58] : List UInt8)) : partL old flow (d :: 32 :: w) = -1 := by
  have hs : stop old flow (32 :: w) = true := by simp [stop, isBl]
  unfold partL
  rw [d_opens old flow d hd, hs, Bool.not_true, if_neg (by decide)]
theorem sg4 (old flow : Bool) (d : UInt8) (hd : d ∈ ([45, 63, 58] : List UInt8)) : partL old flow [d] = -1 := by
  unfold partL
  rw [d_opens old flow d hd, show stop old flow [] = true from rfl, Bool.not_true, if_neg (by decide)]
theorem sg5 (old flow : Bool) (w : List UInt8) (d : UInt8) (hd : d ∈ ([45, 63, 58] : List UInt8)) : (partL old flow (d :: 93 :: w) == -1) = flow := by
  have hb : brk old (93 :: w) = 0 := brk_other old 93 w (by decide) (by decide) (by decide) (by decide)
  have hs : stop old flow (93 :: w) = flow := by
    rw [stop, hb, show isBl 93 = false from rfl, show flowSign 93 = true from rfl]; simp
  unfold partL
  rw [d_opens old flow d hd, hs]
  cases flow
  · rw [Bool.not_false, if_pos rfl, beq_eq_false_iff_ne]; omega
  · rw [Bool.not_true, if_neg (by decide)]; rfl
section
variable (old flow : Bool) (w : List UInt8) (hw : ∀ c ∈ w, low c) (h0 : w ≠ []) (c d : UInt8) (hc : c ∈ neverL) (hd : d ∈ ([45, 63, 58] : List UInt8))
include hw h0

theorem word_opens (t : List UInt8) : opens old flow (w ++ t) = true := by
  cases w with
  | nil => exact absurd rfl h0
  | cons a w => exact opens_low old flow (hw a (by simp)) _
theorem word_part (t : List UInt8) : partL old flow (w ++ t) = (ends old flow false w.length w.length t : Nat) := by
  unfold partL
  rw [if_pos (word_opens old flow w hw h0 t), ends_wordF old flow w false 0 0 t hw h0, Nat.zero_add]
theorem word_stop (t : List UInt8) : stop old flow (w ++ t) = false := by
  cases w with
  | nil => exact absurd rfl h0
  | cons a w => exact stop_low old flow (hw a (by simp)) _
theorem word_end (p : Bool) (cur e : Nat) : ends old flow p cur e w = cur + w.length := by
  have := ends_wordF old flow w p cur e [] hw h0
  rw [List.append_nil] at this
  rw [this, ends]

include hd in
theorem sg2 : partL old flow (d :: w) = (w.length + 1 : Nat) := by
  obtain ⟨_, _, g3, g4, g5, g6⟩ := d_facts old d hd w
  have hs := word_stop old flow w hw h0 []
  rw [List.append_nil] at hs
  unfold partL
  rw [d_opens old flow d hd w, hs, Bool.not_false, if_pos rfl, ends, if_neg (by omega), if_neg (fun q => g5 q.1), if_neg (fun q => by rw [hs] at q; exact absurd q.2 (by decide)), if_neg (by rw [g4]; decide), if_neg (fun q => by rw [g6] at q; exact absurd q.2 (by decide)), word_end old flow w hw h0, Nat.zero_add, Nat.add_comm]
include hc in
theorem sg6 : partL old flow (w ++ c :: w) = ((if flow = true ∧ flowSign c = true then w.length else 2 * w.length + 1 : Nat) : Int) := by
  have hall : ∀ x ∈ neverL, x ≠ 226 ∧ x ≠ 194 ∧ x ≠ 13 ∧ x ≠ 10 ∧ x ≠ 58 ∧ isBl x = false := by decide
  obtain ⟨q1, q2, q3, q4, q5, q6⟩ := hall c hc
  rw [word_part old flow w hw h0, ends, brk_other old c w q1 q2 q3 q4, if_neg (by omega), if_neg (fun q => absurd q.2 (by decide)), if_neg (fun q => q5 q.1), if_neg (by rw [q6]; decide)]
  split
  · rfl
  · rw [word_end old flow w hw h0]; congr 1; omega
theorem sg7 : partL old flow (w ++ (32 :: (w ++ (32 :: 35 :: w)))) = ((2 * w.length + 1 : Nat) : Int) := by
  rw [word_part old flow w hw h0, ends, brk_sp, if_neg (by omega), if_neg (fun q => absurd q.2 (by decide)), if_neg (fun q => absurd q.1 (by decide)), if_pos (by decide), ends_wordF old flow w _ _ _ _ hw h0, ends, brk_sp, if_neg (by omega), if_neg (fun q => absurd q.2 (by decide)), if_neg (fun q => absurd q.1 (by decide)), if_pos (by decide), ends,
    brk_other old 35 w (by decide) (by decide) (by decide) (by decide), if_neg (by omega), if_pos ⟨rfl, rfl⟩]
  congr 1; omega
theorem sg8 : partL old flow (w ++ 58 :: w) = ((2 * w.length + 1 : Nat) : Int) := by
  have hs := word_stop old flow w hw h0 []
  rw [List.append_nil] at hs
  rw [word_part old flow w hw h0, ends, brk_other old 58 w (by decide) (by decide) (by decide) (by decide), if_neg (by omega), if_neg (fun q => absurd q.2 (by decide)), if_neg (fun q => by rw [hs] at q; exact absurd q.2 (by decide)), if_neg (by decide), if_neg (fun q => absurd q.2 (by decide)), word_end old flow w hw h0]
  congr 1; omega
theorem sg9 : partL old flow (w ++ (32 :: 58 :: 32 :: w)) = (w.length : Int) := by
  rw [word_part old flow w hw h0, ends, brk_sp, if_neg (by omega), if_neg (fun q => absurd q.2 (by decide)), if_neg (fun q => absurd q.1 (by decide)), if_pos (by decide), ends, brk_other old 58 _ (by decide) (by decide) (by decide) (by decide), if_neg (by omega), if_neg (fun q => absurd q.1 (by decide)), if_pos ⟨rfl, by simp [stop, isBl]⟩]
theorem sg10 : partL old flow (w ++ [58, 10]) = (w.length : Int) := by
  rw [word_part old flow w hw h0, ends, brk_other old 58 _ (by decide) (by decide) (by decide) (by decide), if_neg (by omega), if_neg (fun q => absurd q.2 (by decide)), if_pos ⟨rfl, by simp [stop, brk_lf]⟩]
end

theorem never_at (i : Nat) (h : i < 16) : ∃ c, ((⟨#[44, 91, 93, 123, 125, 35, 38, 42, 33, 124, 62, 39, 34, 37, 64, 96]⟩ : ByteArray).extract i (i + 1)).data.toList = [c] ∧ c ∈ neverL := by
  have key : ∀ i : Fin 16, ((⟨#[44, 91, 93, 123, 125, 35, 38, 42, 33, 124, 62, 39, 34, 37, 64, 96]⟩ : ByteArray).extract i.val (i.val + 1)).data.toList = [neverL.getD i.val 0] ∧ neverL.getD i.val 0 ∈ neverL := by decide +kernel
  exact ⟨_, key ⟨i, h⟩⟩
theorem first_at (i : Nat) (h : i < 3) : ∃ d, (pickS ([(⟨#[45]⟩ : ByteArray), (⟨#[63]⟩ : ByteArray), (⟨#[58]⟩ : ByteArray)] : List ByteArray) i).data.toList = [d] ∧ d ∈ ([45, 63, 58] : List UInt8) := by
  match i, h with
  | 0, _ => exact ⟨45, rfl, by decide⟩
  | 1, _ => exact ⟨63, rfl, by decide⟩
  | 2, _ => exact ⟨58, rfl, by decide⟩

end Go.Proofs.YtmfjdlmhejabiaaDoor.M
