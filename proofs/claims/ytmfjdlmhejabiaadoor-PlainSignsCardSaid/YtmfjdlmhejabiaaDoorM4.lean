/- Plain laws on plain texts: words of letters, where they end, how they go on. -/
import Derived.Test.YtmfjdlmhejabiaaDoorX4
namespace Go.Proofs.YtmfjdlmhejabiaaDoor.M
open Go.RowKit Go.Proofs.Tg Go.Proofs.YtmfjdlmhejabiaaDoor.X Go.Proofs.YtmfjdlmhejabiaaDoor.PB Go.Proofs.YtmfjdlmhejabiaaDoorW.PrintWords
set_option linter.unusedVariables false
set_option linter.unusedSimpArgs false

/-- A letter. -/
def low (c : UInt8) : Prop := 97 ≤ c.toNat ∧ c.toNat ≤ 122
instance (c : UInt8) : Decidable (low c) := by unfold low; exact inferInstance
theorem low_ne {c : UInt8} (h : low c) (d : UInt8) (hd : ¬ low d) : c ≠ d := by rintro rfl; exact hd h
theorem low_bl {c : UInt8} (h : low c) : isBl c = false := by
  have h1 := low_ne h 32 (by decide); have h2 := low_ne h 9 (by decide)
  unfold isBl; simp [h1, h2]
theorem low_brk {c : UInt8} (h : low c) (old : Bool) (l : List UInt8) : brk old (c :: l) = 0 := by
  have h1 := (low_ne h 226 (by decide)).symm; have h2 := (low_ne h 194 (by decide)).symm
  have h3 := (low_ne h 13 (by decide)).symm; have h4 := low_ne h 13 (by decide); have h5 := low_ne h 10 (by decide)
  unfold brk
  simp [List.isPrefixOf, h1, h2, h3, h4, h5]

theorem ends_word (old : Bool) : ∀ (w : List UInt8) (p : Bool) (cur e : Nat) (t : List UInt8), (∀ c ∈ w, low c) → w ≠ [] →
    ends old false p cur e (w ++ t) = ends old false false (cur + w.length) (cur + w.length) t
  | [], _, _, _, _, _, h => absurd rfl h
  | c :: w, p, cur, e, t, hw, _ => by
    have hc : low c := hw c (by simp)
    have h1 := low_ne hc 35 (by decide); have h2 := low_ne hc 58 (by decide)
    rw [List.cons_append, ends, low_brk hc, if_neg (by omega), if_neg (fun h => h1 h.1), if_neg (fun h => h2 h.1), low_bl hc, if_neg (by decide), if_neg (by simp)]
    cases w with
    | nil => simp
    | cons d w =>
      rw [ends_word old (d :: w) false (cur + 1) (cur + 1) t (fun x hx => hw x (by simp [List.mem_cons] at hx ⊢; exact .inr hx)) (by simp)]
      simp only [List.length_cons]
      rw [show cur + 1 + (w.length + 1) = cur + (w.length + 1 + 1) by omega]

/-- A tail at which a part ends. -/
theorem ends_tail0 (old p : Bool) (cur e : Nat) : ends old false p cur e [] = e := by rw [ends]
theorem ends_tail1 (old p : Bool) (cur e : Nat) (t : List UInt8) : ends old false p cur e (10 :: t) = e := by
  rw [ends, if_pos]
  unfold brk
  cases old <;> simp [List.isPrefixOf]
theorem brk_sp (old : Bool) (t : List UInt8) : brk old (32 :: t) = 0 := by unfold brk; simp [List.isPrefixOf]
theorem brk_tab (old : Bool) (t : List UInt8) : brk old (9 :: t) = 0 := by unfold brk; simp [List.isPrefixOf]
theorem brk_lf (old : Bool) (t : List UInt8) : brk old (10 :: t) = 1 := by unfold brk; simp [List.isPrefixOf]
theorem ends_tail2 (old p : Bool) (cur e : Nat) (t : List UInt8) : ends old false p cur e (32 :: 10 :: t) = e := by
  rw [ends, brk_sp, if_neg (by omega), if_neg (fun h => absurd h.1 (by decide)), if_neg (fun h => absurd h.1 (by decide)), if_pos (by decide), ends_tail1]
theorem ends_tail3 (old p : Bool) (cur e : Nat) (t : List UInt8) : ends old false p cur e (32 :: 35 :: t) = e := by
  rw [ends, brk_sp, if_neg (by omega), if_neg (fun h => absurd h.1 (by decide)), if_neg (fun h => absurd h.1 (by decide)), if_pos (by decide), ends]
  by_cases h : 0 < brk old (35 :: t)
  · rw [if_pos h]
  · rw [if_neg h, if_pos ⟨rfl, rfl⟩]

def tabsL : Nat → List UInt8
  | 0 => []
  | g + 1 => 9 :: 10 :: tabsL g
theorem tabsL_len : ∀ g, (tabsL g).length = 2 * g
  | 0 => rfl
  | g + 1 => by simp [tabsL, tabsL_len g]; omega

theorem lend_sp (old : Bool) : ∀ (d : Nat) (l : List UInt8), lend old (List.replicate d 32 ++ l) = d + lend old l
  | 0, l => by simp
  | d + 1, l => by rw [List.replicate_succ, List.cons_append, lend, brk_sp, if_pos rfl, lend_sp old d l]; omega
theorem nsp_sp : ∀ (d : Nat) (c : UInt8) (l : List UInt8), c ≠ 32 → nsp (List.replicate d 32 ++ c :: l) = d
  | 0, c, l, h => by simp [nsp, h]
  | d + 1, c, l, h => by rw [List.replicate_succ, List.cons_append, nsp, if_pos rfl, nsp_sp d c l h]
theorem nbl_sp : ∀ (d : Nat) (c : UInt8) (l : List UInt8), isBl c = false → nbl (List.replicate d 32 ++ c :: l) = d
  | 0, c, l, h => by simp [nbl, h]
  | d + 1, c, l, h => by rw [List.replicate_succ, List.cons_append, nbl, if_pos (by decide), nbl_sp d c l h]

theorem suf_lt {s : ByteArray} {n : Nat} {c : UInt8} {l : List UInt8} (h : suf s n = c :: l) : n < s.size := by
  have := suf_length s n; rw [h] at this; simp at this; omega
theorem suf_add {s : ByteArray} {n : Nat} {a b : List UInt8} (h : suf s n = a ++ b) : suf s (n + a.length) = b := by
  rw [← suf_drop, h, List.drop_left]

theorem onF_go (v : Int) (s : ByteArray) (p : Int) (d : Nat) (c : UInt8) (more : List UInt8) (hc : low c) (hp : p < (d : Int)) : ∀ (g k m nx : Nat), g < k →
    suf s nx = tabsL g ++ (List.replicate d 32 ++ c :: more) → onF v s p k m nx = (((nx + 2 * g + d : Nat) : Int), ((m + g : Nat) : Int)) := by
  intro g
  induction g with
  | zero =>
    intro k m nx hk h
    obtain ⟨k, rfl⟩ : ∃ q, k = q + 1 := ⟨k - 1, by omega⟩
    simp only [tabsL, List.nil_append] at h
    have hlt : nx < s.size := by
      have := suf_length s nx; rw [h] at this; simp at this; omega
    have hl : lText v s nx = List.replicate d 32 ++ c :: more.take (lend (decide (v = 11)) more) := by
      unfold lText
      rw [h, lend_sp, lend, low_brk hc, if_pos rfl]
      rw [show d + (lend (decide (v = 11)) more + 1) = (List.replicate d (32 : UInt8)).length + (lend (decide (v = 11)) more + 1) by simp, List.take_length_add_append]
      simp
    have hnb : nbl (suf s nx) = d := by rw [h, nbl_sp d c more (low_bl hc)]
    have hh : suf s (nx + d) = c :: more := by
      have := suf_add (a := List.replicate d 32) h
      rwa [List.length_replicate] at this
    rw [onF, if_neg (by omega), hl, if_neg, hnb, hh, nsp_sp d c _ (low_ne hc 32 (by decide)), if_neg]
    · simp
    · have h1 := low_ne hc 35 (by decide); have h2 := low_ne hc 58 (by decide)
      have hm : marker (List.replicate d 32 ++ c :: more.take (lend (decide (v = 11)) more)) = 0 := by
        have h3 := (low_ne hc 45 (by decide)).symm; have h4 := (low_ne hc 46 (by decide)).symm
        unfold marker
        split
        · rfl
        · cases d with
          | zero => simp [List.isPrefixOf, h3, h4]
          | succ d => simp [List.replicate_succ, List.isPrefixOf]
      rw [hm]
      simp [h1, h2]
      omega
    · simp [low_bl hc]
  | succ g ih =>
    intro k m nx hk h
    obtain ⟨k, rfl⟩ : ∃ q, k = q + 1 := ⟨k - 1, by omega⟩
    simp only [tabsL, List.cons_append] at h
    have hlt : nx < s.size := suf_lt h
    have h1 : suf s (nx + 1) = 10 :: (tabsL g ++ (List.replicate d 32 ++ c :: more)) := suf_add (a := [9]) h
    have h2 : suf s (nx + 2) = tabsL g ++ (List.replicate d 32 ++ c :: more) := suf_add (a := [9, 10]) h
    have hle : lend (decide (v = 11)) (suf s nx) = 1 := by
      rw [h, lend, brk_tab, if_pos rfl, lend, brk_lf, if_neg (by decide)]
    have hl : lText v s nx = [9] := by unfold lText; rw [hle, h]; rfl
    have hn : lNext v s nx = nx + 2 := by unfold lNext lEnd; rw [hle, h1, brk_lf]
    rw [onF, if_neg (by omega), hl, if_pos (by decide), hn, ih k (m + 1) (nx + 2) (by omega) h2]
    congr 1
    · congr 1; omega
    · congr 1; omega

/-- A text goes on, behind n blank lines, deeper than p. -/
theorem onT_go (v : Int) (s : ByteArray) (p : Int) (e g d : Nat) (c : UInt8) (more : List UInt8) (hc : low c) (hp : p < (d : Int))
    (h : suf s e = 32 :: 10 :: (tabsL g ++ (List.replicate d 32 ++ c :: more))) : onT v s p e = (((e + 2 + 2 * g + d : Nat) : Int), (g : Int)) := by
  have h1 : suf s (e + 1) = 10 :: (tabsL g ++ (List.replicate d 32 ++ c :: more)) := suf_add (a := [32]) h
  have h2 : suf s (e + 1 + 1) = tabsL g ++ (List.replicate d 32 ++ c :: more) := suf_add (a := [10]) h1
  have hnb : nbl (suf s e) = 1 := by rw [h, nbl, if_pos (by decide), nbl, if_neg (by decide)]
  have hl : lend (decide (v = 11)) (suf s (e + 1)) = 0 := by rw [h1, lend, brk_lf, if_neg (by decide)]
  have hn : lNext v s (e + 1) = e + 1 + 1 := by unfold lNext lEnd; rw [hl, Nat.add_zero, h1, brk_lf]
  have hsz : g < s.size + 1 := by
    have := suf_length s e; rw [h] at this; simp [tabsL_len] at this; omega
  unfold onT
  rw [hnb, hl, if_pos rfl, hn, onF_go v s p d c more hc hp g _ 0 _ hsz h2]
  congr 1
  · simp

/-- Where it doesn't go on: at the text's end; ahead of a remark; ahead of a line that begins with a remark; ahead of a marker. -/
def stops (t : List UInt8) : Prop := t = [] ∨ (∃ u, t = 32 :: 35 :: u) ∨ (∃ u, t = 10 :: 35 :: u) ∨ t = [10, 46, 46, 46, 10]
theorem onT_no (v : Int) (s : ByteArray) (p : Int) (e : Nat) (t : List UInt8) (ht : stops t) (h : suf s e = t) : (onT v s p e).1 = -1 := by
  unfold onT
  rcases ht with rfl | ⟨u, rfl⟩ | ⟨u, rfl⟩ | rfl
  · have hge : s.size ≤ e := by
      have := suf_length s e; rw [h] at this; simp at this; omega
    rw [h, nbl, Nat.add_zero, h, lend, if_pos rfl]
    have hn : lNext v s e = e := by unfold lNext lEnd; rw [h, lend, Nat.add_zero, h, brk_nil]; rfl
    rw [hn, onF, if_pos hge]
  · have h1 : suf s (e + 1) = 35 :: u := suf_add (a := [32]) h
    have hnb : nbl (suf s e) = 1 := by rw [h, nbl, if_pos (by decide), nbl, if_neg (by decide)]
    have hb : brk (decide (v = 11)) (35 :: u) = 0 := by unfold brk; simp [List.isPrefixOf]
    rw [hnb, h1, lend, if_pos hb, if_neg (by omega)]
  · have h1 : suf s (e + 1) = 35 :: u := suf_add (a := [10]) h
    have hnb : nbl (suf s e) = 0 := by rw [h, nbl, if_neg (by decide)]
    have hb : brk (decide (v = 11)) (35 :: u) = 0 := by unfold brk; simp [List.isPrefixOf]
    have hl : lend (decide (v = 11)) (suf s e) = 0 := by rw [h, lend, brk_lf, if_neg (by decide)]
    have hn : lNext v s e = e + 1 := by unfold lNext lEnd; rw [hl, Nat.add_zero, h, brk_lf]
    have hlt : e + 1 < s.size := suf_lt h1
    have hl2 : lText v s (e + 1) = 35 :: u.take (lend (decide (v = 11)) u) := by unfold lText; rw [h1, lend, if_pos hb]; rfl
    rw [hnb, Nat.add_zero, hl, if_pos rfl, hn, onF, if_neg (by omega), hl2, if_neg (by simp [isBl]), if_pos]
    rw [h1, nbl, if_neg (by decide), Nat.add_zero, h1]
    exact .inr (.inr (.inl rfl))
  · have h1 : suf s (e + 1) = [46, 46, 46, 10] := suf_add (a := [10]) h
    have h2 : suf s (e + 2) = [46, 46, 10] := suf_add (a := [10, 46]) h
    have hnb : nbl (suf s e) = 0 := by rw [h, nbl, if_neg (by decide)]
    have hb : ∀ l, brk (decide (v = 11)) (46 :: l) = 0 := fun l => by unfold brk; simp [List.isPrefixOf]
    have hl : lend (decide (v = 11)) (suf s e) = 0 := by rw [h, lend, brk_lf, if_neg (by decide)]
    have hn : lNext v s e = e + 1 := by unfold lNext lEnd; rw [hl, Nat.add_zero, h, brk_lf]
    have hlt : e + 1 < s.size := suf_lt h1
    have hl2 : lText v s (e + 1) = [46, 46, 46] := by
      unfold lText
      rw [h1, lend, hb, if_pos rfl, lend, hb, if_pos rfl, lend, hb, if_pos rfl, lend, brk_lf, if_neg (by decide)]; rfl
    rw [hnb, Nat.add_zero, hl, if_pos rfl, hn, onF, if_neg (by omega), hl2, if_neg (by decide), if_pos]
    exact .inr (.inl (by decide))

theorem ends_stops (old p : Bool) (cur e : Nat) (t : List UInt8) (h : stops t) : ends old false p cur e t = e := by
  rcases h with rfl | ⟨u, rfl⟩ | ⟨u, rfl⟩ | rfl
  · exact ends_tail0 ..
  · exact ends_tail3 ..
  · exact ends_tail1 ..
  · exact ends_tail1 ..

/-- Lines behind a first part: blank lines between, spaces ahead, a word. -/
def linesL : List (Nat × Nat × List UInt8) → List UInt8
  | [] => []
  | (g, d, w) :: r => 32 :: 10 :: (tabsL g ++ (List.replicate d 32 ++ (w ++ linesL r)))
/-- What they say. -/
def saysL : List (Nat × Nat × List UInt8) → List UInt8
  | [] => []
  | (g, d, w) :: r => foldedL (g + 1) ++ (w ++ saysL r)

theorem ends_lines (old p : Bool) (cur e : Nat) (r : List (Nat × Nat × List UInt8)) (t : List UInt8) (ht : stops t) : ends old false p cur e (linesL r ++ t) = e := by
  cases r with
  | nil => exact ends_stops old p cur e t ht
  | cons x r => obtain ⟨g, d, w⟩ := x; exact ends_tail2 ..

theorem readF_lines (v : Int) (s : ByteArray) (p : Int) (t : List UInt8) (ht : stops t) : ∀ (r : List (Nat × Nat × List UInt8)) (k e : Nat) (acc : List UInt8),
    (∀ x ∈ r, p < (x.2.1 : Int) ∧ x.2.2 ≠ [] ∧ ∀ c ∈ x.2.2, low c) → r.length < k → suf s e = linesL r ++ t →
    readF v s p k e acc = (acc ++ saysL r, e + (linesL r).length) := by
  intro r
  induction r with
  | nil =>
    intro k e acc _ hk h
    obtain ⟨k, rfl⟩ : ∃ q, k = q + 1 := ⟨k - 1, by simp at hk; omega⟩
    have := onT_no v s p e t ht h
    rw [readF, if_pos (by omega)]
    simp [saysL, linesL]
  | cons x r ih =>
    obtain ⟨g, d, w⟩ := x
    intro k e acc hr hk h
    obtain ⟨k, rfl⟩ : ∃ q, k = q + 1 := ⟨k - 1, by omega⟩
    obtain ⟨hp, hw0, hw⟩ := hr (g, d, w) (by simp)
    dsimp only at hp hw0 hw
    obtain ⟨c, w', rfl⟩ : ∃ c w', w = c :: w' := by cases w with
      | nil => exact absurd rfl hw0
      | cons c w' => exact ⟨c, w', rfl⟩
    have h' : suf s e = 32 :: 10 :: (tabsL g ++ (List.replicate d 32 ++ c :: (w' ++ (linesL r ++ t)))) := by
      rw [h]; simp [linesL]
    have hT := onT_go v s p e g d c _ (hw c (by simp)) hp h'
    have hsuf : suf s (e + 2 + 2 * g + d) = (c :: w') ++ (linesL r ++ t) := by
      have := suf_add (s := s) (n := e) (a := 32 :: 10 :: (tabsL g ++ List.replicate d 32)) (b := (c :: w') ++ (linesL r ++ t)) (by rw [h']; simp)
      rw [← this]; congr 1; simp [tabsL_len]; omega
    have hE : ends (decide (v = 11)) false (prevBl s (e + 2 + 2 * g + d)) (e + 2 + 2 * g + d) (e + 2 + 2 * g + d) (suf s (e + 2 + 2 * g + d)) = e + 2 + 2 * g + d + (c :: w').length := by
      rw [hsuf, ends_word _ _ _ _ _ _ hw (by simp), ends_lines _ _ _ _ _ _ ht]
    rw [readF_step v s p k e acc _ g hT, hE, hsuf, Nat.add_sub_cancel_left, List.take_left]
    rw [ih k _ _ (fun x hx => hr x (by simp [hx])) (by simp at hk; omega) (suf_add hsuf)]
    simp [saysL, linesL, tabsL_len]
    omega

/-- The whole: a word and the lines behind it. -/
theorem readI_lines (v : Int) (s : ByteArray) (p : Int) (w : List UInt8) (r : List (Nat × Nat × List UInt8)) (t : List UInt8) (ht : stops t) (hw0 : w ≠ []) (hw : ∀ c ∈ w, low c)
    (hr : ∀ x ∈ r, p < (x.2.1 : Int) ∧ x.2.2 ≠ [] ∧ ∀ c ∈ x.2.2, low c) (h : s.data.toList = w ++ (linesL r ++ t)) :
    readI v s 0 p = (w ++ saysL r, ((w ++ linesL r).length : Int)) := by
  obtain ⟨c, w', rfl⟩ : ∃ c w', w = c :: w' := by cases w with
    | nil => exact absurd rfl hw0
    | cons c w' => exact ⟨c, w', rfl⟩
  have hs : suf s 0 = (c :: w') ++ (linesL r ++ t) := by unfold suf; rw [List.drop_zero, h]
  have hc : low c := hw c (by simp)
  have hop : opens (decide (v = 11)) false (suf s 0) = true := by
    have hst : stop (decide (v = 11)) false (c :: (w' ++ (linesL r ++ t))) = false := by
      simp [stop, low_bl hc, low_brk hc]
    have hn : ¬ c ∈ neverL := fun hm => by
      have : ∀ d ∈ neverL, ¬ low d := by decide
      exact this c hm hc
    have hm : ¬ c ∈ ([45, 63, 58] : List UInt8) := fun hm => by
      have : ∀ d ∈ ([45, 63, 58] : List UInt8), ¬ low d := by decide
      exact this c hm hc
    rw [hs, List.cons_append, opens, hst]
    simp only [hn, hm, decide_false, Bool.not_false, Bool.true_or, Bool.and_self]
  have hE : ends (decide (v = 11)) false (prevBl s 0) 0 0 (suf s 0) = (c :: w').length := by
    rw [hs, ends_word _ _ _ _ _ _ hw (by simp), ends_lines _ _ _ _ _ _ ht]; simp
  have hP : partI v s 0 false = ((c :: w').length : Int) := by
    unfold partI
    rw [if_neg (by omega), show ((0 : Int)).toNat = 0 from rfl, hop, if_pos rfl, hE]
  have hlen : r.length < s.size + 1 := by
    have h1 : s.size = (suf s 0).length := by rw [suf_length]; rfl
    have h2 : ∀ r : List (Nat × Nat × List UInt8), r.length ≤ (linesL r).length := by
      intro r
      induction r with
      | nil => simp [linesL]
      | cons x r ih => obtain ⟨g, d, w⟩ := x; simp [linesL]; omega
    have := h2 r
    rw [h1, hs]; simp; omega
  have hsf : suf s (c :: w').length = linesL r ++ t := by have := suf_add hs; rwa [Nat.zero_add] at this
  unfold readI
  rw [hP, if_neg (by omega), Int.toNat_natCast, show ((0 : Int)).toNat = 0 from rfl, Nat.sub_zero, hs, List.take_left, readF_lines v s p t ht r _ _ _ hr hlen hsf]
  simp
  omega
end Go.Proofs.YtmfjdlmhejabiaaDoor.M
