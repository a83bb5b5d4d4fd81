/- What the printed base functions say, in plain words: rows of blanks, lines, markers. -/
import Derived.Test.YtmfjdlmhejabiaaDoorM1
namespace Go.Proofs.YtmfjdlmhejabiaaDoor.M
open Go.RowKit Go.Proofs.Tg Go.Proofs.YtmfjdlmhejabiaaDoor.X Go.Proofs.YtmfjdlmhejabiaaDoor.PB Go.Proofs.YtmfjdlmhejabiaaDoorW.PrintWords
set_option linter.unusedVariables false
set_option linter.unusedSimpArgs false

theorem over_l (s : ByteArray) (hs : s.size ≤ 140737488355328) : ∀ (d k n : Nat), d = s.size - n → d < k → rows_Over.l0 k s (n : Int) = some ((n + nbl (suf s n) : Nat) : Int) := by
  intro d
  induction d with
  | zero =>
    intro k n hd hk
    obtain ⟨k, rfl⟩ : ∃ m, k = m + 1 := ⟨k - 1, by omega⟩
    simp only [rows_Over.l0, blank_eq, Option.bind_some, suf_nil s n (by omega), bl, nbl, Nat.add_zero]
    rfl
  | succ d ih =>
    intro k n hd hk
    obtain ⟨k, rfl⟩ : ∃ m, k = m + 1 := ⟨k - 1, by omega⟩
    have hn : n < s.size := by omega
    simp only [rows_Over.l0, blank_eq, Option.bind_some]
    have e := suf_cons s n hn
    by_cases h : bl (suf s n) = true
    · have hn1 : nbl (suf s n) = nbl (suf s (n + 1)) + 1 := by rw [e] at h ⊢; exact if_pos h
      rw [if_pos h, wrap_small _ (by omega) (by omega), hn1]
      have := ih k (n + 1) (by omega) (by omega)
      rw [show ((n : Int) + 1) = ((n + 1 : Nat) : Int) from rfl, this]
      congr 2; omega
    · have hn1 : nbl (suf s n) = 0 := by rw [e] at h ⊢; exact if_neg h
      rw [if_neg h, hn1]; rfl

theorem over_eq (s : ByteArray) (n k : Nat) (hs : s.size ≤ 140737488355328) (hk : s.size < k) : rows_Over.f k s (n : Int) = some ((n + nbl (suf s n) : Nat) : Int) :=
  over_l s hs (s.size - n) k n rfl (by omega)

theorem line_l (v : Int) (s : ByteArray) (hs : s.size ≤ 140737488355328) (a : Int) : ∀ (d k n : Nat), d = s.size - n → n ≤ s.size → d < k → rows_Line.l0 k v s a (n : Int) 0 =
    some (a, ((n + lend (decide (v = 11)) (suf s n) : Nat) : Int), ((n + lend (decide (v = 11)) (suf s n) + brk (decide (v = 11)) (suf s (n + lend (decide (v = 11)) (suf s n))) : Nat) : Int)) := by
  intro d
  have hb : ∀ l, brk (decide (v = 11)) l ≤ 3 := fun l => by unfold brk; repeat' split
                                                            all_goals omega
  induction d with
  | zero =>
    intro k n hd hn hk
    obtain ⟨k, rfl⟩ : ∃ m, k = m + 1 := ⟨k - 1, by omega⟩
    simp only [rows_Line.l0]
    rw [if_neg (by omega)]
    simp only [brk_Break.f, brkI_nat, Option.bind_some, suf_nil s n (by omega), lend, Nat.add_zero, brk_nil]
    rw [wrap_small _ (by omega) (by omega)]
    rfl
  | succ d ih =>
    intro k n hd hn' hk
    obtain ⟨k, rfl⟩ : ∃ m, k = m + 1 := ⟨k - 1, by omega⟩
    have hn : n < s.size := by omega
    simp only [rows_Line.l0]
    rw [if_pos (by omega)]
    simp only [brk_Break.f, brkI_nat, Option.bind_some]
    have e := suf_cons s n hn
    have hbn := hb (suf s n)
    by_cases h : brk (decide (v = 11)) (suf s n) = 0
    · have hl : lend (decide (v = 11)) (suf s n) = lend (decide (v = 11)) (suf s (n + 1)) + 1 := by
        rw [e] at h ⊢; rw [lend, if_pos h]
      rw [if_pos (by omega), wrap_small _ (by omega) (by omega)]
      have := ih k (n + 1) (by omega) (by omega) (by omega)
      rw [show ((n : Int) + 1) = ((n + 1 : Nat) : Int) from rfl, this, hl]
      rw [show n + 1 + lend (decide (v = 11)) (suf s (n + 1)) = n + (lend (decide (v = 11)) (suf s (n + 1)) + 1) by omega]
    · have hl : lend (decide (v = 11)) (suf s n) = 0 := by
        rw [e] at h ⊢; rw [lend, if_neg h]
      rw [if_neg (by omega), hl, wrap_small _ (by omega) (by omega)]
      rfl

/-- The line at a byte: where its break begins, where it ends. -/
def lEnd (v : Int) (s : ByteArray) (n : Nat) : Nat := n + lend (decide (v = 11)) (suf s n)
def lNext (v : Int) (s : ByteArray) (n : Nat) : Nat := lEnd v s n + brk (decide (v = 11)) (suf s (lEnd v s n))

theorem line_eq (v : Int) (s : ByteArray) (n k : Nat) (hs : s.size ≤ 140737488355328) (hn : n ≤ s.size) (hk : s.size < k) :
    rows_Line.f k v s (n : Int) = some ((n : Int), (lEnd v s n : Int), (lNext v s n : Int)) :=
  line_l v s hs n (s.size - n) k n rfl hn (by omega)

theorem lEnd_le (v : Int) (s : ByteArray) (n : Nat) (h : n ≤ s.size) : n ≤ lEnd v s n ∧ lEnd v s n ≤ s.size := by
  have := lend_le (decide (v = 11)) (suf s n); rw [suf_length] at this; unfold lEnd; omega
theorem brk_le (old : Bool) (l : List UInt8) : brk old l ≤ l.length ∧ brk old l ≤ 3 := by
  have hp : ∀ (p l : List UInt8), p.isPrefixOf l = true → p.length ≤ l.length := fun p l h => (List.isPrefixOf_iff_prefix.mp h).length_le
  unfold brk
  by_cases h1 : old = true ∧ (([226, 128, 168] : List UInt8).isPrefixOf l = true ∨ ([226, 128, 169] : List UInt8).isPrefixOf l = true)
  · rw [if_pos h1]
    rcases h1.2 with h | h
    · exact ⟨hp _ _ h, by omega⟩
    · exact ⟨hp _ _ h, by omega⟩
  · rw [if_neg h1]
    by_cases h2 : old = true ∧ ([194, 133] : List UInt8).isPrefixOf l = true ∨ ([13, 10] : List UInt8).isPrefixOf l = true
    · rw [if_pos h2]
      rcases h2 with h | h
      · exact ⟨hp _ _ h.2, by omega⟩
      · exact ⟨hp _ _ h, by omega⟩
    · rw [if_neg h2]
      by_cases h3 : l.head? = some 13 ∨ l.head? = some 10
      · rw [if_pos h3]
        cases l with
        | nil => simp at h3
        | cons c l => simp
      · rw [if_neg h3]; omega
theorem lNext_le (v : Int) (s : ByteArray) (n : Nat) (h : n ≤ s.size) : lEnd v s n ≤ lNext v s n ∧ lNext v s n ≤ s.size := by
  have h1 := lEnd_le v s n h
  have h2 := (brk_le (decide (v = 11)) (suf s (lEnd v s n))).1
  rw [suf_length] at h2
  unfold lNext; omega

/-- The signs of the line at a byte. -/
def lText (v : Int) (s : ByteArray) (n : Nat) : List UInt8 := (suf s n).take (lend (decide (v = 11)) (suf s n))

theorem says_eq (s : ByteArray) (a b c : Nat) (h1 : a ≤ b) (h2 : b ≤ c) (h3 : c ≤ s.size) : brk_says.f s a b c = some (s.extract a b, true) := by
  unfold brk_says.f
  rw [if_neg (by omega), if_neg (by omega), if_neg (by omega), if_neg (by omega), if_pos (by omega), if_pos (by omega), if_pos (by omega)]
  rfl

theorem indent_eq (s : ByteArray) (a b c : Nat) (h1 : a ≤ b) (h2 : b ≤ c) (h3 : c ≤ s.size) (hs : s.size ≤ 140737488355328) :
    brk_Indent.f s a b c = some ((nsp ((suf s a).take (b - a)) : Nat) : Int) := by
  unfold brk_Indent.f
  rw [says_eq s a b c h1 h2 h3]
  simp only [Option.bind_some, strings_TrimLeft.f]
  rw [if_pos (by decide)]
  simp only [Option.bind_some, Option.some.injEq]
  have e := extract_suf s a b
  have hsz : (s.extract a b).size = ((suf s a).take (b - a)).length := by rw [← e]; rfl
  have hd : (⟨(Lib.trimLeftS (s.extract a b).data.toList [32]).toArray⟩ : ByteArray).size = ((suf s a).take (b - a)).length - nsp ((suf s a).take (b - a)) := by
    rw [← dropWhile_nsp, ← e]; rfl
  have hle := nsp_le ((suf s a).take (b - a))
  have hlen : ((suf s a).take (b - a)).length ≤ s.size := by rw [List.length_take, suf_length]; omega
  rw [hd, hsz, wrap_small _ (by omega) (by omega)]
  omega

theorem hasPrefix_eq (s p : ByteArray) : strings_HasPrefix.f s p = some (p.data.toList.isPrefixOf s.data.toList) := by
  have e : (decide (p.size ≤ s.size) && ((s.extract 0 p.size).toList == p.toList)) = p.data.toList.isPrefixOf s.data.toList := Lib.hasPrefix_raw s p
  unfold strings_HasPrefix.f stringslite_HasPrefix.f
  rw [← e]
  by_cases hp : p.size ≤ s.size
  · rw [if_pos (by omega), if_pos (by omega), if_pos (by omega)]
    simp [hp]
  · rw [if_neg (by omega)]
    simp [hp]

theorem marker_eq (s : ByteArray) (a b c k : Nat) (h1 : a ≤ b) (h2 : b ≤ c) (h3 : c ≤ s.size) (hk : 0 < k) :
    brk_Marker.f k s a b c = some ((marker ((suf s a).take (b - a)) : Nat) : Int) := by
  obtain ⟨k, rfl⟩ : ∃ m, k = m + 1 := ⟨k - 1, by omega⟩
  have j0 : ∀ t : ByteArray, brk_Marker.j0 (k + 1) t false = some ((if ([45, 45, 45] : List UInt8).isPrefixOf t.data.toList = true then 1 else if ([46, 46, 46] : List UInt8).isPrefixOf t.data.toList = true then 2 else 0 : Nat) : Int) := by
    intro t
    simp only [brk_Marker.j0, hasPrefix_eq, Option.bind_some]
    rw [if_neg (by decide)]
    by_cases p1 : ([45, 45, 45] : List UInt8).isPrefixOf t.data.toList = true
    · rw [if_pos p1, if_pos p1]; rfl
    · rw [if_neg p1, if_neg p1]
      by_cases p2 : ([46, 46, 46] : List UInt8).isPrefixOf t.data.toList = true
      · rw [if_pos p2, if_pos p2]; rfl
      · rw [if_neg p2, if_neg p2]; rfl
  have j1 : ∀ t : ByteArray, brk_Marker.j0 (k + 1) t true = some 0 := by
    intro t; simp [brk_Marker.j0]
  unfold brk_Marker.f marker
  rw [says_eq s a b c h1 h2 h3]
  simp only [Option.bind_some]
  have e := extract_suf s a b
  have hsz : (s.extract a b).size = ((suf s a).take (b - a)).length := by rw [← e]; rfl
  rw [← e]
  have hsz' : (s.extract a b).data.toList.length = (s.extract a b).size := rfl
  by_cases h : 3 < (s.extract a b).size
  · rw [if_pos (by omega), if_pos (by omega)]
    have hb : bt (s.extract a b) 3 = (((s.extract a b).data.toList.getD 3 0).toNat : Int) := by
      unfold bt
      rw [dif_pos (by simpa using h)]
      rw [List.getD_eq_getElem?_getD, List.getElem?_eq_getElem (by rw [hsz']; exact h)]; rfl
    rw [hb]
    have e32 := u8_eq ((s.extract a b).data.toList.getD 3 0) 32 (by decide)
    have e9 := u8_beq ((s.extract a b).data.toList.getD 3 0) 9 (by decide)
    generalize (s.extract a b).data.toList.getD 3 0 = c3 at *
    by_cases h32 : (c3.toNat : Int) = 32
    · have h32' : c3 = 32 := by rw [show (32 : Int) = ((32 : Nat) : Int) from rfl, e32] at h32; exact h32
      have hneg : ¬ (3 < (s.extract a b).data.toList.length ∧ isBl c3 = false) := fun hh => by rw [h32'] at hh; exact absurd hh.2 (by decide)
      rw [if_pos h32, j0, if_neg hneg]
    · have h32' : ¬ c3 = 32 := fun hh => h32 (by rw [hh]; rfl)
      rw [if_neg h32]
      have e9' : ((c3.toNat : Int) != 9) = !(c3 == 9) := by
        show (!((c3.toNat : Int) == 9)) = _
        rw [show ((c3.toNat : Int) == 9) = (c3 == 9) from e9]
      rw [e9']
      have hbl : isBl c3 = (c3 == 9) := by unfold isBl; rw [show (c3 == 32) = false by simpa using h32']; rfl
      rw [hbl]
      cases h9 : (c3 == 9)
      · rw [Bool.not_false, j1, if_pos ⟨by rw [hsz']; exact h, rfl⟩]; rfl
      · have hneg : ¬ (3 < (s.extract a b).data.toList.length ∧ true = false) := fun hh => absurd hh.2 (by decide)
        rw [Bool.not_true, j0, if_neg hneg]
  · have hneg : ¬ (3 < (s.extract a b).data.toList.length ∧ isBl ((s.extract a b).data.toList.getD 3 0) = false) := fun hh => absurd hh.1 (by rw [hsz']; exact h)
    rw [if_neg (by omega), j0, if_neg hneg]

theorem trim_nil (l : List UInt8) : (Lib.trimS l [32, 9] = []) ↔ (l.all isBl = true) := by
  have hc : ∀ c : UInt8, ([32, 9] : List UInt8).contains c = isBl c := by
    intro c; unfold isBl; simp only [List.contains, List.elem]; cases c == 32 <;> cases c == 9 <;> rfl
  have hd : ∀ m : List UInt8, (m.dropWhile (fun c => ([32, 9] : List UInt8).contains c) = []) ↔ (m.all isBl = true) := by
    intro m
    induction m with
    | nil => simp
    | cons c m ih =>
      rw [List.dropWhile_cons, hc]
      by_cases h : isBl c = true
      · rw [if_pos h, ih]; simp [h]
      · rw [if_neg h]; simp [h]
  have hsub : ∀ m : List UInt8, (m.dropWhile (fun c => ([32, 9] : List UInt8).contains c)).all isBl = true → m.all isBl = true := by
    intro m
    induction m with
    | nil => simp
    | cons c m ih =>
      rw [List.dropWhile_cons, hc]
      by_cases h : isBl c = true
      · rw [if_pos h]; intro h2; simp only [List.all_cons, h, Bool.true_and]; exact ih h2
      · rw [if_neg h]; exact id
  unfold Lib.trimS Lib.trimLeftS Lib.trimRightS
  rw [hd, List.all_reverse]
  constructor
  · intro h
    have := hsub _ h
    rw [List.all_reverse] at this
    exact this
  · intro h
    have : (l.reverse.dropWhile (fun c => ([32, 9] : List UInt8).contains c)) = [] := (hd _).mpr (by rw [List.all_reverse]; exact h)
    rw [this]; rfl

theorem blankline_eq (s : ByteArray) (a b c : Nat) (h1 : a ≤ b) (h2 : b ≤ c) (h3 : c ≤ s.size) (hs : s.size ≤ 140737488355328) :
    brk_Blank.f s a b c = some (((suf s a).take (b - a)).all isBl) := by
  unfold brk_Blank.f
  rw [says_eq s a b c h1 h2 h3]
  simp only [Option.bind_some, strings_Trim.f]
  have e := extract_suf s a b
  have hsz : (s.extract a b).size = ((suf s a).take (b - a)).length := by rw [← e]; rfl
  have hlen : ((suf s a).take (b - a)).length ≤ s.size := by rw [List.length_take, suf_length]; omega
  rw [if_pos (by decide), if_pos (by decide), if_pos (by omega)]
  simp only [Option.bind_some, Option.some.injEq]
  rw [← e, Bool.eq_iff_iff, beq_iff_eq, Lib.toList_data]
  exact trim_nil _
end Go.Proofs.YtmfjdlmhejabiaaDoor.M
