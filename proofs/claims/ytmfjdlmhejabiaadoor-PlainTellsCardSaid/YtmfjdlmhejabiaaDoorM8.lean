/- The reference on plain texts, in plain words: lines, and the whole text. -/
import Derived.Test.YtmfjdlmhejabiaaDoorM7
import Derived.Test.YtmfjdlmhejabiaaDoorPLx12
namespace Go.Proofs.YtmfjdlmhejabiaaDoor.M
open Go.RowKit Go.Proofs.Tg Go.Proofs.YtmfjdlmhejabiaaDoor.X Go.Proofs.YtmfjdlmhejabiaaDoor.PL Go.Proofs.YtmfjdlmhejabiaaDoorW.PrintWords
set_option linter.unusedVariables false
set_option linter.unusedSimpArgs false

theorem r_over_l (s : ByteArray) (hs : s.size ≤ 140737488355328) : ∀ (d k n : Nat), d = s.size - n → d < k → targumref17_over.l0 k s (n : Int) = some ((n + nbl (suf s n) : Nat) : Int) := by
  intro d
  induction d with
  | zero =>
    intro k n hd hk
    obtain ⟨k, rfl⟩ : ∃ m, k = m + 1 := ⟨k - 1, by omega⟩
    simp only [targumref17_over.l0, r_blank, Option.bind_some, suf_nil s n (by omega), bl, nbl, Nat.add_zero]
    rfl
  | succ d ih =>
    intro k n hd hk
    obtain ⟨k, rfl⟩ : ∃ m, k = m + 1 := ⟨k - 1, by omega⟩
    have hn : n < s.size := by omega
    simp only [targumref17_over.l0, r_blank, Option.bind_some]
    have e := suf_cons s n hn
    by_cases h : bl (suf s n) = true
    · have hn1 : nbl (suf s n) = nbl (suf s (n + 1)) + 1 := by rw [e] at h ⊢; exact if_pos h
      rw [if_pos h, wrap_small _ (by omega) (by omega), hn1]
      have := ih k (n + 1) (by omega) (by omega)
      rw [show ((n : Int) + 1) = ((n + 1 : Nat) : Int) from rfl, this]
      congr 2; omega
    · have hn1 : nbl (suf s n) = 0 := by rw [e] at h ⊢; exact if_neg h
      rw [if_neg h, hn1]; rfl
theorem r_over (s : ByteArray) (n k : Nat) (hs : s.size ≤ 140737488355328) (hk : s.size < k) : targumref17_over.f k s (n : Int) = some ((n + nbl (suf s n) : Nat) : Int) :=
  r_over_l s hs (s.size - n) k n rfl (by omega)

theorem r_line (s : ByteArray) (a b c : Nat) (h1 : a ≤ b) (h2 : b ≤ c) (h3 : c ≤ s.size) : targumref1_isLine.f s a b c = some true := by
  unfold targumref1_isLine.f
  rw [if_pos (by omega), if_pos (by omega), if_pos (by omega), decide_eq_true (by omega)]

theorem r_indent_l (s : ByteArray) (hs : s.size ≤ 140737488355328) (a b c : Nat) (h1 : a ≤ b) (h2 : b ≤ s.size) : ∀ (d k n : Nat), d = b - (a + n) → d < k → a + n ≤ b → nsp ((suf s a).take (b - a)) = n + nsp ((suf s (a + n)).take (b - (a + n))) →
    targumref1_Indent.l0 k s (n : Int) a b c = some ((nsp ((suf s a).take (b - a)) : Nat) : Int) := by
  intro d
  induction d with
  | zero =>
    intro k n hd hk hn h
    obtain ⟨k, rfl⟩ : ∃ m, k = m + 1 := ⟨k - 1, by omega⟩
    rw [targumref1_Indent.l0.eq_2, wrap_small ((a : Int) + n) (by omega) (by omega), if_neg (by omega), h, show b - (a + n) = 0 by omega, List.take_zero]; rfl
  | succ d ih =>
    intro k n hd hk hn h
    obtain ⟨k, rfl⟩ : ∃ m, k = m + 1 := ⟨k - 1, by omega⟩
    have hlt : a + n < s.size := by omega
    have e := suf_cons s (a + n) hlt
    obtain ⟨hb, _⟩ := bt_suf s (a + n) _ _ e
    rw [targumref1_Indent.l0.eq_2, wrap_small ((a : Int) + n) (by omega) (by omega), if_pos (by omega), if_pos (by omega), if_pos (by omega), show (a : Int) + n = ((a + n : Nat) : Int) from rfl, hb]
    have e32 := u8_eq s[a + n] 32 (by decide)
    obtain ⟨m, hm⟩ : ∃ m, b - (a + n) = m + 1 := ⟨d, by omega⟩
    rw [hm, e, List.take_succ_cons] at h
    by_cases q : s[a + n] = 32
    · rw [show (32 : Int) = ((32 : Nat) : Int) from rfl, if_pos (e32.mpr q), wrap_small _ (by omega) (by omega)]
      have := ih k (n + 1) (by omega) (by omega) (by omega) (by
        rw [h, nsp, if_pos q, show a + (n + 1) = a + n + 1 by omega, show b - (a + n + 1) = m by omega]; omega)
      exact this
    · rw [show (32 : Int) = ((32 : Nat) : Int) from rfl, if_neg (fun x => q (e32.mp x)), h, nsp, if_neg q]; rfl
theorem r_indent (s : ByteArray) (a b c k : Nat) (h1 : a ≤ b) (h2 : b ≤ c) (h3 : c ≤ s.size) (hs : s.size ≤ 140737488355328) (hk : s.size < k) :
    targumref1_Indent.f k s a b c = some ((nsp ((suf s a).take (b - a)) : Nat) : Int) := by
  unfold targumref1_Indent.f
  rw [r_line s a b c h1 h2 h3]
  simp only [Option.bind_some, if_true]
  exact r_indent_l s hs a b c h1 (by omega) (b - a) k 0 rfl (by omega) (by omega) (by simp)

theorem r_blankl_l (s : ByteArray) (hs : s.size ≤ 140737488355328) (a b c : Nat) (h2 : b ≤ s.size) : ∀ (d k n : Nat), d = b - n → d < k →
    targumref1_Blank.l0 k s (n : Int) a b c = some (((suf s n).take (b - n)).all isBl) := by
  intro d
  induction d with
  | zero =>
    intro k n hd hk
    obtain ⟨k, rfl⟩ : ∃ m, k = m + 1 := ⟨k - 1, by omega⟩
    rw [targumref1_Blank.l0.eq_2, if_neg (by omega), show b - n = 0 by omega, List.take_zero]; rfl
  | succ d ih =>
    intro k n hd hk
    obtain ⟨k, rfl⟩ : ∃ m, k = m + 1 := ⟨k - 1, by omega⟩
    have hlt : n < s.size := by omega
    have e := suf_cons s n hlt
    obtain ⟨m, hm⟩ : ∃ m, b - n = m + 1 := ⟨d, by omega⟩
    rw [targumref1_Blank.l0.eq_2, if_pos (by omega), r_blank, hm, e, List.take_succ_cons]
    simp only [Option.bind_some, bl, List.all_cons]
    by_cases q : isBl s[n] = true
    · rw [if_pos q, wrap_small _ (by omega) (by omega), q, Bool.true_and]
      have := ih k (n + 1) (by omega) (by omega)
      rw [show b - (n + 1) = m by omega] at this
      exact this
    · rw [if_neg q, show isBl s[n] = false by simpa using q, Bool.false_and]
theorem r_blankl (s : ByteArray) (a b c k : Nat) (h1 : a ≤ b) (h2 : b ≤ c) (h3 : c ≤ s.size) (hs : s.size ≤ 140737488355328) (hk : s.size < k) :
    targumref1_Blank.f k s a b c = some (((suf s a).take (b - a)).all isBl) := by
  unfold targumref1_Blank.f
  rw [r_line s a b c h1 h2 h3]
  simp only [Option.bind_some, if_true]
  exact r_blankl_l s hs a b c (by omega) (b - a) k a rfl (by omega)

theorem pre3_take (p l : List UInt8) (h3 : p.length = 3) : p.isPrefixOf l = true ↔ l.take 3 = p := by
  rw [List.isPrefixOf_iff_prefix]
  constructor
  · rintro ⟨t, rfl⟩; rw [← h3, List.take_left]
  · intro h; exact ⟨l.drop 3, by rw [← h, List.take_append_drop]⟩

theorem r_marker (s : ByteArray) (a b c k : Nat) (h1 : a ≤ b) (h2 : b ≤ c) (h3 : c ≤ s.size) (hs : s.size ≤ 140737488355328) (hk : 0 < k) :
    targumref1_Marker.f k s a b c = some ((marker ((suf s a).take (b - a)) : Nat) : Int) := by
  obtain ⟨k, rfl⟩ : ∃ m, k = m + 1 := ⟨k - 1, by omega⟩
  have hlen : ((suf s a).take (b - a)).length = b - a := by rw [List.length_take, suf_length]; omega
  unfold targumref1_Marker.f
  rw [r_line s a b c h1 h2 h3]
  simp only [Option.bind_some, if_true]
  rw [wrap_small ((b : Int) - a) (by omega) (by omega)]
  have j1 : targumref1_Marker.j0 (k + 1) s true a b c = some 0 := by rw [targumref1_Marker.j0.eq_2, if_pos rfl]
  unfold marker
  rw [hlen]
  by_cases g1 : (b : Int) - a < 3
  · rw [if_pos g1, j1, if_neg (by omega)]
    have hno : ∀ p : List UInt8, p.length = 3 → ¬ p.isPrefixOf ((suf s a).take (b - a)) = true := fun p hp hq => by
      have := (List.isPrefixOf_iff_prefix.mp hq).length_le; omega
    rw [if_neg (hno _ rfl), if_neg (hno _ rfl)]; rfl
  · rw [if_neg g1]
    have j0 : targumref1_Marker.j0 (k + 1) s false a b c = some ((if ([45, 45, 45] : List UInt8).isPrefixOf ((suf s a).take (b - a)) = true then 1 else if ([46, 46, 46] : List UInt8).isPrefixOf ((suf s a).take (b - a)) = true then 2 else 0 : Nat) : Int) := by
      rw [targumref1_Marker.j0.eq_2, if_neg (by decide), wrap_small ((a : Int) + 3) (by omega) (by omega), if_pos (by omega), if_pos (by omega), if_pos (by omega)]
      have hx : (s.extract (a : Int).toNat ((a : Int) + 3).toNat).toList = ((suf s a).take (b - a)).take 3 := by
        rw [Lib.toList_data, Int.toNat_natCast, show ((a : Int) + 3).toNat = a + 3 by omega, extract_suf, List.take_take, show a + 3 - a = 3 by omega, show min 3 (b - a) = 3 by omega]
      rw [hx]
      simp only [pre3_take _ _ (show ([45, 45, 45] : List UInt8).length = 3 from rfl), pre3_take _ _ (show ([46, 46, 46] : List UInt8).length = 3 from rfl)]
      split
      · rfl
      · split <;> rfl
    by_cases g2 : (b : Int) - a > 3
    · have hlt : a + 3 < s.size := by omega
      have e := suf_cons s (a + 3) hlt
      have hg : ((suf s a).take (b - a)).getD 3 0 = s[a + 3] := by
        rw [List.getD_eq_getElem?_getD, List.getElem?_take_of_lt (by omega)]
        have : (suf s a)[3]? = some s[a + 3] := by
          have h := suf_drop s a 3
          rw [e] at h
          have h2 : ((suf s a).drop 3)[0]? = some s[a + 3] := by rw [h]; rfl
          rwa [List.getElem?_drop] at h2
        rw [this]; rfl
      rw [if_pos g2, wrap_small ((a : Int) + 3) (by omega) (by omega), show (a : Int) + 3 = ((a + 3 : Nat) : Int) from rfl, r_blank, hg, e]
      simp only [Option.bind_some, bl]
      cases hq : isBl s[a + 3]
      · rw [Bool.not_false, j1, if_pos ⟨by omega, rfl⟩]; rfl
      · rw [Bool.not_true, j0, if_neg (show ¬ (3 < b - a ∧ true = false) from fun x => absurd x.2 (by decide))]
    · rw [if_neg g2, j0, if_neg (show ¬ (3 < b - a ∧ isBl (((suf s a).take (b - a)).getD 3 0) = false) from fun x => by omega)]

theorem r_feeds_l (n : Nat) (hn : n ≤ 140737488355328) : ∀ (d k j : Nat) (acc : ByteArray), d = n - j → d < k → j ≤ n → acc.data.toList = List.replicate j 10 → targumref17_feeds.l0 k n acc (j : Int) = some ⟨(List.replicate n 10).toArray⟩ := by
  intro d
  induction d with
  | zero =>
    intro k j acc hd hk hj h
    obtain ⟨k, rfl⟩ : ∃ m, k = m + 1 := ⟨k - 1, by omega⟩
    obtain rfl : j = n := by omega
    rw [targumref17_feeds.l0.eq_2, if_neg (by omega), ← h]
  | succ d ih =>
    intro k j acc hd hk hj h
    obtain ⟨k, rfl⟩ : ∃ m, k = m + 1 := ⟨k - 1, by omega⟩
    have hsz : acc.size = j := by
      have : acc.size = acc.data.toList.length := rfl
      rw [this, h, List.length_replicate]
    rw [targumref17_feeds.l0.eq_2, if_pos (by omega), if_pos (by omega), wrap_small _ (by omega) (by omega)]
    exact ih k (j + 1) _ (by omega) (by omega) (by omega) (by simp [h, List.replicate_succ'])
theorem r_feeds (n k : Nat) (hn : n ≤ 140737488355328) (hk : n < k) : targumref17_feeds.f k (n : Int) = some ⟨(List.replicate n 10).toArray⟩ :=
  r_feeds_l n hn n k 0 _ (by omega) hk (by omega) rfl

/-- The lines from byte a on. -/
def linesF (v : Int) (s : ByteArray) : Nat → Nat → List S59
  | 0, _ => []
  | d + 1, a => if a < s.size then ⟨(a : Int), (lEnd v s a : Int), (lNext v s a : Int)⟩ :: linesF v s d (lNext v s a) else []
theorem linesF_end (v : Int) (s : ByteArray) (d a : Nat) (h : s.size ≤ a) : linesF v s d a = [] := by
  cases d with
  | zero => rfl
  | succ d => rw [linesF, if_neg (by omega)]

theorem r_lines_l (v : Int) (s : ByteArray) (hs : s.size ≤ 1000000) : ∀ (d k m a i : Nat) (acc : List S59), d = s.size - i → s.size - a < m → a ≤ i → i ≤ s.size → acc.length ≤ a → lend (decide (v = 11)) (suf s a) = (i - a) + lend (decide (v = 11)) (suf s i) → d + 20 < k →
    targumref1_Lines.l0 k v s acc (a : Int) (i : Int) = some (acc ++ linesF v s m a) := by
  intro d
  induction d using Nat.strongRecOn with
  | _ d ih =>
    intro k m a i acc hd hm ha hi hac hl hk
    obtain ⟨k, rfl⟩ : ∃ q, k = q + 1 := ⟨k - 1, by omega⟩
    obtain ⟨m, rfl⟩ : ∃ q, m = q + 1 := ⟨m - 1, by omega⟩
    rw [targumref1_Lines.l0.eq_2]
    by_cases h : i < s.size
    · have e := suf_cons s i h
      rw [if_pos (by omega), r_break v s i k (by omega) (by omega)]
      simp only [Option.bind_some]
      have hb := brk_le (decide (v = 11)) (suf s i)
      rw [suf_length] at hb
      by_cases hz : brk (decide (v = 11)) (suf s i) = 0
      · have hl2 : lend (decide (v = 11)) (suf s i) = lend (decide (v = 11)) (suf s (i + 1)) + 1 := by rw [e] at hz ⊢; rw [lend, if_pos hz]
        rw [if_pos (by omega), wrap_small _ (by omega) (by omega)]
        exact ih (s.size - (i + 1)) (by omega) k (m + 1) a (i + 1) acc rfl hm (by omega) (by omega) hac (by omega) (by omega)
      · have hl2 : lend (decide (v = 11)) (suf s i) = 0 := by rw [e] at hz ⊢; rw [lend, if_neg hz]
        have hE : lEnd v s a = i := by unfold lEnd; omega
        have hN : lNext v s a = i + brk (decide (v = 11)) (suf s i) := by unfold lNext; rw [hE]
        rw [if_neg (by omega), if_pos (by omega), wrap_small _ (by omega) (by omega), show (i : Int) + (brk (decide (v = 11)) (suf s i) : Nat) = ((i + brk (decide (v = 11)) (suf s i) : Nat) : Int) from rfl]
        rw [ih (s.size - (i + brk (decide (v = 11)) (suf s i))) (by omega) k m (i + brk (decide (v = 11)) (suf s i)) _ _ rfl (by omega) (Nat.le_refl _) (by omega) (by simp; omega) (by omega) (by omega)]
        rw [linesF, if_pos (by omega), hE, hN]
        simp
    · rw [if_neg (by omega)]
      obtain rfl : i = s.size := by omega
      have hl2 : lend (decide (v = 11)) (suf s s.size) = 0 := by rw [suf_nil s s.size (by omega)]; rfl
      by_cases h2 : a < s.size
      · have hE : lEnd v s a = s.size := by unfold lEnd; omega
        have hN : lNext v s a = s.size := by unfold lNext; rw [hE, suf_nil s s.size (by omega), brk_nil]; rfl
        rw [if_pos (by omega), if_pos (by omega), linesF, if_pos h2, hE, hN, linesF_end v s m s.size (by omega)]
      · rw [if_neg (by omega), linesF_end v s _ a (by omega), List.append_nil]
theorem r_lines (v : Int) (s : ByteArray) (k : Nat) (hs : s.size ≤ 1000000) (hk : s.size + 20 < k) : targumref1_Lines.f k v s = some (linesF v s (s.size + 1) 0) := by
  have := r_lines_l v s hs s.size k (s.size + 1) 0 0 [] (by omega) (by omega) (by omega) (by omega) (by simp) (by omega) (by omega)
  rw [List.nil_append] at this
  exact this

/-- A break within a break ends where that ends. -/
theorem brk_mid (old : Bool) (l : List UInt8) (j : Nat) (h0 : 0 < j) (hj : j < brk old l) (hb : 0 < brk old (l.drop j)) : j + brk old (l.drop j) = brk old l := by
  have nb : ∀ (c : UInt8) (t : List UInt8), c = 128 ∨ c = 168 ∨ c = 169 ∨ c = 133 → brk old (c :: t) = 0 := by
    intro c t h
    rcases h with rfl | rfl | rfl | rfl <;> (unfold brk; simp [List.isPrefixOf])
  by_cases h1 : old = true ∧ (([226, 128, 168] : List UInt8).isPrefixOf l = true ∨ ([226, 128, 169] : List UInt8).isPrefixOf l = true)
  · exfalso
    have h3 : brk old l = 3 := by unfold brk; rw [if_pos h1]
    have hj2 : j = 1 ∨ j = 2 := by omega
    rcases h1.2 with q | q
    · obtain ⟨t, rfl⟩ := (pre3 _ _ _ _).mp q
      rcases hj2 with rfl | rfl
      · rw [List.drop_succ_cons, List.drop_zero, nb _ _ (.inl rfl)] at hb; omega
      · rw [List.drop_succ_cons, List.drop_succ_cons, List.drop_zero, nb _ _ (.inr (.inl rfl))] at hb; omega
    · obtain ⟨t, rfl⟩ := (pre3 _ _ _ _).mp q
      rcases hj2 with rfl | rfl
      · rw [List.drop_succ_cons, List.drop_zero, nb _ _ (.inl rfl)] at hb; omega
      · rw [List.drop_succ_cons, List.drop_succ_cons, List.drop_zero, nb _ _ (.inr (.inr (.inl rfl)))] at hb; omega
  · by_cases h2 : old = true ∧ ([194, 133] : List UInt8).isPrefixOf l = true ∨ ([13, 10] : List UInt8).isPrefixOf l = true
    · have h3 : brk old l = 2 := by unfold brk; rw [if_neg h1, if_pos h2]
      obtain rfl : j = 1 := by omega
      rcases h2 with q | q
      · obtain ⟨t, rfl⟩ := (pre2 _ _ _).mp q.2
        rw [List.drop_succ_cons, List.drop_zero, nb _ _ (.inr (.inr (.inr rfl)))] at hb; omega
      · obtain ⟨t, rfl⟩ := (pre2 _ _ _).mp q
        rw [List.drop_succ_cons, List.drop_zero, brk_lf] at hb ⊢; omega
    · exfalso
      have h3 : brk old l ≤ 1 := by unfold brk; rw [if_neg h1, if_neg h2]; split <;> omega
      omega

/-- A line ends no later than at a break behind its beginning. -/
theorem lend_brk (old : Bool) : ∀ (l : List UInt8) (j : Nat), 0 < brk old (l.drop j) → lend old l ≤ j
  | [], j, h => by simp [brk_nil] at h
  | c :: l, 0, h => by rw [List.drop_zero] at h; rw [lend, if_neg (by omega)]; omega
  | c :: l, j + 1, h => by
    rw [List.drop_succ_cons] at h
    have := lend_brk old l j h
    rw [lend]; split <;> omega

theorem next_of (v : Int) (s : ByteArray) (a b : Nat) (hab : a ≤ b) (hb : 0 < brk (decide (v = 11)) (suf s b)) : lEnd v s a ≤ b ∧ (b < lNext v s a → lNext v s a = b + brk (decide (v = 11)) (suf s b)) := by
  have h1 : lend (decide (v = 11)) (suf s a) ≤ b - a := lend_brk _ _ _ (by rw [suf_drop, show a + (b - a) = b by omega]; exact hb)
  have hE : lEnd v s a ≤ b := by unfold lEnd; omega
  refine ⟨hE, fun hn => ?_⟩
  by_cases he : lEnd v s a = b
  · unfold lNext; rw [he]
  · have := brk_mid (decide (v = 11)) (suf s (lEnd v s a)) (b - lEnd v s a) (by omega) (by unfold lNext at hn; omega) (by rw [suf_drop, show lEnd v s a + (b - lEnd v s a) = b by omega]; exact hb)
    rw [suf_drop, show lEnd v s a + (b - lEnd v s a) = b by omega] at this
    unfold lNext; omega

theorem linesF_fuel (v : Int) (s : ByteArray) : ∀ (m m' a : Nat), s.size - a < m → s.size - a < m' → linesF v s m a = linesF v s m' a := by
  intro m
  induction m with
  | zero => intro m' a h; omega
  | succ m ih =>
    intro m' a h h'
    obtain ⟨m', rfl⟩ : ∃ q, m' = q + 1 := ⟨m' - 1, by omega⟩
    rw [linesF, linesF]
    by_cases ha : a < s.size
    · have := next_lt v s a ha
      rw [if_pos ha, if_pos ha, ih m' _ (by omega) (by omega)]
    · rw [if_neg ha, if_neg ha]
def linesT (v : Int) (s : ByteArray) (a : Nat) : List S59 := linesF v s (s.size + 1) a
theorem linesT_lt (v : Int) (s : ByteArray) (a : Nat) (h : a < s.size) : linesT v s a = ⟨(a : Int), (lEnd v s a : Int), (lNext v s a : Int)⟩ :: linesT v s (lNext v s a) := by
  have := next_lt v s a h
  unfold linesT
  rw [linesF, if_pos h, linesF_fuel v s s.size (s.size + 1) _ (by omega) (by omega)]
theorem linesT_ge (v : Int) (s : ByteArray) (a : Nat) (h : s.size ≤ a) : linesT v s a = [] := linesF_end v s _ a h
theorem rd_head (x : S59) (l : List S59) : rd_T59 (x :: l) 0 = x := rfl

section
variable (v : Int) (s : ByteArray) (p e : Int) (X : ByteArray) (r : ByteArray × Int)

theorem r_keep (b : Nat) (n : Int) (a : Nat) (hab : b < a) (h : Ev (fun k => targumref17_Plain.j3 k v s p e X (linesT v s a) n) r) :
    Ev (fun k => targumref17_Plain.l1 k v s p e X (linesT v s a) b n) r := by
  refine Ev.step (f := fun k => targumref17_Plain.j3 k v s p e X (linesT v s a) n) (fun k => ?_) h
  rw [targumref17_Plain.l1.eq_2]
  by_cases ha : a < s.size
  · rw [linesT_lt v s a ha, if_pos (by simp only [List.length_cons]; omega), if_pos (by simp only [List.length_cons]; omega), rd_head, if_neg (by dsimp only; omega)]
  · rw [linesT_ge v s a (by omega), if_neg (by simp)]

theorem r_drop (b : Nat) (n : Int) (hb : b < s.size) (hk : 0 < brk (decide (v = 11)) (suf s b)) (h : Ev (fun k => targumref17_Plain.j3 k v s p e X (linesT v s (b + brk (decide (v = 11)) (suf s b))) n) r) :
    ∀ (d a : Nat), d = s.size - a → a ≤ b → Ev (fun k => targumref17_Plain.l1 k v s p e X (linesT v s a) b n) r := by
  intro d
  induction d using Nat.strongRecOn with
  | _ d ih =>
    intro a hd hab
    have ha : a < s.size := by omega
    have hn := next_lt v s a ha
    have ho := next_of v s a b hab hk
    have hrest : Ev (fun k => targumref17_Plain.l1 k v s p e X (linesT v s (lNext v s a)) b n) r := by
      by_cases hle : lNext v s a ≤ b
      · exact ih (s.size - lNext v s a) (by omega) _ rfl hle
      · have := ho.2 (by omega)
        rw [this]
        exact r_keep v s p e X r b n _ (by omega) h
    refine Ev.step (f := fun k => targumref17_Plain.l1 k v s p e X (linesT v s (lNext v s a)) b n) (fun k => ?_) hrest
    rw [targumref17_Plain.l1.eq_2, linesT_lt v s a ha, if_pos (by simp only [List.length_cons]; omega), if_pos (by simp only [List.length_cons]; omega), rd_head, if_pos (by dsimp only; omega), if_pos (by simp only [List.length_cons]; omega)]
    rfl
end

theorem lText_eq (v : Int) (s : ByteArray) (n : Nat) : (suf s n).take (lEnd v s n - n) = lText v s n := by
  unfold lText lEnd; rw [Nat.add_sub_cancel_left]

theorem acc_fold (X Y : ByteArray) (n : Nat) (hn : n ≠ 0) : X ++ (⟨(List.replicate n 10).toArray⟩ : ByteArray) ++ Y = X ++ ⟨(foldedL (n + 1)).toArray⟩ ++ Y := by
  unfold foldedL; rw [if_neg (by omega), Nat.add_sub_cancel]
theorem acc_one (X Y : ByteArray) : X ++ (⟨#[32]⟩ : ByteArray) ++ Y = X ++ ⟨(foldedL (0 + 1)).toArray⟩ ++ Y := rfl

/-- Where a part ends that goes on at byte a. -/
def endAt (v : Int) (s : ByteArray) (a : Nat) : Nat := ends (decide (v = 11)) false (prevBl s a) a a (suf s a)
theorem endAt_le (v : Int) (s : ByteArray) (a : Nat) (h : a ≤ s.size) : a ≤ endAt v s a ∧ endAt v s a ≤ s.size := by
  have := ends_le (decide (v = 11)) false (suf s a) (prevBl s a) a a (Nat.le_refl _)
  rw [suf_length] at this
  unfold endAt; omega

section
variable (v : Int) (s : ByteArray) (p : Int) (e : Nat) (X : ByteArray) (r : ByteArray × Int) (hs : s.size ≤ 1000000) (he : e ≤ s.size) (hX : X.size ≤ e)
include hs he hX

theorem r_skip : ∀ (q m nx : Nat), s.size - nx < q → nx ≤ s.size → e + m < nx + 1 →
    ((onF v s p q m nx).1 < 0 → r = (X, (e : Int))) →
    (∀ (a n nx' : Nat), onF v s p q m nx = ((a : Int), (n : Int)) → nx' ≤ a → Ev (fun k => targumref17_Plain.l0 k v s p (endAt v s a : Int) (X ++ ⟨(foldedL (n + 1)).toArray⟩ ++ s.extract a (endAt v s a)) (linesT v s nx')) r) →
    Ev (fun k => targumref17_Plain.l2 k v s p e X (linesT v s nx) (m : Int)) r := by
  intro q
  induction q with
  | zero => intro m nx h; omega
  | succ q ih =>
    intro m nx hq hn hem hno hyes
    rw [onF] at hno hyes
    have no6 : ∀ k n, targumref17_Plain.j6 (k + 1) v s p (e : Int) X (linesT v s nx) n true = some (X, (e : Int)) := fun k n => by rw [targumref17_Plain.j6.eq_2, if_pos rfl]
    by_cases h1 : s.size ≤ nx
    · rw [if_pos h1] at hno
      have hr := hno (by decide)
      refine ⟨3, fun k hk => ?_⟩
      obtain ⟨k, rfl⟩ : ∃ z, k = z + 3 := ⟨k - 3, by omega⟩
      dsimp only
      rw [targumref17_Plain.l2.eq_2]
      have hl := linesT_ge v s nx h1
      rw [if_neg (by rw [hl]; simp), targumref17_Plain.j5.eq_2, if_pos (by rw [hl]; simp), no6, hr]
    · have hlt : nx < s.size := by omega
      have hnl := next_lt v s nx hlt
      have hle := lNext_le v s nx hn
      have hle2 := lEnd_le v s nx hn
      have hl := linesT_lt v s nx hlt
      have hlen : 0 < (linesT v s nx).length := by rw [hl]; simp
      have hrd : rd_T59 (linesT v s nx) 0 = ⟨(nx : Int), (lEnd v s nx : Int), (lNext v s nx : Int)⟩ := by rw [hl]; rfl
      rw [if_neg h1] at hno hyes
      by_cases h2 : (lText v s nx).all isBl = true
      · rw [if_pos h2] at hno hyes
        have hrest := ih (m + 1) (lNext v s nx) (by omega) hle.2 (by omega) hno hyes
        obtain ⟨K, hK⟩ := hrest
        refine ⟨K + s.size + 5, fun k hk => ?_⟩
        obtain ⟨k, rfl⟩ : ∃ z, k = z + 1 := ⟨k - 1, by omega⟩
        dsimp only
        rw [targumref17_Plain.l2.eq_2, if_pos (by omega), if_pos (by omega), hrd, r_blankl s nx (lEnd v s nx) (lNext v s nx) k hle2.1 hle.1 hle.2 (by omega) (by omega), lText_eq, h2]
        simp only [Option.bind_some, if_true]
        rw [if_pos (by omega), wrap_small _ (by omega) (by omega)]
        have hd : (linesT v s nx).drop (1 : Int).toNat = linesT v s (lNext v s nx) := by rw [hl]; rfl
        rw [hd]
        exact hK k (by omega)
      · rw [if_neg h2] at hno hyes
        have h2' : (lText v s nx).all isBl = false := by simpa using h2
        have hq1 := nbl_lt v s nx hn h2'
        obtain ⟨b, hb⟩ : ∃ b, nx + nbl (suf s nx) = b := ⟨_, rfl⟩
        rw [hb] at hno hyes hq1
        have hbs : b < s.size := by omega
        have es := suf_cons s b hbs
        obtain ⟨hbt, _⟩ := bt_suf s b _ _ es
        have e35 := u8_eq s[b] 35 (by decide); have e58 := u8_eq s[b] 58 (by decide)
        rw [show ((35 : Nat) : Int) = 35 from rfl] at e35
        rw [show ((58 : Nat) : Int) = 58 from rfl] at e58
        have first : ∀ k, s.size + 40 < k → targumref17_Plain.l2 (k + 1) v s p (e : Int) X (linesT v s nx) (m : Int) = targumref17_Plain.j5 k v s p (e : Int) X (linesT v s nx) (m : Int) := by
          intro k hk
          rw [targumref17_Plain.l2.eq_2, if_pos (by omega), if_pos (by omega), hrd, r_blankl s nx (lEnd v s nx) (lNext v s nx) k hle2.1 hle.1 hle.2 (by omega) (by omega), lText_eq, h2']
          simp only [Option.bind_some]
          rw [if_neg (by decide)]
        have second : ∀ k, s.size + 40 < k → targumref17_Plain.j5 (k + 1) v s p (e : Int) X (linesT v s nx) (m : Int) = if (nsp (lText v s nx) : Int) ≤ p then targumref17_Plain.j6 k v s p (e : Int) X (linesT v s nx) (m : Int) true else targumref17_Plain.j6 k v s p (e : Int) X (linesT v s nx) (m : Int) (decide ((marker (lText v s nx) : Int) > 0)) := by
          intro k hk
          rw [targumref17_Plain.j5.eq_2, if_neg (by omega), if_pos (by omega), hrd, r_indent s nx (lEnd v s nx) (lNext v s nx) k hle2.1 hle.1 hle.2 (by omega) (by omega), r_marker s nx (lEnd v s nx) (lNext v s nx) k hle2.1 hle.1 hle.2 (by omega) (by omega), lText_eq]
          simp only [Option.bind_some]
        have third : ∀ k, s.size + 40 < k → targumref17_Plain.j6 (k + 1) v s p (e : Int) X (linesT v s nx) (m : Int) false = if s[b] = 35 then targumref17_Plain.j7 k v s p (e : Int) X (linesT v s nx) (m : Int) (b : Int) true else if s[b] = 58 then targumref17_Plain.j7 k v s p (e : Int) X (linesT v s nx) (m : Int) (b : Int) (stop (decide (v = 11)) false (suf s (b + 1))) else targumref17_Plain.j7 k v s p (e : Int) X (linesT v s nx) (m : Int) (b : Int) false := by
          intro k hk
          rw [targumref17_Plain.j6.eq_2, if_neg (by decide), if_pos (by omega), hrd]
          dsimp only
          rw [r_over s nx k (by omega) (by omega), hb]
          simp only [Option.bind_some]
          rw [if_pos (by omega), if_pos (by omega), hbt, wrap_small ((b : Int) + 1) (by omega) (by omega), show (b : Int) + 1 = ((b + 1 : Nat) : Int) from rfl, r_stop v s (b + 1) k false (by omega) (by omega)]
          simp only [Option.bind_some, e35, e58]
          rfl
        have no7 : ∀ k, targumref17_Plain.j7 (k + 1) v s p (e : Int) X (linesT v s nx) (m : Int) (b : Int) true = some (X, (e : Int)) := fun k => by rw [targumref17_Plain.j7.eq_2, if_pos rfl]
        rw [es] at hno hyes
        simp only [List.head?_cons, Option.some.injEq] at hno hyes
        by_cases hc : (nsp (lText v s nx) : Int) ≤ p ∨ 0 < marker (lText v s nx) ∨ s[b] = 35 ∨ (s[b] = 58 ∧ stop (decide (v = 11)) false (suf s (b + 1)) = true)
        · rw [if_pos hc] at hno
          have hr := hno (by decide)
          refine ⟨s.size + 60, fun k hk => ?_⟩
          obtain ⟨k, rfl⟩ : ∃ z, k = z + 5 := ⟨k - 5, by omega⟩
          dsimp only
          rw [first (k + 4) (by omega), second (k + 3) (by omega), hr]
          by_cases q1 : (nsp (lText v s nx) : Int) ≤ p
          · rw [if_pos q1, no6]
          · rw [if_neg q1]
            by_cases q2 : 0 < marker (lText v s nx)
            · rw [decide_eq_true (by omega), no6]
            · rw [decide_eq_false (by omega), third (k + 2) (by omega)]
              by_cases q3 : s[b] = 35
              · rw [if_pos q3, no7]
              · rw [if_neg q3]
                have q4 : s[b] = 58 ∧ stop (decide (v = 11)) false (suf s (b + 1)) = true := by
                  rcases hc with x | x | x | x
                  · exact absurd x q1
                  · exact absurd x q2
                  · exact absurd x q3
                  · exact x
                rw [if_pos q4.1, q4.2, no7]
        · rw [if_neg hc] at hyes
          obtain ⟨K, hK⟩ := hyes b m nx rfl (by omega)
          have hE := endAt_le v s b (by omega)
          refine ⟨K + 4 * s.size + 100, fun k hk => ?_⟩
          obtain ⟨k, rfl⟩ : ∃ z, k = z + 5 := ⟨k - 5, by omega⟩
          have h35 : ¬ s[b] = 35 := fun x => hc (.inr (.inr (.inl x)))
          have hends : targumref17_ends.f (k + 1) v s (b : Int) false = some (endAt v s b : Int) := by
            unfold targumref17_ends.f endAt
            exact r_ends_l v s false (by omega) b (by rw [es]; simpa using h35) (s.size - b) b b (k + 1) rfl (Nat.le_refl _) (Nat.le_refl _) (by omega) (fun j h1 h2 => by omega) (.inl rfl) (by omega)
          have hx : (s.extract (b : Int).toNat (endAt v s b : Int).toNat) = s.extract b (endAt v s b) := rfl
          have hxs : (s.extract b (endAt v s b)).size ≤ s.size := by rw [ByteArray.size_extract]; omega
          have go7 : targumref17_Plain.j7 (k + 2) v s p (e : Int) X (linesT v s nx) (m : Int) (b : Int) false = some r := by
            rw [targumref17_Plain.j7.eq_2, if_neg (by decide), hends]
            simp only [Option.bind_some]
            have hxs2 : (s.extract (b : Int).toNat (endAt v s b : Int).toNat).size ≤ s.size := hxs
            by_cases hm0 : m = 0
            · subst hm0
              have e1 : (X ++ (⟨#[32]⟩ : ByteArray)).size = X.size + 1 := by rw [ByteArray.size_append]; rfl
              rw [if_pos (show ((0 : Nat) : Int) = 0 from rfl), if_pos (by omega), if_pos (by omega), if_pos (by omega), if_pos (by omega), if_pos (by rw [e1]; omega), hx, acc_one]
              exact hK (k + 1) (by omega)
            · rw [if_neg (by omega), r_feeds m (k + 1) (by omega) (by omega)]
              simp only [Option.bind_some]
              have e2 : (⟨(List.replicate m 10).toArray⟩ : ByteArray).size = m := by
                show (List.replicate m (10 : UInt8)).toArray.size = m
                simp
              rw [if_pos (by rw [e2]; omega), if_pos (by omega), if_pos (by omega), if_pos (by omega), if_pos (by rw [ByteArray.size_append, e2]; omega), hx, acc_fold X _ m hm0]
              exact hK (k + 1) (by omega)
          dsimp only
          rw [first (k + 4) (by omega), second (k + 3) (by omega), if_neg (fun x => hc (.inl x)), decide_eq_false (fun x => hc (.inr (.inl (by omega)))), third (k + 2) (by omega), if_neg h35]
          by_cases q3 : s[b] = 58
          · have q4 : stop (decide (v = 11)) false (suf s (b + 1)) = false := by
              cases hst : stop (decide (v = 11)) false (suf s (b + 1))
              · rfl
              · exact absurd (.inr (.inr (.inr ⟨q3, hst⟩))) hc
            rw [if_pos q3, q4]; exact go7
          · rw [if_neg q3]; exact go7
end

theorem onF_neg (v : Int) (s : ByteArray) (p : Int) : ∀ (q m nx : Nat), (∃ a n : Nat, onF v s p q m nx = ((a : Int), (n : Int))) ∨ (onF v s p q m nx = (-1, 0)) := by
  intro q
  induction q with
  | zero => intro m nx; exact .inr rfl
  | succ q ih =>
    intro m nx
    rw [onF]
    split
    · exact .inr rfl
    · split
      · exact ih _ _
      · split
        · exact .inr rfl
        · exact .inl ⟨_, _, rfl⟩

theorem r_go (v : Int) (s : ByteArray) (p : Int) (hs : s.size ≤ 1000000) : ∀ (q e : Nat) (X : ByteArray) (a : Nat), s.size - e < q → a ≤ e → e ≤ s.size → X.size ≤ e →
    Ev (fun k => targumref17_Plain.l0 k v s p (e : Int) X (linesT v s a)) (⟨(readF v s p q e X.data.toList).1.toArray⟩, ((readF v s p q e X.data.toList).2 : Int)) := by
  intro q
  induction q with
  | zero => intro e X a h; omega
  | succ q ih =>
    intro e X a hq ha he hX
    have hnb := nbl_le (suf s e)
    rw [suf_length] at hnb
    obtain ⟨b, hb⟩ : ∃ b, e + nbl (suf s e) = b := ⟨_, rfl⟩
    have hXX : (⟨X.data.toList.toArray⟩ : ByteArray) = X := rfl
    have no : onT v s p e = (-1, 0) → (b = s.size ∨ brk (decide (v = 11)) (suf s b) = 0) → Ev (fun k => targumref17_Plain.l0 k v s p (e : Int) X (linesT v s a)) (⟨(readF v s p (q + 1) e X.data.toList).1.toArray⟩, ((readF v s p (q + 1) e X.data.toList).2 : Int)) := by
      intro hT hor
      rw [readF, hT, if_pos (by decide)]
      refine ⟨s.size + 40, fun k hk => ?_⟩
      obtain ⟨k, rfl⟩ : ∃ z, k = z + 3 := ⟨k - 3, by omega⟩
      dsimp only
      rw [targumref17_Plain.l0.eq_2, r_over s e _ (by omega) (by omega), hb]
      simp only [Option.bind_some]
      by_cases h1 : (b : Int) = (s.size : Int)
      · rw [if_pos h1, targumref17_Plain.j1.eq_2, if_pos rfl]
      · have h2 : brk (decide (v = 11)) (suf s b) = 0 := by
          rcases hor with h | h
          · omega
          · exact h
        rw [if_neg h1, r_break v s b _ (by omega) (by omega), h2]
        simp only [Option.bind_some]
        rw [targumref17_Plain.j1.eq_2, if_pos (by decide)]
    by_cases hbs : b = s.size
    · refine no ?_ (.inl hbs)
      have hl : lend (decide (v = 11)) (suf s b) = 0 := by rw [suf_nil s b (by omega)]; rfl
      have hn : lNext v s b = b := by unfold lNext lEnd; rw [hl, Nat.add_zero, suf_nil s b (by omega), brk_nil]; rfl
      unfold onT
      rw [hb, hl, if_pos rfl, hn, onF, if_pos (by omega)]
    · have hlt : b < s.size := by omega
      have es := suf_cons s b hlt
      by_cases hz : brk (decide (v = 11)) (suf s b) = 0
      · refine no ?_ (.inr hz)
        unfold onT
        rw [hb, if_neg]
        rw [es] at hz ⊢
        rw [lend, if_pos hz]; omega
      · have hl : lend (decide (v = 11)) (suf s b) = 0 := by rw [es] at hz ⊢; rw [lend, if_neg hz]
        have hn : lNext v s b = b + brk (decide (v = 11)) (suf s b) := by unfold lNext lEnd; rw [hl, Nat.add_zero]
        have hT : onT v s p e = onF v s p (s.size + 1) 0 (b + brk (decide (v = 11)) (suf s b)) := by
          unfold onT
          rw [hb, hl, if_pos rfl, hn]
        have hbl := (brk_le (decide (v = 11)) (suf s b)).1
        rw [suf_length] at hbl
        have hskip := r_skip v s p e X (⟨(readF v s p (q + 1) e X.data.toList).1.toArray⟩, ((readF v s p (q + 1) e X.data.toList).2 : Int)) hs he hX (s.size + 1) 0 (b + brk (decide (v = 11)) (suf s b)) (by omega) (by omega) (by omega)
          (by
            intro h
            rw [← hT] at h
            rw [readF, if_pos h])
          (by
            intro a' n nx' h hx
            rw [← hT] at h
            have hbd := onT_bd v s p e a' n he h (by omega)
            have hE := endAt_le v s a' (by omega)
            have hf := foldedL_len n
            have hstep := readF_step v s p q e X.data.toList a' n h
            rw [hstep]
            have htl : (X ++ ⟨(foldedL (n + 1)).toArray⟩ ++ s.extract a' (endAt v s a')).data.toList = X.data.toList ++ foldedL (n + 1) ++ (suf s a').take (endAt v s a' - a') := by
              rw [← extract_suf]; simp
            have hsz : (X ++ ⟨(foldedL (n + 1)).toArray⟩ ++ s.extract a' (endAt v s a')).size ≤ endAt v s a' := by
              have e1 : (⟨(foldedL (n + 1)).toArray⟩ : ByteArray).size = (foldedL (n + 1)).length := by
                show (foldedL (n + 1)).toArray.size = _
                simp
              rw [ByteArray.size_append, ByteArray.size_append, e1, ByteArray.size_extract]; omega
            have := ih (endAt v s a') (X ++ ⟨(foldedL (n + 1)).toArray⟩ ++ s.extract a' (endAt v s a')) nx' (by omega) (by omega) hE.2 hsz
            rw [htl] at this
            exact this)
        have hdrop := r_drop v s p e X _ b 0 hlt (by omega) (Ev.step (f := fun k => targumref17_Plain.l2 k v s p (e : Int) X (linesT v s (b + brk (decide (v = 11)) (suf s b))) (0 : Int)) (fun k => by rw [targumref17_Plain.j3.eq_2]) hskip) (s.size - a) a rfl (by omega)
        obtain ⟨K, hK⟩ := hdrop
        refine ⟨K + s.size + 40, fun k hk => ?_⟩
        obtain ⟨k, rfl⟩ : ∃ z, k = z + 3 := ⟨k - 3, by omega⟩
        dsimp only
        rw [targumref17_Plain.l0.eq_2, r_over s e _ (by omega) (by omega), hb]
        simp only [Option.bind_some]
        rw [if_neg (by omega), r_break v s b _ (by omega) (by omega)]
        simp only [Option.bind_some]
        rw [show (((brk (decide (v = 11)) (suf s b) : Nat) : Int) == 0) = false from by simpa using hz, targumref17_Plain.j1.eq_2, if_neg (by decide)]
        exact hK (k + 1) (by omega)

theorem r_plain (v : Int) (s : ByteArray) (i p : Int) (hs : s.size ≤ 1000000) : Ev (fun k => targumref17_Plain.f k v s i p) (⟨(readI v s i p).1.toArray⟩, (readI v s i p).2) := by
  by_cases h0 : partI v s i false < 0
  · have hr : readI v s i p = ([], -1) := by unfold readI; rw [if_pos h0]
    rw [hr]
    refine ⟨4 * s.size + 100, fun k hk => ?_⟩
    dsimp only
    unfold targumref17_Plain.f
    rw [r_part v s i false k (by omega) (by omega)]
    simp only [Option.bind_some]
    rw [if_pos h0]
  · have hp0 := h0
    unfold partI at hp0
    by_cases hi : i < 0
    · rw [if_pos hi] at hp0; exact absurd (by decide) hp0
    rw [if_neg hi] at hp0
    obtain ⟨n, rfl⟩ : ∃ n : Nat, i = (n : Int) := ⟨i.toNat, by omega⟩
    rw [Int.toNat_natCast] at hp0
    by_cases ho : opens (decide (v = 11)) false (suf s n) = true
    · have hn : n < s.size := opens_lt ho
      have hE := endAt_le v s n (by omega)
      have hP : partI v s n false = (endAt v s n : Int) := by
        unfold partI endAt; rw [if_neg hi, Int.toNat_natCast, if_pos ho]
      have hr : readI v s n p = ((readF v s p (s.size + 1) (endAt v s n) ((suf s n).take (endAt v s n - n))).1, ((readF v s p (s.size + 1) (endAt v s n) ((suf s n).take (endAt v s n - n))).2 : Int)) := by
        unfold readI; rw [hP, if_neg (by omega), Int.toNat_natCast, Int.toNat_natCast]
      rw [hr]
      have hsz : (s.extract n (endAt v s n)).size ≤ endAt v s n := by rw [ByteArray.size_extract]; omega
      obtain ⟨K, hK⟩ := r_go v s p hs (s.size + 1) (endAt v s n) (s.extract n (endAt v s n)) 0 (by omega) (by omega) hE.2 hsz
      refine ⟨K + 4 * s.size + 100, fun k hk => ?_⟩
      dsimp only
      unfold targumref17_Plain.f
      rw [r_part v s n false k (by omega) (by omega), hP]
      simp only [Option.bind_some]
      rw [if_neg (by omega), if_pos (by omega), if_pos (by omega), if_pos (by omega), r_lines v s k hs (by omega)]
      simp only [Option.bind_some]
      have := hK k (by omega)
      rw [extract_suf] at this
      exact this
    · rw [if_neg ho] at hp0; exact absurd (by decide) hp0
end Go.Proofs.YtmfjdlmhejabiaaDoor.M
