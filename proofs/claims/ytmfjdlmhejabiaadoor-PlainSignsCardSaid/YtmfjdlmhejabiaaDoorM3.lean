/- Plain texts, in plain words: where one begins, its part, the whole of it; bounds. -/
import Derived.Test.YtmfjdlmhejabiaaDoorX3
namespace Go.Proofs.YtmfjdlmhejabiaaDoor.M
open Go.RowKit Go.Proofs.Tg Go.Proofs.YtmfjdlmhejabiaaDoor.X Go.Proofs.YtmfjdlmhejabiaaDoor.PB Go.Proofs.YtmfjdlmhejabiaaDoorW.PrintWords
set_option linter.unusedVariables false
set_option linter.unusedSimpArgs false

def neverL : List UInt8 := [44, 91, 93, 123, 125, 35, 38, 42, 33, 124, 62, 39, 34, 37, 64, 96]
/-- May a plain text begin here? -/
def opens (old flow : Bool) : List UInt8 → Bool
  | [] => false
  | c :: l => !(stop old false (c :: l)) && !(decide (c ∈ neverL)) && (!(decide (c ∈ ([45, 63, 58] : List UInt8))) || !(stop old flow l))

theorem begins_eq (v : Int) (s : ByteArray) (n k : Nat) (flow : Bool) (hs : s.size ≤ 140737488355328) (hk : 0 < k) :
    plain_begins.f k v s (n : Int) flow = some (opens (decide (v = 11)) flow (suf s n)) := by
  obtain ⟨k, rfl⟩ : ∃ m, k = m + 1 := ⟨k - 1, by omega⟩
  unfold plain_begins.f
  rw [if_neg (by omega), stop_eq]
  simp only [Option.bind_some]
  have j0 : plain_begins.j0 (k + 1) v s (n : Int) flow true = some false := by simp [plain_begins.j0]
  by_cases h : n < s.size
  · have e := suf_cons s n h
    obtain ⟨hb, _⟩ := bt_suf s n _ _ e
    by_cases h1 : stop (decide (v = 11)) false (suf s n) = true
    · rw [if_pos h1, j0]
      rw [e] at h1 ⊢
      simp [opens, h1]
    · rw [if_neg h1, if_pos (by omega), if_pos (by omega), hb]
      have h1' : stop (decide (v = 11)) false (suf s n) = false := by simpa using h1
      simp only [strings_IndexByte.f, Option.bind_some, toUInt8_toNat]
      have hm : decide (Lib.indexByte [44, 91, 93, 123, 125, 35, 38, 42, 33, 124, 62, 39, 34, 37, 64, 96] s[n] ≥ 0) = decide (s[n] ∈ neverL) := by
        rw [Bool.eq_iff_iff, decide_eq_true_eq, decide_eq_true_eq, indexByte_neg]; rfl
      rw [hm]
      rw [e] at h1' ⊢
      simp only [opens, h1', Bool.not_false, Bool.true_and]
      cases h2 : decide (s[n] ∈ neverL)
      · simp only [plain_begins.j0, Bool.false_eq_true, if_false, Bool.not_false, Bool.true_and]
        rw [if_pos (by omega), if_pos (by omega), hb]
        simp only [strings_IndexByte.f, Option.bind_some, toUInt8_toNat]
        have hmm := indexByte_neg [45, 63, 58] s[n]
        by_cases h3 : s[n] ∈ ([45, 63, 58] : List UInt8)
        · rw [if_neg (by have := hmm.mpr h3; omega), wrap_small _ (by omega) (by omega)]
          rw [show ((n : Int) + 1) = ((n + 1 : Nat) : Int) from rfl, stop_eq]
          simp only [Option.bind_some, h3, decide_true, Bool.not_true, Bool.false_or]
        · rw [if_pos (by have : ¬ Lib.indexByte [45, 63, 58] s[n] ≥ 0 := fun hh => h3 (hmm.mp hh); omega)]
          simp only [h3, decide_false, Bool.not_false, Bool.true_or]
      · rw [j0]; simp
  · rw [suf_nil s n (by omega), if_pos (show stop (decide (v = 11)) false [] = true from rfl), j0]; rfl

theorem begins_neg (v : Int) (s : ByteArray) (i : Int) (k : Nat) (flow : Bool) (h : i < 0) (hk : 0 < k) :
    plain_begins.f k v s i flow = some false := by
  obtain ⟨k, rfl⟩ : ∃ m, k = m + 1 := ⟨k - 1, by omega⟩
  unfold plain_begins.f
  rw [if_pos h]; simp [plain_begins.j0]

/-- Where the part ends that begins at byte n; -1: none does. -/
def partI (v : Int) (s : ByteArray) (i : Int) (flow : Bool) : Int :=
  if i < 0 then -1 else if opens (decide (v = 11)) flow (suf s i.toNat) = true then (ends (decide (v = 11)) flow (prevBl s i.toNat) i.toNat i.toNat (suf s i.toNat) : Nat) else -1

theorem onF_bd (v : Int) (s : ByteArray) (p : Int) : ∀ (k m nx : Nat) (a n : Int), nx ≤ s.size → onF v s p k m nx = (a, n) → 0 ≤ a →
    (nx : Int) ≤ a ∧ a < s.size ∧ (m : Int) ≤ n ∧ n - m ≤ a - nx := by
  intro k
  induction k with
  | zero => intro m nx a n _ h h0; simp only [onF, Prod.mk.injEq] at h; omega
  | succ k ih =>
    intro m nx a n hn h h0
    unfold onF at h
    by_cases h1 : s.size ≤ nx
    · rw [if_pos h1] at h; simp only [Prod.mk.injEq] at h; omega
    · rw [if_neg h1] at h
      by_cases h2 : (lText v s nx).all isBl = true
      · rw [if_pos h2] at h
        have := ih (m + 1) (lNext v s nx) a n (lNext_le v s nx hn).2 h h0
        have := next_lt v s nx (by omega)
        omega
      · rw [if_neg h2] at h
        have hq := nbl_lt v s nx hn (by simpa using h2)
        have := lEnd_le v s nx hn
        split at h
        · simp only [Prod.mk.injEq] at h; omega
        · simp only [Prod.mk.injEq] at h; omega

theorem onT_bd (v : Int) (s : ByteArray) (p : Int) (e : Nat) (a n : Int) (he : e ≤ s.size) (h : onT v s p e = (a, n)) (h0 : 0 ≤ a) :
    (e : Int) < a ∧ a < s.size ∧ 0 ≤ n ∧ n + 1 ≤ a - e := by
  unfold onT at h
  have hb := nbl_le (suf s e)
  rw [suf_length] at hb
  have hle := lNext_le v s (e + nbl (suf s e)) (by omega)
  have hle2 := lEnd_le v s (e + nbl (suf s e)) (by omega)
  split at h
  · have := onF_bd v s p _ _ _ a n hle.2 h h0
    by_cases hlt : e + nbl (suf s e) < s.size
    · have := next_lt v s _ hlt
      omega
    · omega
  · simp only [Prod.mk.injEq] at h; omega

/-- What a row of n breaks says. -/
def foldedL (n : Nat) : List UInt8 := if n = 1 then [32] else List.replicate (n - 1) 10
theorem repeatL_one10 : ∀ n, Lib.repeatL [10] n = List.replicate n 10
  | 0 => rfl
  | n + 1 => by rw [Lib.repeatL, repeatL_one10 n]; rfl
theorem folded_eq (n : Nat) (h : n ≤ 140737488355328) : rows_Folded.f (n : Int) = some ⟨(foldedL n).toArray⟩ := by
  unfold rows_Folded.f foldedL
  by_cases h1 : n = 1
  · rw [if_pos (by omega), if_pos h1]
  · rw [if_neg (by omega), if_neg h1]
    have : mx (wrap64 ((n : Int) - 1)) 0 = ((n - 1 : Nat) : Int) := by rw [wrap_small _ (by omega) (by omega)]; unfold mx; omega
    rw [this]
    unfold strings_Repeat.f
    rw [if_pos (by omega), if_pos (by rw [Int.toNat_natCast]; show 1 * (n - 1) ≤ _; omega), if_pos (by omega)]
    simp only [Option.bind_some, Int.toNat_natCast]
    rw [repeatL_one10]

/-- The text on the lines behind byte e, and where it ends. -/
def readF (v : Int) (s : ByteArray) (p : Int) : Nat → Nat → List UInt8 → List UInt8 × Nat
  | 0, e, acc => (acc, e)
  | k + 1, e, acc =>
    if (onT v s p e).1 < 0 then (acc, e)
    else readF v s p k (ends (decide (v = 11)) false (prevBl s (onT v s p e).1.toNat) (onT v s p e).1.toNat (onT v s p e).1.toNat (suf s (onT v s p e).1.toNat))
      (acc ++ foldedL ((onT v s p e).2.toNat + 1) ++ (suf s (onT v s p e).1.toNat).take (ends (decide (v = 11)) false (prevBl s (onT v s p e).1.toNat) (onT v s p e).1.toNat (onT v s p e).1.toNat (suf s (onT v s p e).1.toNat) - (onT v s p e).1.toNat))
/-- plain.Read's answer. -/
def readI (v : Int) (s : ByteArray) (i : Int) (p : Int) : List UInt8 × Int :=
  if partI v s i false < 0 then ([], -1)
  else (((readF v s p (s.size + 1) (partI v s i false).toNat ((suf s i.toNat).take ((partI v s i false).toNat - i.toNat))).1), ((readF v s p (s.size + 1) (partI v s i false).toNat ((suf s i.toNat).take ((partI v s i false).toNat - i.toNat))).2 : Int))
end Go.Proofs.YtmfjdlmhejabiaaDoor.M
