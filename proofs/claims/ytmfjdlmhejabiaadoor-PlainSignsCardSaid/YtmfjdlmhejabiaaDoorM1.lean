/- What the printed base functions say, in plain words: blanks, stops, remarks, lines. -/
import Derived.Test.YtmfjdlmhejabiaaDoorPBx1
import Derived.Test.YtmfjdlmhejabiaaDoorPBx2
namespace Go.Proofs.YtmfjdlmhejabiaaDoor.M
open Go.RowKit Go.Proofs.Tg Go.Proofs.YtmfjdlmhejabiaaDoor.X Go.Proofs.YtmfjdlmhejabiaaDoor.PB Go.Proofs.YtmfjdlmhejabiaaDoorW.PrintWords
set_option linter.unusedVariables false
set_option linter.unusedSimpArgs false

theorem bt_suf (s : ByteArray) (n : Nat) (c : UInt8) (l : List UInt8) (h : suf s n = c :: l) : bt s (n : Int) = (c.toNat : Int) ∧ n < s.size := by
  have hn : n < s.size := by
    have := suf_length s n; rw [h] at this; simp at this; omega
  rw [suf_cons s n hn] at h
  injection h with h1 h2
  refine ⟨?_, hn⟩
  unfold bt
  rw [dif_pos (by simpa using hn), ← h1]; rfl

theorem u8_eq (c : UInt8) (n : Nat) (hn : n < 256) : ((c.toNat : Int) = (n : Int)) = (c = UInt8.ofNat n) := by
  rw [eq_iff_iff, ← UInt8.toNat_inj, UInt8.toNat_ofNat_of_lt' hn]; omega
theorem u8_beq (c : UInt8) (n : Nat) (hn : n < 256) : ((c.toNat : Int) == (n : Int)) = (c == UInt8.ofNat n) := by
  rw [Bool.eq_iff_iff, beq_iff_eq, beq_iff_eq, u8_eq c n hn]

theorem blank_eq (s : ByteArray) (n : Nat) : rows_Blank.f s (n : Int) = some (bl (suf s n)) := by
  unfold rows_Blank.f
  rw [if_pos (by omega)]
  by_cases h : n < s.size
  · have e := suf_cons s n h
    obtain ⟨hb, _⟩ := bt_suf s n _ _ e
    rw [if_pos (by omega), if_pos (by omega), hb, e]
    have e32 := u8_eq s[n] 32 (by decide)
    have e9 := u8_beq s[n] 9 (by decide)
    rw [show (32 : Int) = ((32 : Nat) : Int) from rfl, show (9 : Int) = ((9 : Nat) : Int) from rfl, e9]
    simp only [e32, bl, isBl]
    by_cases h32 : s[n] = UInt8.ofNat 32
    · rw [if_pos h32, h32]; rfl
    · rw [if_neg h32]
      have : (s[n] == 32) = false := by simpa using h32
      rw [this]; rfl
  · rw [if_neg (by omega), suf_nil s n (by omega)]; rfl

theorem wrap_small (i : Int) (h0 : -9223372036854775808 ≤ i) (h1 : i ≤ 9223372036854775807) : wrap64 i = i := by unfold wrap64; omega

/-- Does a remark begin at byte n? -/
def remark (s : ByteArray) (n : Nat) : Bool := decide ((suf s n).head? = some 35) && prevBl s n

theorem remark_eq (s : ByteArray) (n : Nat) (hs : s.size ≤ 9223372036854775807) : rows_Remark.f s (n : Int) = some (remark s n) := by
  unfold rows_Remark.f remark
  rw [if_pos (by omega)]
  by_cases h : n < s.size
  · have e := suf_cons s n h
    obtain ⟨hb, _⟩ := bt_suf s n _ _ e
    rw [if_pos (by omega), if_pos (by omega), hb, e]
    have e35 := u8_eq s[n] 35 (by decide)
    rw [show (35 : Int) = ((35 : Nat) : Int) from rfl]
    simp only [e35, List.head?_cons, Option.some.injEq]
    by_cases h35 : s[n] = UInt8.ofNat 35
    · rw [if_pos h35, wrap_small _ (by omega) (by omega)]
      have h35' : s[n] = 35 := h35
      by_cases h0 : n = 0
      · subst h0
        have : rows_Blank.f s (((0 : Nat) : Int) - 1) = some false := by
          unfold rows_Blank.f; rw [if_neg (by omega)]
        rw [this]; simp [prevBl]
      · have : ((n : Int) - 1) = ((n - 1 : Nat) : Int) := by omega
        rw [this, blank_eq]
        simp [prevBl, h35', Nat.pos_of_ne_zero h0]
    · rw [if_neg h35]
      have h35' : ¬ s[n] = 35 := h35
      simp [h35']
  · rw [if_neg (by omega), suf_nil s n (by omega)]; rfl

theorem indexByte_neg (l : List UInt8) (c : UInt8) : (Lib.indexByte l c ≥ 0) ↔ c ∈ l := by
  induction l with
  | nil => simp [Lib.indexByte]
  | cons b l ih =>
    have hge := Lib.indexByte_ge l c
    unfold Lib.indexByte
    by_cases hb : b = c
    · subst hb; simp
    · have : (b == c) = false := by simpa using hb
      rw [this]
      simp only [Bool.false_eq_true, if_false, List.mem_cons]
      by_cases hm : Lib.indexByte l c = -1
      · rw [if_pos (by simpa using hm)]
        have : ¬ c ∈ l := fun h => by have := ih.mpr h; omega
        constructor
        · intro h; omega
        · rintro (h | h)
          · exact absurd h.symm hb
          · exact absurd h this
      · rw [if_neg (by simpa using hm)]
        have : c ∈ l := ih.mp (by omega)
        exact ⟨fun _ => .inr this, fun _ => by omega⟩

theorem toUInt8_toNat (c : UInt8) : ((c.toNat : Int)).toNat.toUInt8 = c := by
  simp

theorem stop_eq (v : Int) (s : ByteArray) (n : Nat) (flow : Bool) : rows_Stop.f v s (n : Int) flow = some (stop (decide (v = 11)) flow (suf s n)) := by
  unfold rows_Stop.f
  by_cases h : n < s.size
  · have e := suf_cons s n h
    obtain ⟨hb, _⟩ := bt_suf s n _ _ e
    rw [if_neg (by omega), blank_eq]
    simp only [Option.bind_some, brk_Break.f, brkI_nat]
    rw [e]
    by_cases h1 : bl (s[n] :: suf s (n + 1)) = true
    · rw [if_pos h1]
      have h1' : isBl s[n] = true := h1
      simp [stop, h1']
    · rw [if_neg h1]
      have h1' : isBl s[n] = false := by simpa [bl] using h1
      simp only [stop, h1', Bool.false_or]
      by_cases h2 : 0 < brk (decide (v = 11)) (s[n] :: suf s (n + 1))
      · rw [if_pos (by omega)]; simp [h2]
      · rw [if_neg (by omega)]
        cases flow
        · simp [h2]
        · rw [if_pos rfl, if_pos (by omega), if_pos (by omega), hb]
          simp only [strings_IndexByte.f, Option.bind_some, toUInt8_toNat, Option.some.injEq]
          rw [Bool.eq_iff_iff, decide_eq_true_eq, indexByte_neg]
          simp [h2, flowSign, or_assoc]
  · rw [if_pos (by omega), suf_nil s n (by omega)]; rfl
end Go.Proofs.YtmfjdlmhejabiaaDoor.M
