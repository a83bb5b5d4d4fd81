/- The reference on plain texts, in plain words: breaks, stops, where a part begins and ends. -/
import Derived.Test.YtmfjdlmhejabiaaDoorM4
import Derived.Test.YtmfjdlmhejabiaaDoorPLx9
namespace Go.Proofs.YtmfjdlmhejabiaaDoor.M
open Go.RowKit Go.Proofs.Tg Go.Proofs.YtmfjdlmhejabiaaDoor.X Go.Proofs.YtmfjdlmhejabiaaDoor.PL Go.Proofs.YtmfjdlmhejabiaaDoorW.PrintWords
set_option linter.unusedVariables false
set_option linter.unusedSimpArgs false
-- BODY
theorem r_blank (s : ByteArray) (n : Nat) : targumref1_IsBlank.f s (n : Int) = some (bl (suf s n)) := by
  unfold targumref1_IsBlank.f
  rw [if_pos (by omega)]
  by_cases h : n < s.size
  · have e := suf_cons s n h
    obtain ⟨hb, _⟩ := bt_suf s n _ _ e
    rw [if_pos (by omega), if_pos (by omega), hb, e]
    have e32 := u8_eq s[n] 32 (by decide)
    have e9 := u8_beq s[n] 9 (by decide)
    rw [show (32 : Int) = ((32 : Nat) : Int) from rfl, show (9 : Int) = ((9 : Nat) : Int) from rfl, e9]
    simp only [e32, bl, isBl]
    by_cases h32 : s[n] = UInt8.ofNat 32
    · rw [if_pos h32, h32]; rfl
    · rw [if_neg h32]
      have : (s[n] == 32) = false := by simpa using h32
      rw [this]; rfl
  · rw [if_neg (by omega), suf_nil s n (by omega)]; rfl

/-- A scalar that a text begins with, and how many bytes it has. -/
def fin (c least n : Int) : Int × Int := if c < least then (0, 0) else if (0 ≤ c ∧ c ≤ 1114111) ∧ (c < 55296 ∨ 57343 < c) then (c, n) else (0, 0)
def cont (b : UInt8) : Prop := 128 ≤ b.toNat ∧ b.toNat < 192
instance (b : UInt8) : Decidable (cont b) := by unfold cont; exact inferInstance
def nx : List UInt8 → Int × Int
  | [] => (0, 0)
  | b :: l =>
    if b.toNat < 128 then (b.toNat, 1)
    else if b.toNat < 192 then (0, 0)
    else if b.toNat < 224 then (match l with | b1 :: _ => if cont b1 then fin ((b.toNat - 192) * 64 + (b1.toNat - 128)) 128 2 else (0, 0) | _ => (0, 0))
    else if b.toNat < 240 then (match l with | b1 :: b2 :: _ => if cont b1 ∧ cont b2 then fin (((b.toNat - 224) * 64 + (b1.toNat - 128)) * 64 + (b2.toNat - 128)) 2048 3 else (0, 0) | _ => (0, 0))
    else if b.toNat < 248 then (match l with | b1 :: b2 :: b3 :: _ => if (cont b1 ∧ cont b2) ∧ cont b3 then fin ((((b.toNat - 240) * 64 + (b1.toNat - 128)) * 64 + (b2.toNat - 128)) * 64 + (b3.toNat - 128)) 65536 4 else (0, 0) | _ => (0, 0))
    else (0, 0)

theorem scalar_eq (c : Int) : targumref1_IsScalar.f c = some (decide ((0 ≤ c ∧ c ≤ 1114111) ∧ (c < 55296 ∨ 57343 < c))) := by
  unfold targumref1_IsScalar.f
  by_cases h1 : c ≥ 0
  · by_cases h2 : c ≤ 1114111
    · by_cases h3 : c < 55296
      · rw [if_pos h1, if_pos h2, if_pos h3, decide_eq_true (by omega)]
      · rw [if_pos h1, if_pos h2, if_neg h3]
        congr 1
        rw [Bool.eq_iff_iff, decide_eq_true_eq, decide_eq_true_eq]; omega
    · rw [if_pos h1, if_neg h2, decide_eq_false (by omega)]
  · rw [if_neg h1, decide_eq_false (by omega)]

theorem next_end (k : Nat) (s : ByteArray) (i c n least : Int) : targumref1_Next.l0 (k + 1) s i c n least n = some (fin c least n) := by
  simp only [targumref1_Next.l0]
  rw [if_neg (by omega)]
  unfold fin
  by_cases h : c < least
  · rw [if_pos h, if_pos h]
  · rw [if_neg h, if_neg h, scalar_eq]
    simp only [Option.bind_some, decide_eq_true_eq]
    split <;> rfl

theorem next_step (k : Nat) (s : ByteArray) (i j : Nat) (c n least : Int) (hs : s.size ≤ 140737488355328) (hi : i ≤ s.size) (hj : (j : Int) < n) (hn : n ≤ 4) (hc : 0 ≤ c ∧ c ≤ 2000000) :
    targumref1_Next.l0 (k + 1) s i c n least j =
      if n > (s.size : Int) - i then some (0, 0) else (match suf s (i + j) with
        | b :: _ => if cont b then targumref1_Next.l0 k s i (c * 64 + (b.toNat - 128)) n least (j + 1) else some (0, 0)
        | [] => some (0, 0)) := by
  rw [targumref1_Next.l0.eq_2]
  rw [if_pos hj, wrap_small ((s.size : Int) - i) (by omega) (by omega)]
  by_cases h1 : n > (s.size : Int) - i
  · rw [if_pos h1, if_pos h1]
  · rw [if_neg h1, if_neg h1]
    have hlt : i + j < s.size := by omega
    have e := suf_cons s (i + j) hlt
    obtain ⟨hb, _⟩ := bt_suf s (i + j) _ _ e
    have hw : wrap64 ((i : Int) + j) = ((i + j : Nat) : Int) := by rw [wrap_small _ (by omega) (by omega)]; omega
    have hu := UInt8.toNat_lt s[i + j]
    rw [hw, if_pos (by omega), if_pos (by omega), hb, e]
    dsimp only
    by_cases g1 : ((s[i + j].toNat : Int)) < 128
    · rw [if_pos g1, if_neg (fun q => by unfold cont at q; omega)]
    · rw [if_neg g1]
      by_cases g2 : ((s[i + j].toNat : Int)) ≥ 192
      · rw [if_pos g2, if_neg (fun q => by unfold cont at q; omega)]
      · rw [if_neg g2, if_pos (by unfold cont; omega), wrap_small (c * 64) (by omega) (by omega), wrap_small (s[i + j].toNat : Int) (by omega) (by omega), wrap_small (c * 64 + (s[i + j].toNat : Int)) (by omega) (by omega), wrap_small (c * 64 + (s[i + j].toNat : Int) - 128) (by omega) (by omega), wrap_small ((j : Int) + 1) (by omega) (by omega)]
        rw [show c * 64 + ((s[i + j].toNat : Int) - 128) = c * 64 + (s[i + j].toNat : Int) - 128 by omega]

theorem suf_len2 {s : ByteArray} {i : Nat} {l : List UInt8} (h : suf s i = l) : s.size - i = l.length := by rw [← h, suf_length]

theorem next_eq (s : ByteArray) (n k : Nat) (hs : s.size ≤ 140737488355328) (hn : n ≤ s.size) (hk : 12 ≤ k) : targumref1_Next.f k s (n : Int) = some (nx (suf s n)) := by
  obtain ⟨k, rfl⟩ : ∃ m, k = m + 12 := ⟨k - 12, by omega⟩
  unfold targumref1_Next.f
  rw [if_neg (by omega)]
  by_cases h : n < s.size
  · have e := suf_cons s n h
    obtain ⟨hb, _⟩ := bt_suf s n _ _ e
    obtain ⟨l, hl⟩ : ∃ l, suf s (n + 1) = l := ⟨_, rfl⟩
    have hu := UInt8.toNat_lt s[n]
    have hlen := suf_len2 hl
    rw [decide_eq_false (by omega), e, hl]
    generalize s[n] = b at *
    have w0 : wrap64 (b.toNat : Int) = b.toNat := wrap_small _ (by omega) (by omega)
    rw [targumref1_Next.j0.eq_2, if_neg (by decide), if_pos (by omega), if_pos (by omega), hb, w0]
    simp only [nx]
    by_cases h1 : b.toNat < 128
    · rw [if_pos (by omega), if_pos h1]
    · rw [if_neg (by omega), if_neg h1]
      by_cases h2 : b.toNat < 192
      · rw [if_neg (by omega), if_pos h2, targumref1_Next.j1.eq_2, if_neg (by decide), if_neg (by omega), targumref1_Next.j2.eq_2, if_neg (by decide), if_neg (by omega)]
      · rw [if_pos (by omega), if_neg h2]
        by_cases h3 : b.toNat < 224
        · rw [if_pos h3, decide_eq_true (by omega), targumref1_Next.j1.eq_2, if_pos rfl, targumref1_Next.j3.eq_2, wrap_small _ (by omega) (by omega), show (1 : Int) = ((1 : Nat) : Int) from rfl, next_step _ s n 1 _ 2 128 hs hn (by omega) (by omega) (by omega), hl]
          cases l with
          | nil => rw [if_pos (by simp at hlen; omega)]
          | cons b1 l =>
            simp at hlen
            rw [if_neg (by omega)]
            dsimp only
            split
            · rw [show ((1 : Nat) : Int) + 1 = 2 from rfl, next_end]
            · rfl
        · rw [if_neg h3, decide_eq_false (by omega), targumref1_Next.j1.eq_2, if_neg (by decide), if_pos (by omega)]
          by_cases h4 : b.toNat < 240
          · rw [if_pos h4, decide_eq_true (by omega), targumref1_Next.j2.eq_2, if_pos rfl, targumref1_Next.j3.eq_2, wrap_small _ (by omega) (by omega), show (1 : Int) = ((1 : Nat) : Int) from rfl, next_step _ s n 1 _ 3 2048 hs hn (by omega) (by omega) (by omega), hl]
            cases l with
            | nil => rw [if_pos (by simp at hlen; omega)]
            | cons b1 l =>
              have hl2 : suf s (n + 2) = l := suf_add (a := [b1]) hl
              simp at hlen
              by_cases h5 : l = []
              · subst h5; rw [if_pos (by simp at hlen; omega)]
              · obtain ⟨b2, l, rfl⟩ : ∃ b2 l2, l = b2 :: l2 := by cases l with
                  | nil => exact absurd rfl h5
                  | cons b2 l2 => exact ⟨b2, l2, rfl⟩
                simp at hlen
                rw [if_neg (by omega)]
                dsimp only
                have u1 := UInt8.toNat_lt b1
                by_cases c1 : cont b1
                · have c1' := c1
                  unfold cont at c1'
                  rw [if_pos c1, show ((1 : Nat) : Int) + 1 = ((2 : Nat) : Int) from rfl, next_step _ s n 2 _ 3 2048 hs hn (by omega) (by omega) (by omega), hl2, if_neg (by omega)]
                  dsimp only
                  by_cases c2 : cont b2
                  · rw [if_pos c2, if_pos ⟨c1, c2⟩, show ((2 : Nat) : Int) + 1 = 3 from rfl, next_end]
                  · rw [if_neg c2, if_neg (fun q => c2 q.2)]
                · rw [if_neg c1, if_neg (fun q => c1 q.1)]
          · rw [if_neg h4, decide_eq_false (by omega), targumref1_Next.j2.eq_2, if_neg (by decide), if_pos (by omega)]
            by_cases h5 : b.toNat < 248
            · rw [if_pos (by omega), if_pos h5, targumref1_Next.j3.eq_2, wrap_small _ (by omega) (by omega), show (1 : Int) = ((1 : Nat) : Int) from rfl, next_step _ s n 1 _ 4 65536 hs hn (by omega) (by omega) (by omega), hl]
              by_cases hl3 : 3 ≤ l.length
              · obtain ⟨b1, b2, b3, l, rfl⟩ : ∃ b1 b2 b3 l2, l = b1 :: b2 :: b3 :: l2 := by
                  match l, hl3 with
                  | b1 :: b2 :: b3 :: l2, _ => exact ⟨b1, b2, b3, l2, rfl⟩
                have hl2 : suf s (n + 2) = b2 :: b3 :: l := suf_add (a := [b1]) hl
                have hl4 : suf s (n + 3) = b3 :: l := suf_add (a := [b1, b2]) hl
                simp at hlen
                rw [if_neg (by omega)]
                dsimp only
                have u1 := UInt8.toNat_lt b1
                have u2 := UInt8.toNat_lt b2
                by_cases c1 : cont b1
                · have c1' := c1
                  unfold cont at c1'
                  rw [if_pos c1, show ((1 : Nat) : Int) + 1 = ((2 : Nat) : Int) from rfl, next_step _ s n 2 _ 4 65536 hs hn (by omega) (by omega) (by omega), hl2, if_neg (by omega)]
                  dsimp only
                  by_cases c2 : cont b2
                  · have c2' := c2
                    unfold cont at c2'
                    rw [if_pos c2, show ((2 : Nat) : Int) + 1 = ((3 : Nat) : Int) from rfl, next_step _ s n 3 _ 4 65536 hs hn (by omega) (by omega) (by omega), hl4, if_neg (by omega)]
                    dsimp only
                    by_cases c3 : cont b3
                    · rw [if_pos c3, if_pos ⟨⟨c1, c2⟩, c3⟩, show ((3 : Nat) : Int) + 1 = 4 from rfl, next_end]
                    · rw [if_neg c3, if_neg (fun q => c3 q.2)]
                  · rw [if_neg c2, if_neg (fun q => c2 q.1.2)]
                · rw [if_neg c1, if_neg (fun q => c1 q.1.1)]
              · rw [if_pos (by omega)]
                match l, hl3 with
                | [], _ => rfl
                | [_], _ => rfl
                | [_, _], _ => rfl
                | _ :: _ :: _ :: _, q => exact absurd (by simp) q
            · rw [if_neg (by omega), if_neg h5]
  · rw [decide_eq_true (by omega), suf_nil s n (by omega), targumref1_Next.j0.eq_2, if_pos rfl]; rfl

theorem pre2 (a b : UInt8) (l : List UInt8) : (([a, b] : List UInt8).isPrefixOf l = true) ↔ ∃ t, l = a :: b :: t := by
  rw [List.isPrefixOf_iff_prefix]
  constructor
  · rintro ⟨t, rfl⟩; exact ⟨t, rfl⟩
  · rintro ⟨t, rfl⟩; exact ⟨t, rfl⟩
theorem pre3 (a b c : UInt8) (l : List UInt8) : (([a, b, c] : List UInt8).isPrefixOf l = true) ↔ ∃ t, l = a :: b :: c :: t := by
  rw [List.isPrefixOf_iff_prefix]
  constructor
  · rintro ⟨t, rfl⟩; exact ⟨t, rfl⟩
  · rintro ⟨t, rfl⟩; exact ⟨t, rfl⟩
theorem fin_val (c least n : Int) : fin c least n = (0, 0) ∨ (fin c least n = (c, n) ∧ least ≤ c) := by
  unfold fin
  split
  · exact .inl rfl
  · split
    · exact .inr ⟨rfl, by omega⟩
    · exact .inl rfl
theorem u8_of {b : UInt8} {n : Nat} (h : b.toNat = n) (hn : n < 256) : b = UInt8.ofNat n := by
  rw [← UInt8.toNat_inj, UInt8.toNat_ofNat_of_lt' hn]; exact h

def pick (p : Int × Int) : Int := if p.1 = 133 then p.2 else if p.1 = 8232 then p.2 else if p.1 = 8233 then p.2 else 0
theorem pick_no {p : Int × Int} (h1 : p.1 ≠ 133) (h2 : p.1 ≠ 8232) (h3 : p.1 ≠ 8233) : pick p = 0 := by
  unfold pick; rw [if_neg h1, if_neg h2, if_neg h3]
theorem pick_fin (c least n : Int) (h : least ≤ c → c ≠ 133 ∧ c ≠ 8232 ∧ c ≠ 8233) : pick (fin c least n) = 0 := by
  rcases fin_val c least n with q | ⟨q, q2⟩
  · rw [q]; rfl
  · rw [q]; obtain ⟨a, b, c⟩ := h q2; exact pick_no a b c

theorem nx_breaks (l : List UInt8) : (if (nx l).1 = 133 then (nx l).2 else if (nx l).1 = 8232 then (nx l).2 else if (nx l).1 = 8233 then (nx l).2 else 0) = ((if true = true ∧ (([226, 128, 168] : List UInt8).isPrefixOf l = true ∨ ([226, 128, 169] : List UInt8).isPrefixOf l = true) then 3 else if true = true ∧ ([194, 133] : List UInt8).isPrefixOf l = true then 2 else 0 : Nat) : Int) := by
  show pick (nx l) = _
  by_cases p1 : ([226, 128, 168] : List UInt8).isPrefixOf l = true
  · obtain ⟨t, rfl⟩ := (pre3 _ _ _ _).mp p1
    rw [if_pos ⟨rfl, .inl p1⟩]; rfl
  by_cases p2 : ([226, 128, 169] : List UInt8).isPrefixOf l = true
  · obtain ⟨t, rfl⟩ := (pre3 _ _ _ _).mp p2
    rw [if_pos ⟨rfl, .inr p2⟩]; rfl
  by_cases p3 : ([194, 133] : List UInt8).isPrefixOf l = true
  · obtain ⟨t, rfl⟩ := (pre2 _ _ _).mp p3
    rw [if_neg (fun q => q.2.elim p1 p2), if_pos ⟨rfl, p3⟩]; rfl
  rw [if_neg (fun q => q.2.elim p1 p2), if_neg (fun q => p3 q.2)]
  rw [pre3] at p1 p2
  rw [pre2] at p3
  show _ = (0 : Int)
  cases l with
  | nil => rfl
  | cons b l =>
    have u := UInt8.toNat_lt b
    simp only [nx]
    split
    · exact pick_no (by dsimp only; omega) (by dsimp only; omega) (by dsimp only; omega)
    · split
      · rfl
      · split
        · cases l with
          | nil => rfl
          | cons b1 l =>
            have u1 := UInt8.toNat_lt b1
            dsimp only
            split
            · rename_i hc
              unfold cont at hc
              refine pick_fin _ _ _ fun hle => ⟨fun q => ?_, by omega, by omega⟩
              exact p3 ⟨l, by rw [u8_of (n := 194) (b := b) (by omega) (by omega), u8_of (n := 133) (b := b1) (by omega) (by omega)]; rfl⟩
            · rfl
        · split
          · match l with
            | [] => rfl
            | [_] => rfl
            | b1 :: b2 :: l =>
              have u1 := UInt8.toNat_lt b1
              have u2 := UInt8.toNat_lt b2
              dsimp only
              split
              · rename_i hc
                unfold cont at hc
                refine pick_fin _ _ _ fun hle => ⟨by omega, fun q => ?_, fun q => ?_⟩
                · exact p1 ⟨l, by rw [u8_of (n := 226) (b := b) (by omega) (by omega), u8_of (n := 128) (b := b1) (by omega) (by omega), u8_of (n := 168) (b := b2) (by omega) (by omega)]; rfl⟩
                · exact p2 ⟨l, by rw [u8_of (n := 226) (b := b) (by omega) (by omega), u8_of (n := 128) (b := b1) (by omega) (by omega), u8_of (n := 169) (b := b2) (by omega) (by omega)]; rfl⟩
              · rfl
          · split
            · match l with
              | [] => rfl
              | [_] => rfl
              | [_, _] => rfl
              | b1 :: b2 :: b3 :: l =>
                dsimp only
                split
                · exact pick_fin _ _ _ fun hle => ⟨by omega, by omega, by omega⟩
                · rfl
            · rfl

theorem r_break (v : Int) (s : ByteArray) (n k : Nat) (hs : s.size ≤ 140737488355328) (hk : 15 ≤ k) : targumref1_Break.f k v s (n : Int) = some ((brk (decide (v = 11)) (suf s n) : Nat) : Int) := by
  obtain ⟨k, rfl⟩ : ∃ m, k = m + 15 := ⟨k - 15, by omega⟩
  unfold targumref1_Break.f
  rw [if_neg (by omega)]
  by_cases h : n < s.size
  · have e := suf_cons s n h
    obtain ⟨hb, _⟩ := bt_suf s n _ _ e
    have hnx := next_eq s n (k + 12) hs (by omega) (by omega)
    rw [decide_eq_false (by omega), targumref1_Break.j0.eq_2, if_neg (by decide), if_pos (by omega), if_pos (by omega), hb]
    have h13 := u8_eq s[n] 13 (by decide)
    have h10 := u8_eq s[n] 10 (by decide)
    have hj2 : ∀ b : Bool, targumref1_Break.j2 (k + 13) v s n b = if b = true then some 1 else if v = 11 then some (if (nx (suf s n)).1 = 133 then (nx (suf s n)).2 else if (nx (suf s n)).1 = 8232 then (nx (suf s n)).2 else if (nx (suf s n)).1 = 8233 then (nx (suf s n)).2 else 0) else some 0 := by
      intro b
      rw [targumref1_Break.j2.eq_2, hnx]
      simp only [Option.bind_some]
      cases b
      · rw [if_neg Bool.false_ne_true, if_neg Bool.false_ne_true]
        split
        · split
          · rfl
          · split
            · rfl
            · split <;> rfl
        · rfl
      · rfl
    have hj1 : ∀ b : Bool, targumref1_Break.j1 (k + 14) v s n b = if b = true then some 2 else targumref1_Break.j2 (k + 13) v s n (decide (s[n] = 10 ∨ s[n] = 13)) := by
      intro b
      rw [targumref1_Break.j1.eq_2]
      cases b
      · rw [if_neg Bool.false_ne_true, if_neg Bool.false_ne_true, if_pos (by omega), if_pos (by omega), hb]
        by_cases q : s[n] = 10
        · rw [if_pos (by rw [q]; rfl), decide_eq_true (Or.inl q)]
        · have q' : ¬ (s[n].toNat : Int) = 10 := fun x => q (by have := h10; rw [show ((10 : Nat) : Int) = 10 from rfl] at this; exact this ▸ x)
          rw [if_neg q', show ((s[n].toNat : Int) == 13) = (s[n] == 13) from u8_beq s[n] 13 (by decide)]
          congr 1
          rw [Bool.eq_iff_iff, beq_iff_eq, decide_eq_true_eq]; simp [q]
      · rfl
    have hfirst : (if ((s[n].toNat : Int)) = 13 then (if (wrap64 ((n : Int) + 1)) < (s.size : Int) then (if 0 ≤ (wrap64 ((n : Int) + 1)) then (targumref1_Break.j1 (k + 14) v s n ((bt s (wrap64 ((n : Int) + 1))) == 10)) else (none)) else (targumref1_Break.j1 (k + 14) v s n false)) else (targumref1_Break.j1 (k + 14) v s n false)) = targumref1_Break.j1 (k + 14) v s n (([13, 10] : List UInt8).isPrefixOf (suf s n)) := by
      rw [wrap_small _ (by omega) (by omega), e]
      by_cases q : s[n] = 13
      · rw [if_pos (by rw [q]; rfl)]
        by_cases h2 : n + 1 < s.size
        · have e2 := suf_cons s (n + 1) h2
          obtain ⟨hb2, _⟩ := bt_suf s (n + 1) _ _ e2
          rw [if_pos (by omega), if_pos (by omega), show ((n : Int) + 1) = ((n + 1 : Nat) : Int) from rfl, hb2, show ((s[n + 1].toNat : Int) == 10) = (s[n + 1] == 10) from u8_beq s[n + 1] 10 (by decide), e2, q]
          have hh : ([13, 10] : List UInt8).isPrefixOf (13 :: s[n + 1] :: suf s (n + 1 + 1)) = (s[n + 1] == 10) := by
            show ((13 : UInt8) == 13 && ((10 : UInt8) == s[n + 1] && true)) = _
            rw [show ((13 : UInt8) == 13) = true from rfl, Bool.true_and, Bool.and_true, Bool.eq_iff_iff, beq_iff_eq, beq_iff_eq]
            exact ⟨Eq.symm, Eq.symm⟩
          rw [hh]
        · rw [if_neg (by omega), suf_nil s (n + 1) (by omega)]
          have hh : ([13, 10] : List UInt8).isPrefixOf [s[n]] = false := by
            show ((13 : UInt8) == s[n] && false) = false
            simp
          rw [hh]
      · have q' : ¬ (s[n].toNat : Int) = 13 := fun x => q (by have := h13; rw [show ((13 : Nat) : Int) = 13 from rfl] at this; exact this ▸ x)
        rw [if_neg q']
        congr 1
        have : (13 == s[n]) = false := by simpa using fun x : 13 = s[n] => q x.symm
        simp [List.isPrefixOf, this]
    rw [hfirst, hj1, hj2]
    have hhead : (suf s n).head? = some s[n] := by rw [e]; rfl
    by_cases c1 : ([13, 10] : List UInt8).isPrefixOf (suf s n) = true
    · rw [if_pos c1]
      have p := List.isPrefixOf_iff_prefix.mp c1
      obtain ⟨t, ht⟩ := p
      unfold brk
      rw [if_neg, if_pos (Or.inr c1)]
      · rfl
      · rintro ⟨_, q | q⟩
        · rw [← ht] at q; simp [List.isPrefixOf] at q
        · rw [← ht] at q; simp [List.isPrefixOf] at q
    · rw [if_neg c1]
      by_cases c2 : s[n] = 10 ∨ s[n] = 13
      · rw [decide_eq_true c2, if_pos rfl]
        unfold brk
        rw [if_neg, if_neg, if_pos]
        · rfl
        · rw [hhead]; simpa [or_comm] using c2
        · rintro (q | q)
          · rw [e] at q; rcases c2 with c2 | c2 <;> rw [c2] at q <;> simp [List.isPrefixOf] at q
          · exact c1 q
        · rintro ⟨_, q | q⟩ <;> (rw [e] at q; rcases c2 with c2 | c2 <;> rw [c2] at q <;> simp [List.isPrefixOf] at q)
      · rw [decide_eq_false c2, if_neg (by decide)]
        have c3 : ¬ ((suf s n).head? = some 13 ∨ (suf s n).head? = some 10) := by rw [hhead]; simpa [or_comm] using c2
        by_cases hv : v = 11
        · rw [if_pos hv, decide_eq_true hv]
          unfold brk
          rw [if_neg c3]
          have key : ∀ l : List UInt8, (if (nx l).1 = 133 then (nx l).2 else if (nx l).1 = 8232 then (nx l).2 else if (nx l).1 = 8233 then (nx l).2 else 0) = ((if true = true ∧ (([226, 128, 168] : List UInt8).isPrefixOf l = true ∨ ([226, 128, 169] : List UInt8).isPrefixOf l = true) then 3 else if true = true ∧ ([194, 133] : List UInt8).isPrefixOf l = true then 2 else 0 : Nat) : Int) := nx_breaks
          rw [key]
          have hno : (([13, 10] : List UInt8).isPrefixOf (suf s n) = true) = False := eq_false c1
          simp only [hno, or_false]
        · rw [if_neg hv, decide_eq_false hv]
          unfold brk
          rw [if_neg (fun q => absurd q.1 (by decide)), if_neg, if_neg c3]
          · rfl
          · rintro (q | q)
            · exact absurd q.1 (by decide)
            · exact c1 q
  · rw [decide_eq_true (by omega), targumref1_Break.j0.eq_2, if_pos rfl, suf_nil s n (by omega), brk_nil]; rfl

theorem r_sign (c : UInt8) : targumref17_Sign.f (c.toNat : Int) = some (flowSign c) := by
  unfold targumref17_Sign.f
  have e1 := u8_eq c 44 (by decide); have e2 := u8_eq c 91 (by decide); have e3 := u8_eq c 93 (by decide); have e4 := u8_eq c 123 (by decide); have e5 := u8_beq c 125 (by decide)
  rw [show (44 : Int) = ((44 : Nat) : Int) from rfl, show (91 : Int) = ((91 : Nat) : Int) from rfl, show (93 : Int) = ((93 : Nat) : Int) from rfl, show (123 : Int) = ((123 : Nat) : Int) from rfl, show (125 : Int) = ((125 : Nat) : Int) from rfl, e5]
  simp only [e1, e2, e3, e4]
  unfold flowSign
  by_cases h1 : c = UInt8.ofNat 44
  · rw [if_pos h1, h1]; rfl
  · rw [if_neg h1, show (c == 44) = false from by simpa using h1]
    by_cases h2 : c = UInt8.ofNat 91
    · rw [if_pos h2, h2]; rfl
    · rw [if_neg h2, show (c == 91) = false from by simpa using h2]
      by_cases h3 : c = UInt8.ofNat 93
      · rw [if_pos h3, h3]; rfl
      · rw [if_neg h3, show (c == 93) = false from by simpa using h3]
        by_cases h4 : c = UInt8.ofNat 123
        · rw [if_pos h4, h4]; rfl
        · rw [if_neg h4, show (c == 123) = false from by simpa using h4]; rfl

theorem r_stop (v : Int) (s : ByteArray) (n k : Nat) (flow : Bool) (hs : s.size ≤ 140737488355328) (hk : 15 ≤ k) : targumref17_Stop.f k v s (n : Int) flow = some (stop (decide (v = 11)) flow (suf s n)) := by
  unfold targumref17_Stop.f
  by_cases h : n < s.size
  · have e := suf_cons s n h
    obtain ⟨hb, _⟩ := bt_suf s n _ _ e
    rw [if_neg (by omega), r_blank, r_break v s n k hs hk]
    simp only [Option.bind_some]
    rw [e]
    by_cases h1 : bl (s[n] :: suf s (n + 1)) = true
    · rw [if_pos h1]
      have h1' : isBl s[n] = true := h1
      simp [stop, h1']
    · rw [if_neg h1]
      have h1' : isBl s[n] = false := by simpa [bl] using h1
      simp only [stop, h1', Bool.false_or]
      by_cases h2 : 0 < brk (decide (v = 11)) (s[n] :: suf s (n + 1))
      · rw [if_pos (by omega)]; simp [h2]
      · rw [if_neg (by omega)]
        cases flow
        · simp [h2]
        · rw [if_pos rfl, if_pos (by omega), if_pos (by omega), hb, r_sign]
          simp [h2]
  · rw [if_pos (by omega), suf_nil s n (by omega)]; rfl

theorem chain_eq (b : Int) (f : Bool → Option Bool) : (if b = 35 then f (b == 35) else if b = 38 then f (b == 38) else if b = 42 then f (b == 42) else if b = 33 then f (b == 33) else if b = 124 then f (b == 124) else if b = 62 then f (b == 62) else if b = 39 then f (b == 39) else if b = 34 then f (b == 34) else if b = 37 then f (b == 37) else if b = 64 then f (b == 64) else f (b == 96))
    = f (decide (b ∈ ([35, 38, 42, 33, 124, 62, 39, 34, 37, 64, 96] : List Int))) := by
  repeat' split
  all_goals first
  | (subst b; rfl)
  | (congr 1; rw [Bool.eq_iff_iff, beq_iff_eq, decide_eq_true_eq]; simp [*])

theorem r_opens (v : Int) (s : ByteArray) (n k : Nat) (flow : Bool) (hs : s.size ≤ 140737488355328) (hk : 17 ≤ k) : targumref17_opens.f k v s (n : Int) flow = some (opens (decide (v = 11)) flow (suf s n)) := by
  obtain ⟨k, rfl⟩ : ∃ m, k = m + 2 := ⟨k - 2, by omega⟩
  unfold targumref17_opens.f
  rw [if_neg (by omega), r_stop v s n _ false hs (by omega)]
  simp only [Option.bind_some]
  have j0t : targumref17_opens.j0 (k + 2) v s (n : Int) flow true = some false := by rw [targumref17_opens.j0.eq_2, if_pos rfl]
  by_cases h : n < s.size
  · have e := suf_cons s n h
    obtain ⟨hb, _⟩ := bt_suf s n _ _ e
    by_cases h1 : stop (decide (v = 11)) false (suf s n) = true
    · rw [if_pos h1, j0t]
      rw [e] at h1 ⊢
      simp [opens, h1]
    · rw [if_neg h1, if_pos (by omega), if_pos (by omega), hb, r_sign]
      have h1' : stop (decide (v = 11)) false (suf s n) = false := by simpa using h1
      simp only [Option.bind_some]
      cases h2 : flowSign s[n]
      · rw [targumref17_opens.j0.eq_2, if_neg (by decide), if_pos (by omega), if_pos (by omega), hb, chain_eq _ (fun z => targumref17_opens.j1 (k + 1) v s n flow (s[n].toNat : Int) z)]
        have hm : decide ((s[n].toNat : Int) ∈ ([35, 38, 42, 33, 124, 62, 39, 34, 37, 64, 96] : List Int)) = decide (s[n] ∈ neverL) := by
          have key : ∀ c : UInt8, flowSign c = false → decide ((c.toNat : Int) ∈ ([35, 38, 42, 33, 124, 62, 39, 34, 37, 64, 96] : List Int)) = decide (c ∈ neverL) := by
            have : ∀ n : Fin 256, flowSign (UInt8.ofNat n) = false → decide (((UInt8.ofNat n).toNat : Int) ∈ ([35, 38, 42, 33, 124, 62, 39, 34, 37, 64, 96] : List Int)) = decide ((UInt8.ofNat n) ∈ neverL) := by decide +kernel
            intro c
            have hc := this ⟨c.toNat, UInt8.toNat_lt c⟩
            simpa using hc
          exact key _ h2
        rw [hm]
        rw [e] at h1' ⊢
        simp only [opens, h1', Bool.not_false, Bool.true_and]
        cases h3 : decide (s[n] ∈ neverL)
        · rw [targumref17_opens.j1.eq_2, if_neg (by decide)]
          simp only [Bool.not_false, Bool.true_and]
          have e45 := u8_eq s[n] 45 (by decide); have e63 := u8_eq s[n] 63 (by decide); have e58 := u8_eq s[n] 58 (by decide)
          rw [show (45 : Int) = ((45 : Nat) : Int) from rfl, show (63 : Int) = ((63 : Nat) : Int) from rfl, show (58 : Int) = ((58 : Nat) : Int) from rfl]
          simp only [e45, e63, e58]
          rw [wrap_small _ (by omega) (by omega), show ((n : Int) + 1) = ((n + 1 : Nat) : Int) from rfl, r_stop v s (n + 1) _ flow hs (by omega)]
          simp only [Option.bind_some]
          by_cases q1 : s[n] = UInt8.ofNat 45
          · rw [if_pos q1, q1]; rfl
          · rw [if_neg q1]
            by_cases q2 : s[n] = UInt8.ofNat 63
            · rw [if_pos q2, q2]; rfl
            · rw [if_neg q2]
              by_cases q3 : s[n] = UInt8.ofNat 58
              · rw [if_pos q3, q3]; rfl
              · rw [if_neg q3]
                have : decide (s[n] ∈ ([45, 63, 58] : List UInt8)) = false := by
                  apply decide_eq_false
                  simp only [List.mem_cons, List.not_mem_nil, or_false, not_or]
                  exact ⟨q1, q2, q3⟩
                rw [this]; rfl
        · rw [targumref17_opens.j1.eq_2, if_pos rfl]; rfl
      · rw [j0t]
        have hm : decide (s[n] ∈ neverL) = true := by
          unfold flowSign at h2
          simp only [Bool.or_eq_true, beq_iff_eq] at h2
          rcases h2 with (((h2 | h2) | h2) | h2) | h2 <;> rw [h2] <;> decide
        rw [e]
        simp [opens, hm]
  · rw [suf_nil s n (by omega), if_pos (show stop (decide (v = 11)) false [] = true from rfl), j0t]; rfl

theorem r_opens_neg (v : Int) (s : ByteArray) (i : Int) (k : Nat) (flow : Bool) (h : i < 0) (hk : 0 < k) : targumref17_opens.f k v s i flow = some false := by
  obtain ⟨k, rfl⟩ : ∃ m, k = m + 1 := ⟨k - 1, by omega⟩
  unfold targumref17_opens.f
  rw [if_pos h, targumref17_opens.j0.eq_2, if_pos rfl]

/-- From a place on back over blanks. -/
theorem r_back (s : ByteArray) (hs : s.size ≤ 140737488355328) (i : Nat) : ∀ (d cur e k : Nat), d = cur - e → i ≤ e → e ≤ cur → cur ≤ s.size → (∀ j, e ≤ j → j < cur → bl (suf s j) = true) → (e = i ∨ (0 < e ∧ bl (suf s (e - 1)) = false)) → d < k →
    targumref17_ends.l1 k s (i : Int) (cur : Int) = some (e : Int) := by
  intro d
  induction d with
  | zero =>
    intro cur e k hd hi he hc hb hl hk
    obtain ⟨k, rfl⟩ : ∃ m, k = m + 1 := ⟨k - 1, by omega⟩
    obtain rfl : cur = e := by omega
    rw [targumref17_ends.l1.eq_2]
    rcases hl with rfl | ⟨h0, hl⟩
    · rw [if_neg (by omega)]
    · by_cases hg : (cur : Int) > (i : Int)
      · rw [if_pos hg, wrap_small _ (by omega) (by omega), show (cur : Int) - 1 = ((cur - 1 : Nat) : Int) by omega, r_blank, hl]; rfl
      · rw [if_neg hg]
  | succ d ih =>
    intro cur e k hd hi he hc hb hl hk
    obtain ⟨k, rfl⟩ : ∃ m, k = m + 1 := ⟨k - 1, by omega⟩
    rw [targumref17_ends.l1.eq_2, if_pos (by omega), wrap_small _ (by omega) (by omega), show (cur : Int) - 1 = ((cur - 1 : Nat) : Int) by omega, r_blank, hb (cur - 1) (by omega) (by omega)]
    simp only [Option.bind_some, if_true]
    exact ih (cur - 1) e k (by omega) hi (by omega) (by omega) (fun j h1 h2 => hb j h1 (by omega)) hl (by omega)

theorem r_ends_l (v : Int) (s : ByteArray) (flow : Bool) (hs : s.size ≤ 140737488355328) (i : Nat) (hi0 : ¬ (suf s i).head? = some 35) : ∀ (d cur e k : Nat), d = s.size - cur → i ≤ e → e ≤ cur → cur ≤ s.size → (∀ j, e ≤ j → j < cur → bl (suf s j) = true) → (e = i ∨ (0 < e ∧ bl (suf s (e - 1)) = false)) → s.size + 2 * d + 20 < k →
    targumref17_ends.l0 k v s (i : Int) flow (cur : Int) = some ((ends (decide (v = 11)) flow (prevBl s cur) cur e (suf s cur) : Nat) : Int) := by
  intro d
  induction d with
  | zero =>
    intro cur e k hd hi he hc hb hl hk
    obtain ⟨k, rfl⟩ : ∃ m, k = m + 3 := ⟨k - 3, by omega⟩
    rw [targumref17_ends.l0.eq_2, if_neg (by omega), targumref17_ends.j1.eq_2, if_neg (by decide), targumref17_ends.j2.eq_2, r_back s hs i _ cur e _ rfl hi he hc hb hl (by omega), suf_nil s cur (by omega), ends]
  | succ d ih =>
    intro cur e k hd hi he hc hb hl hk
    obtain ⟨k, rfl⟩ : ∃ m, k = m + 3 := ⟨k - 3, by omega⟩
    have hlt : cur < s.size := by omega
    have es := suf_cons s cur hlt
    obtain ⟨hbt, _⟩ := bt_suf s cur _ _ es
    have back := r_back s hs i _ cur e k rfl hi he hc hb hl (by omega)
    have hj2 : targumref17_ends.j2 (k + 1) s (i : Int) (cur : Int) = some (e : Int) := by rw [targumref17_ends.j2.eq_2, back]
    have e35 := u8_eq s[cur] 35 (by decide); have e58 := u8_eq s[cur] 58 (by decide)
    rw [show ((35 : Nat) : Int) = 35 from rfl] at e35
    rw [show ((58 : Nat) : Int) = 58 from rfl] at e58
    rw [targumref17_ends.l0.eq_2, if_pos (by omega), r_break v s cur _ hs (by omega)]
    simp only [Option.bind_some]
    rw [es, ends, ← es]
    by_cases h1 : 0 < brk (decide (v = 11)) (suf s cur)
    · rw [if_pos h1, show (((brk (decide (v = 11)) (suf s cur) : Nat) : Int) == 0) = false from by simpa using (by omega : ¬ brk (decide (v = 11)) (suf s cur) = 0), targumref17_ends.j1.eq_2, if_neg (by decide), hj2]
    rw [if_neg h1, show (((brk (decide (v = 11)) (suf s cur) : Nat) : Int) == 0) = true from by simpa using (by omega : brk (decide (v = 11)) (suf s cur) = 0), targumref17_ends.j1.eq_2, if_pos rfl, if_pos (by omega), if_pos (by omega), hbt]
    rw [show wrap64 ((cur : Int) + 1) = ((cur + 1 : Nat) : Int) from by rw [wrap_small _ (by omega) (by omega)]; omega, r_stop v s (cur + 1) _ flow hs (by omega), r_sign]
    simp only [Option.bind_some, e35, e58]
    -- what goes on
    have hgo : ∀ e', (isBl s[cur] = true → e' = e) → (isBl s[cur] = false → e' = cur + 1) → targumref17_ends.l0 (k + 1) v s (i : Int) flow ((cur + 1 : Nat) : Int) = some ((ends (decide (v = 11)) flow (prevBl s (cur + 1)) (cur + 1) e' (suf s (cur + 1)) : Nat) : Int) := by
      intro e' h1 h2
      cases hbl : isBl s[cur]
      · have := h2 hbl
        subst this
        exact ih (cur + 1) (cur + 1) (k + 1) (by omega) (by omega) (by omega) (by omega) (fun j h1 h2 => by omega) (.inr ⟨by omega, by rw [Nat.add_sub_cancel, es]; exact hbl⟩) (by omega)
      · have := h1 hbl
        subst this
        exact ih (cur + 1) _ (k + 1) (by omega) hi (by omega) (by omega) (fun j h1 h2 => by
          by_cases q : j = cur
          · subst q; rw [es]; exact hbl
          · exact hb j h1 (by omega)) hl (by omega)
    have hpv : prevBl s (cur + 1) = isBl s[cur] := prevBl_succ s cur hlt
    -- the rest, behind the question for a remark
    have rest : (if s[cur] = UInt8.ofNat 58 then (if stop (decide (v = 11)) flow (suf s (cur + 1)) = true then targumref17_ends.j2 (k + 1) s (i : Int) (cur : Int) else if flow = true then (if flowSign s[cur] = true then targumref17_ends.j2 (k + 1) s (i : Int) (cur : Int) else targumref17_ends.l0 (k + 1) v s (i : Int) flow ((cur + 1 : Nat) : Int)) else targumref17_ends.l0 (k + 1) v s (i : Int) flow ((cur + 1 : Nat) : Int)) else if flow = true then (if flowSign s[cur] = true then targumref17_ends.j2 (k + 1) s (i : Int) (cur : Int) else targumref17_ends.l0 (k + 1) v s (i : Int) flow ((cur + 1 : Nat) : Int)) else targumref17_ends.l0 (k + 1) v s (i : Int) flow ((cur + 1 : Nat) : Int))
        = some (((if s[cur] = 58 ∧ stop (decide (v = 11)) flow (suf s (cur + 1)) = true then e else if isBl s[cur] = true then ends (decide (v = 11)) flow true (cur + 1) e (suf s (cur + 1)) else if flow = true ∧ flowSign s[cur] = true then e else ends (decide (v = 11)) flow false (cur + 1) (cur + 1) (suf s (cur + 1)) : Nat)) : Int) := by
      have blsig : isBl s[cur] = true → flowSign s[cur] = false := by
        intro q; unfold isBl at q; simp only [Bool.or_eq_true, beq_iff_eq] at q
        rcases q with q | q <;> rw [q] <;> rfl
      have cosig : s[cur] = UInt8.ofNat 58 → flowSign s[cur] = false := fun q => by rw [q]; rfl
      have cobl : s[cur] = UInt8.ofNat 58 → isBl s[cur] = false := fun q => by rw [q]; rfl
      have go1 : (if flow = true then (if flowSign s[cur] = true then targumref17_ends.j2 (k + 1) s (i : Int) (cur : Int) else targumref17_ends.l0 (k + 1) v s (i : Int) flow ((cur + 1 : Nat) : Int)) else targumref17_ends.l0 (k + 1) v s (i : Int) flow ((cur + 1 : Nat) : Int)) = some (((if isBl s[cur] = true then ends (decide (v = 11)) flow true (cur + 1) e (suf s (cur + 1)) else if flow = true ∧ flowSign s[cur] = true then e else ends (decide (v = 11)) flow false (cur + 1) (cur + 1) (suf s (cur + 1)) : Nat)) : Int) := by
        by_cases hbl : isBl s[cur] = true
        · have hg := hgo e (fun _ => rfl) (fun q => by rw [hbl] at q; exact absurd q (by decide))
          rw [hpv, hbl] at hg
          have hn : ¬ flowSign s[cur] = true := by rw [blsig hbl]; decide
          rw [if_pos hbl, if_neg hn, hg, ite_self]
        · have hbl' : isBl s[cur] = false := by simpa using hbl
          have hg := hgo (cur + 1) (fun q => absurd q hbl) (fun _ => rfl)
          rw [hpv, hbl'] at hg
          rw [if_neg hbl, hg]
          by_cases hf : flow = true
          · rw [if_pos hf]
            by_cases hsg : flowSign s[cur] = true
            · rw [if_pos hsg, if_pos ⟨hf, hsg⟩, hj2]
            · rw [if_neg hsg, if_neg (fun q => hsg q.2)]
          · rw [if_neg hf, if_neg (fun q => hf q.1)]
      rw [go1]
      by_cases q : s[cur] = UInt8.ofNat 58
      · rw [if_pos q]
        by_cases q2 : stop (decide (v = 11)) flow (suf s (cur + 1)) = true
        · rw [if_pos q2, if_pos ⟨q, q2⟩, hj2]
        · rw [if_neg q2, if_neg (show ¬ (s[cur] = 58 ∧ stop (decide (v = 11)) flow (suf s (cur + 1)) = true) from fun x => q2 x.2)]
      · rw [if_neg q, if_neg (show ¬ (s[cur] = 58 ∧ stop (decide (v = 11)) flow (suf s (cur + 1)) = true) from fun x => q x.1)]
    by_cases h35 : s[cur] = UInt8.ofNat 35
    · rw [if_pos h35]
      by_cases hci : (cur : Int) > (i : Int)
      · have hp : prevBl s cur = bl (suf s (cur - 1)) := by unfold prevBl; rw [decide_eq_true (by omega)]; rfl
        rw [if_pos hci, wrap_small _ (by omega) (by omega), show (cur : Int) - 1 = ((cur - 1 : Nat) : Int) by omega, r_blank]
        simp only [Option.bind_some]
        rw [← hp]
        by_cases hpb : prevBl s cur = true
        · rw [if_pos hpb, if_pos ⟨h35, hpb⟩, hj2]
        · rw [if_neg hpb, if_neg (show ¬ (s[cur] = 35 ∧ prevBl s cur = true) from fun x => hpb x.2)]; exact rest
      · exfalso
        obtain rfl : cur = i := by omega
        apply hi0
        rw [es, h35]; rfl
    · rw [if_neg h35, if_neg (show ¬ (s[cur] = 35 ∧ prevBl s cur = true) from fun x => h35 x.1)]; exact rest

theorem r_part (v : Int) (s : ByteArray) (i : Int) (flow : Bool) (k : Nat) (hs : s.size ≤ 140737488355328) (hk : 3 * s.size + 40 < k) : targumref17_Part.f k v s i flow = some (partI v s i flow) := by
  unfold targumref17_Part.f
  by_cases h0 : i < 0
  · rw [r_opens_neg v s i k flow h0 (by omega)]
    simp only [Option.bind_some]
    unfold partI
    rw [if_neg (by decide), if_pos h0]
  · obtain ⟨n, rfl⟩ : ∃ n : Nat, i = (n : Int) := ⟨i.toNat, by omega⟩
    rw [r_opens v s n k flow hs (by omega)]
    simp only [Option.bind_some]
    unfold partI
    rw [if_neg h0, Int.toNat_natCast]
    by_cases ho : opens (decide (v = 11)) flow (suf s n) = true
    · rw [if_pos ho, if_pos ho]
      have hn : n < s.size := by
        rcases Nat.lt_or_ge n s.size with h1 | h1
        · exact h1
        · rw [suf_nil s n h1] at ho; simp [opens] at ho
      have h35 : ¬ (suf s n).head? = some 35 := by
        rw [suf_cons s n hn] at ho ⊢
        simp only [opens, Bool.and_eq_true, Bool.not_eq_true', decide_eq_false_iff_not] at ho
        intro q
        simp only [List.head?_cons, Option.some.injEq] at q
        exact ho.1.2 (by rw [q]; decide)
      unfold targumref17_ends.f
      rw [r_ends_l v s flow hs n h35 (s.size - n) n n k rfl (Nat.le_refl _) (Nat.le_refl _) (by omega) (fun j h1 h2 => by omega) (.inl rfl) (by omega)]
      rfl
    · rw [if_neg ho, if_neg ho]
