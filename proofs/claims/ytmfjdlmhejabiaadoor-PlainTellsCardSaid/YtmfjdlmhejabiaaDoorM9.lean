/- The laws' own helpers: which texts are few, places within, what is known; where they answer at all. -/
import Derived.Test.YtmfjdlmhejabiaaDoorM7
import Derived.Test.YtmfjdlmhejabiaaDoorPLx1
import Derived.Test.YtmfjdlmhejabiaaDoorPLx3
import Derived.Test.YtmfjdlmhejabiaaDoorPLx4
import Derived.OpenShut
namespace Go.Proofs.YtmfjdlmhejabiaaDoor.M
open Go.RowKit Go.Proofs.Tg Go.Proofs.YtmfjdlmhejabiaaDoor.X Go.Proofs.YtmfjdlmhejabiaaDoor.PL Go.Proofs.YtmfjdlmhejabiaaDoorW.PrintWords
set_option linter.unusedVariables false
set_option linter.unusedSimpArgs false

set_option maxRecDepth 100000 in
theorem known20 : targumlaw20_known.f = some true := by decide +kernel

theorem fin_n (c least n : Int) : (fin c least n).2 = 0 ∨ (fin c least n).2 = n := by
  unfold fin
  split
  · exact .inl rfl
  · split
    · exact .inr rfl
    · exact .inl rfl
theorem nx_n (l : List UInt8) : (nx l).2 = 0 ∨ (1 ≤ (nx l).2 ∧ (nx l).2 ≤ (l.length : Int)) := by
  cases l with
  | nil => exact .inl rfl
  | cons b l =>
    simp only [nx, List.length_cons]
    split
    · exact .inr ⟨by dsimp only; omega, by dsimp only; omega⟩
    · split
      · exact .inl rfl
      · split
        · match l with
          | [] => exact .inl rfl
          | b1 :: l =>
            dsimp only
            split
            · rcases fin_n (((b.toNat : Int) - 192) * 64 + ((b1.toNat : Int) - 128)) 128 2 with h | h
              · exact .inl h
              · exact .inr ⟨by rw [h]; omega, by rw [h]; simp only [List.length_cons]; omega⟩
            · exact .inl rfl
        · split
          · match l with
            | [] => exact .inl rfl
            | [_] => exact .inl rfl
            | b1 :: b2 :: l =>
              dsimp only
              split
              · rcases fin_n ((((b.toNat : Int) - 224) * 64 + ((b1.toNat : Int) - 128)) * 64 + ((b2.toNat : Int) - 128)) 2048 3 with h | h
                · exact .inl h
                · exact .inr ⟨by rw [h]; omega, by rw [h]; simp only [List.length_cons]; omega⟩
              · exact .inl rfl
          · split
            · match l with
              | [] => exact .inl rfl
              | [_] => exact .inl rfl
              | [_, _] => exact .inl rfl
              | b1 :: b2 :: b3 :: l =>
                dsimp only
                split
                · rcases fin_n (((((b.toNat : Int) - 240) * 64 + ((b1.toNat : Int) - 128)) * 64 + ((b2.toNat : Int) - 128)) * 64 + ((b3.toNat : Int) - 128)) 65536 4 with h | h
                  · exact .inl h
                  · exact .inr ⟨by rw [h]; omega, by rw [h]; simp only [List.length_cons]; omega⟩
                · exact .inl rfl
            · exact .inl rfl

theorem may_some (s : ByteArray) (n k : Nat) (hs : s.size ≤ 140737488355328) (hn : n ≤ s.size) (hk : 15 ≤ k) : ∃ m : Int, targumref1_May.f k s (n : Int) = some m ∧ (m = 0 ∨ (1 ≤ m ∧ m ≤ (s.size : Int) - n)) := by
  obtain ⟨k, rfl⟩ : ∃ q, k = q + 1 := ⟨k - 1, by omega⟩
  unfold targumref1_May.f
  rw [next_eq s n _ hs hn (by omega)]
  simp only [Option.bind_some]
  have hb := nx_n (suf s n)
  rw [suf_length] at hb
  generalize nx (suf s n) = q at *
  obtain ⟨c, m⟩ := q
  dsimp only at hb ⊢
  have hm : m = 0 ∨ (1 ≤ m ∧ m ≤ (s.size : Int) - n) := by omega
  have hj : ∀ b, ∃ m' : Int, targumref1_May.j0 (k + 1) c m b = some m' ∧ (m' = 0 ∨ (1 ≤ m' ∧ m' ≤ (s.size : Int) - n)) := by
    intro b
    rw [targumref1_May.j0.eq_2]
    repeat' split
    all_goals first
    | exact ⟨_, rfl, hm⟩
    | exact ⟨_, rfl, .inl rfl⟩
  repeat' split
  all_goals exact hj _

theorem check_some (s : ByteArray) (hs : s.size ≤ 140737488355328) : ∀ (d n k : Nat), d = s.size - n → n ≤ s.size → d + 20 < k → ∃ c, targumref1_Check.l0 k s (n : Int) = some c := by
  intro d
  induction d using Nat.strongRecOn with
  | _ d ih =>
    intro n k hd hn hk
    obtain ⟨k, rfl⟩ : ∃ q, k = q + 1 := ⟨k - 1, by omega⟩
    rw [targumref1_Check.l0.eq_2]
    by_cases h : n < s.size
    · obtain ⟨m, hm, hb⟩ := may_some s n k hs hn (by omega)
      rw [if_pos (by omega), hm]
      simp only [Option.bind_some]
      by_cases h0 : m = 0
      · exact ⟨_, if_pos h0⟩
      · rw [if_neg h0, wrap_small _ (by omega) (by omega)]
        obtain ⟨q, rfl⟩ : ∃ q : Nat, m = (q : Int) := ⟨m.toNat, by omega⟩
        exact ih (s.size - (n + q)) (by omega) (n + q) k rfl (by omega) (by omega)
    · exact ⟨_, if_neg (by omega)⟩
theorem few_some (s : ByteArray) (m : Nat) (hm : m ≤ 140737488355328) (k : Nat) (hk : m + 30 < k) : ∃ b, targumhelp_Few.f k s (m : Int) = some b ∧ (b = true → s.size ≤ m) := by
  unfold targumhelp_Few.f
  by_cases h : (s.size : Int) ≤ (m : Int)
  · obtain ⟨c, hc⟩ := check_some s (by omega) s.size 0 k (by omega) (by omega) (by omega)
    unfold targumref1_Check.f
    rw [if_pos h, show (0 : Int) = ((0 : Nat) : Int) from rfl, hc]
    exact ⟨_, rfl, fun _ => by omega⟩
  · exact ⟨false, if_neg h, fun q => by cases q⟩

theorem version_some (a : Bool) : ∃ v, targumhelp_Version.f a = some v ∧ (v = 11 ∨ v = 12) := by
  unfold targumhelp_Version.f; cases a <;> simp
theorem cut_some (s : ByteArray) (i : Int) : ∃ b, targumhelp_Cut.f s i = some b := by
  unfold targumhelp_Cut.f
  repeat' split
  all_goals first | exact ⟨_, rfl⟩ | omega
theorem within_some (n lo hi : Int) (hl : -1000000 ≤ lo ∧ lo ≤ 1000000) (hh : -1000000 ≤ hi ∧ hi ≤ 1000000) (h : lo ≤ hi) : ∃ m, targumhelp_Within.f n lo hi = some m := by
  unfold targumhelp_Within.f
  rw [wrap_small (hi - lo) (by omega) (by omega), wrap_small (hi - lo + 1) (by omega) (by omega), if_neg (by omega)]
  split
  · exact ⟨_, rfl⟩
  · exact ⟨_, rfl⟩

theorem small_of (l : List Int) (h : l.length ≤ 60) (hw : ∀ x ∈ l, (Lit.int .u8 x).wf = true) : small l = true := by
  unfold small
  simp only [Bool.and_eq_true, List.all_eq_true, decide_eq_true_eq]
  exact ⟨by omega, fun x hx => bounds_u8 (hw x hx)⟩
theorem text20_some (l : List Int) (h : l.length ≤ 60) (hw : ∀ x ∈ l, (Lit.int .u8 x).wf = true) : ∃ t : ByteArray, targumlaw20_text.f l = some t ∧ t.size ≤ 300 := by
  refine ⟨_, if_pos (small_of l h hw), ?_⟩
  have := pickAll_le text20T 32 5 (by decide) l
  omega
end Go.Proofs.YtmfjdlmhejabiaaDoor.M
