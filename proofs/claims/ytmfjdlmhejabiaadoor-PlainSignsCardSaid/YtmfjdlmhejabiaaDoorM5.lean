/- The laws' own helpers on plain texts: letters; what is known. -/
import Derived.Test.YtmfjdlmhejabiaaDoorM4
import Derived.Test.YtmfjdlmhejabiaaDoorPLx1
import Derived.Test.YtmfjdlmhejabiaaDoorPLx16
namespace Go.Proofs.YtmfjdlmhejabiaaDoor.M
open Go.RowKit Go.Proofs.Tg Go.Proofs.YtmfjdlmhejabiaaDoor.X Go.Proofs.YtmfjdlmhejabiaaDoor.PL Go.Proofs.YtmfjdlmhejabiaaDoorW.PrintWords
set_option linter.unusedVariables false
set_option linter.unusedSimpArgs false

set_option maxRecDepth 100000 in
theorem known20 : targumlaw20_known.f = some true := by decide +kernel

theorem letters_l (s : ByteArray) (hs : s.size ≤ 1000) : ∀ (d k i : Nat) (acc : ByteArray), d = s.size - i → d < k → i ≤ s.size → acc.size ≤ i + 1 → acc.data.toList ≠ [] → (∀ c ∈ acc.data.toList, low c) →
    ∃ r : ByteArray, targumlaw20_letters.l0 k s acc (i : Int) = some r ∧ r.size ≤ s.size + 1 ∧ r.data.toList ≠ [] ∧ ∀ c ∈ r.data.toList, low c := by
  intro d
  induction d with
  | zero =>
    intro k i acc hd hk hi h1 h2 h3
    obtain ⟨k, rfl⟩ : ∃ m, k = m + 1 := ⟨k - 1, by omega⟩
    exact ⟨acc, by simp only [targumlaw20_letters.l0]; rw [if_neg (by omega)], by omega, h2, h3⟩
  | succ d ih =>
    intro k i acc hd hk hi h1 h2 h3
    obtain ⟨k, rfl⟩ : ∃ m, k = m + 1 := ⟨k - 1, by omega⟩
    have hb := bt_range s (i : Int)
    obtain ⟨x, hx⟩ : ∃ x, (97 + Int.tmod (bt s (i : Int)) 26) % 256 = x := ⟨_, rfl⟩
    have hx1 : 97 ≤ x ∧ x ≤ 122 := by
      rw [Int.tmod_eq_emod_of_nonneg hb.1] at hx; omega
    have hsz : (strOfNums [x]).size = 1 := rfl
    have happ : (acc ++ strOfNums [x]).data.toList = acc.data.toList ++ (strOfNums [x]).data.toList := by simp
    obtain ⟨r, hr, q⟩ := ih k (i + 1) (acc ++ strOfNums [x]) (by omega) (by omega) (by omega) (by rw [ByteArray.size_append, hsz]; omega)
      (by rw [happ]; simp [h2]) (by
        intro c hc
        rw [happ, List.mem_append] at hc
        rcases hc with hc | hc
        · exact h3 c hc
        · have : c = x.toNat.toUInt8 := by simpa [strOfNums] using hc
          subst this
          unfold low
          have : (x.toNat.toUInt8).toNat = x.toNat := by
            simp; omega
          omega)
    refine ⟨r, ?_, q⟩
    simp only [targumlaw20_letters.l0]
    rw [if_pos (by omega), if_pos (by omega), hx]
    simp only [Option.bind_some]
    rw [if_pos (by rw [hsz]; omega), wrap_small _ (by omega) (by omega)]
    exact hr
theorem letters_some (s : ByteArray) (hs : s.size ≤ 1000) (k : Nat) (hk : s.size < k) : ∃ r : ByteArray, targumlaw20_letters.f k s = some r ∧ r.size ≤ s.size + 1 ∧ r.data.toList ≠ [] ∧ ∀ c ∈ r.data.toList, low c :=
  letters_l s hs s.size k 0 ⟨#[113]⟩ (by omega) (by omega) (by omega) (by decide) (by decide) (by decide)
end Go.Proofs.YtmfjdlmhejabiaaDoor.M
