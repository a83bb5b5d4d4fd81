/- Plain laws on plain texts: a part that is cut off where it ends; in a flow; what is within it. -/
import Derived.Test.YtmfjdlmhejabiaaDoorM4
namespace Go.Proofs.YtmfjdlmhejabiaaDoor.M
open Go.RowKit Go.Proofs.Tg Go.Proofs.YtmfjdlmhejabiaaDoor.X Go.Proofs.YtmfjdlmhejabiaaDoor.PB Go.Proofs.YtmfjdlmhejabiaaDoorW.PrintWords
set_option linter.unusedVariables false
set_option linter.unusedSimpArgs false

theorem pre_take {p l : List UInt8} {n : Nat} (h : p.isPrefixOf (l.take n) = true) : p.isPrefixOf l = true :=
  List.isPrefixOf_iff_prefix.mpr ((List.isPrefixOf_iff_prefix.mp h).trans (List.take_prefix n l))
theorem head_take {l : List UInt8} {n : Nat} {c : UInt8} (h : (l.take n).head? = some c) : l.head? = some c := by
  cases n with
  | zero => simp at h
  | succ n => cases l with
    | nil => simp at h
    | cons a l => simpa using h
theorem brk_take (old : Bool) (l : List UInt8) (n : Nat) (h : brk old l = 0) : brk old (l.take n) = 0 := by
  unfold brk at h ⊢
  split at h
  · omega
  · rename_i h1
    split at h
    · omega
    · rename_i h2
      split at h
      · omega
      · rename_i h3
        rw [if_neg (fun q => h1 ⟨q.1, q.2.imp pre_take pre_take⟩), if_neg (fun q => h2 (q.imp (fun x => ⟨x.1, pre_take x.2⟩) pre_take)), if_neg (fun q => h3 (q.imp head_take head_take))]
theorem stop_take (old flow : Bool) (l : List UInt8) (n : Nat) (h : stop old flow l = false) (hn : n ≠ 0) : stop old flow (l.take n) = false := by
  cases l with
  | nil => simp [stop] at h
  | cons c l =>
    obtain ⟨n, rfl⟩ : ∃ m, n = m + 1 := ⟨n - 1, by omega⟩
    simp only [stop, Bool.or_eq_false_iff, decide_eq_false_iff_not] at h
    obtain ⟨⟨h1, h2⟩, h3⟩ := h
    have h4 := brk_take old (c :: l) (n + 1) (by omega)
    rw [List.take_succ_cons] at h4 ⊢
    simp [stop, h1, h3, h4]

theorem ends_cut (old flow : Bool) : ∀ (l : List UInt8) (p : Bool) (cur e r : Nat), e ≤ cur → ends old flow p cur e l = r →
    (∀ c, (l.take (r - cur)).getLast? = some c → c ≠ 58) → ends old flow p cur e (l.take (r - cur)) = r
  | [], p, cur, e, r, he, h, hl => by rw [List.take_nil]; exact h
  | c :: l, p, cur, e, r, he, h, hl => by
    by_cases hre : r = e
    · rw [show r - cur = 0 by omega, List.take_zero, ends]; exact hre.symm
    · rw [ends] at h
      by_cases h1 : 0 < brk old (c :: l)
      · rw [if_pos h1] at h; exact absurd h.symm hre
      rw [if_neg h1] at h
      by_cases h2 : c = 35 ∧ p = true
      · rw [if_pos h2] at h; exact absurd h.symm hre
      rw [if_neg h2] at h
      by_cases h3 : c = 58 ∧ stop old flow l = true
      · rw [if_pos h3] at h; exact absurd h.symm hre
      rw [if_neg h3] at h
      have b := ends_le old flow l true (cur + 1) e (by omega)
      have b2 := ends_le old flow l false (cur + 1) (cur + 1) (by omega)
      by_cases h4 : isBl c = true
      · rw [if_pos h4] at h
        have hc : cur + 1 < r := by
          rcases Nat.lt_or_ge (cur + 1) r with q | q
          · exact q
          · exfalso
            have key : ∀ (l : List UInt8) (p : Bool) (cur e : Nat), e ≤ cur → ends old flow p cur e l ≤ cur → ends old flow p cur e l = e := by
              intro l
              induction l with
              | nil => intro p cur e _ _; rw [ends]
              | cons c l ih =>
                intro p cur e he hh
                rw [ends] at hh ⊢
                split
                · rfl
                · rename_i g1; rw [if_neg g1] at hh
                  split
                  · rfl
                  · rename_i g2; rw [if_neg g2] at hh
                    split
                    · rfl
                    · rename_i g3; rw [if_neg g3] at hh
                      split
                      · rename_i g4; rw [if_pos g4] at hh
                        exact ih true (cur + 1) e (by omega) (by omega)
                      · rename_i g4; rw [if_neg g4] at hh
                        split
                        · rfl
                        · rename_i g5; rw [if_neg g5] at hh
                          have := ends_le old flow l false (cur + 1) (cur + 1) (by omega)
                          omega
            exact hre (by rw [← h]; exact key l true (cur + 1) e (by omega) (by omega))
        obtain ⟨n, hn⟩ : ∃ n, r - cur = n + 1 := ⟨r - (cur + 1), by omega⟩
        have hn' : r - (cur + 1) = n := by omega
        rw [hn, List.take_succ_cons] at hl ⊢
        have hb0 := brk_take old (c :: l) (n + 1) (by omega)
        rw [List.take_succ_cons] at hb0
        rw [ends, if_neg (by omega), if_neg h2, if_neg (fun q => by rw [q.1] at h4; exact absurd h4 (by decide)), if_pos h4]
        have := ends_cut old flow l true (cur + 1) e r (by omega) h (by
          rw [hn']
          intro d hd
          exact hl d (by rw [List.getLast?_cons, hd]; rfl))
        rwa [hn'] at this
      · rw [if_neg h4] at h
        by_cases h5 : flow = true ∧ flowSign c = true
        · rw [if_pos h5] at h; exact absurd h.symm hre
        rw [if_neg h5] at h
        obtain ⟨n, hn⟩ : ∃ n, r - cur = n + 1 := ⟨r - (cur + 1), by omega⟩
        have hn' : r - (cur + 1) = n := by omega
        rw [hn, List.take_succ_cons] at hl ⊢
        have hb0 := brk_take old (c :: l) (n + 1) (by omega)
        rw [List.take_succ_cons] at hb0
        rw [ends, if_neg (by omega), if_neg h2, if_neg, if_neg h4, if_neg h5]
        · have := ends_cut old flow l false (cur + 1) (cur + 1) r (by omega) h (by
            rw [hn']
            intro d hd
            exact hl d (by rw [List.getLast?_cons, hd]; rfl))
          rwa [hn'] at this
        · rintro ⟨q1, q2⟩
          by_cases hn0 : n = 0
          · subst hn0
            exact hl c (by simp) q1
          · have hs : stop old flow l = false := by
              cases hq : stop old flow l
              · rfl
              · exact absurd ⟨q1, hq⟩ h3
            rw [stop_take old flow l n hs hn0] at q2
            exact absurd q2 (by decide)

theorem ends_flow (old : Bool) : ∀ (l : List UInt8) (p : Bool) (cur e f : Nat), e ≤ f → f ≤ cur → ends old true p cur e l ≤ ends old false p cur f l
  | [], p, cur, e, f, h, _ => by rw [ends, ends]; exact h
  | c :: l, p, cur, e, f, h, hf => by
    have b := ends_le old false (c :: l) p cur f (by omega)
    rw [ends]
    split
    · omega
    · rename_i g1
      split
      · omega
      · rename_i g2
        split
        · omega
        · rename_i g3
          have g3' : ¬ (c = 58 ∧ stop old false l = true) := fun q => g3 ⟨q.1, by
            cases l with
            | nil => rfl
            | cons d l => simp only [stop] at q ⊢; simp_all⟩
          split
          · rename_i g4
            rw [ends, if_neg g1, if_neg g2, if_neg g3', if_pos g4]
            exact ends_flow old l true (cur + 1) e f h (by omega)
          · rename_i g4
            split
            · omega
            · rename_i g5
              rw [ends, if_neg g1, if_neg g2, if_neg g3', if_neg g4, if_neg (by simp)]
              exact ends_flow old l false (cur + 1) (cur + 1) (cur + 1) (Nat.le_refl _) (Nat.le_refl _)

/-- Within a part there is no break, and its last sign is no blank. -/
theorem ends_within (old flow : Bool) : ∀ (l : List UInt8) (p : Bool) (cur e r : Nat), e ≤ cur → ends old flow p cur e l = r → r ≠ e →
    cur < r ∧ (∀ j, j < r - cur → brk old (l.drop j) = 0) ∧ (∃ c, l[r - cur - 1]? = some c ∧ isBl c = false)
  | [], p, cur, e, r, he, h, hr => by rw [ends] at h; exact absurd h.symm hr
  | c :: l, p, cur, e, r, he, h, hr => by
    rw [ends] at h
    by_cases h1 : 0 < brk old (c :: l)
    · rw [if_pos h1] at h; exact absurd h.symm hr
    rw [if_neg h1] at h
    by_cases h2 : c = 35 ∧ p = true
    · rw [if_pos h2] at h; exact absurd h.symm hr
    rw [if_neg h2] at h
    by_cases h3 : c = 58 ∧ stop old flow l = true
    · rw [if_pos h3] at h; exact absurd h.symm hr
    rw [if_neg h3] at h
    by_cases h4 : isBl c = true
    · rw [if_pos h4] at h
      obtain ⟨a1, a2, d, a3, a4⟩ := ends_within old flow l true (cur + 1) e r (by omega) h hr
      refine ⟨by omega, ?_, d, ?_, a4⟩
      · intro j hj
        cases j with
        | zero => rw [List.drop_zero]; omega
        | succ j => rw [List.drop_succ_cons]; exact a2 j (by omega)
      · rw [show r - cur - 1 = (r - (cur + 1) - 1) + 1 by omega, List.getElem?_cons_succ]; exact a3
    · rw [if_neg h4] at h
      by_cases h5 : flow = true ∧ flowSign c = true
      · rw [if_pos h5] at h; exact absurd h.symm hr
      rw [if_neg h5] at h
      by_cases hr2 : r = cur + 1
      · subst hr2
        refine ⟨by omega, ?_, c, ?_, by simpa using h4⟩
        · intro j hj
          obtain rfl : j = 0 := by omega
          rw [List.drop_zero]; omega
        · rw [show cur + 1 - cur - 1 = 0 by omega]; rfl
      · obtain ⟨a1, a2, d, a3, a4⟩ := ends_within old flow l false (cur + 1) (cur + 1) r (by omega) h hr2
        refine ⟨by omega, ?_, d, ?_, a4⟩
        · intro j hj
          cases j with
          | zero => rw [List.drop_zero]; omega
          | succ j => rw [List.drop_succ_cons]; exact a2 j (by omega)
        · rw [show r - cur - 1 = (r - (cur + 1) - 1) + 1 by omega, List.getElem?_cons_succ]; exact a3

/-- Something is taken, where a part begins. -/
theorem ends_first (old flow : Bool) (c : UInt8) (l : List UInt8) (cur : Nat) (h : opens old flow (c :: l) = true) : cur < ends old flow false cur cur (c :: l) := by
  simp only [opens, Bool.and_eq_true, Bool.or_eq_true, Bool.not_eq_true', decide_eq_false_iff_not] at h
  obtain ⟨⟨h1, h2⟩, h3⟩ := h
  have h1' := h1
  simp only [stop, Bool.or_eq_false_iff, decide_eq_false_iff_not] at h1'
  obtain ⟨⟨g1, g2⟩, _⟩ := h1'
  have hf : flowSign c = false := by
    cases hq : flowSign c
    · rfl
    · exfalso
      apply h2
      unfold flowSign at hq
      simp only [Bool.or_eq_true, beq_iff_eq] at hq
      rcases hq with (((hq | hq) | hq) | hq) | hq <;> (subst hq; decide)
  rw [ends, if_neg g2, if_neg (fun q => absurd q.2 (by decide)), if_neg, if_neg (by rw [g1]; decide), if_neg (fun q => by rw [hf] at q; exact absurd q.2 (by decide))]
  · have := ends_le old flow l false (cur + 1) (cur + 1) (by omega)
    omega
  · rintro ⟨rfl, q2⟩
    rcases h3 with h3 | h3
    · exact h3 (by decide)
    · rw [h3] at q2; exact absurd q2 (by decide)

theorem opens_flow (old : Bool) (l : List UInt8) (h : opens old true l = true) : opens old false l = true := by
  cases l with
  | nil => exact h
  | cons c l =>
    simp only [opens, Bool.and_eq_true, Bool.or_eq_true, Bool.not_eq_true'] at h ⊢
    refine ⟨h.1, h.2.imp id fun q => ?_⟩
    cases l with
    | nil => simp [stop] at q
    | cons d l => simp only [stop] at q ⊢; simp_all

theorem opens_take (old flow : Bool) (l : List UInt8) (n : Nat) (h : opens old flow l = true) (hn : n ≠ 0) (h1 : n = 1 → ∀ c, l.head? = some c → ¬ c ∈ ([45, 63, 58] : List UInt8)) : opens old flow (l.take n) = true := by
  cases l with
  | nil => simp [opens] at h
  | cons c l =>
    obtain ⟨n, rfl⟩ : ∃ m, n = m + 1 := ⟨n - 1, by omega⟩
    simp only [opens, Bool.and_eq_true, Bool.or_eq_true, Bool.not_eq_true'] at h
    have g := stop_take old false (c :: l) (n + 1) h.1.1 (by omega)
    rw [List.take_succ_cons] at g ⊢
    simp only [opens, Bool.and_eq_true, Bool.or_eq_true, Bool.not_eq_true']
    refine ⟨⟨g, h.1.2⟩, ?_⟩
    rcases h.2 with q | q
    · exact .inl q
    · by_cases hn0 : n = 0
      · exact .inl (decide_eq_false (h1 (by omega) c rfl))
      · exact .inr (stop_take old flow l n q hn0)
end Go.Proofs.YtmfjdlmhejabiaaDoor.M
