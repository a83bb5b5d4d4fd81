/- PlainTells, in plain words: the program and the reference tell the same plain texts. -/
import Derived.Test.YtmfjdlmhejabiaaDoorM8
import Derived.Test.YtmfjdlmhejabiaaDoorM9
import Derived.Test.YtmfjdlmhejabiaaDoorPLx13
namespace Go.Proofs.YtmfjdlmhejabiaaDoor.Pure
open Go.RowKit Go.Proofs.Tg Go.Proofs.YtmfjdlmhejabiaaDoor.X Go.Proofs.YtmfjdlmhejabiaaDoor.PL Go.Proofs.YtmfjdlmhejabiaaDoor.M Go.Proofs.YtmfjdlmhejabiaaDoorW.PrintWords
set_option linter.unusedVariables false
set_option linter.unusedSimpArgs false

theorem wrapS (i : Int) (h0 : -9223372036854775808 ≤ i) (h1 : i ≤ 9223372036854775807) : wrap64 i = i := by unfold wrap64; omega

section
variable (x2 v p : Int) (ys : List ByteArray) (hys : ∀ j, (rdOf ByteArray.empty ys j).size ≤ 1000)
include hys

theorem tells_l1 (j : Nat) (zs : List Int) (h : Ev (fun k => targumlaw20_PlainTells.l0 k x2 v p ys (ys.length : Int) (wrap64 ((j : Int) + 1))) true) : ∀ (d i : Nat), d = zs.length - i → zs.length ≤ 2 →
    Ev (fun k => targumlaw20_PlainTells.l1 k x2 v p (rdOf ByteArray.empty ys (j : Int)) ys (ys.length : Int) (j : Int) zs (zs.length : Int) (i : Int)) true := by
  have hsz := hys (j : Int)
  generalize rdOf ByteArray.empty ys (j : Int) = s at *
  intro d
  induction d with
  | zero =>
    intro i hd hz
    refine Ev.step (f := fun k => targumlaw20_PlainTells.l0 k x2 v p ys (ys.length : Int) (wrap64 ((j : Int) + 1))) (fun k => ?_) h
    rw [targumlaw20_PlainTells.l1.eq_2, if_neg (by omega)]
  | succ d ih =>
    intro i hd hz
    obtain ⟨K, hK⟩ := ih (i + 1) (by omega) hz
    obtain ⟨K2, hK2⟩ := r_plain v s (rd zs (i : Int)) p (by omega)
    obtain ⟨b, hb⟩ := cut_some s (rd zs (i : Int))
    refine ⟨K + K2 + 3 * s.size + 100, fun k hk => ?_⟩
    obtain ⟨k, rfl⟩ : ∃ q, k = q + 1 := ⟨k - 1, by omega⟩
    have hgo : targumlaw20_PlainTells.l1 k x2 v p s ys (ys.length : Int) (j : Int) zs (zs.length : Int) (wrap64 ((i : Int) + 1)) = some true := by
      rw [wrapS _ (by omega) (by omega)]
      exact hK k (by omega)
    have hpl : targumref17_Plain.f k v s (rd zs (i : Int)) p = some (⟨(readI v s (rd zs (i : Int)) p).1.toArray⟩, (readI v s (rd zs (i : Int)) p).2) := hK2 k (by omega)
    dsimp only
    rw [targumlaw20_PlainTells.l1.eq_2, if_pos (by omega), if_pos (by omega), if_pos (by omega), hb]
    simp only [Option.bind_some]
    cases b
    · unfold plain_Read.f plain_Part.f
      rw [if_neg (by decide), if_pos (by omega), hpl, if_pos (by omega), if_pos (by omega), r_part v s _ false k (by omega) (by omega), r_part v s _ true k (by omega) (by omega)]
      simp only [Option.bind_some, if_true]
      exact hgo
    · rw [if_pos rfl]; exact hgo

theorem tells_l0 (hlen : ys.length ≤ 10) : ∀ (d j : Nat), d = ys.length - j → Ev (fun k => targumlaw20_PlainTells.l0 k x2 v p ys (ys.length : Int) (j : Int)) true := by
  intro d
  induction d with
  | zero =>
    intro j hd
    refine ⟨1, fun k hk => ?_⟩
    obtain ⟨k, rfl⟩ : ∃ q, k = q + 1 := ⟨k - 1, by omega⟩
    dsimp only
    rw [targumlaw20_PlainTells.l0.eq_2, if_neg (by omega)]
  | succ d ih =>
    intro j hd
    have hrest : Ev (fun k => targumlaw20_PlainTells.l0 k x2 v p ys (ys.length : Int) (wrap64 ((j : Int) + 1))) true := by
      rw [wrapS _ (by omega) (by omega)]
      exact ih (j + 1) (by omega)
    have hsz := hys (j : Int)
    obtain ⟨m, hm⟩ := within_some x2 (-1) ((rdOf ByteArray.empty ys (j : Int)).size + 1) (by omega) (by omega) (by omega)
    obtain ⟨K, hK⟩ := tells_l1 x2 v p ys hys j [0, m] hrest 2 0 rfl (Nat.le_refl _)
    refine ⟨K + 1, fun k hk => ?_⟩
    obtain ⟨k, rfl⟩ : ∃ q, k = q + 1 := ⟨k - 1, by omega⟩
    dsimp only
    rw [targumlaw20_PlainTells.l0.eq_2, if_pos (by omega), if_pos (by omega), if_pos (by omega), wrapS (((rdOf ByteArray.empty ys (j : Int)).size : Int) + 1) (by omega) (by omega), hm]
    simp only [Option.bind_some]
    exact hK k (by omega)
end

theorem rdOf_le (ys : List ByteArray) (m : Nat) (h : ∀ y ∈ ys, y.size ≤ m) (j : Int) : (rdOf ByteArray.empty ys j).size ≤ m := by
  unfold rdOf
  rw [List.getD_eq_getElem?_getD]
  by_cases hj : j.toNat < ys.length
  · rw [List.getElem?_eq_getElem hj]; exact h _ (List.getElem_mem hj)
  · rw [List.getElem?_eq_none (by omega)]; exact Nat.zero_le _

theorem sz97 (a : ByteArray) : ((⟨#[97]⟩ : ByteArray) ++ a).size = 1 + a.size := by rw [ByteArray.size_append]; rfl
theorem sz97b (a : ByteArray) : (((⟨#[97]⟩ : ByteArray) ++ a) ++ (⟨#[10, 32, 32]⟩ : ByteArray)).size = 4 + a.size := by
  rw [ByteArray.size_append, sz97, show (⟨#[10, 32, 32]⟩ : ByteArray).size = 3 from rfl]; omega

theorem PlainTells : ∀ (a0 : ByteArray) (l1 : List Int) (a2 : Int) (a3 : Int) (a4 : Bool), a0.size ≤ 140737488351232 → l1.length ≤ maxLen → (∀ x ∈ l1, (Lit.int .u8 x).wf = true) → (Lit.int .i64 a2).wf = true → (Lit.int .u8 a3).wf = true → ∃ k, Go.Proofs.YtmfjdlmhejabiaaDoor.PL.targumlaw20_PlainTells.f k a0 l1 a2 a3 a4 = some true := by
  intro a0 l1 a2 a3 a4 _ _ hw _ _
  have hj : ∀ k, targumlaw20_PlainTells.j0 (k + 1) a0 l1 a2 a3 a4 true = some true := fun k => by rw [targumlaw20_PlainTells.j0.eq_2, if_pos rfl]
  obtain ⟨b, hb, hb2⟩ := few_some a0 200 (by omega) 300 (by omega)
  have hbk : ∀ k, 300 ≤ k → targumhelp_Few.f k a0 200 = some b := fun k hk => at_rounds (targumhelp_Few.mono _ _) hk hb
  cases b with
  | false =>
    refine ⟨301, ?_⟩
    unfold targumlaw20_PlainTells.f
    rw [known20, hbk 301 (by omega)]
    simp only [Option.bind_some, if_true]
    rw [if_neg (by decide)]
    exact hj 300
  | true =>
    have h200 := hb2 rfl
    by_cases hl : (l1.length : Int) > 60
    · refine ⟨301, ?_⟩
      unfold targumlaw20_PlainTells.f
      rw [known20, hbk 301 (by omega)]
      simp only [Option.bind_some, if_true]
      rw [decide_eq_true hl]
      exact hj 300
    · obtain ⟨v, hv, _⟩ := version_some a4
      obtain ⟨t, ht, hts⟩ := text20_some l1 (by omega) hw
      obtain ⟨K, hK⟩ := tells_l0 a2 v (wrap64 ((wrap64 (Int.tmod a3 5)) - 1)) [a0, t, (⟨#[97]⟩ : ByteArray) ++ t, (((⟨#[97]⟩ : ByteArray) ++ a0) ++ (⟨#[10, 32, 32]⟩ : ByteArray)) ++ t]
        (rdOf_le _ 1000 (by
          intro y hy
          have e1 : (⟨#[97]⟩ : ByteArray).size = 1 := rfl
          have e3 : (⟨#[10, 32, 32]⟩ : ByteArray).size = 3 := rfl
          simp only [List.mem_cons, List.not_mem_nil, or_false] at hy
          rcases hy with rfl | rfl | rfl | rfl
          · omega
          · omega
          · rw [ByteArray.size_append]; omega
          · rw [ByteArray.size_append, ByteArray.size_append, ByteArray.size_append]; omega)) (show 4 ≤ 10 by decide) 4 0 rfl
      obtain ⟨M, hM⟩ : ∃ M, K + 300 ≤ M := ⟨_, Nat.le_refl _⟩
      refine ⟨M + 1, ?_⟩
      unfold targumlaw20_PlainTells.f
      rw [known20, hbk _ (by omega)]
      simp only [Option.bind_some, if_true]
      rw [decide_eq_false hl, targumlaw20_PlainTells.j0.eq_2, if_neg (by decide), hv, ht]
      have e1 := sz97 a0
      have e2 := sz97b a0
      simp only [Option.bind_some]
      rw [if_pos (by omega), if_pos (by omega), if_pos (by omega), if_pos (by omega)]
      exact hK M (by omega)
end Go.Proofs.YtmfjdlmhejabiaaDoor.Pure
