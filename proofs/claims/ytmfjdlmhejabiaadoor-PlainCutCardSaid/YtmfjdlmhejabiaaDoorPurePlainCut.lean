/- PlainCut, in plain words: a part ends where it ends with the text cut off there, on one line; in a flow no later. -/
import Derived.Test.YtmfjdlmhejabiaaDoorM6
import Derived.Test.YtmfjdlmhejabiaaDoorM8
import Derived.Test.YtmfjdlmhejabiaaDoorM9
import Derived.Test.YtmfjdlmhejabiaaDoorPLx15
namespace Go.Proofs.YtmfjdlmhejabiaaDoor.Pure
open Go.RowKit Go.Proofs.Tg Go.Proofs.YtmfjdlmhejabiaaDoor.X Go.Proofs.YtmfjdlmhejabiaaDoor.PL Go.Proofs.YtmfjdlmhejabiaaDoor.M Go.Proofs.YtmfjdlmhejabiaaDoorW.PrintWords
set_option linter.unusedVariables false
set_option linter.unusedSimpArgs false

theorem wrapS (i : Int) (h0 : -9223372036854775808 ≤ i) (h1 : i ≤ 9223372036854775807) : wrap64 i = i := by unfold wrap64; omega

theorem part_cases (v : Int) (s : ByteArray) (flow : Bool) : partI v s 0 flow = -1 ∨ ∃ n : Nat, partI v s 0 flow = (n : Int) ∧ 0 < n ∧ n ≤ s.size ∧ opens (decide (v = 11)) flow (suf s 0) = true ∧ ends (decide (v = 11)) flow false 0 0 (suf s 0) = n := by
  unfold partI
  rw [if_neg (by decide), show (0 : Int).toNat = 0 from rfl]
  by_cases ho : opens (decide (v = 11)) flow (suf s 0) = true
  · right
    have hp : prevBl s 0 = false := rfl
    rw [if_pos ho, hp]
    refine ⟨_, rfl, ?_, ?_, ho, rfl⟩
    · have h0 : 0 < s.size := opens_lt ho
      rw [suf_cons s 0 h0] at ho ⊢
      exact ends_first _ _ _ _ _ ho
    · have := ends_le (decide (v = 11)) flow (suf s 0) false 0 0 (Nat.le_refl _)
      rw [suf_length] at this
      omega
  · left; rw [if_neg ho]

theorem part_flow (v : Int) (s : ByteArray) : partI v s 0 true ≤ partI v s 0 false := by
  rcases part_cases v s true with h | ⟨n, h, h0, _, ho, he⟩
  · rcases part_cases v s false with h2 | ⟨m, h2, _⟩ <;> rw [h, h2] <;> omega
  · have ho2 := opens_flow _ _ ho
    rcases part_cases v s false with h2 | ⟨m, h2, _, _, _, he2⟩
    · exfalso
      unfold partI at h2
      rw [if_neg (by decide), show (0 : Int).toNat = 0 from rfl, if_pos ho2] at h2
      omega
    · have := ends_flow (decide (v = 11)) (suf s 0) false 0 0 0 (Nat.le_refl _) (Nat.le_refl _)
      rw [h, h2]; omega

theorem suf0_extract (s : ByteArray) (n : Nat) : suf (s.extract 0 n) 0 = (suf s 0).take n := by
  have := extract_suf s 0 n
  rw [Nat.sub_zero] at this
  rw [← this]; rfl

theorem closed_some (y : ByteArray) (h0 : 0 < y.size) (hs : y.size ≤ 1000000) : ∃ b, targumlaw20_closed.f y = some b ∧ (b = true → (∀ c, (suf y 0).getLast? = some c → c ≠ 58) ∧ suf y 0 ≠ [45] ∧ suf y 0 ≠ [63]) := by
  unfold targumlaw20_closed.f
  have hlt : y.size - 1 < y.size := by omega
  have e := suf_cons y (y.size - 1) hlt
  obtain ⟨hb, _⟩ := bt_suf y (y.size - 1) _ _ e
  have hlast : (suf y 0).getLast? = some y[y.size - 1] := by
    rw [List.getLast?_eq_getElem?, suf_length, Nat.sub_zero]
    have h := suf_drop y 0 (y.size - 1)
    rw [Nat.zero_add, e] at h
    have h2 : ((suf y 0).drop (y.size - 1))[0]? = some y[y.size - 1] := by rw [h]; rfl
    rwa [List.getElem?_drop] at h2
  rw [wrapS _ (by omega) (by omega), if_pos (by omega), if_pos (by omega), show (y.size : Int) - 1 = ((y.size - 1 : Nat) : Int) by omega, hb]
  have e58 := u8_eq y[y.size - 1] 58 (by decide)
  rw [show (58 : Int) = ((58 : Nat) : Int) from rfl]
  have hl : y.toList = suf y 0 := by rw [Lib.toList_data]; rfl
  rw [hl]
  simp only [e58]
  by_cases q : y[y.size - 1] = UInt8.ofNat 58
  · exact ⟨false, if_pos q, fun x => by cases x⟩
  · rw [if_neg q]
    by_cases q2 : suf y 0 = [45]
    · exact ⟨false, if_pos q2, fun x => by cases x⟩
    · rw [if_neg q2]
      refine ⟨_, rfl, fun x => ⟨fun c hc => ?_, q2, by simpa using x⟩⟩
      rw [hlast] at hc
      injection hc with hc
      rw [← hc]; exact q

theorem cut_part (v : Int) (s : ByteArray) (flow : Bool) (n : Nat) (h : partI v s 0 flow = (n : Int)) (h0 : 0 < n) (hn : n ≤ s.size) (ho : opens (decide (v = 11)) flow (suf s 0) = true) (he : ends (decide (v = 11)) flow false 0 0 (suf s 0) = n)
    (hc : (∀ c, (suf (s.extract 0 n) 0).getLast? = some c → c ≠ 58) ∧ suf (s.extract 0 n) 0 ≠ [45] ∧ suf (s.extract 0 n) 0 ≠ [63]) : partI v (s.extract 0 n) 0 flow = (n : Int) := by
  rw [suf0_extract] at hc
  unfold partI
  rw [if_neg (by decide), show (0 : Int).toNat = 0 from rfl, suf0_extract, if_pos, show prevBl (s.extract 0 n) 0 = false from rfl]
  · have := ends_cut (decide (v = 11)) flow (suf s 0) false 0 0 n (Nat.le_refl _) he (by rw [Nat.sub_zero]; exact hc.1)
    rw [Nat.sub_zero] at this
    rw [this]
  · refine opens_take _ _ _ _ ho (by omega) fun h1 c hcc hm => ?_
    subst h1
    obtain ⟨l, hl⟩ : ∃ l, suf s 0 = c :: l := by
      cases hq : suf s 0 with
      | nil => rw [hq] at hcc; simp at hcc
      | cons d l => rw [hq] at hcc; simp at hcc; subst hcc; exact ⟨l, rfl⟩
    rw [hl] at hc
    simp only [List.take_succ_cons, List.take_zero] at hc
    simp only [List.mem_cons, List.not_mem_nil, or_false] at hm
    rcases hm with rfl | rfl | rfl
    · exact hc.2.1 rfl
    · exact hc.2.2 rfl
    · exact hc.1 58 rfl rfl

theorem lend_all (old : Bool) : ∀ m : List UInt8, (∀ j, j < m.length → brk old (m.drop j) = 0) → lend old m = m.length
  | [], _ => rfl
  | c :: m, h => by
    have h0 := h 0 (by simp)
    rw [List.drop_zero] at h0
    rw [lend, if_pos h0, lend_all old m (fun j hj => by
      have := h (j + 1) (by simp; omega)
      rwa [List.drop_succ_cons] at this)]
    simp

theorem one_line (v : Int) (s : ByteArray) (flow : Bool) (n k : Nat) (hs : s.size ≤ 1000000) (h0 : 0 < n) (hn : n ≤ s.size) (he : ends (decide (v = 11)) flow false 0 0 (suf s 0) = n) (hk : s.size + 20 < k) :
    targumref1_IsBlank.f s (wrap64 ((n : Int) - 1)) = some false ∧ ∃ l, targumref1_Lines.f k v (s.extract 0 n) = some l ∧ l.length = 1 := by
  obtain ⟨_, a2, c, a3, a4⟩ := ends_within (decide (v = 11)) flow (suf s 0) false 0 0 n (Nat.le_refl _) he (by omega)
  rw [Nat.sub_zero] at a2 a3
  have hsz : (s.extract 0 n).size = n := by rw [ByteArray.size_extract]; omega
  constructor
  · rw [wrapS _ (by omega) (by omega), show (n : Int) - 1 = ((n - 1 : Nat) : Int) by omega, r_blank]
    have hlt : n - 1 < s.size := by omega
    have e := suf_cons s (n - 1) hlt
    have h := suf_drop s 0 (n - 1)
    rw [Nat.zero_add, e] at h
    have h2 : ((suf s 0).drop (n - 1))[0]? = some s[n - 1] := by rw [h]; rfl
    rw [List.getElem?_drop, Nat.add_zero, a3] at h2
    injection h2 with h2
    rw [e, ← h2]
    exact congrArg some a4
  · have hl : lend (decide (v = 11)) (suf (s.extract 0 n) 0) = n := by
      rw [lend_all]
      · rw [suf_length, hsz, Nat.sub_zero]
      · intro j hj
        rw [suf_length, hsz, Nat.sub_zero] at hj
        rw [suf0_extract, List.drop_take]
        exact brk_take _ _ _ (a2 j hj)
    refine ⟨_, r_lines v (s.extract 0 n) k (by omega) (by omega), ?_⟩
    have hE : lEnd v (s.extract 0 n) 0 = n := by unfold lEnd; omega
    have hN : lNext v (s.extract 0 n) 0 = n := by unfold lNext; rw [hE, suf_nil (s.extract 0 n) n (by omega), brk_nil]; rfl
    rw [linesF, if_pos (by omega), hN, linesF_end v _ _ n (by omega)]; rfl

section
variable (v : Int) (ys : List ByteArray)

theorem cut_j3 (s : ByteArray) (hs : s.size ≤ 1000) (j : Int) (k : Nat) (r : Bool) (hgo : targumlaw20_PlainCut.l0 k v ys (ys.length : Int) (wrap64 (j + 1)) = some r) :
    targumlaw20_PlainCut.j3 (k + 1) v s (partI v s 0 true) ys (ys.length : Int) j false = some r := by
  rw [targumlaw20_PlainCut.j3.eq_2, if_neg (by decide)]
  rcases part_cases v s true with h | ⟨n, h, h0, hn, ho, he⟩
  · rw [h, if_neg (by decide)]; exact hgo
  · rw [h, if_pos (by omega), if_pos (by omega), if_pos (by omega), Int.toNat_natCast]
    have hsz : (s.extract 0 n).size = n := by rw [ByteArray.size_extract]; omega
    obtain ⟨b, hb, hc⟩ := closed_some (s.extract 0 n) (by omega) (by omega)
    rw [hb]
    simp only [Option.bind_some]
    cases b
    · rw [if_neg (by decide)]; exact hgo
    · unfold plain_Part.f
      rw [if_pos rfl, if_pos (by omega), cut_part v s true n h h0 hn ho he (hc rfl)]
      simp only [Option.bind_some, if_true]
      exact hgo

theorem cut_j2 (s : ByteArray) (hs : s.size ≤ 1000) (j : Int) (k : Nat) (r : Bool) (hk : s.size + 30 < k) (hgo : targumlaw20_PlainCut.l0 k v ys (ys.length : Int) (wrap64 (j + 1)) = some r) :
    targumlaw20_PlainCut.j2 (k + 2) v s (partI v s 0 false) (partI v s 0 true) ys (ys.length : Int) j false = some r := by
  have h3 := cut_j3 v ys s hs j k r hgo
  rw [targumlaw20_PlainCut.j2.eq_2, if_neg (by decide)]
  rcases part_cases v s false with h | ⟨n, h, h0, hn, ho, he⟩
  · rw [h, if_neg (by decide)]; exact h3
  · obtain ⟨hb1, l, hl1, hl2⟩ := one_line v s false n (k + 1) (by omega) h0 hn he (by omega)
    rw [h, if_pos (by omega), if_pos (by omega), if_pos (by omega), Int.toNat_natCast, hb1, hl1]
    have hsz : (s.extract 0 n).size = n := by rw [ByteArray.size_extract]; omega
    obtain ⟨b, hb, hc⟩ := closed_some (s.extract 0 n) (by omega) (by omega)
    have hf : ((l.length : Int) != 1) = false := by rw [hl2]; rfl
    rw [hb]
    simp only [Option.bind_some, hf]
    cases b
    · rw [if_neg (by decide), if_neg (by decide)]; exact h3
    · unfold plain_Part.f
      rw [if_pos rfl, if_pos (by omega), cut_part v s false n h h0 hn ho he (hc rfl)]
      simp only [Option.bind_some, if_true]
      rw [if_neg (by decide)]; exact h3

theorem cut_l0 (hys : ∀ j, (rdOf ByteArray.empty ys j).size ≤ 1000) (hlen : ys.length ≤ 10) : ∀ (d j : Nat), d = ys.length - j → Ev (fun k => targumlaw20_PlainCut.l0 k v ys (ys.length : Int) (j : Int)) true := by
  intro d
  induction d with
  | zero =>
    intro j hd
    refine ⟨1, fun k hk => ?_⟩
    obtain ⟨k, rfl⟩ : ∃ q, k = q + 1 := ⟨k - 1, by omega⟩
    dsimp only
    rw [targumlaw20_PlainCut.l0.eq_2, if_neg (by omega)]
  | succ d ih =>
    intro j hd
    obtain ⟨K, hK⟩ := ih (j + 1) (by omega)
    have hsz := hys (j : Int)
    have hfl := part_flow v (rdOf ByteArray.empty ys (j : Int))
    have hF := part_cases v (rdOf ByteArray.empty ys (j : Int)) false
    have hT := part_cases v (rdOf ByteArray.empty ys (j : Int)) true
    have b1 : ¬ partI v (rdOf ByteArray.empty ys (j : Int)) 0 false < -1 ∧ ¬ partI v (rdOf ByteArray.empty ys (j : Int)) 0 false = 0 ∧ ¬ partI v (rdOf ByteArray.empty ys (j : Int)) 0 false > ((rdOf ByteArray.empty ys (j : Int)).size : Int) := by
      rcases hF with h | ⟨n, h, h0, hn, _⟩ <;> rw [h] <;> omega
    have b2 : ¬ partI v (rdOf ByteArray.empty ys (j : Int)) 0 true < -1 ∧ ¬ partI v (rdOf ByteArray.empty ys (j : Int)) 0 true = 0 := by
      rcases hT with h | ⟨n, h, h0, hn, _⟩ <;> rw [h] <;> omega
    have b3 : ¬ partI v (rdOf ByteArray.empty ys (j : Int)) 0 true > partI v (rdOf ByteArray.empty ys (j : Int)) 0 false := by omega
    clear hF hT hfl
    refine ⟨K + 1100, fun k hk => ?_⟩
    obtain ⟨k, rfl⟩ : ∃ q, k = q + 3 := ⟨k - 3, by omega⟩
    dsimp only
    have hgo : targumlaw20_PlainCut.l0 k v ys (ys.length : Int) (wrap64 ((j : Int) + 1)) = some true := by
      rw [wrapS _ (by omega) (by omega)]
      exact hK k (by omega)
    have h2 := cut_j2 v ys (rdOf ByteArray.empty ys (j : Int)) hsz j k true (by omega) hgo
    rw [targumlaw20_PlainCut.l0.eq_2, if_pos (by omega), if_pos (by omega), if_pos (by omega)]
    unfold plain_Part.f
    rw [if_pos (by omega), if_pos (by omega)]
    simp only [Option.bind_some]
    rw [if_neg b1.1, if_neg b1.2.1, if_neg b1.2.2, if_neg b3, if_neg b2.1, show (partI v (rdOf ByteArray.empty ys (j : Int)) 0 true == 0) = false from by simpa using b2.2]
    exact h2
end

theorem rdOf_le (ys : List ByteArray) (m : Nat) (h : ∀ y ∈ ys, y.size ≤ m) (j : Int) : (rdOf ByteArray.empty ys j).size ≤ m := by
  unfold rdOf
  rw [List.getD_eq_getElem?_getD]
  by_cases hj : j.toNat < ys.length
  · rw [List.getElem?_eq_getElem hj]; exact h _ (List.getElem_mem hj)
  · rw [List.getElem?_eq_none (by omega)]; exact Nat.zero_le _

theorem PlainCut : ∀ (a0 : ByteArray) (l1 : List Int) (a2 : Bool), a0.size ≤ 140737488351232 → l1.length ≤ maxLen → (∀ x ∈ l1, (Lit.int .u8 x).wf = true) → ∃ k, Go.Proofs.YtmfjdlmhejabiaaDoor.PL.targumlaw20_PlainCut.f k a0 l1 a2 = some true := by
  intro a0 l1 a2 _ _ hw
  have hj : ∀ k, targumlaw20_PlainCut.j0 (k + 1) a0 l1 a2 true = some true := fun k => by rw [targumlaw20_PlainCut.j0.eq_2, if_pos rfl]
  obtain ⟨b, hb, hb2⟩ := few_some a0 200 (by omega) 300 (by omega)
  have hbk : ∀ k, 300 ≤ k → targumhelp_Few.f k a0 200 = some b := fun k hk => at_rounds (targumhelp_Few.mono _ _) hk hb
  cases b with
  | false =>
    refine ⟨301, ?_⟩
    unfold targumlaw20_PlainCut.f
    rw [known20, hbk 301 (by omega)]
    simp only [Option.bind_some, if_true]
    rw [if_neg (by decide)]
    exact hj 300
  | true =>
    have h200 := hb2 rfl
    by_cases hl : (l1.length : Int) > 60
    · refine ⟨301, ?_⟩
      unfold targumlaw20_PlainCut.f
      rw [known20, hbk 301 (by omega)]
      simp only [Option.bind_some, if_true]
      rw [decide_eq_true hl]
      exact hj 300
    · obtain ⟨v, hv, _⟩ := version_some a2
      obtain ⟨t, ht, hts⟩ := text20_some l1 (by omega) hw
      have e1 : (⟨#[97]⟩ : ByteArray).size = 1 := rfl
      obtain ⟨K, hK⟩ := cut_l0 v [a0, t, (⟨#[97]⟩ : ByteArray) ++ t]
        (rdOf_le _ 1000 (by
          intro y hy
          simp only [List.mem_cons, List.not_mem_nil, or_false] at hy
          rcases hy with rfl | rfl | rfl
          · omega
          · omega
          · rw [ByteArray.size_append]; omega)) (show 3 ≤ 10 by decide) 3 0 rfl
      refine ⟨K + 301, ?_⟩
      unfold targumlaw20_PlainCut.f
      rw [known20, hbk _ (by omega)]
      simp only [Option.bind_some, if_true]
      rw [decide_eq_false hl, show K + 301 = (K + 300) + 1 from rfl, targumlaw20_PlainCut.j0.eq_2, if_neg (by decide), hv, ht]
      simp only [Option.bind_some]
      rw [if_pos (by omega)]
      exact hK (K + 300) (by omega)
end Go.Proofs.YtmfjdlmhejabiaaDoor.Pure
