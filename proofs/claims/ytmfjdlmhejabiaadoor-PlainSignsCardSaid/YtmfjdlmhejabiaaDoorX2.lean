/- plain.ends: where a part ends that begins at a byte, for every text and place in it. -/
import Derived.Test.YtmfjdlmhejabiaaDoorM1
import Derived.Scope
import Derived.WalkMore
import Derived.Deep.Light
namespace Go.Proofs.YtmfjdlmhejabiaaDoor.X
open Go.RowKit Go.Proofs.YtmfjdlmhejabiaaDoorW.PrintWords Go.Proofs.Tg Go.Proofs.YtmfjdlmhejabiaaDoor.PB Go.Proofs.YtmfjdlmhejabiaaDoor.M
set_option linter.unusedVariables false
set_option linter.unusedSimpArgs false

/-- By a goto: J of its label; else Q. -/
def jumps (J : Nat → Act → World → Prop) (Q : Exit → Act → World → Prop) : Exit → Act → World → Prop
  | .goto l, a, w => J l a w
  | e, a, w => Q e a w

theorem skip_seq {P : Program} {a : Act} {w : World} {Q : Exit → Act → World → Prop} {c : Code} (h : c.wp P Q a w) : (Code.seq .skip c).wp P Q a w :=
  wp_seq (wp_skip h)

/-- A scope with labels: what holds at each jump bears a number that every pass lowers. -/
theorem wp_scope_labels {P : Program} {a : Act} {w : World} {Q : Exit → Act → World → Prop} {c : Code} (J : Nat → Nat → Act → World → Prop)
    (first : ∀ K : Nat → Act → World → Prop, (∀ n l a' w', J n l a' w' → K l a' w') → (∀ n l a' w', J n l a' w' → ∃ r, findLabel c l = some (.seq .skip r) ∧ r.wp P (jumps K Q) a' w') → c.wp P (jumps K Q) a w)
    (pass : ∀ n l a w, J n l a w → ∃ r, findLabel c l = some (.seq .skip r) ∧ ∀ K : Nat → Act → World → Prop, (∀ n' l' a' w', n' < n → J n' l' a' w' → K l' a' w') → r.wp P (jumps K Q) a w) :
    (Code.scope c).wp P Q a w := by
  intro b k cs
  have key : ∀ n l a w, J n l a w → ∃ r, findLabel c l = some r ∧ ∃ e a' w', Q e a' w' ∧ Arrives P (lone (b.at a (.code r :: .inScope c :: k)) cs w) b k cs e a' w' := by
    intro n
    induction n using Nat.strongRecOn with
    | _ n ih =>
      intro l a w hJ
      obtain ⟨r, hr, hp0⟩ := pass n l a w hJ
      refine ⟨_, hr, ?_⟩
      have hp := fun K hK => skip_seq (hp0 K hK)
      obtain ⟨e, a₁, w₁, hq, harr⟩ := hp (fun l' a' w' => ∃ n', n' < n ∧ J n' l' a' w') (fun n' l' a' w' h1 h2 => ⟨n', h1, h2⟩) b (.inScope c :: k) cs
      cases e with
      | normal => exact ⟨.normal, a₁, w₁, hq, Steps.trans harr (.one step_inScope)⟩
      | exit id => exact ⟨.exit id, a₁, w₁, hq, fun k' hk => harr k' (by simp [exitTo, hk])⟩
      | goto l' =>
        obtain ⟨n', hlt, hJ'⟩ := hq
        obtain ⟨r', hr', e₂, a₂, w₂, hq₂, harr₂⟩ := ih n' hlt l' a₁ w₁ hJ'
        exact ⟨e₂, a₂, w₂, hq₂, .of_steps (harr _ (by simp [gotoIn, hr'])) harr₂⟩
      | ret => exact ⟨_, a₁, w₁, hq, harr⟩
      | panic ch => exact ⟨_, a₁, w₁, hq, harr⟩
      | outgrown => exact ⟨_, a₁, w₁, hq, harr⟩
  obtain ⟨e, a₁, w₁, hq, harr⟩ := first (fun l' a' w' => ∃ n', J n' l' a' w') (fun n' l' a' w' h => ⟨n', h⟩) (fun n' l' a' w' h => let ⟨r, hr, hp⟩ := pass n' l' a' w' h; ⟨r, hr, hp _ (fun n'' l'' a'' w'' _ h'' => ⟨n'', h''⟩)⟩) b (.inScope c :: k) cs
  cases e with
  | normal => exact ⟨.normal, a₁, w₁, hq, .head step_scope (Steps.trans harr (.one step_inScope))⟩
  | exit id => exact ⟨.exit id, a₁, w₁, hq, fun k' hk => .head step_scope (harr k' (by simp [exitTo, hk]))⟩
  | goto l' =>
    obtain ⟨n', hJ'⟩ := hq
    obtain ⟨r', hr', e₂, a₂, w₂, hq₂, harr₂⟩ := key n' l' a₁ w₁ hJ'
    exact ⟨e₂, a₂, w₂, hq₂, .of_steps (.head step_scope (harr _ (by simp [gotoIn, hr']))) harr₂⟩
  | ret => exact ⟨_, a₁, w₁, hq, .of_steps (.one step_scope) harr⟩
  | panic ch => exact ⟨_, a₁, w₁, hq, .of_steps (.one step_scope) harr⟩
  | outgrown => exact ⟨_, a₁, w₁, hq, .of_steps (.one step_scope) harr⟩

theorem jumps_ret {J Q a w} : jumps J Q .ret a w = Q .ret a w := rfl
theorem jumps_goto {J Q l a w} : jumps J Q (.goto l) a w = J l a w := rfl

theorem break_any (v : Int) (s : ByteArray) (n : Nat) (w : World) :
    Calls Tryd.prog 66 #[.int .i64 v, .string s, .int .i64 n] w fun e w' => e = .returned (.int .i64 (brk (decide (v = 11)) (suf s n) : Nat)) ∧ w = w' :=
  brk_Break.calls v s n _ w (by unfold brk_Break.f; rw [brkI_nat])
theorem blank_any (s : ByteArray) (n : Nat) (w : World) :
    Calls Tryd.prog 83 #[.string s, .int .i64 n] w fun e w' => e = .returned (.bool (bl (suf s n))) ∧ Drawn0 w w' :=
  rows_Blank.calls s n _ w (blank_eq s n)
theorem remark_any (s : ByteArray) (n : Nat) (w : World) (h : s.size ≤ 9223372036854775807) :
    Calls Tryd.prog 82 #[.string s, .int .i64 n] w fun e w' => e = .returned (.bool (remark s n)) ∧ Drawn0 w w' :=
  rows_Remark.calls s n _ w (remark_eq s n h)
theorem stop_any (v : Int) (s : ByteArray) (n : Nat) (flow : Bool) (w : World) :
    Calls Tryd.prog 81 #[.int .i64 v, .string s, .int .i64 n, .bool flow] w fun e w' => e = .returned (.bool (stop (decide (v = 11)) flow (suf s n))) ∧ Drawn0 w w' :=
  rows_Stop.calls v s n flow _ w (stop_eq v s n flow)

def EndsJ (v : Int) (s : ByteArray) (flow : Bool) (R : Nat) (w : World) (n l : Nat) (a : Act) (w' : World) : Prop :=
  l = 0 ∧ ∃ (j e : Nat) (u10 u11 u12 u13 u14 u15 u16 u17 u18 u19 u20 u21 u22 u23 u24 u25 u26 u27 u28 u29 u30 u31 u32 u33 u34 u35 u36 u37 u38 u39 u40 u41 u42 u43 u44 u45 u46 u47 u48 u49 u50 u51 u52 u53 u54 u55 u56 : Value),
    a = { tmps := #[.int .i64 v, .string s, .int .i64 (j : Nat), .bool flow, undef, undef, undef, undef, .int .i64 0, .int .i64 (e : Nat), u10, u11, u12, u13, u14, u15, u16, u17, u18, u19, u20, u21, u22, u23, u24, u25, u26, u27, u28, u29, u30, u31, u32, u33, u34, u35, u36, u37, u38, u39, u40, u41, u42, u43, u44, u45, u46, u47, u48, u49, u50, u51, u52, u53, u54, u55, u56], defers := [] } ∧
    ends (decide (v = 11)) flow (prevBl s j) j e (suf s j) = R ∧ n = s.size - j ∧ Drawn0 w w'

theorem EndsJ.mk {v : Int} {s : ByteArray} {flow : Bool} {R : Nat} {w w' : World} {j e : Nat} (hR : ends (decide (v = 11)) flow (prevBl s j) j e (suf s j) = R) (hw : Drawn0 w w')
    (u10 u11 u12 u13 u14 u15 u16 u17 u18 u19 u20 u21 u22 u23 u24 u25 u26 u27 u28 u29 u30 u31 u32 u33 u34 u35 u36 u37 u38 u39 u40 u41 u42 u43 u44 u45 u46 u47 u48 u49 u50 u51 u52 u53 u54 u55 u56 : Value) :
    EndsJ v s flow R w (s.size - j) 0 { tmps := #[.int .i64 v, .string s, .int .i64 (j : Nat), .bool flow, undef, undef, undef, undef, .int .i64 0, .int .i64 (e : Nat), u10, u11, u12, u13, u14, u15, u16, u17, u18, u19, u20, u21, u22, u23, u24, u25, u26, u27, u28, u29, u30, u31, u32, u33, u34, u35, u36, u37, u38, u39, u40, u41, u42, u43, u44, u45, u46, u47, u48, u49, u50, u51, u52, u53, u54, u55, u56], defers := [] } w' :=
  ⟨rfl, j, e, u10, u11, u12, u13, u14, u15, u16, u17, u18, u19, u20, u21, u22, u23, u24, u25, u26, u27, u28, u29, u30, u31, u32, u33, u34, u35, u36, u37, u38, u39, u40, u41, u42, u43, u44, u45, u46, u47, u48, u49, u50, u51, u52, u53, u54, u55, u56, rfl, hR, rfl, hw⟩

theorem stop_succ (v : Int) (s : ByteArray) (n : Nat) (flow : Bool) (w : World) :
    Calls Tryd.prog 81 #[.int .i64 v, .string s, .int .i64 ((n : Int) + 1), .bool flow] w fun e w' => e = .returned (.bool (stop (decide (v = 11)) flow (suf s (n + 1)))) ∧ Drawn0 w w' :=
  stop_any v s (n + 1) flow w

theorem head35 (s : ByteArray) (j : Nat) (h : j < s.size) : remark s j = (s[j] == 35 && prevBl s j) := by
  unfold remark; rw [suf_cons s j h]; simp; rw [Bool.eq_iff_iff]; simp

theorem stop_cons (old flow : Bool) (c : UInt8) (l : List UInt8) : stop old flow (c :: l) = (isBl c || decide (0 < brk old (c :: l)) || (flow && flowSign c)) := rfl
theorem bl_cons (c : UInt8) (l : List UInt8) : bl (c :: l) = isBl c := rfl

theorem ends_step (v : Int) (s : ByteArray) (flow : Bool) (R j e : Nat) (hj : j < s.size) (h : ends (decide (v = 11)) flow (prevBl s j) j e (suf s j) = R) :
    (0 < brk (decide (v = 11)) (suf s j) → R = e) ∧
    (remark s j = true → ¬ 0 < brk (decide (v = 11)) (suf s j) → R = e) ∧
    (¬ 0 < brk (decide (v = 11)) (suf s j) → remark s j = false →
      (s[j] = 58 → stop (decide (v = 11)) flow (suf s (j + 1)) = true → R = e) ∧
      ((s[j] = 58 → stop (decide (v = 11)) flow (suf s (j + 1)) = false) →
        (bl (suf s j) = true → ends (decide (v = 11)) flow (prevBl s (j + 1)) (j + 1) e (suf s (j + 1)) = R) ∧
        (bl (suf s j) = false → flow = true → stop (decide (v = 11)) true (suf s j) = true → R = e) ∧
        (bl (suf s j) = false → (flow = true → stop (decide (v = 11)) true (suf s j) = false) → ends (decide (v = 11)) flow (prevBl s (j + 1)) (j + 1) (j + 1) (suf s (j + 1)) = R))) := by
  rw [prevBl_succ s j hj, head35 s j hj]
  rw [suf_cons s j hj] at h ⊢
  unfold ends at h
  simp only [stop_cons, bl_cons] at *
  by_cases h1 : 0 < brk (decide (v = 11)) (s[j] :: suf s (j + 1))
  · simp only [h1, if_true] at h
    simp [h1, h.symm]
  · simp only [h1, if_false] at h
    simp only [h1]
    by_cases h2 : s[j] = 35 ∧ prevBl s j = true
    · rw [if_pos h2] at h
      simp [h2.1, h2.2, h.symm]
    · rw [if_neg h2] at h
      by_cases h3 : s[j] = 58 ∧ stop (decide (v = 11)) flow (suf s (j + 1)) = true
      · rw [if_pos h3] at h
        simp [h3.1, h3.2, h.symm]
      · rw [if_neg h3] at h
        by_cases h4 : isBl s[j] = true
        · rw [if_pos h4] at h
          simp [h4, h]
          exact ⟨fun h5 h6 => absurd ⟨h5, h6⟩ h2, fun _ h5 h6 => absurd ⟨h5, h6⟩ h3⟩
        · rw [if_neg h4] at h
          have h4' : isBl s[j] = false := by simpa using h4
          by_cases h5 : flow = true ∧ flowSign s[j] = true
          · rw [if_pos h5] at h
            simp [h4', h5.1, h5.2, h.symm]
          · rw [if_neg h5] at h
            simp [h4', h]
            exact ⟨fun h6 h7 => absurd ⟨h6, h7⟩ h2, fun _ => ⟨fun h6 h7 => absurd ⟨h6, h7⟩ h3, fun _ h6 h7 => absurd ⟨h6, h7⟩ h5⟩⟩

theorem u8_58 (c : UInt8) : ((c.toNat : Int) == 58) = (c == 58) := u8_beq c 58 (by decide)

theorem jumpsG {J : Nat → Act → World → Prop} {Q l a w} (h : J l a w) : jumps J Q (.goto l) a w := h
theorem thenG {J : Nat → Act → World → Prop} {K' : Act → World → Prop} {Q l a w} (h : J l a w) : Exit.then K' (jumps J Q) (.goto l) a w := h

theorem u8_58i (c : UInt8) : ((c.toNat : Int) = 58) ↔ c = 58 := by rw [← UInt8.toNat_inj]; exact ⟨fun h => by have : (58 : UInt8).toNat = 58 := rfl; omega, fun h => by rw [h]; rfl⟩

section
variable {v : Int} {s : ByteArray} {flow : Bool} {R j e : Nat} (hj : j < s.size) (hR : ends (decide (v = 11)) flow (prevBl s j) j e (suf s j) = R)
include hj hR
theorem way_brk (h : ¬ brk (decide (v = 11)) (suf s j) = 0) : R = e := (ends_step v s flow R j e hj hR).1 (by omega)
theorem way_rem (h0 : brk (decide (v = 11)) (suf s j) = 0) (h : s.size ≤ j ∨ remark s j = true) : R = e :=
  (ends_step v s flow R j e hj hR).2.1 (by rcases h with h | h; exact absurd h (by omega); exact h) (by omega)
theorem way_colon (h0 : brk (decide (v = 11)) (suf s j) = 0) (h : ¬ s.size ≤ j ∧ remark s j = false) (h58 : (s[j].toNat : Int) = 58) (hst : stop (decide (v = 11)) flow (suf s (j + 1)) = true) : R = e :=
  ((ends_step v s flow R j e hj hR).2.2 (by omega) h.2).1 ((u8_58i _).mp h58) hst
theorem way_sign (h0 : brk (decide (v = 11)) (suf s j) = 0) (h : ¬ s.size ≤ j ∧ remark s j = false) (hc : (s[j].toNat : Int) = 58 → stop (decide (v = 11)) flow (suf s (j + 1)) = false) (hbl : bl (suf s j) = false) (hf : flow = true) (hst : stop (decide (v = 11)) true (suf s j) = true) : R = e :=
  (((ends_step v s flow R j e hj hR).2.2 (by omega) h.2).2 (fun h => hc ((u8_58i _).mpr h))).2.1 hbl hf hst
theorem way_blank (h0 : brk (decide (v = 11)) (suf s j) = 0) (h : ¬ s.size ≤ j ∧ remark s j = false) (hc : (s[j].toNat : Int) = 58 → stop (decide (v = 11)) flow (suf s (j + 1)) = false) (hbl : bl (suf s j) = true) :
    ends (decide (v = 11)) flow (prevBl s (j + 1)) (j + 1) e (suf s (j + 1)) = R :=
  (((ends_step v s flow R j e hj hR).2.2 (by omega) h.2).2 (fun h => hc ((u8_58i _).mpr h))).1 hbl
theorem way_on (h0 : brk (decide (v = 11)) (suf s j) = 0) (h : ¬ s.size ≤ j ∧ remark s j = false) (hc : (s[j].toNat : Int) = 58 → stop (decide (v = 11)) flow (suf s (j + 1)) = false) (hbl : bl (suf s j) = false) (hst : flow = true → stop (decide (v = 11)) true (suf s j) = false) :
    ends (decide (v = 11)) flow (prevBl s (j + 1)) (j + 1) (j + 1) (suf s (j + 1)) = R :=
  (((ends_step v s flow R j e hj hR).2.2 (by omega) h.2).2 (fun h => hc ((u8_58i _).mpr h))).2.2 hbl hst
end

set_option maxHeartbeats 4000000 in
set_option maxRecDepth 100000 in
theorem ends_true (v : Int) (s : ByteArray) (i : Nat) (w : World) (hs : s.size ≤ 140737488355328) (hi : i ≤ s.size) :
    Calls Tryd.prog 43 #[.int .i64 v, .string s, .int .i64 i, .bool true] w fun e w' =>
      e = .returned (.int .i64 (ends (decide (v = 11)) true (prevBl s i) i i (suf s i) : Nat)) ∧ Drawn0 w w' := by
  obtain ⟨R, hR⟩ : ∃ R, ends (decide (v = 11)) true (prevBl s i) i i (suf s i) = R := ⟨_, rfl⟩
  rw [hR]
  have HR := Aside0.mk hR
  clear hR
  have hs' : s.size ≤ 9223372036854775807 := by omega
  go_enter Tryd.func43, Tryd.ntmps43
  go_wp2
  refine wp_scope_labels (EndsJ v s true R w) ?_ ?_
  · intro K hK hpass
    have HP := Aside0.mk hpass
    clear hpass hK
    go_wp2
    go_step3
    obtain ⟨r, hr, hp⟩ := HP.out _ _ _ _ (EndsJ.mk HR.out (Drawn0.refl w) ..)
    cases hr
    rename_i hk_
    exact hk_ _ _ hp
  · rintro n l a w' ⟨rfl, j, e0, u10, u11, u12, u13, u14, u15, u16, u17, u18, u19, u20, u21, u22, u23, u24, u25, u26, u27, u28, u29, u30, u31, u32, u33, u34, u35, u36, u37, u38, u39, u40, u41, u42, u43, u44, u45, u46, u47, u48, u49, u50, u51, u52, u53, u54, u55, u56, rfl, hR, rfl, ⟨nd0, rfl⟩⟩
    refine ⟨_, rfl, ?_⟩
    have HR := Aside0.mk hR
    clear hR
    intro K hK
    have HK := Aside0.mk hK
    clear hK
    by_cases hj : j < s.size
    · go_wp2_with (first | (go_at_call 66; (with_reducible refine (break_any v s j _).mono ?_); rintro e w' ⟨rfl, rfl⟩) | (go_at_call 82; (with_reducible refine (remark_any s j _ hs').mono ?_); rintro e w' ⟨rfl, ⟨nd, rfl⟩⟩) | (go_at_call 81; (with_reducible refine (stop_succ v s j true _).mono ?_); rintro e w' ⟨rfl, ⟨nd, rfl⟩⟩) | (go_at_call 81; (with_reducible refine (stop_any v s j true _).mono ?_); rintro e w' ⟨rfl, ⟨nd, rfl⟩⟩) | (go_at_call 83; (with_reducible refine (blank_any s j _).mono ?_); rintro e w' ⟨rfl, ⟨nd, rfl⟩⟩))
      all_goals first
      | (rw [jumps_ret]
         go_ret
         go_light
         refine ⟨ret_int (congrArg Nat.cast ?_).symm, by repeat (first | exact Drawn0.refl _ | apply Drawn0.step)⟩
         first
         | exact way_brk hj HR.out ‹_›
         | exact way_rem hj HR.out ‹_› ‹_›
         | exact way_colon hj HR.out ‹_› ‹_› ‹_› ‹_›
         | exact way_sign hj HR.out ‹_› ‹_› (fun _ => ‹_›) ‹_› rfl ‹_›
         | exact way_sign hj HR.out ‹_› ‹_› (fun h => absurd h ‹_›) ‹_› rfl ‹_›)
      | (go_step3
         first | refine jumpsG ?_ | refine thenG ?_
         go_light
         first
         | exact HK.out _ _ _ _ (by omega) (EndsJ.mk (way_blank hj HR.out ‹_› ‹_› (fun _ => ‹_›) ‹_›) (by repeat (first | exact Drawn0.refl _ | apply Drawn0.step)) ..)
         | exact HK.out _ _ _ _ (by omega) (EndsJ.mk (way_blank hj HR.out ‹_› ‹_› (fun h => absurd h ‹_›) ‹_›) (by repeat (first | exact Drawn0.refl _ | apply Drawn0.step)) ..)
         | exact HK.out _ _ _ _ (by omega) (EndsJ.mk (way_on hj HR.out ‹_› ‹_› (fun _ => ‹_›) ‹_› (fun _ => ‹_›)) (by repeat (first | exact Drawn0.refl _ | apply Drawn0.step)) ..)
         | exact HK.out _ _ _ _ (by omega) (EndsJ.mk (way_on hj HR.out ‹_› ‹_› (fun h => absurd h ‹_›) ‹_› (fun _ => ‹_›)) (by repeat (first | exact Drawn0.refl _ | apply Drawn0.step)) ..))
    · have hE : R = e0 := by have := HR.out; rw [suf_nil s j (by omega)] at this; exact this.symm
      subst hE
      have hge : s.size ≤ j := by omega
      clear hj
      go_wp2
      rw [jumps_ret]
      go_ret
      exact ⟨rfl, by repeat (first | exact Drawn0.refl _ | apply Drawn0.step)⟩

set_option maxHeartbeats 4000000 in
set_option maxRecDepth 100000 in
theorem ends_false (v : Int) (s : ByteArray) (i : Nat) (w : World) (hs : s.size ≤ 140737488355328) (hi : i ≤ s.size) :
    Calls Tryd.prog 43 #[.int .i64 v, .string s, .int .i64 i, .bool false] w fun e w' =>
      e = .returned (.int .i64 (ends (decide (v = 11)) false (prevBl s i) i i (suf s i) : Nat)) ∧ Drawn0 w w' := by
  obtain ⟨R, hR⟩ : ∃ R, ends (decide (v = 11)) false (prevBl s i) i i (suf s i) = R := ⟨_, rfl⟩
  rw [hR]
  have HR := Aside0.mk hR
  clear hR
  have hs' : s.size ≤ 9223372036854775807 := by omega
  go_enter Tryd.func43, Tryd.ntmps43
  go_wp2
  refine wp_scope_labels (EndsJ v s false R w) ?_ ?_
  · intro K hK hpass
    have HP := Aside0.mk hpass
    clear hpass hK
    go_wp2
    go_step3
    obtain ⟨r, hr, hp⟩ := HP.out _ _ _ _ (EndsJ.mk HR.out (Drawn0.refl w) ..)
    cases hr
    rename_i hk_
    exact hk_ _ _ hp
  · rintro n l a w' ⟨rfl, j, e0, u10, u11, u12, u13, u14, u15, u16, u17, u18, u19, u20, u21, u22, u23, u24, u25, u26, u27, u28, u29, u30, u31, u32, u33, u34, u35, u36, u37, u38, u39, u40, u41, u42, u43, u44, u45, u46, u47, u48, u49, u50, u51, u52, u53, u54, u55, u56, rfl, hR, rfl, ⟨nd0, rfl⟩⟩
    refine ⟨_, rfl, ?_⟩
    have HR := Aside0.mk hR
    clear hR
    intro K hK
    have HK := Aside0.mk hK
    clear hK
    by_cases hj : j < s.size
    · go_wp2_with (first | (go_at_call 66; (with_reducible refine (break_any v s j _).mono ?_); rintro e w' ⟨rfl, rfl⟩) | (go_at_call 82; (with_reducible refine (remark_any s j _ hs').mono ?_); rintro e w' ⟨rfl, ⟨nd, rfl⟩⟩) | (go_at_call 81; (with_reducible refine (stop_succ v s j false _).mono ?_); rintro e w' ⟨rfl, ⟨nd, rfl⟩⟩) | (go_at_call 81; (with_reducible refine (stop_any v s j true _).mono ?_); rintro e w' ⟨rfl, ⟨nd, rfl⟩⟩) | (go_at_call 83; (with_reducible refine (blank_any s j _).mono ?_); rintro e w' ⟨rfl, ⟨nd, rfl⟩⟩))
      all_goals first
      | (rw [jumps_ret]
         go_ret
         go_light
         refine ⟨ret_int (congrArg Nat.cast ?_).symm, by repeat (first | exact Drawn0.refl _ | apply Drawn0.step)⟩
         first
         | exact way_brk hj HR.out ‹_›
         | exact way_rem hj HR.out ‹_› ‹_›
         | exact way_colon hj HR.out ‹_› ‹_› ‹_› ‹_›
         | exact way_sign hj HR.out ‹_› ‹_› (fun _ => ‹_›) ‹_› rfl ‹_›
         | exact way_sign hj HR.out ‹_› ‹_› (fun h => absurd h ‹_›) ‹_› rfl ‹_›)
      | (go_step3
         first | refine jumpsG ?_ | refine thenG ?_
         go_light
         first
         | exact HK.out _ _ _ _ (by omega) (EndsJ.mk (way_blank hj HR.out ‹_› ‹_› (fun _ => ‹_›) ‹_›) (by repeat (first | exact Drawn0.refl _ | apply Drawn0.step)) ..)
         | exact HK.out _ _ _ _ (by omega) (EndsJ.mk (way_blank hj HR.out ‹_› ‹_› (fun h => absurd h ‹_›) ‹_›) (by repeat (first | exact Drawn0.refl _ | apply Drawn0.step)) ..)
         | exact HK.out _ _ _ _ (by omega) (EndsJ.mk (way_on hj HR.out ‹_› ‹_› (fun _ => ‹_›) ‹_› (fun h => by cases h)) (by repeat (first | exact Drawn0.refl _ | apply Drawn0.step)) ..)
         | exact HK.out _ _ _ _ (by omega) (EndsJ.mk (way_on hj HR.out ‹_› ‹_› (fun h => absurd h ‹_›) ‹_› (fun h => by cases h)) (by repeat (first | exact Drawn0.refl _ | apply Drawn0.step)) ..))
    · have hE : R = e0 := by have := HR.out; rw [suf_nil s j (by omega)] at this; exact this.symm
      subst hE
      have hge : s.size ≤ j := by omega
      clear hj
      go_wp2
      rw [jumps_ret]
      go_ret
      exact ⟨rfl, by repeat (first | exact Drawn0.refl _ | apply Drawn0.step)⟩

end Go.Proofs.YtmfjdlmhejabiaaDoor.X
