/- PlainSigns, walked: in a flow, its signs. -/
import Derived.Test.YtmfjdlmhejabiaaDoorX7
namespace Go.Proofs.YtmfjdlmhejabiaaDoor.PL
open Go.RowKit Go.Proofs.Tg Go.Proofs.YtmfjdlmhejabiaaDoor.X Go.Proofs.YtmfjdlmhejabiaaDoor.M Go.Proofs.YtmfjdlmhejabiaaDoorW.PrintWords
set_option linter.unusedVariables false
set_option linter.unusedSimpArgs false

set_option maxHeartbeats 8000000 in
set_option maxRecDepth 100000 in
theorem signs_93 (a0 t x13 : ByteArray) (a1 v r5 : Int) (old : Bool) (k i : Nat) (w : World) (h0 : 0 ≤ a1) (h255 : a1 ≤ 255) (hi : a1 % 16 = (i : Int)) (h40 : a0.size ≤ 40) (hv : targumhelp_Version.f old = some v) (ht : targumlaw20_letters.f k a0 = some t) (hts : t.size ≤ 41)
    (h10 : (⟨#[44, 91, 93, 123, 125, 35, 38, 42, 33, 124, 62, 39, 34, 37, 64, 96]⟩ : ByteArray).extract i (i + 1) = (⟨#[93]⟩ : ByteArray)) (h13 : pickS ([⟨#[45]⟩, ⟨#[63]⟩, ⟨#[58]⟩] : List ByteArray) (a1 % 3).toNat = x13) (s10 : ((⟨#[93]⟩ : ByteArray) : ByteArray).size = 1) (s13 : x13.size = 1)  (hP1 : ∀ w, Calls Tryd.prog 23 #[.int .i64 v, .string ((⟨#[93]⟩ : ByteArray) ++ t), .int .i64 0, .bool true] w fun e w' => e = .returned (.int .i64 (-1)) ∧ Drawn0 w w') (hP2 : ∀ w, Calls Tryd.prog 23 #[.int .i64 v, .string (x13 ++ t), .int .i64 0, .bool true] w fun e w' => e = .returned (.int .i64 ((t.size : Int) + 1)) ∧ Drawn0 w w') (hP3 : ∀ w, Calls Tryd.prog 23 #[.int .i64 v, .string (x13 ++ (⟨#[32]⟩ : ByteArray) ++ t), .int .i64 0, .bool true] w fun e w' => e = .returned (.int .i64 (-1)) ∧ Drawn0 w w') (hP4 : ∀ w, Calls Tryd.prog 23 #[.int .i64 v, .string (x13), .int .i64 0, .bool true] w fun e w' => e = .returned (.int .i64 (-1)) ∧ Drawn0 w w') (hP5 : ∀ w, Calls Tryd.prog 23 #[.int .i64 v, .string (x13 ++ (⟨#[93]⟩ : ByteArray) ++ t), .int .i64 0, .bool true] w fun e w' => e = .returned (.int .i64 (-1)) ∧ Drawn0 w w') (hP6 : ∀ w, Calls Tryd.prog 23 #[.int .i64 v, .string (t ++ (⟨#[93]⟩ : ByteArray) ++ t), .int .i64 0, .bool true] w fun e w' => e = .returned (.int .i64 (t.size : Int)) ∧ Drawn0 w w') (hP7 : ∀ w, Calls Tryd.prog 23 #[.int .i64 v, .string (t ++ (⟨#[32]⟩ : ByteArray) ++ t ++ (⟨#[32, 35]⟩ : ByteArray) ++ t), .int .i64 0, .bool true] w fun e w' => e = .returned (.int .i64 (2 * (t.size : Int) + 1)) ∧ Drawn0 w w') (hP8 : ∀ w, Calls Tryd.prog 23 #[.int .i64 v, .string (t ++ (⟨#[58]⟩ : ByteArray) ++ t), .int .i64 0, .bool true] w fun e w' => e = .returned (.int .i64 (2 * (t.size : Int) + 1)) ∧ Drawn0 w w') (hP9 : ∀ w, Calls Tryd.prog 23 #[.int .i64 v, .string (t ++ (⟨#[32, 58, 32]⟩ : ByteArray) ++ t), .int .i64 0, .bool true] w fun e w' => e = .returned (.int .i64 (t.size : Int)) ∧ Drawn0 w w') (hP10 : ∀ w, Calls Tryd.prog 23 #[.int .i64 v, .string (t ++ (⟨#[58, 10]⟩ : ByteArray)), .int .i64 0, .bool true] w fun e w' => e = .returned (.int .i64 (t.size : Int)) ∧ Drawn0 w w') :
    Calls Tryd.prog 6 #[.string a0, .int .u8 a1, .bool true, .bool old] w fun e w' => e = .returned (.bool true) ∧ Below w.heap.size w w' := by
  have d0 : decide (0 ≤ a1 % 3) = true := decide_eq_true (by omega)
  have d1 : decide (a1 % 3 < 3) = true := decide_eq_true (by omega)
  have hi16 : i < 16 := by omega
  have hsl : ∀ w, Sem.run Tryd.prog (Instr.slice 9 (.string (⟨#[44, 91, 93, 123, 125, 35, 38, 42, 33, 124, 62, 39, 34, 37, 64, 96]⟩ : ByteArray)) (some (.int .i64 (i : Nat))) (some (.int .i64 ((i : Int) + 1))) none) w = .ok (.string (⟨#[93]⟩ : ByteArray)) w := fun w => by
    rw [← h10]
    exact slice_run (⟨#[44, 91, 93, 123, 125, 35, 38, 42, 33, 124, 62, 39, 34, 37, 64, 96]⟩ : ByteArray) i (i + 1) (by omega) (show i + 1 ≤ 16 by omega) w
  have g1 : (9223372036854775807 < 1 + t.size) = False := eq_false (by omega)
  have g2 : (9223372036854775807 < 2 + t.size) = False := eq_false (by omega)
  have g3 : (9223372036854775807 < t.size + 1) = False := eq_false (by omega)
  have g4 : (9223372036854775807 < t.size + 1 + t.size) = False := eq_false (by omega)
  have g5 : (9223372036854775807 < t.size + 1 + t.size + 2) = False := eq_false (by omega)
  have g6 : (9223372036854775807 < t.size + 1 + t.size + 2 + t.size) = False := eq_false (by omega)
  have g7 : (9223372036854775807 < t.size + 3) = False := eq_false (by omega)
  have g8 : (9223372036854775807 < t.size + 3 + t.size) = False := eq_false (by omega)
  have g9 : (9223372036854775807 < t.size + 2) = False := eq_false (by omega)
  have HKN := Aside0.mk known20
  have HV := Aside0.mk hv
  have HT := Aside0.mk ht
  have HP1 := Aside0.mk hP1
  have HP2 := Aside0.mk hP2
  have HP3 := Aside0.mk hP3
  have HP4 := Aside0.mk hP4
  have HP5 := Aside0.mk hP5
  have HP6 := Aside0.mk hP6
  have HP7 := Aside0.mk hP7
  have HP8 := Aside0.mk hP8
  have HP9 := Aside0.mk hP9
  have HP10 := Aside0.mk hP10
  clear hP1 hP2 hP3 hP4 hP5 hP6 hP7 hP8 hP9 hP10
  clear hv ht h10 hi16
  go_enter Tryd.func6, Tryd.ntmps6
  go_wp2_with (first | (go_at_call 15; (with_reducible refine (targumlaw20_known.calls true _ HKN.out).mono ?_); rintro e_ w1 ⟨rfl, hb1⟩; have HB1 := Aside0.mk hb1; clear hb1) | (go_at_call 17; (with_reducible refine (targumhelp_Version.calls old v _ HV.out).mono ?_); rintro e_ w2 ⟨rfl, ⟨nd, rfl⟩⟩) | (go_at_call 28; (with_reducible refine (targumlaw20_letters.calls k a0 t _ HT.out).mono ?_); rintro e_ w3 ⟨rfl, hb3⟩; have HB3 := Aside0.mk (below_then (pw_below_drewN HB1.out nd) HB1.out.size hb3); clear hb3) | ((with_reducible refine gate_dst (N := 35) rfl ?_); refine wpList_buildTo rfl 40 _ rfl _ rfl (cellsOf ([⟨#[45]⟩, ⟨#[63]⟩, ⟨#[58]⟩] : List ByteArray)) (by as_aux_lemma => kernel_rfl) ?_) | ((with_reducible refine gate_dst (N := 38) rfl ?_); refine Kd.event_run rfl (idx_runN (t := 40) (e := 9) (x := .tmp 35) (y := .tmp 37) (T := ([⟨#[45]⟩, ⟨#[63]⟩, ⟨#[58]⟩] : List ByteArray)) rfl (by as_aux_lemma => kernel_rfl) (by as_aux_lemma => kernel_rfl) rfl rfl 3 rfl ?h0_ ?h1_) ?_; (case h0_ => assumption); (case h1_ => assumption); rw [h13]) | (go_at_call 23; (with_reducible refine (HP1.out _).mono ?_); rintro e_ w2 ⟨rfl, ⟨nd1, rfl⟩⟩) | (go_at_call 23; (with_reducible refine (HP2.out _).mono ?_); rintro e_ w2 ⟨rfl, ⟨nd2, rfl⟩⟩) | (go_at_call 23; (with_reducible refine (HP3.out _).mono ?_); rintro e_ w2 ⟨rfl, ⟨nd3, rfl⟩⟩) | (go_at_call 23; (with_reducible refine (HP4.out _).mono ?_); rintro e_ w2 ⟨rfl, ⟨nd4, rfl⟩⟩) | (go_at_call 23; (with_reducible refine (HP5.out _).mono ?_); rintro e_ w2 ⟨rfl, ⟨nd5, rfl⟩⟩) | (go_at_call 23; (with_reducible refine (HP6.out _).mono ?_); rintro e_ w2 ⟨rfl, ⟨nd6, rfl⟩⟩) | (go_at_call 23; (with_reducible refine (HP7.out _).mono ?_); rintro e_ w2 ⟨rfl, ⟨nd7, rfl⟩⟩) | (go_at_call 23; (with_reducible refine (HP8.out _).mono ?_); rintro e_ w2 ⟨rfl, ⟨nd8, rfl⟩⟩) | (go_at_call 23; (with_reducible refine (HP9.out _).mono ?_); rintro e_ w2 ⟨rfl, ⟨nd9, rfl⟩⟩) | (go_at_call 23; (with_reducible refine (HP10.out _).mono ?_); rintro e_ w2 ⟨rfl, ⟨nd10, rfl⟩⟩))
  go_ret
  exact ⟨rfl, by repeat (first | exact HB3.out | apply pw_below_drewN)⟩

set_option maxHeartbeats 8000000 in
set_option maxRecDepth 100000 in
theorem signs_123 (a0 t x13 : ByteArray) (a1 v r5 : Int) (old : Bool) (k i : Nat) (w : World) (h0 : 0 ≤ a1) (h255 : a1 ≤ 255) (hi : a1 % 16 = (i : Int)) (h40 : a0.size ≤ 40) (hv : targumhelp_Version.f old = some v) (ht : targumlaw20_letters.f k a0 = some t) (hts : t.size ≤ 41)
    (h10 : (⟨#[44, 91, 93, 123, 125, 35, 38, 42, 33, 124, 62, 39, 34, 37, 64, 96]⟩ : ByteArray).extract i (i + 1) = (⟨#[123]⟩ : ByteArray)) (h13 : pickS ([⟨#[45]⟩, ⟨#[63]⟩, ⟨#[58]⟩] : List ByteArray) (a1 % 3).toNat = x13) (s10 : ((⟨#[123]⟩ : ByteArray) : ByteArray).size = 1) (s13 : x13.size = 1)  (hP1 : ∀ w, Calls Tryd.prog 23 #[.int .i64 v, .string ((⟨#[123]⟩ : ByteArray) ++ t), .int .i64 0, .bool true] w fun e w' => e = .returned (.int .i64 (-1)) ∧ Drawn0 w w') (hP2 : ∀ w, Calls Tryd.prog 23 #[.int .i64 v, .string (x13 ++ t), .int .i64 0, .bool true] w fun e w' => e = .returned (.int .i64 ((t.size : Int) + 1)) ∧ Drawn0 w w') (hP3 : ∀ w, Calls Tryd.prog 23 #[.int .i64 v, .string (x13 ++ (⟨#[32]⟩ : ByteArray) ++ t), .int .i64 0, .bool true] w fun e w' => e = .returned (.int .i64 (-1)) ∧ Drawn0 w w') (hP4 : ∀ w, Calls Tryd.prog 23 #[.int .i64 v, .string (x13), .int .i64 0, .bool true] w fun e w' => e = .returned (.int .i64 (-1)) ∧ Drawn0 w w') (hP5 : ∀ w, Calls Tryd.prog 23 #[.int .i64 v, .string (x13 ++ (⟨#[93]⟩ : ByteArray) ++ t), .int .i64 0, .bool true] w fun e w' => e = .returned (.int .i64 (-1)) ∧ Drawn0 w w') (hP6 : ∀ w, Calls Tryd.prog 23 #[.int .i64 v, .string (t ++ (⟨#[123]⟩ : ByteArray) ++ t), .int .i64 0, .bool true] w fun e w' => e = .returned (.int .i64 (t.size : Int)) ∧ Drawn0 w w') (hP7 : ∀ w, Calls Tryd.prog 23 #[.int .i64 v, .string (t ++ (⟨#[32]⟩ : ByteArray) ++ t ++ (⟨#[32, 35]⟩ : ByteArray) ++ t), .int .i64 0, .bool true] w fun e w' => e = .returned (.int .i64 (2 * (t.size : Int) + 1)) ∧ Drawn0 w w') (hP8 : ∀ w, Calls Tryd.prog 23 #[.int .i64 v, .string (t ++ (⟨#[58]⟩ : ByteArray) ++ t), .int .i64 0, .bool true] w fun e w' => e = .returned (.int .i64 (2 * (t.size : Int) + 1)) ∧ Drawn0 w w') (hP9 : ∀ w, Calls Tryd.prog 23 #[.int .i64 v, .string (t ++ (⟨#[32, 58, 32]⟩ : ByteArray) ++ t), .int .i64 0, .bool true] w fun e w' => e = .returned (.int .i64 (t.size : Int)) ∧ Drawn0 w w') (hP10 : ∀ w, Calls Tryd.prog 23 #[.int .i64 v, .string (t ++ (⟨#[58, 10]⟩ : ByteArray)), .int .i64 0, .bool true] w fun e w' => e = .returned (.int .i64 (t.size : Int)) ∧ Drawn0 w w') :
    Calls Tryd.prog 6 #[.string a0, .int .u8 a1, .bool true, .bool old] w fun e w' => e = .returned (.bool true) ∧ Below w.heap.size w w' := by
  have d0 : decide (0 ≤ a1 % 3) = true := decide_eq_true (by omega)
  have d1 : decide (a1 % 3 < 3) = true := decide_eq_true (by omega)
  have hi16 : i < 16 := by omega
  have hsl : ∀ w, Sem.run Tryd.prog (Instr.slice 9 (.string (⟨#[44, 91, 93, 123, 125, 35, 38, 42, 33, 124, 62, 39, 34, 37, 64, 96]⟩ : ByteArray)) (some (.int .i64 (i : Nat))) (some (.int .i64 ((i : Int) + 1))) none) w = .ok (.string (⟨#[123]⟩ : ByteArray)) w := fun w => by
    rw [← h10]
    exact slice_run (⟨#[44, 91, 93, 123, 125, 35, 38, 42, 33, 124, 62, 39, 34, 37, 64, 96]⟩ : ByteArray) i (i + 1) (by omega) (show i + 1 ≤ 16 by omega) w
  have g1 : (9223372036854775807 < 1 + t.size) = False := eq_false (by omega)
  have g2 : (9223372036854775807 < 2 + t.size) = False := eq_false (by omega)
  have g3 : (9223372036854775807 < t.size + 1) = False := eq_false (by omega)
  have g4 : (9223372036854775807 < t.size + 1 + t.size) = False := eq_false (by omega)
  have g5 : (9223372036854775807 < t.size + 1 + t.size + 2) = False := eq_false (by omega)
  have g6 : (9223372036854775807 < t.size + 1 + t.size + 2 + t.size) = False := eq_false (by omega)
  have g7 : (9223372036854775807 < t.size + 3) = False := eq_false (by omega)
  have g8 : (9223372036854775807 < t.size + 3 + t.size) = False := eq_false (by omega)
  have g9 : (9223372036854775807 < t.size + 2) = False := eq_false (by omega)
  have HKN := Aside0.mk known20
  have HV := Aside0.mk hv
  have HT := Aside0.mk ht
  have HP1 := Aside0.mk hP1
  have HP2 := Aside0.mk hP2
  have HP3 := Aside0.mk hP3
  have HP4 := Aside0.mk hP4
  have HP5 := Aside0.mk hP5
  have HP6 := Aside0.mk hP6
  have HP7 := Aside0.mk hP7
  have HP8 := Aside0.mk hP8
  have HP9 := Aside0.mk hP9
  have HP10 := Aside0.mk hP10
  clear hP1 hP2 hP3 hP4 hP5 hP6 hP7 hP8 hP9 hP10
  clear hv ht h10 hi16
  go_enter Tryd.func6, Tryd.ntmps6
  go_wp2_with (first | (go_at_call 15; (with_reducible refine (targumlaw20_known.calls true _ HKN.out).mono ?_); rintro e_ w1 ⟨rfl, hb1⟩; have HB1 := Aside0.mk hb1; clear hb1) | (go_at_call 17; (with_reducible refine (targumhelp_Version.calls old v _ HV.out).mono ?_); rintro e_ w2 ⟨rfl, ⟨nd, rfl⟩⟩) | (go_at_call 28; (with_reducible refine (targumlaw20_letters.calls k a0 t _ HT.out).mono ?_); rintro e_ w3 ⟨rfl, hb3⟩; have HB3 := Aside0.mk (below_then (pw_below_drewN HB1.out nd) HB1.out.size hb3); clear hb3) | ((with_reducible refine gate_dst (N := 35) rfl ?_); refine wpList_buildTo rfl 40 _ rfl _ rfl (cellsOf ([⟨#[45]⟩, ⟨#[63]⟩, ⟨#[58]⟩] : List ByteArray)) (by as_aux_lemma => kernel_rfl) ?_) | ((with_reducible refine gate_dst (N := 38) rfl ?_); refine Kd.event_run rfl (idx_runN (t := 40) (e := 9) (x := .tmp 35) (y := .tmp 37) (T := ([⟨#[45]⟩, ⟨#[63]⟩, ⟨#[58]⟩] : List ByteArray)) rfl (by as_aux_lemma => kernel_rfl) (by as_aux_lemma => kernel_rfl) rfl rfl 3 rfl ?h0_ ?h1_) ?_; (case h0_ => assumption); (case h1_ => assumption); rw [h13]) | (go_at_call 23; (with_reducible refine (HP1.out _).mono ?_); rintro e_ w2 ⟨rfl, ⟨nd1, rfl⟩⟩) | (go_at_call 23; (with_reducible refine (HP2.out _).mono ?_); rintro e_ w2 ⟨rfl, ⟨nd2, rfl⟩⟩) | (go_at_call 23; (with_reducible refine (HP3.out _).mono ?_); rintro e_ w2 ⟨rfl, ⟨nd3, rfl⟩⟩) | (go_at_call 23; (with_reducible refine (HP4.out _).mono ?_); rintro e_ w2 ⟨rfl, ⟨nd4, rfl⟩⟩) | (go_at_call 23; (with_reducible refine (HP5.out _).mono ?_); rintro e_ w2 ⟨rfl, ⟨nd5, rfl⟩⟩) | (go_at_call 23; (with_reducible refine (HP6.out _).mono ?_); rintro e_ w2 ⟨rfl, ⟨nd6, rfl⟩⟩) | (go_at_call 23; (with_reducible refine (HP7.out _).mono ?_); rintro e_ w2 ⟨rfl, ⟨nd7, rfl⟩⟩) | (go_at_call 23; (with_reducible refine (HP8.out _).mono ?_); rintro e_ w2 ⟨rfl, ⟨nd8, rfl⟩⟩) | (go_at_call 23; (with_reducible refine (HP9.out _).mono ?_); rintro e_ w2 ⟨rfl, ⟨nd9, rfl⟩⟩) | (go_at_call 23; (with_reducible refine (HP10.out _).mono ?_); rintro e_ w2 ⟨rfl, ⟨nd10, rfl⟩⟩))
  go_ret
  exact ⟨rfl, by repeat (first | exact HB3.out | apply pw_below_drewN)⟩

end Go.Proofs.YtmfjdlmhejabiaaDoor.PL
