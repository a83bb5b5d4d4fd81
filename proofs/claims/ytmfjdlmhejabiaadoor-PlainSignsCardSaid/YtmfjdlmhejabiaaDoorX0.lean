/- The library's string functions, as plain functions, with their contracts out of the shelf; conditions: those that stand in each plain function. -/
import Derived.Test.YtmfjdlmhejabiaaDoorShelf
import Derived.Test.YtmfjdlmhejabiaaDoorWWords
import Derived.Shelf.Strings.SlTrimAscii
import Derived.WalkSmall
namespace Go.Proofs.YtmfjdlmhejabiaaDoor.X
open Go.RowKit Go.Proofs.YtmfjdlmhejabiaaDoorW.PrintWords
set_option linter.unusedVariables false
set_option linter.unusedSimpArgs false

def strings_IndexByte.f (a0 : ByteArray) (a1 : Int) : Option Int := some (Lib.indexByte a0.data.toList a1.toNat.toUInt8)
theorem strings_IndexByte.calls (a0 : ByteArray) (a1 r : Int) (w : World) (h : strings_IndexByte.f a0 a1 = some r) :
    Calls Tryd.prog 88 #[.string a0, .int .u8 a1] w fun e w' => e = .returned (.int .i64 r) ∧ w = w' := by
  cases h
  exact (Tryd.strings_IndexByte a0 a1 w).mono fun e w' ⟨he, hw⟩ => ⟨he, hw.symm⟩

def ascii (s : ByteArray) : Bool := decide (s.size < 4294967281) && s.data.toList.all (fun b => decide (b.toNat < 128))
theorem ascii_size {s : ByteArray} (h : ascii s = true) : s.size < 4294967281 := by
  unfold ascii at h; simp only [Bool.and_eq_true, decide_eq_true_eq] at h; exact h.1
theorem ascii_all {s : ByteArray} (h : ascii s = true) : ∀ (j : Nat) b, s.data.toList[j]? = some b → b.toNat < 128 := by
  unfold ascii at h; simp only [Bool.and_eq_true] at h; exact ascii_of_all h.2

def strings_TrimLeft.f (a0 a1 : ByteArray) : Option ByteArray := if ascii a1 = true then some ⟨(Lib.trimLeftS a0.data.toList a1.data.toList).toArray⟩ else none
theorem strings_TrimLeft.calls (a0 a1 r : ByteArray) (w : World) (h : strings_TrimLeft.f a0 a1 = some r) :
    Calls Tryd.prog 110 #[.string a0, .string a1] w fun e w' => e = .returned (.string r) ∧ Below w.heap.size w w' := by
  unfold strings_TrimLeft.f at h
  split at h
  · rename_i ha
    cases h
    exact Any.strings_TrimLeft_laid Tryd.lays161 (by kernel_rfl) a0 a1 w (ascii_size ha) (ascii_all ha)
  · cases h

def strings_TrimRight.f (a0 a1 : ByteArray) : Option ByteArray := if ascii a1 = true then (if a0.size ≤ 9223372036854775807 then some ⟨(Lib.trimRightS a0.data.toList a1.data.toList).toArray⟩ else none) else none
theorem strings_TrimRight.calls (a0 a1 r : ByteArray) (w : World) (h : strings_TrimRight.f a0 a1 = some r) :
    Calls Tryd.prog 92 #[.string a0, .string a1] w fun e w' => e = .returned (.string r) ∧ Below w.heap.size w w' := by
  unfold strings_TrimRight.f at h
  split at h
  · rename_i ha
    split at h
    · rename_i hs
      cases h
      exact Any.strings_TrimRight_laid Tryd.lays162 (by kernel_rfl) a0 a1 w hs (ascii_size ha) (ascii_all ha)
    · cases h
  · cases h

def strings_Trim.f (a0 a1 : ByteArray) : Option ByteArray := if ascii a1 = true then (if a0.size ≤ 9223372036854775807 then some ⟨(Lib.trimS a0.data.toList a1.data.toList).toArray⟩ else none) else none
theorem strings_Trim.calls (a0 a1 r : ByteArray) (w : World) (h : strings_Trim.f a0 a1 = some r) :
    Calls Tryd.prog 71 #[.string a0, .string a1] w fun e w' => e = .returned (.string r) ∧ Below w.heap.size w w' := by
  unfold strings_Trim.f at h
  split at h
  · rename_i ha
    split at h
    · rename_i hs
      cases h
      exact Any.strings_Trim_laid Tryd.lays160 (by kernel_rfl) a0 a1 w hs (ascii_size ha) (ascii_all ha)
    · cases h
  · cases h

def strings_Repeat.f (a0 : ByteArray) (a1 : Int) : Option ByteArray := if 0 ≤ a1 then (if a0.size * a1.toNat ≤ 140737488355328 then (if a1 ≤ 9223372036854775807 then some ⟨(Lib.repeatL a0.data.toList a1.toNat).toArray⟩ else none) else none) else none
theorem strings_Repeat.calls (a0 : ByteArray) (a1 : Int) (r : ByteArray) (w : World) (h : strings_Repeat.f a0 a1 = some r) :
    Calls Tryd.prog 84 #[.string a0, .int .i64 a1] w fun e w' => e = .returned (.string r) ∧ Below w.heap.size w w' := by
  unfold strings_Repeat.f at h
  split at h
  · rename_i h0
    split at h
    · rename_i hs
      split at h
      · rename_i hc
        cases h
        obtain ⟨c, rfl⟩ : ∃ c : Nat, a1 = (c : Int) := ⟨a1.toNat, by omega⟩
        exact Tryd.strings_Repeat a0 c w (by omega) hs
      · cases h
    · cases h
  · cases h

end Go.Proofs.YtmfjdlmhejabiaaDoor.X
