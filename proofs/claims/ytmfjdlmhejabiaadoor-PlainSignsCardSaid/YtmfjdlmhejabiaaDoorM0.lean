/- Plain words on texts as lists of bytes: breaks, blanks, lines, plain parts. No program in it. -/
import Derived.Lib.Strings
import Derived.Lib.Bytealg
import Derived.Lib.SlTrimSet
import Derived.Lib.Repeat
namespace Go.Proofs.Tg
set_option linter.unusedVariables false
set_option linter.unusedSimpArgs false

/-- A text's bytes from byte n on. -/
def suf (s : ByteArray) (n : Nat) : List UInt8 := s.data.toList.drop n

theorem suf_length (s : ByteArray) (n : Nat) : (suf s n).length = s.size - n := by
  unfold suf; rw [List.length_drop]; rfl
theorem suf_take (s : ByteArray) (n : Nat) : List.take (s.size - n) (List.drop n s.data.toList) = suf s n := by
  unfold suf; exact List.take_of_length_le (by rw [List.length_drop]; exact Nat.le_refl _)
theorem suf_cons (s : ByteArray) (n : Nat) (h : n < s.size) : suf s n = s[n] :: suf s (n + 1) := by
  unfold suf
  rw [List.drop_eq_getElem_cons (by simpa using h)]
  rfl
theorem suf_nil (s : ByteArray) (n : Nat) (h : s.size ≤ n) : suf s n = [] := by
  unfold suf; exact List.drop_eq_nil_of_le (by simpa using h)
theorem suf_drop (s : ByteArray) (n m : Nat) : (suf s n).drop m = suf s (n + m) := by
  unfold suf; rw [List.drop_drop]

/-- How many bytes the break has that a text begins with; old: of the old version. -/
def brk (old : Bool) (l : List UInt8) : Nat :=
  if old = true ∧ (([226, 128, 168] : List UInt8).isPrefixOf l = true ∨ ([226, 128, 169] : List UInt8).isPrefixOf l = true) then 3
  else if old = true ∧ ([194, 133] : List UInt8).isPrefixOf l = true ∨ ([13, 10] : List UInt8).isPrefixOf l = true then 2
  else if l.head? = some 13 ∨ l.head? = some 10 then 1 else 0

theorem brk_nil (old : Bool) : brk old [] = 0 := by simp [brk]

def isBl (c : UInt8) : Bool := c == 32 || c == 9
/-- Does a text begin with a blank? -/
def bl : List UInt8 → Bool
  | [] => false
  | c :: _ => isBl c
def flowSign (c : UInt8) : Bool := c == 44 || c == 91 || c == 93 || c == 123 || c == 125
/-- Does a text begin with a stop? -/
def stop (old flow : Bool) : List UInt8 → Bool
  | [] => true
  | c :: l => isBl c || decide (0 < brk old (c :: l)) || (flow && flowSign c)
/-- Is the byte ahead of byte n a blank? -/
def prevBl (s : ByteArray) (n : Nat) : Bool := decide (0 < n) && bl (suf s (n - 1))

theorem prevBl_succ (s : ByteArray) (n : Nat) (h : n < s.size) : prevBl s (n + 1) = isBl s[n] := by
  unfold prevBl; rw [show n + 1 - 1 = n from rfl, suf_cons s n h]; simp [bl]

/-- Where a plain text's part ends: cur: how far it was read; e: where its last sign ended; p: was a blank the last sign? -/
def ends (old flow : Bool) : Bool → Nat → Nat → List UInt8 → Nat
  | _, _, e, [] => e
  | p, cur, e, c :: l =>
    if 0 < brk old (c :: l) then e
    else if c = 35 ∧ p = true then e
    else if c = 58 ∧ stop old flow l = true then e
    else if isBl c = true then ends old flow true (cur + 1) e l
    else if flow = true ∧ flowSign c = true then e
    else ends old flow false (cur + 1) (cur + 1) l

theorem ends_le (old flow : Bool) : ∀ (l : List UInt8) (p : Bool) (cur e : Nat), e ≤ cur → e ≤ ends old flow p cur e l ∧ ends old flow p cur e l ≤ cur + l.length
  | [], p, cur, e, h => by simp [ends]; omega
  | c :: l, p, cur, e, h => by
    have h1 := ends_le old flow l true (cur + 1) e (by omega)
    have h2 := ends_le old flow l false (cur + 1) (cur + 1) (by omega)
    unfold ends
    simp only [List.length_cons]
    repeat' split
    all_goals omega

/-- How many bytes a text's first line has. -/
def lend (old : Bool) : List UInt8 → Nat
  | [] => 0
  | c :: l => if brk old (c :: l) = 0 then lend old l + 1 else 0
theorem lend_le (old : Bool) : ∀ l, lend old l ≤ l.length
  | [] => by simp [lend]
  | c :: l => by have := lend_le old l; unfold lend; split <;> simp <;> omega

/-- How many blanks a text begins with. -/
def nbl : List UInt8 → Nat
  | [] => 0
  | c :: l => if isBl c = true then nbl l + 1 else 0
theorem nbl_le : ∀ l, nbl l ≤ l.length
  | [] => by simp [nbl]
  | c :: l => by have := nbl_le l; unfold nbl; split <;> simp <;> omega
/-- How many spaces a text begins with. -/
def nsp : List UInt8 → Nat
  | [] => 0
  | c :: l => if c = 32 then nsp l + 1 else 0
theorem nsp_le : ∀ l, nsp l ≤ l.length
  | [] => by simp [nsp]
  | c :: l => by have := nsp_le l; unfold nsp; split <;> simp <;> omega
/-- A line's marker. -/
def marker (t : List UInt8) : Nat :=
  if 3 < t.length ∧ isBl (t.getD 3 0) = false then 0
  else if ([45, 45, 45] : List UInt8).isPrefixOf t = true then 1
  else if ([46, 46, 46] : List UInt8).isPrefixOf t = true then 2 else 0

theorem extract_suf (s : ByteArray) (a b : Nat) : (s.extract a b).data.toList = (suf s a).take (b - a) := by
  unfold suf
  rw [ByteArray.data_extract, Array.toList_extract, List.extract_eq_take_drop]

theorem dropWhile_nsp : ∀ l : List UInt8, (l.dropWhile (fun c => ([32] : List UInt8).contains c)).length = l.length - nsp l
  | [] => by simp [nsp]
  | c :: l => by
    have ih := dropWhile_nsp l
    have hle := nsp_le l
    unfold nsp
    by_cases h : c = 32
    · subst h; simp at ih ⊢; omega
    · simp [h]
end Go.Proofs.Tg
