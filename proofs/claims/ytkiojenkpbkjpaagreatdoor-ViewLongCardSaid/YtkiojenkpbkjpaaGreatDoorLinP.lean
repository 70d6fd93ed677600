/- The parts of the text of a process, as the iterator yields them. Plain Lean. -/
import Derived.Test.YtkiojenkpbkjpaaGreatDoorWord
set_option linter.unusedVariables false
set_option linter.unusedSimpArgs false
namespace RV
open Go

structure Part where
  ord : Int
  at_ : Int
  e : Int

abbrev digsOf (l : List UInt8) : List UInt8 := l.takeWhile isDig

def partsL : Nat → Nat → List UInt8 → List Part
  | 0, p, _ => [⟨0, p, 9⟩]
  | k + 1, p, l =>
    if l = [] then [⟨0, p, 4⟩]
    else if (l.takeWhile isDig) = [] then [⟨0, p, 6⟩]
    else if l.head? = some 48 then [⟨0, p, 3⟩]
    else if 6 < (l.takeWhile isDig).length then [⟨0, p, 2⟩]
    else ⟨numVal (l.takeWhile isDig), p, 0⟩ :: (match l.dropWhile isDig with
      | [] => []
      | c :: r => if c = 46 then partsL k (p + (l.takeWhile isDig).length + 1) r else [⟨0, p + (l.takeWhile isDig).length, 6⟩])

def partsOf (s : ByteArray) : List Part := if bl s = [] then [] else partsL 8 0 (bl s)

def okParts (l : List Part) : Bool := l.all fun p => p.e == 0

theorem okParts_cons (p : Part) (l : List Part) : okParts (p :: l) = (p.e == 0 && okParts l) := rfl

theorem ordsFrom_parts_eq (k : Nat) : ∀ (p : Nat) (l : List UInt8), ordsFrom k l = if okParts (partsL k p l) then some ((partsL k p l).map (·.ord)) else none := by
  induction k with
  | zero => intro p l; simp [ordsFrom, partsL, okParts]
  | succ k ih =>
    intro p l
    by_cases h1 : l = []
    · simp [ordsFrom, partsL, okParts, h1]
    by_cases h2 : l.takeWhile isDig = []
    · simp [ordsFrom, partsL, okParts, h1, h2]
    by_cases h3 : l.head? = some 48
    · simp [ordsFrom, partsL, okParts, h1, h2, h3]
    by_cases h4 : 6 < (l.takeWhile isDig).length
    · simp [ordsFrom, partsL, okParts, h1, h2, h3, h4]
    have hp : partsL (k + 1) p l = ⟨numVal (l.takeWhile isDig), p, 0⟩ :: (match l.dropWhile isDig with
      | [] => []
      | c :: r => if c = 46 then partsL k (p + (l.takeWhile isDig).length + 1) r else [⟨0, p + (l.takeWhile isDig).length, 6⟩]) := by
      simp only [partsL]
      rw [if_neg h1, if_neg h2, if_neg h3, if_neg h4]
    have ho : ordsFrom (k + 1) l = match l.dropWhile isDig with
      | [] => some [(numVal (l.takeWhile isDig) : Int)]
      | c :: r => if c = 46 then (ordsFrom k r).map ((numVal (l.takeWhile isDig) : Int) :: ·) else none := by
      simp only [ordsFrom]
      rw [if_neg h1, if_neg h2, if_neg h3, if_neg h4]
      rfl
    rw [hp, ho]
    clear hp ho
    cases hd : l.dropWhile isDig with
    | nil => simp [okParts]
    | cons c r =>
      simp only
      by_cases hc : c = 46
      · rw [if_pos hc, if_pos hc, ih (p + (l.takeWhile isDig).length + 1) r]
        rw [okParts_cons]
        cases ho : okParts (partsL k (p + (l.takeWhile isDig).length + 1) r) <;> simp
      · rw [if_neg hc, if_neg hc]; simp [okParts]

theorem ords_parts (s : ByteArray) : ords (bl s) = if okParts (partsOf s) then some ((partsOf s).map (·.ord)) else none := by
  unfold ords partsOf
  split
  · simp [okParts]
  · exact ordsFrom_parts_eq 8 0 (bl s)

theorem partsL_length (k : Nat) : ∀ (p : Nat) (l : List UInt8), (partsL k p l).length ≤ k + 1 := by
  induction k with
  | zero => intro p l; simp [partsL]
  | succ k ih =>
    intro p l
    simp only [partsL]
    repeat' split
    all_goals simp
    exact ih _ _

theorem partsOf_length (s : ByteArray) : (partsOf s).length ≤ 9 := by
  unfold partsOf
  split
  · simp
  · exact partsL_length 8 0 _

/-- Digits at a place of a text. -/
def dg (s : ByteArray) (p : Nat) : Nat := (digsOf ((bl s).drop p)).length

theorem takeWhile_get {l : List UInt8} {d : Nat} (h : d < (l.takeWhile isDig).length) : ∃ hd : d < l.length, isDig l[d] = true := by
  induction l generalizing d with
  | nil => simp at h
  | cons a l ih =>
    simp only [List.takeWhile_cons] at h
    split at h
    · rename_i ha
      cases d with
      | zero => exact ⟨by simp, by simpa using ha⟩
      | succ d =>
        obtain ⟨hd, hi⟩ := ih (by simpa using h)
        exact ⟨by simpa using hd, by simpa using hi⟩
    · simp at h

theorem takeWhile_stop {l : List UInt8} (hd : (l.takeWhile isDig).length < l.length) : isDig l[(l.takeWhile isDig).length] = false := by
  induction l with
  | nil => simp at hd
  | cons a l ih =>
    by_cases ha : isDig a = true
    · simp only [List.takeWhile_cons, ha, if_true, List.length_cons] at hd ⊢
      simpa using ih (by omega)
    · simp only [List.takeWhile_cons, ha] at hd ⊢
      simpa using ha

theorem dg_le (s : ByteArray) (p : Nat) (h : p ≤ s.size) : p + dg s p ≤ s.size := by
  have h1 : (digsOf ((bl s).drop p)).length ≤ ((bl s).drop p).length := (List.takeWhile_sublist _).length_le
  have h2 : (bl s).length = s.size := by simp [bl]
  simp only [List.length_drop] at h1
  unfold dg; omega

theorem bl_length (s : ByteArray) : (bl s).length = s.size := by simp [bl]

theorem bl_get (s : ByteArray) (i : Nat) (h : i < s.size) : (bl s)[i]'(by rw [bl_length]; exact h) = s[i] := rfl

theorem dg_lt {s : ByteArray} {p d : Nat} (h : d < dg s p) : ∃ hd : p + d < s.size, 48 ≤ (s[p + d].toNat : Int) ∧ (s[p + d].toNat : Int) ≤ 57 := by
  obtain ⟨h1, h2⟩ := takeWhile_get (l := (bl s).drop p) h
  have hlt : p + d < s.size := by simp only [List.length_drop, bl_length] at h1; omega
  refine ⟨hlt, ?_⟩
  simp only [List.getElem_drop] at h2
  rw [bl_get s _ hlt] at h2
  simp [isDig] at h2; omega

theorem dg_end {s : ByteArray} {p : Nat} (hd : p + dg s p < s.size) : (s[p + dg s p].toNat : Int) < 48 ∨ 57 < (s[p + dg s p].toNat : Int) := by
  have h2 := takeWhile_stop (l := (bl s).drop p) (by have : (digsOf ((bl s).drop p)).length = dg s p := rfl; unfold digsOf at this; rw [this]; simp only [List.length_drop, bl_length]; omega)
  have e : (List.takeWhile isDig (List.drop p (bl s))).length = dg s p := rfl
  simp only [List.getElem_drop, e] at h2
  rw [bl_get s _ hd] at h2
  simp [isDig] at h2; omega
end RV
