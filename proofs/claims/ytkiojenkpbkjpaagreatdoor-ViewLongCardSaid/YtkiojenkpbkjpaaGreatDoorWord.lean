import Derived.Test.YtkiojenkpbkjpaaGreatDoorNames
import Derived.Shelf.GgClosure.StringsIndexFunc
set_option linter.unusedVariables false
set_option linter.unusedSimpArgs false
/-! Words and the check of names. Plain Lean, no program. -/
namespace RV
open Go

def oddR (r : Nat) : Bool := decide (r ≤ 32) || decide (126 < r) || decide (r = 47)

theorem decode_hi (s : ByteArray) (i : Nat) (h : 128 ≤ (s.get! i).toNat) : 128 ≤ (Utf8.decode s i).1 := by
  unfold Utf8.decode
  simp only [Nat.add_zero]
  rw [if_neg (by omega)]
  repeat' split
  all_goals (first | (simp only [Utf8.runeError]; omega) | (rename_i h1; simp only [ge_iff_le, Bool.and_eq_true, decide_eq_true_eq] at h1; simp only []; omega))

theorem decode_lo (s : ByteArray) (i : Nat) (h : (s.get! i).toNat < 128) : Utf8.decode s i = ((s.get! i).toNat, 1) := by
  unfold Utf8.decode
  simp only [Nat.add_zero]
  rw [if_pos (by omega)]

theorem idx_odd (s : ByteArray) (f : Nat) : ∀ pos, s.size - pos ≤ f → (0 ≤ Lib.idxFuncFrom oddR true s f pos ↔ ∃ i, pos ≤ i ∧ i < s.size ∧ oddR (s.get! i).toNat = true) := by
  induction f with
  | zero =>
    intro pos hf
    simp only [Lib.idxFuncFrom]
    constructor
    · intro h; omega
    · rintro ⟨i, h1, h2, _⟩; omega
  | succ f ih =>
    intro pos hf
    simp only [Lib.idxFuncFrom]
    by_cases hlt : pos < s.size
    · rw [if_pos hlt]
      by_cases hb : (s.get! pos).toNat < 128
      · rw [decode_lo s pos hb]
        by_cases ho : oddR (s.get! pos).toNat = true
        · rw [if_pos ho]
          exact ⟨fun _ => ⟨pos, Nat.le_refl _, hlt, ho⟩, fun _ => by omega⟩
        · rw [if_neg ho, ih (pos + 1) (by omega)]
          constructor
          · rintro ⟨i, h1, h2, h3⟩; exact ⟨i, by omega, h2, h3⟩
          · rintro ⟨i, h1, h2, h3⟩
            refine ⟨i, ?_, h2, h3⟩
            rcases Nat.lt_or_ge pos i with g | g
            · omega
            · have : i = pos := by omega
              subst this; exact absurd h3 ho
      · have hd := decode_hi s pos (by omega)
        have ho : oddR (Utf8.decode s pos).1 = true := by simp [oddR]; omega
        rw [if_pos ho]
        refine ⟨fun _ => ⟨pos, Nat.le_refl _, hlt, by simp [oddR]; omega⟩, fun _ => by omega⟩
    · rw [if_neg hlt]
      constructor
      · intro h; omega
      · rintro ⟨i, h1, h2, _⟩; omega

/-- A string that may be the text of a name. -/
def wordB (s : ByteArray) : Bool := decide (1 ≤ s.size) && decide (s.size ≤ 32) && (bl s).all fun c => !oddR c.toNat

theorem get!_eq (s : ByteArray) (i : Nat) (h : i < s.size) : s.get! i = (bl s)[i]'(by simpa [bl] using h) := by
  cases s with
  | mk d => simp [ByteArray.get!, bl, ByteArray.size] at h ⊢; rw [getElem!_pos d i h]

theorem contains_odd (s : ByteArray) : decide (0 ≤ Lib.idxFunc oddR true s) = !((bl s).all fun c => !oddR c.toNat) := by
  rw [Bool.eq_iff_iff, decide_eq_true_iff]
  unfold Lib.idxFunc
  rw [idx_odd s s.size 0 (by omega), Bool.not_eq_true', List.all_eq_false]
  constructor
  · rintro ⟨i, _, h2, h3⟩
    refine ⟨(bl s)[i]'(by simpa [bl] using h2), List.getElem_mem _, ?_⟩
    rw [← get!_eq s i h2, h3]; simp
  · rintro ⟨c, hc, h3⟩
    obtain ⟨i, hi, rfl⟩ := List.getElem_of_mem hc
    have h2 : i < s.size := by simpa [bl] using hi
    refine ⟨i, Nat.zero_le _, h2, ?_⟩
    rw [get!_eq s i h2]; simpa using h3

/-! ### The kinds -/
def kOwner (k : Int) : Bool := (decide (1 ≤ k) && decide (k ≤ 12)) || decide (k = 18) || decide (k = 19)
def kNumber (k : Int) : Bool := (decide (7 ≤ k) && decide (k ≤ 13)) || decide (k = 16) || decide (k = 18)
def kText (k : Int) : Bool := decide (k = 9) || decide (k = 14) || decide (k = 17)
def kMost (k : Int) : Int := if k = 3 ∨ k = 8 then 63 else if k = 18 then 1073741824 else -1

def validB (s : ByteArray) : Bool := (ords (bl s)).isSome

/-- The first error of a name. -/
def checkN (n : Nm) : Int :=
  if n.kind < 1 ∨ 20 < n.kind then 11
  else if (kOwner n.kind = false ∧ n.owner ≠ ByteArray.empty) ∨ (kNumber n.kind = false ∧ n.number ≠ 0) ∨ (kMost n.kind < 0 ∧ n.index ≠ 0) ∨ (kText n.kind = false ∧ n.text ≠ ByteArray.empty) then 1
  else if kOwner n.kind = true ∧ validB n.owner = false then 12
  else if n.number < 0 ∨ 1073741824 < n.number ∨ n.index < 0 ∨ max (kMost n.kind) 0 < n.index then 2
  else if kText n.kind = true ∧ wordB n.text = false then 12
  else 0
end RV
