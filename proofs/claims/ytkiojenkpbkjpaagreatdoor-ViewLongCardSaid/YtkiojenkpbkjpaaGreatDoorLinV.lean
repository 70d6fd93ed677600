/- What the iterator over the parts of a text yields next. Plain facts. -/
import Derived.Test.YtkiojenkpbkjpaaGreatDoorLinP
import Derived.Test.YtkiojenkpbkjpaaGreatDoorGrow
set_option linter.unusedVariables false
set_option linter.unusedSimpArgs false
namespace Go.Proofs.YtkiojenkpbkjpaaGreatDoor
open Go Go.RowKit RV

def encP (p : Part) : Array Value := #[.agg #[.int .i64 p.ord, .int .i64 p.at_, .int .i64 p.e]]

/-- What a round keeps: every block that holds a part or a boxed string. -/
def KpL (A B : World) : Prop := ∀ (k : Nat) (c : Array Value) (t : TypeId) (f : Nat × Nat), (t = 357 ∨ t = 9) → A.heap[k]? = some (.cells c t f) → B.heap[k]? = some (.cells c t f)
theorem KpL.trans {A B C : World} (h : KpL A B) (k : KpL B C) : KpL A C := fun i c t f ht hi => k i c t f ht (h i c t f ht hi)
theorem KpL.of_below {A B : World} (h : Below A.heap.size A B) : KpL A B := fun i _ _ _ _ hi => (h.block i (Array.getElem?_eq_some_iff.1 hi).1).trans hi

theorem partsL_k8 (p : Nat) (l : List UInt8) : partsL (8 - 8) p l = [⟨0, p, 9⟩] := rfl
theorem drop_nil_iff (s : ByteArray) (p : Nat) (hp : p ≤ s.size) : (bl s).drop p = [] ↔ p = s.size := by rw [List.drop_eq_nil_iff, bl_length]; omega
theorem dg_nil {s : ByteArray} {p : Nat} (h : dg s p = 0) : ((bl s).drop p).takeWhile isDig = [] := List.eq_nil_of_length_eq_zero h
theorem dg_ne {s : ByteArray} {p : Nat} (h : dg s p ≠ 0) : ((bl s).drop p).takeWhile isDig ≠ [] := fun e => h (by unfold dg digsOf; rw [e]; rfl)
theorem head_drop {s : ByteArray} {p : Nat} (hp : p < s.size) : ((bl s).drop p).head? = some s[p] := by
  rw [List.head?_drop]
  simp [bl, hp]
  rfl
theorem byte_eq {a : UInt8} {n : Nat} (hn : n < 256) (h : (a.toNat : Int) = n) : a = UInt8.ofNat n := UInt8.toNat_inj.1 (by rw [UInt8.toNat_ofNat']; omega)
theorem part_E4 {s : ByteArray} {p k : Nat} (hk : k < 8) (hp : p = s.size) : partsL (8 - k) p ((bl s).drop p) = [⟨0, p, 4⟩] := by
  obtain ⟨j, hj⟩ : ∃ j, 8 - k = j + 1 := ⟨7 - k, by omega⟩
  rw [hj]; simp only [partsL]; rw [if_pos ((drop_nil_iff s p (by omega)).2 hp)]
theorem part_E6 {s : ByteArray} {p k : Nat} (hk : k < 8) (hp : p < s.size) (h : dg s p = 0) : partsL (8 - k) p ((bl s).drop p) = [⟨0, p, 6⟩] := by
  obtain ⟨j, hj⟩ : ∃ j, 8 - k = j + 1 := ⟨7 - k, by omega⟩
  rw [hj]; simp only [partsL]; rw [if_neg (fun e => by have := (drop_nil_iff s p (by omega)).1 e; omega), if_pos (dg_nil h)]
theorem part_E3 {s : ByteArray} {p k : Nat} (hk : k < 8) (hp : p < s.size) (h : dg s p ≠ 0) (h0 : (s[p].toNat : Int) = 48) : partsL (8 - k) p ((bl s).drop p) = [⟨0, p, 3⟩] := by
  obtain ⟨j, hj⟩ : ∃ j, 8 - k = j + 1 := ⟨7 - k, by omega⟩
  rw [hj]; simp only [partsL]; rw [if_neg (fun e => by have := (drop_nil_iff s p (by omega)).1 e; omega), if_neg (dg_ne h), if_pos (by rw [head_drop hp, byte_eq (n := 48) (by omega) h0]; rfl)]
theorem part_E2 {s : ByteArray} {p k : Nat} (hk : k < 8) (hp : p < s.size) (h : dg s p ≠ 0) (h0 : (s[p].toNat : Int) ≠ 48) (h6 : 6 < dg s p) : partsL (8 - k) p ((bl s).drop p) = [⟨0, p, 2⟩] := by
  obtain ⟨j, hj⟩ : ∃ j, 8 - k = j + 1 := ⟨7 - k, by omega⟩
  rw [hj]; simp only [partsL]; rw [if_neg (fun e => by have := (drop_nil_iff s p (by omega)).1 e; omega), if_neg (dg_ne h), if_neg (by rw [head_drop hp]; intro e; apply h0; simp at e; rw [e]; rfl), if_pos (show 6 < (((bl s).drop p).takeWhile isDig).length from h6)]
theorem part_OK {s : ByteArray} {p k : Nat} (hk : k < 8) (hp : p < s.size) (h : dg s p ≠ 0) (h0 : (s[p].toNat : Int) ≠ 48) (h6 : ¬ 6 < dg s p) : partsL (8 - k) p ((bl s).drop p) =
    ⟨numVal (((bl s).drop p).takeWhile isDig), p, 0⟩ :: (match ((bl s).drop p).dropWhile isDig with
      | [] => []
      | c :: r => if c = 46 then partsL (8 - (k + 1)) (p + dg s p + 1) r else [⟨0, p + dg s p, 6⟩]) := by
  obtain ⟨j, hj⟩ : ∃ j, 8 - k = j + 1 := ⟨7 - k, by omega⟩
  have hj2 : 8 - (k + 1) = j := by omega
  rw [hj, hj2]; simp only [partsL]; rw [if_neg (fun e => by have := (drop_nil_iff s p (by omega)).1 e; omega), if_neg (dg_ne h), if_neg (by rw [head_drop hp]; intro e; apply h0; simp at e; rw [e]; rfl), if_neg (show ¬ 6 < (((bl s).drop p).takeWhile isDig).length from h6)]
  rfl
theorem dropWhile_drop (s : ByteArray) (p : Nat) : ((bl s).drop p).dropWhile isDig = (bl s).drop (p + dg s p) := by
  have h : ∀ l : List UInt8, l.dropWhile isDig = l.drop (l.takeWhile isDig).length := by
    intro l
    induction l with
    | nil => rfl
    | cons a l ih =>
      by_cases ha : isDig a = true
      · simp [List.dropWhile_cons, List.takeWhile_cons, ha, ih]
      · simp [List.dropWhile_cons, List.takeWhile_cons, ha]
  rw [h, List.drop_drop]; rfl
theorem drop_cons (s : ByteArray) (p : Nat) (hp : p < s.size) : (bl s).drop p = s[p] :: (bl s).drop (p + 1) := by
  rw [List.drop_eq_getElem_cons (by rw [bl_length]; exact hp)]; rfl

end Go.Proofs.YtkiojenkpbkjpaaGreatDoor
