/- Walks: object.Word; facts for Name.Check. -/
import Derived.Test.YtkiojenkpbkjpaaGreatDoorUses
import Derived.Test.YtkiojenkpbkjpaaGreatDoorShelf
set_option linter.unusedVariables false
set_option linter.unusedSimpArgs false
namespace Go.Proofs.YtkiojenkpbkjpaaGreatDoor
open Go Go.RowKit Go.Shelf RV
set_option maxHeartbeats 2000000

theorem number_any (n : Int) (w : World) : Calls Tryz.prog 137 #[.int .i64 n] w fun e w' => e = .returned (.bool (decide (0 ≤ n) && decide (n ≤ 1073741824))) ∧ w = w' := by
  by_cases h1 : 0 ≤ n
  · by_cases h2 : n ≤ 1073741824
    · go_enter Tryz.func137, Tryz.ntmps137
      go_wp2
      go_ret
      exact ⟨by simp [h1, h2], rfl⟩
    · go_enter Tryz.func137, Tryz.ntmps137
      go_wp2
      go_ret
      exact ⟨by rw [decide_eq_false (show ¬ n ≤ 1073741824 by omega)]; rfl, rfl⟩
  · go_enter Tryz.func137, Tryz.ntmps137
    go_wp2
    go_ret
    exact ⟨by first | (rw [decide_eq_false (show ¬ 0 ≤ n by omega), Bool.false_and]; rfl) | (rw [decide_eq_false (show ¬ 0 ≤ n by omega)]; rfl), rfl⟩

theorem odd_any (r : Nat) (w : World) : Calls Tryz.prog 205 #[.int .i32 (r : Int)] w fun e w' => e = .returned (.bool (oddR r)) ∧ w = w' := by
  by_cases h1 : r ≤ 32
  · have ho : oddR r = true := by simp [oddR, h1]
    replace ho := Lib.hid ho
    go_enter Tryz.func205, Tryz.ntmps205
    go_wp2
    go_ret
    exact ⟨by rw [ho.out]; rfl, rfl⟩
  · by_cases h2 : 126 < r
    · have ho : oddR r = true := by simp [oddR, h2]
      replace ho := Lib.hid ho
      go_enter Tryz.func205, Tryz.ntmps205
      go_wp2
      go_ret
      exact ⟨by rw [ho.out]; rfl, rfl⟩
    · by_cases h3 : r = 47
      · subst h3
        go_enter Tryz.func205, Tryz.ntmps205
        go_wp2
        go_ret
        exact ⟨rfl, rfl⟩
      · have ho : oddR r = false := by
          unfold oddR
          rw [decide_eq_false h1, decide_eq_false h2, decide_eq_false h3]; rfl
        replace ho := Lib.hid ho
        have h4 : ((r : Int) == 47) = false := by rw [beq_eq_false_iff_ne]; omega
        have h5 : decide ((r : Int) ≤ 32) = false := decide_eq_false (by omega)
        have h6 : decide (126 < (r : Int)) = false := decide_eq_false (by omega)
        replace h5 := Lib.hid h5
        replace h6 := Lib.hid h6
        go_enter Tryz.func205, Tryz.ntmps205
        go_wp2
        go_ret
        refine ⟨?_, rfl⟩
        show Ending.returned (Value.bool (decide ((r : Int) ≤ 32) || decide (126 < (r : Int)))) = _
        rw [ho.out, h5.out, h6.out]
        rfl
theorem toList_isEmpty (s : ByteArray) : s.toList.isEmpty = decide (s.size = 0) := by
  rw [ByteArray.toList_eq]
  cases s with
  | mk d => cases d with
    | mk l => cases l <;> simp [ByteArray.size]

theorem word_any (s : ByteArray) (hs : s.size ≤ maxLen) (w : World) : Calls Tryz.prog 151 #[.string s] w fun e w' => e = .returned (.bool (wordB s)) ∧ Grew w w' := by
  unfold maxLen at hs
  have hP : PredAt Tryz.prog 205 #[] encR oddR w := fun W x _ => (odd_any x W).mono (by rintro e w' ⟨rfl, rfl⟩; exact ⟨rfl, 0, rfl⟩)
  have hC := Tryz.strings_ContainsFunc 205 #[] (enters_of Tryz.func205 (by kernel_rfl) rfl) oddR s
  by_cases h1 : 1 ≤ s.size
  · have he : s.toList.isEmpty = false := by rw [toList_isEmpty]; exact decide_eq_false (by omega)
    by_cases h2 : s.size ≤ 32
    · have hw : wordB s = !(decide (0 ≤ Lib.idxFunc oddR true s)) := by
        rw [contains_odd]; unfold wordB; simp [h1, h2]
      go_enter Tryz.func151, Tryz.ntmps151
      go_wp2_with fail
      refine (hC _ hP).mono ?_
      rintro e w' ⟨rfl, hg⟩
      go_wp2
      go_ret
      exact ⟨by rw [hw]; rfl, hg⟩
    · have hw : wordB s = false := by unfold wordB; simp [h2]
      replace hw := Lib.hid hw
      go_enter Tryz.func151, Tryz.ntmps151
      go_wp2
      go_ret
      exact ⟨by rw [hw.out]; rfl, Grew.refl _⟩
  · have he : s.toList.isEmpty = true := by rw [toList_isEmpty]; exact decide_eq_true (by omega)
    have hw : wordB s = false := by unfold wordB; simp [h1]
    replace hw := Lib.hid hw
    go_enter Tryz.func151, Tryz.ntmps151
    go_wp2
    go_ret
    exact ⟨by rw [hw.out]; rfl, Grew.refl _⟩
set_option maxRecDepth 100000 in
theorem check_kind (k : Int) (h : k < 1 ∨ 20 < k) (n : Nm) (hk : n.kind = k) (w : World) : Calls Tryz.prog 80 #[nmV n] w fun e w' => e = .returned (.int .i64 11) ∧ Grew w w' := by
  subst hk
  rcases h with h | h
  · go_enter Tryz.func80, Tryz.ntmps80
    go_wp2
    go_ret
    exact ⟨rfl, Grew.alloc _ _⟩
  · go_enter Tryz.func80, Tryz.ntmps80
    go_wp2
    go_ret
    exact ⟨rfl, Grew.alloc _ _⟩

theorem kind_cases {k : Int} (h1 : 1 ≤ k) (h2 : k ≤ 20) : k = 1 ∨ k = 2 ∨ k = 3 ∨ k = 4 ∨ k = 5 ∨ k = 6 ∨ k = 7 ∨ k = 8 ∨ k = 9 ∨ k = 10 ∨ k = 11 ∨ k = 12 ∨ k = 13 ∨ k = 14 ∨ k = 15 ∨ k = 16 ∨ k = 17 ∨ k = 18 ∨ k = 19 ∨ k = 20 := by omega

theorem toList_nil (s : ByteArray) : s.toList = [] ↔ s = ByteArray.empty := by
  rw [ByteArray.toList_eq]
  constructor
  · intro h
    cases s with
    | mk d => cases d with
      | mk l => simp at h; subst h; rfl
  · rintro rfl; rfl
theorem checkN_one {n : Nm} (h1 : 1 ≤ n.kind) (h2 : n.kind ≤ 20) (hA : ((kOwner n.kind = false ∧ n.owner.toList ≠ []) ∨ (kNumber n.kind = false ∧ n.number ≠ 0) ∨ (kMost n.kind < 0 ∧ n.index ≠ 0) ∨ (kText n.kind = false ∧ n.text.toList ≠ []))) : checkN n = 1 := by
  unfold checkN
  simp only [ne_eq, toList_nil] at hA
  rw [if_neg (by omega), if_pos hA]
theorem checkN_more {n : Nm} (h1 : 1 ≤ n.kind) (h2 : n.kind ≤ 20) (hA : ¬ ((kOwner n.kind = false ∧ n.owner.toList ≠ []) ∨ (kNumber n.kind = false ∧ n.number ≠ 0) ∨ (kMost n.kind < 0 ∧ n.index ≠ 0) ∨ (kText n.kind = false ∧ n.text.toList ≠ []))) : checkN n =
    if kOwner n.kind = true ∧ validB n.owner = false then 12
    else if n.number < 0 ∨ 1073741824 < n.number ∨ n.index < 0 ∨ max (kMost n.kind) 0 < n.index then 2
    else if kText n.kind = true ∧ wordB n.text = false then 12 else 0 := by
  conv => lhs; unfold checkN
  simp only [ne_eq, toList_nil] at hA
  rw [if_neg (by omega), if_neg hA]
def wdOf (k : Int) : ByteArray := match usesA[5 * k.toNat]? with | some (.string s) => s | _ => ByteArray.empty
set_option maxRecDepth 100000 in
theorem index_uses {k : Int} (h1 : 1 ≤ k) (h2 : k ≤ 20) : ∀ W, (Instr.index 254 (.agg usesA) (.int .i64 k)).run Tryz.prog W = .ok (.agg #[.string (wdOf k), .bool (kOwner k), .bool (kNumber k), .bool (kText k), .int .i64 (kMost k)]) W := by
  intro W
  rcases kind_cases h1 h2 with rfl | rfl | rfl | rfl | rfl | rfl | rfl | rfl | rfl | rfl | rfl | rfl | rfl | rfl | rfl | rfl | rfl | rfl | rfl | rfl <;> kernel_rfl
end Go.Proofs.YtkiojenkpbkjpaaGreatDoor
