/- Changes compared by Go's '=='. -/
import Derived.Test.YtkiojenkpbkjpaaGreatDoorMp
set_option linter.unusedVariables false
set_option linter.unusedSimpArgs false
namespace Go.Proofs.YtkiojenkpbkjpaaGreatDoor
open Go Go.RowKit RV
instance : DecidableEq Ch := fun a b => decidable_of_iff (a.name = b.name ∧ a.value = b.value ∧ a.absent = b.absent) (by cases a; cases b; simp)
theorem tl_iff (a b : ByteArray) : a.toList = b.toList ↔ a = b := by
  constructor
  · intro h
    rw [ByteArray.toList_eq, ByteArray.toList_eq] at h
    cases a with
    | mk x => cases b with
      | mk y => simp at h; simp [h]
  · rintro rfl; rfl
theorem stood66 : Tryz.prog.stoodInHeld 66 = false := by kernel_rfl
theorem eq4 (d : Nat) (a b : Bool) (w : World) : (Op.equalIn (d + 1) 4 (.bool a) (.bool b)).run Tryz.prog w = .ok (a == b) w := by
  simp [Op.equalIn, go_sem]
set_option maxHeartbeats 2000000 in
theorem eq_ch (d : Nat) (a b : Ch) (w : World) : (Op.equalIn (d + 3) 66 (chV a) (chV b)).run Tryz.prog w = .ok (decide (a = b)) w := by
  have hs := stood66
  have h32 := eq_in d a.name b.name w
  rw [Op.equalIn]
  simp [go_sem, hs, h32, eq9, eq4]
  simp only [ba_beq, tl_iff]
  rcases a with ⟨⟨⟩⟩; rcases b with ⟨⟨⟩⟩
  simp only [Ch.mk.injEq, Nm.mk.injEq]
  repeat' split
  all_goals simp_all
theorem run_eq66 (a b : Ch) (w : World) : (binOp .eql 66 (chV a) (chV b)).run Tryz.prog w = .ok (.bool (decide (a = b))) w := by
  have h : (Op.equal 66 (chV a) (chV b)).run Tryz.prog w = .ok (decide (a = b)) w := eq_ch 9997 a b w
  simp [binOp, h, Result.andThen, go_sem]
theorem run_ne66 (a b : Ch) (w : World) : (binOp .neq 66 (chV a) (chV b)).run Tryz.prog w = .ok (.bool (!decide (a = b))) w := by
  have h : (Op.equal 66 (chV a) (chV b)).run Tryz.prog w = .ok (decide (a = b)) w := eq_ch 9997 a b w
  simp [binOp, h, Result.andThen, go_sem]
end Go.Proofs.YtkiojenkpbkjpaaGreatDoor
