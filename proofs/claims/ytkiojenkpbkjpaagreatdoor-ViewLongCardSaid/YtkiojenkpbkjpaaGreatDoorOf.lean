/- Walks: object.OfClock, OfEpoch. -/
import Derived.Test.YtkiojenkpbkjpaaGreatDoorHeap
import Derived.Laws.Rows
set_option linter.unusedVariables false
set_option linter.unusedSimpArgs false
namespace Go.Proofs.YtkiojenkpbkjpaaGreatDoor
open Go Go.RowKit RV
def clockN : Nm := ⟨15, ⟨#[]⟩, 0, 0, ⟨#[]⟩⟩
def epochN : Nm := ⟨20, ⟨#[]⟩, 0, 0, ⟨#[]⟩⟩
theorem clock_any (w : World) : Calls Tryz.prog 22 #[] w fun e w' => e = .returned (nmV clockN) ∧ Grew w w' := by
  go_enter Tryz.func22, Tryz.ntmps22
  go_wp2
  refine ⟨rfl, _, results_cell_row (fn := Tryz.f22) (p := 0) (ty := 32) rfl _ _ w.heap.size 32 _ (0, 0) _ rfl (heap_alloc_new _ _) Tryz.underlying32 rfl (by kernel_rfl), rfl, Grew.alloc _ _⟩
theorem epoch_any (w : World) : Calls Tryz.prog 78 #[] w fun e w' => e = .returned (nmV epochN) ∧ Grew w w' := by
  go_enter Tryz.func78, Tryz.ntmps78
  go_wp2
  refine ⟨rfl, _, results_cell_row (fn := Tryz.f78) (p := 0) (ty := 32) rfl _ _ w.heap.size 32 _ (0, 0) _ rfl (heap_alloc_new _ _) Tryz.underlying32 rfl (by kernel_rfl), rfl, Grew.alloc _ _⟩
end Go.Proofs.YtkiojenkpbkjpaaGreatDoor
