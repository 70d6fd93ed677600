/- Closed facts that all cards of this seat lean on. -/
import Derived.Test.YtkiojenkpbkjpaaGreatDoorCards
import Derived.KernelRfl
set_option linter.unusedVariables false
set_option linter.unusedSimpArgs false
namespace Go.Proofs.YtkiojenkpbkjpaaGreatDoor
set_option maxRecDepth 100000
set_option maxHeartbeats 100000000
theorem tryz_main : Tryz.pinned.checked.prog.mainIs = some (true, "097ddc23ed3c0a1f79d545db1f5f0140b361eafbf70d0b2fe4a5f9d604414c98".toList) := by kernel_rfl
theorem tryz_looks : true = Tryz.prog.looks [] := by kernel_rfl
end Go.Proofs.YtkiojenkpbkjpaaGreatDoor
