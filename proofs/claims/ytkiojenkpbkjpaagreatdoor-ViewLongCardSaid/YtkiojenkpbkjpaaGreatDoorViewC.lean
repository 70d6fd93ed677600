/- Walk: view.sorted's comparator. -/
import Derived.Test.YtkiojenkpbkjpaaGreatDoorViewB
set_option linter.unusedVariables false
set_option linter.unusedSimpArgs false
namespace Go.Proofs.YtkiojenkpbkjpaaGreatDoor
open Go Go.RowKit RV
set_option maxHeartbeats 2000000
set_option maxRecDepth 100000 in
theorem cmpCh_any (a b : Ch) (ha : a.name.owner.size ≤ maxLen) (hb : b.name.owner.size ≤ maxLen) (w : World) :
    Calls Tryz.prog 154 #[chV a, chV b] w fun e w' => e = .returned (.int .i64 (nameCmp a.name b.name)) ∧ Grew w w' := by
  go_enter Tryz.func154, Tryz.ntmps154
  go_wp2_with fail
  refine (nameCmp_any a.name b.name ha hb _).mono ?_
  rintro e w' ⟨rfl, hg⟩
  go_wp2
  go_ret
  exact ⟨rfl, ((Grew.alloc _ _).trans (Grew.alloc _ _)).trans hg⟩
end Go.Proofs.YtkiojenkpbkjpaaGreatDoor
