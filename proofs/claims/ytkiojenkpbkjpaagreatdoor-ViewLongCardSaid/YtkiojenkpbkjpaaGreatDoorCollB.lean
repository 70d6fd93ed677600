/- Walk: slices.Collect of the values of a map. -/
import Derived.Test.YtkiojenkpbkjpaaGreatDoorColl
set_option linter.unusedVariables false
set_option linter.unusedSimpArgs false
namespace Go.Proofs.YtkiojenkpbkjpaaGreatDoor
open Go Go.RowKit RV
set_option maxHeartbeats 1000000
theorem values_any (r : Nat) (w : World) : Calls Tryz.prog 153 #[.map (some r)] w fun e w' => e = .returned (.func (.func 209) #[] #[.pointer (some ⟨w.heap.size, 0, none⟩)]) ∧ w' = w.alloc (.cells #[.map (some r)] 160) :=
  callsIn_wide.1 (values_in 1 r w)
theorem collect_any (B r : Nat) (m : List Ch) (hm : m.length ≤ 100000) (w : World) (hB : w.cell? ⟨B, 0, none⟩ = some (.map (some r))) (hM : IsM w r m) :
    Calls Tryz.prog 207 #[.func (.func 209) #[] #[.pointer (some ⟨B, 0, none⟩)]] w fun e W' => ∃ v ys, e = .returned v ∧ ys.Perm m ∧ IsLO w.heap.size W' v ys ∧ Grew w W' := by
  go_enter Tryz.func207, Tryz.ntmps207
  go_wp2_with fail
  refine (callsIn_wide.1 (appendSeq_in 5 (by omega) B r m hm _ hB hM)).mono ?_
  rintro e w' ⟨v, ys, rfl, hp, hl, hg⟩
  go_wp2
  go_ret
  exact ⟨_, ys, rfl, hp, hl, hg⟩
end Go.Proofs.YtkiojenkpbkjpaaGreatDoor
