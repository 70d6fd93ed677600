/- Walks: the small functions of a tree. -/
import Derived.Test.YtkiojenkpbkjpaaGreatDoorHeap
set_option linter.unusedVariables false
set_option linter.unusedSimpArgs false
namespace Go.Proofs.YtkiojenkpbkjpaaGreatDoor
open Go Go.RowKit RV
set_option maxHeartbeats 400000

theorem tall_any {p : Option Addr} {t : T} (w : World) (h : IsT w p t) : Calls Tryz.prog 262 #[.pointer p] w fun e w' => e = .returned (.int .i64 (t.tall : Nat)) ∧ w = w' := by
  cases t with
  | nil =>
    obtain rfl : p = none := h
    go_enter Tryz.func262, Tryz.ntmps262
    go_wp2
    go_ret
    exact ⟨rfl, rfl⟩
  | node l n v r =>
    obtain ⟨b, pl, pr, rfl, -, -, -, -, -, -, -, -, h8, -, -, -, -⟩ := h
    generalize T.tall _ = k at *
    go_enter Tryz.func262, Tryz.ntmps262
    go_wp2
    go_ret
    exact ⟨rfl, rfl⟩

theorem many_any {p : Option Addr} {t : T} (w : World) (h : IsT w p t) : Calls Tryz.prog 202 #[.pointer p] w fun e w' => e = .returned (.int .i64 (t.many : Nat)) ∧ w = w' := by
  cases t with
  | nil =>
    obtain rfl : p = none := h
    go_enter Tryz.func202, Tryz.ntmps202
    go_wp2
    go_ret
    exact ⟨rfl, rfl⟩
  | node l n v r =>
    obtain ⟨b, pl, pr, rfl, -, -, -, -, -, -, -, -, -, h9, -, -, -⟩ := h
    generalize T.many _ = k at *
    go_enter Tryz.func202, Tryz.ntmps202
    go_wp2
    go_ret
    exact ⟨rfl, rfl⟩

theorem total_any {p : Option Addr} {t : T} (w : World) (h : IsT w p t) : Calls Tryz.prog 263 #[.pointer p] w fun e w' => e = .returned (.int .i64 (t.total : Nat)) ∧ w = w' := by
  cases t with
  | nil =>
    obtain rfl : p = none := h
    go_enter Tryz.func263, Tryz.ntmps263
    go_wp2
    go_ret
    exact ⟨rfl, rfl⟩
  | node l n v r =>
    obtain ⟨b, pl, pr, rfl, -, -, -, -, -, -, -, -, -, -, h10, -, -⟩ := h
    generalize T.total _ = k at *
    go_enter Tryz.func263, Tryz.ntmps263
    go_wp2
    go_ret
    exact ⟨rfl, rfl⟩
end Go.Proofs.YtkiojenkpbkjpaaGreatDoor
