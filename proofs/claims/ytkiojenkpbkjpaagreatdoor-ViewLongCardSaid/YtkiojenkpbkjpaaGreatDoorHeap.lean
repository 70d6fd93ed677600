/- What lies in memory: trees, changes, lists. -/
import Derived.Test.YtkiojenkpbkjpaaGreatDoorWord
import Derived.Test.YtkiojenkpbkjpaaGreatDoorProg
import Derived.WalkKit
import Derived.WalkSpells
import Derived.WalkLawsBesides
import Derived.StillTailTactics
import Derived.Deep.RegionHeld3
import Derived.Deep.QuietTactic
import Derived.BigQuiet
set_option linter.unusedVariables false
set_option linter.unusedSimpArgs false
namespace Go.Proofs.YtkiojenkpbkjpaaGreatDoor
open Go Go.RowKit RV

/-- A name as a value, and its cells. -/
@[reducible] def nmCells (n : Nm) : List Value := [.int .i64 n.kind, .string n.owner, .int .i64 n.number, .int .i64 n.index, .string n.text]
@[reducible] def nmV (n : Nm) : Value := .agg #[.int .i64 n.kind, .string n.owner, .int .i64 n.number, .int .i64 n.index, .string n.text]

/-- The world has grown: nothing that was there has turned. -/
@[reducible] def Grew (w w' : World) : Prop := Below w.heap.size w w'

theorem Grew.refl (w : World) : Grew w w := Below.refl _ _
theorem Grew.trans {a b c : World} (h : Grew a b) (k : Grew b c) : Grew a c := Below.trans h (Below.mono k h.size)
theorem Grew.cell {w w' : World} (h : Grew w w') {p : Addr} {v : Value} (hc : w.cell? p = some v) : w'.cell? p = some v :=
  (Below.cell h (World.block_lt_of_cell? w p hc)).trans hc
theorem Grew.drew (w : World) : Grew w w.drew := (Below.refl _ _).drew
theorem Grew.alloc (w : World) (o : Obj) : Grew w (w.alloc o) := (Below.refl _ _).alloc (Nat.le_refl _) _

/-- A tree lies in memory behind a pointer. -/
def IsT (w : World) : Option Addr → T → Prop
  | p, .nil => p = none
  | p, .node l n v r => ∃ b pl pr, p = some ⟨b, 0, none⟩ ∧
      w.cell? ⟨b, 0, none⟩ = some (.int .i64 n.kind) ∧ w.cell? ⟨b, 1, none⟩ = some (.string n.owner) ∧ w.cell? ⟨b, 2, none⟩ = some (.int .i64 n.number) ∧
      w.cell? ⟨b, 3, none⟩ = some (.int .i64 n.index) ∧ w.cell? ⟨b, 4, none⟩ = some (.string n.text) ∧ w.cell? ⟨b, 5, none⟩ = some (.string v) ∧
      w.cell? ⟨b, 6, none⟩ = some (.pointer pl) ∧ w.cell? ⟨b, 7, none⟩ = some (.pointer pr) ∧
      w.cell? ⟨b, 8, none⟩ = some (.int .i64 ((T.node l n v r).tall : Nat)) ∧ w.cell? ⟨b, 9, none⟩ = some (.int .i64 ((T.node l n v r).many : Nat)) ∧
      w.cell? ⟨b, 10, none⟩ = some (.int .i64 ((T.node l n v r).total : Nat)) ∧ IsT w pl l ∧ IsT w pr r

theorem IsT.grew {w w' : World} (h : Grew w w') : ∀ {p : Option Addr} {t : T}, IsT w p t → IsT w' p t
  | _, .nil, ht => ht
  | _, .node _ _ _ _, ⟨b, pl, pr, hp, h0, h1, h2, h3, h4, h5, h6, h7, h8, h9, h10, hl, hr⟩ =>
    ⟨b, pl, pr, hp, h.cell h0, h.cell h1, h.cell h2, h.cell h3, h.cell h4, h.cell h5, h.cell h6, h.cell h7, h.cell h8, h.cell h9, h.cell h10, hl.grew h, hr.grew h⟩

end Go.Proofs.YtkiojenkpbkjpaaGreatDoor
