/- Walks: object.uses, number, Word. -/
import Derived.Test.YtkiojenkpbkjpaaGreatDoorObjC
import Derived.Deep.RegionWith
import Derived.Deep.WholeRow
set_option linter.unusedVariables false
set_option linter.unusedSimpArgs false
namespace Go.Proofs.YtkiojenkpbkjpaaGreatDoor
open Go Go.RowKit RV
set_option maxHeartbeats 2000000
/-- A store of a whole row. -/
theorem wpList_store_row {P : Program} (w : World) {ops : Array Oper} {rest : List Oper} {o : Oper} {a : Act} {Q : Exit → Act → World → Prop}
    (hg : o.guard = none) (t : TypeId) (p x : Operand) (hop : o.op = Op.store t p x) (b : Nat) (c c' : Array Value) (hp : a.eval p = .pointer (some ⟨b, 0, none⟩)) (hx : a.eval x = .agg c')
    (hb : w.heap[b]? = some (.cells c t (0, 0))) (hi : (P.info? t).map (·.size) = some c'.size) (ho : c.size = c'.size) (h1 : c'.all (·.oneCell') = true)
    (hK : wpList P ops Q rest (a.put o.dst undef) (w.setRow b c')) : wpList P ops Q (o :: rest) a w := by
  refine wpList_plain hg fun K' hK' => ?_
  have hrun := run_storeVar_row (P := P) w b t t c c' hb hi ho h1
  unfold Oper.wp
  simp [execOp, hop, hp, hx, Instr.storeAt, Instr.sureAddr, hrun, Result.andThen]
  exact hK' _ _ hK

def usesA : Array Value := #[.string ⟨#[]⟩, .bool false, .bool false, .bool false, .int .i64 0, .string ⟨#[112, 114, 111, 99, 101, 115, 115]⟩, .bool true, .bool false, .bool false, .int .i64 (-1), .string ⟨#[114, 101, 103, 105, 115, 116, 101, 114, 115]⟩, .bool true, .bool false, .bool false, .int .i64 (-1), .string ⟨#[112, 97, 103, 101]⟩, .bool true, .bool false, .bool false, .int .i64 63, .string ⟨#[116, 97, 98, 108, 101]⟩, .bool true, .bool false, .bool false, .int .i64 (-1), .string ⟨#[99, 111, 117, 110, 116, 101, 114]⟩, .bool true, .bool false, .bool false, .int .i64 (-1), .string ⟨#[112, 101, 110, 100, 105, 110, 103]⟩, .bool true, .bool false, .bool false, .int .i64 (-1), .string ⟨#[110, 111, 100, 101]⟩, .bool true, .bool true, .bool false, .int .i64 (-1), .string ⟨#[98, 108, 111, 99, 107]⟩, .bool true, .bool true, .bool false, .int .i64 63, .string ⟨#[101, 110, 116, 114, 121]⟩, .bool true, .bool true, .bool true, .int .i64 (-1), .string ⟨#[108, 105, 115, 116, 105, 110, 103]⟩, .bool true, .bool true, .bool false, .int .i64 (-1), .string ⟨#[112, 105, 112, 101]⟩, .bool true, .bool true, .bool false, .int .i64 (-1), .string ⟨#[108, 111, 99, 107]⟩, .bool true, .bool true, .bool false, .int .i64 (-1), .string ⟨#[116, 101, 114, 109, 105, 110, 97, 108]⟩, .bool false, .bool true, .bool false, .int .i64 (-1), .string ⟨#[97, 99, 99, 111, 117, 110, 116]⟩, .bool false, .bool false, .bool true, .int .i64 (-1), .string ⟨#[99, 108, 111, 99, 107]⟩, .bool false, .bool false, .bool false, .int .i64 (-1), .string ⟨#[112, 111, 114, 116]⟩, .bool false, .bool true, .bool false, .int .i64 (-1), .string ⟨#[98, 111, 120]⟩, .bool false, .bool false, .bool true, .int .i64 (-1), .string ⟨#[111, 117, 116]⟩, .bool true, .bool true, .bool false, .int .i64 1073741824, .string ⟨#[115, 104, 101, 108, 108]⟩, .bool true, .bool false, .bool false, .int .i64 (-1), .string ⟨#[101, 112, 111, 99, 104]⟩, .bool false, .bool false, .bool false, .int .i64 (-1)]
set_option maxRecDepth 100000 in
theorem uses_any (w : World) : Calls Tryz.prog 150 #[] w fun e w' => e = .returned (.agg usesA) ∧ Grew w w' := by
  have hsz : (Tryz.prog.info? 254).map (·.size) = some 105 := by kernel_rfl
  go_enter Tryz.func150, Tryz.ntmps150
  go_wp2_with (refine wpList_store_row _ rfl 254 _ _ rfl w.heap.size Tryz.zeroCells254 usesA rfl (by kernel_rfl) (heap_alloc_new _ _) hsz (by kernel_rfl) (by kernel_rfl) ?_)
  rw [World.setRow_alloc_new]
  have hgr : Grew w (w.alloc (.cells usesA 254)) := Grew.alloc _ _
  refine ⟨rfl, .agg usesA, ?_, rfl, hgr⟩
  exact results_cell_row (fn := Tryz.f150) (p := 0) (ty := 254) rfl _ _ w.heap.size 254 usesA (0, 0) (.array 21 253) rfl (heap_alloc_new _ _) (by kernel_rfl) rfl (by kernel_rfl)
end Go.Proofs.YtkiojenkpbkjpaaGreatDoor
