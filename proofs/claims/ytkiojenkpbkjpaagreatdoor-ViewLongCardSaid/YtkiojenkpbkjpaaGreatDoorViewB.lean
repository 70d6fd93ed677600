/- Walks: slices.Clone of changes. -/
import Derived.Test.YtkiojenkpbkjpaaGreatDoorViewA
import Derived.OwnWalk
set_option linter.unusedVariables false
set_option linter.unusedSimpArgs false
namespace Go.Proofs.YtkiojenkpbkjpaaGreatDoor
open Go Go.RowKit RV
set_option maxHeartbeats 2000000

theorem info66 : (Tryz.prog.info? 66).map (fun i => (i.zero, i.size, i.bytes)) = some (some (chV zCh), 7, 80) := by kernel_rfl
theorem und36 : Tryz.prog.underlying 36 = some (.slice 66) := by kernel_rfl
theorem flat_length (l : List Ch) : (l.flatMap chCells).length = l.length * 7 := by
  induction l with
  | nil => rfl
  | cons c l ih => simp only [List.flatMap_cons, List.length_append, List.length_cons, List.length_nil, ih]; omega
theorem flat_one (l : List Ch) : ∀ u ∈ l.flatMap chCells, u.oneCell' = true := by
  intro u hu
  rw [List.mem_flatMap] at hu
  obtain ⟨c, _, hc⟩ := hu
  simp only [List.mem_cons, List.not_mem_nil, or_false] at hc
  rcases hc with rfl | rfl | rfl | rfl | rfl | rfl | rfl <;> rfl

/-- A list of changes in a block of its own, which lies at base or above. -/
def IsLO (base : Nat) (w : World) (v : Value) (l : List Ch) : Prop := w.ownsRow base 66 7 v l.length (l.flatMap chCells)
theorem IsLO.isL {base : Nat} {w : World} {v : Value} {l : List Ch} (h : IsLO base w v l) : IsL w v l := row_base h (Nat.zero_le _)

theorem eqn36 (d : Nat) (W : World) : (Op.equalIn (d + 1) 36 (.slice none 0 0) (.slice none 0 0)).run Tryz.prog W = .ok true W := by
  simp [Op.equalIn, go_sem]
theorem eqs36 (d : Nat) (a : Addr) (n c : Nat) (W : World) : (Op.equalIn (d + 1) 36 (.slice (some a) n c) (.slice none 0 0)).run Tryz.prog W = .ok false W := by
  simp [Op.equalIn, go_sem]
theorem nil36 (W : World) : (binOp BinOp.eql 36 (.slice none 0 0) (.slice none 0 0)).run Tryz.prog W = .ok (.bool true) W := by
  have h : (Op.equal 36 (.slice none 0 0) (.slice none 0 0)).run Tryz.prog W = .ok true W := eqn36 9999 W
  simp [binOp, h, Result.andThen, go_sem]
theorem some36 (a : Addr) (n c : Nat) (W : World) : (binOp BinOp.eql 36 (.slice (some a) n c) (.slice none 0 0)).run Tryz.prog W = .ok (.bool false) W := by
  have h : (Op.equal 36 (.slice (some a) n c) (.slice none 0 0)).run Tryz.prog W = .ok false W := eqs36 9999 a n c W
  simp [binOp, h, Result.andThen, go_sem]
set_option maxRecDepth 100000 in
theorem clone_any {v : Value} {l : List Ch} (w : World) (h : IsL w v l) (hl : l.length ≤ 1000000) :
    Calls Tryz.prog 149 #[v] w fun e w' => ∃ u, e = .returned u ∧ IsLO w.heap.size w' u l ∧ Grew w w' := by
  obtain ⟨i0, hi, hz0, hz1, hz2⟩ := info_parts info66
  have h' := h
  have hq1 := nil36
  have hq2 := some36
  rcases h.2 with ⟨rfl, h0⟩ | ⟨g, cap, cur, rfl, hb, hgb, _⟩
  · have : l = [] := List.eq_nil_of_length_eq_zero h0
    subst this
    go_enter Tryz.func149, Tryz.ntmps149
    go_wp2
    go_ret
    exact ⟨_, rfl, World.ownsRow_nil _ _ _ _, Grew.refl _⟩
  · have hrow : (w.alloc (.cells #[] 66)).ownsRow w.heap.size 66 7 (.slice (some ⟨w.heap.size, 0, none⟩) 0 0) 0 [] := World.ownsRow_lit w #[] 0 (Nat.le_refl _) (by unfold maxLen; omega) rfl
    have hcells := (World.ownsRow.alloc h' (.cells #[] 66)).cells (g := g) rfl
    go_enter Tryz.func149, Tryz.ntmps149
    go_wp2_with (at_builtin; go_loud (refine wpList_append_own _ rfl _ _ 36 rfl w.heap.size 66 i0 (chV zCh) 7 80 und36 hi hz0 hz1 hz2 rfl (by decide) _ _ _ rfl hrow ⟨g, 0, none⟩ l.length cap (l.flatMap chCells) rfl (flat_length l) hcells (flat_one l) (by unfold maxLen; omega) (by omega) (by simp) ?_); intro v' w1 hown' hgrow _)
    go_ret
    refine ⟨_, rfl, ?_, ((Below.refl w.heap.size w).alloc (Nat.le_refl _) _).grown hgrow (by simp) (fun k e => by cases e; exact Nat.le_refl _)⟩
    unfold IsLO
    simpa using hown'
end Go.Proofs.YtkiojenkpbkjpaaGreatDoor
