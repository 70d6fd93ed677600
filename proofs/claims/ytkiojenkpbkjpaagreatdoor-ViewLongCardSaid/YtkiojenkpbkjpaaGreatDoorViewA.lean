/- Walks: view.New, Mark, slices.Clone. -/
import Derived.Test.YtkiojenkpbkjpaaGreatDoorTreeC
import Derived.Test.YtkiojenkpbkjpaaGreatDoorMp
set_option linter.unusedVariables false
set_option linter.unusedSimpArgs false
namespace Go.Proofs.YtkiojenkpbkjpaaGreatDoor
open Go Go.RowKit RV
set_option maxHeartbeats 2000000

/-- A list of changes that a slice holds. -/
def IsL (w : World) (v : Value) (l : List Ch) : Prop := w.ownsRow 0 66 7 v l.length (l.flatMap chCells)
/-- A view lies behind a pointer: the state, the reads, the calls, what they have set. -/
def IsV (w : World) (vp : Option Addr) (t : T) (m1 cl m2 : List Ch) : Prop := ∃ b sp r1 r2 cv, vp = some ⟨b, 0, none⟩ ∧
  w.heap[b]? = some (.cells #[.pointer sp, .map (some r1), cv, .map (some r2)] 162 (0, 0)) ∧ IsS w sp t ∧ IsM w r1 m1 ∧ IsL w cv cl ∧ IsM w r2 m2 ∧ r1 ≠ r2
theorem IsL.grew {w w' : World} (hg : Grew w w') {v : Value} {l : List Ch} (h : IsL w v l) : IsL w' v l := row_grew h hg
theorem IsV.grew {w w' : World} (hg : Grew w w') {vp : Option Addr} {t : T} {m1 cl m2 : List Ch} (h : IsV w vp t m1 cl m2) : IsV w' vp t m1 cl m2 := by
  obtain ⟨b, sp, r1, r2, cv, rfl, hb, hs, h1, hl, h2, hne⟩ := h
  exact ⟨b, sp, r1, r2, cv, rfl, (Below.block hg b (Array.getElem?_eq_some_iff.1 hb).1).trans hb, hs.grew hg, h1.grew hg, hl.grew hg, h2.grew hg, hne⟩

theorem mk_run (W : World) : (Instr.makeMap 160 none).run Tryz.prog W = .ok (.map (some W.heap.size)) (W.alloc (.map #[] 0)) := by
  first | rfl | simp [Instr.makeMap, newObj, go_sem]

theorem vnew_any {sp : Option Addr} {t : T} (w : World) (hs : IsS w sp t) :
    Calls Tryz.prog 19 #[.pointer sp] w fun e w' => ∃ p, e = .returned (.pointer p) ∧ IsV w' p t [] [] [] ∧ Grew w w' := by
  have hs' := hs
  obtain ⟨b, q, rfl, hc, ht⟩ := hs
  have hmk := mk_run
  go_enter Tryz.func19, Tryz.ntmps19
  go_wp2
  go_ret
  have g1 : Grew w (w.alloc (.map #[] 0)) := Grew.alloc _ _
  have g2 : Grew (w.alloc (.map #[] 0)) ((w.alloc (.map #[] 0)).alloc (.map #[] 0)) := Grew.alloc _ _
  have g3 : Grew ((w.alloc (.map #[] 0)).alloc (.map #[] 0)) (((w.alloc (.map #[] 0)).alloc (.map #[] 0)).alloc (.cells #[.pointer (some ⟨b, 0, none⟩), .map (some w.heap.size), .slice none 0 0, .map (some (w.heap.size + 1))] 162)) := Grew.alloc _ _
  have hm1 := (IsM.new w).grew (g2.trans g3)
  have hm2 := (IsM.new (w.alloc (.map #[] 0))).grew g3
  rw [World.size_alloc] at hm2
  have hbk := heap_alloc_new ((w.alloc (.map #[] 0)).alloc (.map #[] 0)) (.cells #[.pointer (some ⟨b, 0, none⟩), .map (some w.heap.size), .slice none 0 0, .map (some (w.heap.size + 1))] 162)
  simp only [World.size_alloc] at hbk
  exact ⟨_, rfl, ⟨_, _, _, _, _, rfl, hbk, hs'.grew ((g1.trans g2).trans g3), hm1, World.ownsRow_nil _ _ _ _, hm2, by omega⟩, (g1.trans g2).trans g3⟩

theorem mark_any {vp : Option Addr} {t : T} {m1 cl m2 : List Ch} (w : World) (h : IsV w vp t m1 cl m2) :
    Calls Tryz.prog 29 #[.pointer vp] w fun e w' => e = .returned (.int .i64 (cl.length : Nat)) ∧ w = w' := by
  obtain ⟨b, sp, r1, r2, cv, rfl, hb, hs, h1, hl, h2, hne⟩ := h
  obtain ⟨a, c, rfl⟩ := row_shape hl
  have hc2 : w.cell? ⟨b, 2, none⟩ = some (.slice a cl.length c) := by simp [World.cell?, hb]
  go_enter Tryz.func29, Tryz.ntmps29
  go_wp2
  go_ret
  exact ⟨rfl, rfl⟩
end Go.Proofs.YtkiojenkpbkjpaaGreatDoor
