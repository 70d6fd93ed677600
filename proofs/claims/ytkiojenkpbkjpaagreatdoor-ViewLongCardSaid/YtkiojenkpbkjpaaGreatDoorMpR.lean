/- Maps from names to changes: the range loop. -/
import Derived.Test.YtkiojenkpbkjpaaGreatDoorMp
import Derived.Maps.RangeRun
set_option linter.unusedVariables false
set_option linter.unusedSimpArgs false
namespace Go.Proofs.YtkiojenkpbkjpaaGreatDoor
open Go Go.RowKit RV
open Go.ChangeMaps (setBlock)
open Go.MapKept (heap_set)

theorem take_fit (e : MapEntry) : ∀ (L : List MapEntry) (R : List Ch), Fit L R → (L.map (·.born)).Pairwise (· < ·) → e ∈ L →
    ∃ c R', e.key = nmV c.name ∧ e.val = chV c ∧ Fit (L.filter fun x => !(x.born == e.born)) R' ∧ R.Perm (c :: R')
  | [], _, _, _, h => by cases h
  | x :: L, [], hf, _, _ => by simp [Fit] at hf
  | x :: L, d :: R, hf, hp, he => by
    simp only [Fit, List.map_cons, List.cons.injEq, Prod.mk.injEq] at hf
    rw [List.map_cons, List.pairwise_cons] at hp
    rcases List.mem_cons.1 he with rfl | he
    · refine ⟨d, R, hf.1.1, hf.1.2, ?_, List.Perm.refl _⟩
      have : (L.filter fun x => !(x.born == e.born)) = L := by
        rw [List.filter_eq_self]
        intro y hy
        have := hp.1 y.born (List.mem_map.2 ⟨y, hy, rfl⟩)
        simp; omega
      rw [List.filter_cons]
      simp only [beq_self_eq_true, Bool.not_true, Bool.false_eq_true, if_false, this]
      exact hf.2
    · obtain ⟨c, R', h1, h2, h3, h4⟩ := take_fit e L R hf.2 hp.2 he
      refine ⟨c, d :: R', h1, h2, ?_, (h4.cons d).trans (List.Perm.swap _ _ _)⟩
      have hlt := hp.1 e.born (List.mem_map.2 ⟨e, he, rfl⟩)
      rw [List.filter_cons]
      have : (!(x.born == e.born)) = true := by simp; omega
      rw [if_pos this]
      simp only [Fit] at h3
      simp [Fit, hf.1, h3]

theorem left_push (es : Array MapEntry) (seen : Array Nat) (b : Nat) : (leftOf es (seen.push b)).toList = (leftOf es seen).toList.filter fun x => !(x.born == b) := by
  unfold leftOf
  rw [Array.toList_filter, Array.toList_filter, List.filter_filter]
  congr 1
  funext x
  rw [contains_push]
  cases seen.contains x.born <;> cases (x.born == b) <;> rfl

/-- A range loop over a map is under way: rest is still to come. -/
def IsI (w : World) (it r : Nat) (m rest : List Ch) : Prop := ∃ es clock since seen c0, w.heap[r]? = some (.map es clock) ∧ Fit es.toList m ∧
  (es.toList.map (·.born)).Pairwise (· < ·) ∧ w.heap[it]? = some (.mapIter (some r) since seen c0) ∧ (∀ x ∈ es.toList, x.born < since) ∧ since ≤ c0 ∧ since ≤ clock ∧ Fit (leftOf es seen).toList rest
theorem range_run {w : World} {r : Nat} {m : List Ch} (h : IsM w r m) :
    ∃ w', (Instr.range 160 (.map (some r))).run Tryz.prog w = .ok (.pointer (some ⟨w.heap.size, 0, none⟩)) w' ∧ IsI w' w.heap.size r m m ∧ Grew w w' := by
  obtain ⟨es, clock, hb, hf, hp, hlt, hnd⟩ := h
  refine ⟨_, run_range_map w 160 _ _ r es clock Tryz.underlying160 hb, ⟨es, clock, clock, #[], clock, ?_, hf, hp, heap_alloc_new _ _, ?_, Nat.le_refl _, Nat.le_refl _, ?_⟩, Grew.alloc _ _⟩
  · exact (Below.heap_alloc w _ r (Array.getElem?_eq_some_iff.1 hb).1).trans hb
  · intro x hx; exact hlt _ (List.mem_map.2 ⟨x, hx, rfl⟩)
  · have hfl : (leftOf es #[]).toList = es.toList := by
      unfold leftOf
      rw [Array.toList_filter]
      exact List.filter_eq_self.2 (by simp)
    rw [hfl]; exact hf

theorem next_run {w : World} {it r : Nat} {m rest : List Ch} (h : IsI w it r m rest) (ty : TypeId) :
    (rest = [] ∧ (Instr.next (.pointer (some ⟨it, 0, none⟩)) false ty).run Tryz.prog w = .ok (.tuple #[.bool false]) w) ∨
    ∃ c rest' w', rest.Perm (c :: rest') ∧ (Instr.next (.pointer (some ⟨it, 0, none⟩)) false ty).run Tryz.prog w = .ok (.tuple #[.bool true, nmV c.name, chV c]) w' ∧
      IsI w' it r m rest' ∧ w.grownBy w' (some it) ∧ (Instr.entry (.pointer (some ⟨it, 0, none⟩))).run Tryz.prog w' = .ok (.tuple #[nmV c.name, chV c]) w' := by
  obtain ⟨es, clock, since, seen, c0, hb, hf, hp, hr, hold, hsc, hsk, hl⟩ := h
  have hne : it ≠ r := fun e => by rw [e, hb] at hr; cases hr
  rcases run_next_at (P := Tryz.prog) w ty it r since c0 seen es clock hr hb hold hsc with ⟨h0, hrun⟩ | ⟨e, he, w1, hal, hrun⟩
  · refine .inl ⟨?_, hrun⟩
    have h2 : leftOf es seen = #[] := Array.eq_empty_of_size_eq_zero h0
    rw [h2] at hl
    simpa [Fit] using hl
  · obtain ⟨hem, hes⟩ := mem_left he
    have hpl : ((leftOf es seen).toList.map (·.born)).Pairwise (· < ·) := by
      unfold leftOf
      rw [Array.toList_filter]
      exact hp.sublist (List.filter_sublist.map _)
    obtain ⟨c, rest', hk, hv, hfl, hperm⟩ := take_fit e _ _ hl hpl he
    rw [hk, hv] at hrun
    have hr1 : w1.heap[it]? = some (.mapIter (some r) since seen c0) := by rcases hal with rfl | rfl <;> exact hr
    have hb1 : w1.heap[r]? = some (.map es clock) := by rcases hal with rfl | rfl <;> exact hb
    have hset := heap_set (o' := .mapIter (some r) since (seen.push e.born) clock) hr1
    have hb' : (setBlock w1 it (.mapIter (some r) since (seen.push e.born) clock)).heap[r]? = some (.map es clock) := (hset.2 r (fun e1 => hne e1.symm)).trans hb1
    refine .inr ⟨c, rest', _, hperm, hrun, ⟨es, clock, since, seen.push e.born, clock, hb', hf, hp, hset.1, hold, hsk, hsk, by rw [left_push]; exact hfl⟩, ?_, ?_⟩
    · rcases hal with rfl | rfl <;> exact ⟨rfl, rfl, rfl, by simp [setBlock], fun i _ hi => hset.2 i (fun e1 => hi (by rw [e1]))⟩
    · have := run_entry_at (P := Tryz.prog) _ it r since seen es clock e hset.1 hb' hem (hp.imp (fun h => Nat.ne_of_lt h))
      rw [hk, hv] at this
      exact this
end Go.Proofs.YtkiojenkpbkjpaaGreatDoor
