/- Maps from names to changes. -/
import Derived.Test.YtkiojenkpbkjpaaGreatDoorHeap
set_option linter.unusedVariables false
set_option linter.unusedSimpArgs false
namespace Go.Proofs.YtkiojenkpbkjpaaGreatDoor
open Go Go.RowKit RV

/-- A change. -/
structure Ch where
  name : Nm
  value : ByteArray
  absent : Bool
@[reducible] def chCells (c : Ch) : List Value := [.int .i64 c.name.kind, .string c.name.owner, .int .i64 c.name.number, .int .i64 c.name.index, .string c.name.text, .string c.value, .bool c.absent]
@[reducible] def chV (c : Ch) : Value := .agg #[.int .i64 c.name.kind, .string c.name.owner, .int .i64 c.name.number, .int .i64 c.name.index, .string c.name.text, .string c.value, .bool c.absent]

theorem nmV_inj {a b : Nm} (h : nmV a = nmV b) : a = b := by
  cases a; cases b
  simp at h
  simp [h]

theorem stood32 : Tryz.prog.stoodInHeld 32 = false := by kernel_rfl
theorem ba_beq (a b : ByteArray) : (a == b) = decide (a = b) := by
  cases a with
  | mk x => cases b with
    | mk y =>
      show (x == y) = _
      by_cases h : x = y
      · subst h; simp
      · simp [h]
theorem eq3 (d : Nat) (a b : Int) (w : World) : (Op.equalIn (d + 1) 3 (.int .i64 a) (.int .i64 b)).run Tryz.prog w = .ok (a == b) w := by
  simp [Op.equalIn, go_sem]
theorem eq30 (d : Nat) (a b : ByteArray) (w : World) : (Op.equalIn (d + 1) 30 (.string a) (.string b)).run Tryz.prog w = .ok (a == b) w := by
  simp [Op.equalIn, go_sem]
theorem eq9 (d : Nat) (a b : ByteArray) (w : World) : (Op.equalIn (d + 1) 9 (.string a) (.string b)).run Tryz.prog w = .ok (a == b) w := by
  simp [Op.equalIn, go_sem]
set_option maxHeartbeats 1000000 in
theorem eq_in (d : Nat) (a b : Nm) (w : World) : (Op.equalIn (d + 2) 32 (nmV a) (nmV b)).run Tryz.prog w = .ok (decide (a = b)) w := by
  have hs := stood32
  rw [Op.equalIn]
  simp [go_sem, hs, eq3, eq30, eq9]
  simp only [ba_beq]
  cases a; cases b
  simp only [Nm.mk.injEq]
  repeat' split
  all_goals simp_all
theorem check_in (em : Bool) (d : Nat) (a : Nm) (w : World) : (Instr.checkKey em (d + 2) 32 (nmV a)).run Tryz.prog w = .ok () w := by
  simp [Instr.checkKey, go_sem]
theorem same_bits (a : Nm) : Instr.sameBits 10000 (nmV a) (nmV a) = true := by
  simp [Instr.sameBits, ba_beq]

/-- Where a name stands among changes. -/
def fnd (n : Nm) : List Ch → Nat → Option (Nat × Ch)
  | [], _ => none
  | c :: m, i => if n = c.name then some (i, c) else fnd n m (i + 1)

def Fit (es : List MapEntry) (m : List Ch) : Prop := es.map (fun e => (e.key, e.val)) = m.map fun c => (nmV c.name, chV c)

theorem ask_run (n : Nm) (w : World) : ∀ (es : List MapEntry) (m : List Ch) (i : Nat), Fit es m →
    (Instr.findAsking 32 (nmV n) es i).run Tryz.prog w = .ok ((fnd n m i).map fun p => (p.1, chV p.2)) w
  | [], [], i, _ => by simp [Instr.findAsking, fnd, go_sem]
  | e :: es, c :: m, i, h => by
    simp only [Fit, List.map_cons, List.cons.injEq, Prod.mk.injEq] at h
    have ih := ask_run n w es m (i + 1) h.2
    have he : (Op.equal 32 (nmV n) e.key).run Tryz.prog w = .ok (decide (n = c.name)) w := by rw [h.1.1]; exact eq_in 9998 n c.name w
    simp only [Instr.findAsking, fnd]
    rw [Sem.run_bind, he]
    by_cases hn : n = c.name
    · simp [hn, Result.andThen, h.1.2, go_sem]
    · simp [hn, Result.andThen, ih]
  | [], c :: m, i, h => by simp [Fit] at h
  | e :: es, [], i, h => by simp [Fit] at h

theorem find_run (n : Nm) (w : World) (es : List MapEntry) (m : List Ch) (h : Fit es m) :
    (Instr.findKey 32 (nmV n) es).run Tryz.prog w = .ok ((fnd n m 0).map fun p => (p.1, chV p.2)) w := by
  cases es with
  | nil =>
    cases m with
    | nil => simp [Instr.findKey, Instr.findNow, fnd, go_sem]
    | cons c m => simp [Fit] at h
  | cons e es =>
    have ha := ask_run n w (e :: es) m 0 h
    unfold Instr.findKey
    rw [Sem.run_bind, run_underlying Tryz.underlying32]
    simp [Result.andThen, Instr.findNow, Instr.sameNow]
    rw [ha]
    try rfl

/-- A map lies in a block. -/
def IsM (w : World) (r : Nat) (m : List Ch) : Prop := ∃ es clock, w.heap[r]? = some (.map es clock) ∧ Fit es.toList m ∧
  (es.toList.map (·.born)).Pairwise (· < ·) ∧ (∀ b ∈ es.toList.map (·.born), b < clock) ∧ m.Pairwise (fun a b => a.name ≠ b.name)
theorem IsM.grew {w w' : World} (hg : Grew w w') {r : Nat} {m : List Ch} (h : IsM w r m) : IsM w' r m := by
  obtain ⟨es, clock, hb, h⟩ := h
  exact ⟨es, clock, (Below.block hg r (Array.getElem?_eq_some_iff.1 hb).1).trans hb, h⟩
theorem IsM.kept {w w' : World} {row : Option Nat} (hg : w.grownBy w' row) {r : Nat} {m : List Ch} (h : IsM w r m) (hne : some r ≠ row) : IsM w' r m := by
  obtain ⟨es, clock, hb, h⟩ := h
  exact ⟨es, clock, (hg.block r (Array.getElem?_eq_some_iff.1 hb).1 hne).trans hb, h⟩
theorem IsM.new (w : World) : IsM (w.alloc (.map #[] 0)) w.heap.size [] := ⟨#[], 0, heap_alloc_new w _, rfl, by simp, by simp, by simp⟩

/-- The change at a name. -/
def getM (n : Nm) (m : List Ch) : Option Ch := m.find? fun c => decide (n = c.name)
theorem fnd_get (n : Nm) : ∀ (m : List Ch) (i : Nat), (fnd n m i).map (·.2) = getM n m
  | [], _ => rfl
  | c :: m, i => by
    unfold getM fnd
    by_cases h : n = c.name
    · simp [h]
    · have := fnd_get n m (i + 1)
      unfold getM at this
      simp [h, this]
def zCh : Ch := ⟨⟨0, ⟨#[]⟩, 0, 0, ⟨#[]⟩⟩, ⟨#[]⟩, false⟩
theorem run_getObj_map' {P : Program} {w : World} {r : Nat} {es : Array MapEntry} {clock : Nat} (hb : w.heap[r]? = some (.map es clock)) : (getObj r).run P w = .ok (.map es clock) w := by
  simp [getObj, Sem.run, hb]
theorem run_setObj_map' {P : Program} {w : World} {r : Nat} {es : Array MapEntry} {clock : Nat} (o : Obj) (hb : w.heap[r]? = some (.map es clock)) : (setObj r o).run P w = .ok () { w with heap := w.heap.setIfInBounds r o } := by
  simp [setObj, Sem.run, hb]
theorem zero66 (w : World) : (zeroValue 66).run Tryz.prog w = .ok (chV zCh) w := by kernel_rfl

theorem look_run {w : World} {r : Nat} {m : List Ch} (h : IsM w r m) (n : Nm) :
    (Instr.lookup 160 (.map (some r)) (nmV n) true).run Tryz.prog w = .ok (.tuple #[chV ((getM n m).getD zCh), .bool (getM n m).isSome]) w := by
  obtain ⟨es, clock, hb, hf, -⟩ := h
  have hfr := find_run n w es.toList m hf
  have hck := check_in es.isEmpty 9998 n w
  have hz := zero66 w
  have hgo := run_getObj_map' (P := Tryz.prog) hb
  rw [← fnd_get n m 0]
  unfold Instr.lookup
  rw [Sem.run_bind, run_underlying Tryz.underlying160]
  cases hfd : fnd n m 0 with
  | none =>
    rw [hfd] at hfr
    simp [Result.andThen, hgo, hck, hfr, hz, go_sem]
  | some p =>
    rw [hfd] at hfr
    simp [Result.andThen, hgo, hck, hfr, go_sem]

/-- The changes with one more, in the place of the one at the same name. -/
def putM (c : Ch) : List Ch → List Ch
  | [] => [c]
  | d :: m => if c.name = d.name then c :: m else d :: putM c m

theorem putM_none {c : Ch} : ∀ {m : List Ch} {k : Nat}, fnd c.name m k = none → putM c m = m ++ [c]
  | [], _, _ => rfl
  | d :: m, k, h => by
    unfold fnd at h
    by_cases hn : c.name = d.name
    · simp [hn] at h
    · simp only [hn, if_false] at h
      simp [putM, hn, putM_none h]
theorem putM_mem {c x : Ch} : ∀ {m : List Ch}, x ∈ putM c m → x = c ∨ x ∈ m
  | [], h => by simp [putM] at h; exact .inl h
  | d :: m, h => by
    unfold putM at h
    by_cases hn : c.name = d.name
    · simp [hn] at h
      rcases h with h | h
      · exact .inl h
      · exact .inr (by simp [h])
    · simp [hn] at h
      rcases h with h | h
      · exact .inr (by simp [h])
      · rcases putM_mem h with h | h
        · exact .inl h
        · exact .inr (by simp [h])
theorem putM_names {c : Ch} : ∀ {m : List Ch}, m.Pairwise (fun a b => a.name ≠ b.name) → (putM c m).Pairwise (fun a b => a.name ≠ b.name)
  | [], _ => by simp [putM]
  | d :: m, h => by
    rw [List.pairwise_cons] at h
    unfold putM
    by_cases hn : c.name = d.name
    · simp only [hn, if_true]
      rw [List.pairwise_cons]
      exact ⟨fun x hx => by rw [hn]; exact h.1 x hx, h.2⟩
    · simp only [hn, if_false]
      rw [List.pairwise_cons]
      refine ⟨fun x hx => ?_, putM_names h.2⟩
      rcases putM_mem hx with rfl | hx
      · exact fun e => hn e.symm
      · exact h.1 x hx

theorem fit_modify (c : Ch) : ∀ (l : List MapEntry) (m : List Ch) (k i : Nat) (d : Ch), Fit l m → fnd c.name m k = some (i, d) →
    ∃ j, i = k + j ∧ (l[j]?).map (·.key) = some (nmV c.name) ∧ Fit (l.modify j fun e => { e with key := nmV c.name, val := chV c }) (putM c m)
  | [], [], _, _, _, _, h => by simp [fnd] at h
  | e :: l, x :: m, k, i, d, hf, h => by
    simp only [Fit, List.map_cons, List.cons.injEq, Prod.mk.injEq] at hf
    unfold fnd at h
    by_cases hn : c.name = x.name
    · simp [hn] at h
      refine ⟨0, by omega, by simp [hf.1, hn], ?_⟩
      simp [Fit, putM, hn, hf.2]
    · simp only [hn, if_false] at h
      obtain ⟨j, hj, hl, hF⟩ := fit_modify c l m (k + 1) i d hf.2 h
      refine ⟨j + 1, by omega, by simpa using hl, ?_⟩
      simp only [Fit] at hF
      simp [Fit, putM, hn, hf.1, hF]
  | [], x :: m, _, _, _, hf, _ => by simp [Fit] at hf
  | e :: l, [], _, _, _, hf, _ => by simp [Fit] at hf

theorem modify_born (f : MapEntry → MapEntry) (hf : ∀ e, (f e).born = e.born) : ∀ (l : List MapEntry) (j : Nat), (l.modify j f).map (·.born) = l.map (·.born)
  | [], j => by cases j <;> simp [List.modify]
  | e :: l, 0 => by simp [hf]
  | e :: l, j + 1 => by simp [modify_born f hf l j]

theorem set_grown (w : World) (r : Nat) (o : Obj) : w.grownBy { w with heap := w.heap.setIfInBounds r o } (some r) :=
  ⟨rfl, rfl, rfl, by simp, fun k hk hne => by
    show (w.heap.setIfInBounds r o)[k]? = _
    rw [Array.getElem?_setIfInBounds_ne (fun e => hne (by rw [e]))]⟩
theorem set_at {w : World} {r : Nat} {o o' : Obj} (h : w.heap[r]? = some o) : ({ w with heap := w.heap.setIfInBounds r o' } : World).heap[r]? = some o' := by
  show (w.heap.setIfInBounds r o')[r]? = _
  rw [Array.getElem?_setIfInBounds_self_of_lt (Array.getElem?_eq_some_iff.1 h).1]

theorem upd_run {w : World} {r : Nat} {m : List Ch} (h : IsM w r m) (c : Ch) :
    ∃ w', (Instr.mapUpdate 160 (.map (some r)) (nmV c.name) (chV c)).run Tryz.prog w = .ok () w' ∧ IsM w' r (putM c m) ∧ w.grownBy w' (some r) := by
  obtain ⟨es, clock, hb, hf, hp, hlt, hnd⟩ := h
  have hfr := find_run c.name w es.toList m hf
  have hck := check_in false 9998 c.name w
  have hgo := run_getObj_map' (P := Tryz.prog) hb
  unfold Instr.mapUpdate
  rw [Sem.run_bind, run_underlying Tryz.underlying160]
  cases hfd : fnd c.name m 0 with
  | none =>
    rw [hfd] at hfr
    refine ⟨_, by simp [Result.andThen, hgo, hck, hfr, run_setObj_map' _ hb, go_sem]; rfl, ⟨_, _, set_at hb, ?_, ?_, ?_, putM_names hnd⟩, set_grown _ _ _⟩
    · rw [putM_none hfd]
      simp only [Fit] at hf
      simp [Fit, hf]
    · simp only [Array.toList_push, List.map_append, List.pairwise_append]
      exact ⟨hp, by simp, fun a ha b hb => by simp at hb; subst hb; exact hlt a ha⟩
    · intro b hb'
      simp only [Array.toList_push, List.map_append, List.mem_append] at hb'
      rcases hb' with hb' | hb'
      · have := hlt b hb'; omega
      · simp at hb'; omega
  | some p =>
    obtain ⟨i, d⟩ := p
    rw [hfd] at hfr
    obtain ⟨j, hj, hl, hF⟩ := fit_modify c es.toList m 0 i d hf hfd
    have hij : i = j := by omega
    subst hij
    have hke : (es[i]?).map (·.key) = some (nmV c.name) := by simpa using hl
    have hst : (Instr.keyThatStays (((es[i]?).map (·.key)).getD (nmV c.name)) (nmV c.name)).run Tryz.prog w = .ok (nmV c.name) w := by
      rw [hke]
      simp [Instr.keyThatStays, same_bits, go_sem]
    refine ⟨_, by simp only [Result.andThen, Sem.run_bind, hgo, hck, hfr, hst, Option.map_some]; exact run_setObj_map' _ hb, ⟨_, _, set_at hb, ?_, ?_, ?_, putM_names hnd⟩, set_grown _ _ _⟩
    · rw [Array.toList_modify]; exact hF
    · rw [Array.toList_modify, modify_born (fun e => { e with key := nmV c.name, val := chV c }) (fun _ => rfl)]; exact hp
    · rw [Array.toList_modify, modify_born (fun e => { e with key := nmV c.name, val := chV c }) (fun _ => rfl)]; exact hlt

theorem clear_run {w : World} {r : Nat} {m : List Ch} (h : IsM w r m) (ty : TypeId) :
    ∃ w', (Builtin.clear_ #[160] ty #[.map (some r)]).run Tryz.prog w = .ok (.tuple #[]) w' ∧ IsM w' r [] ∧ w.grownBy w' (some r) := by
  obtain ⟨es, clock, hb, hf, hp, hlt, hnd⟩ := h
  have hgo := run_getObj_map' (P := Tryz.prog) hb
  refine ⟨{ w with heap := w.heap.setIfInBounds r (.map #[] clock) }, ?_, ⟨#[], clock, set_at hb, rfl, by simp, by simp, by simp⟩, set_grown _ _ _⟩
  simp [Builtin.clear_, Result.andThen, hgo, run_setObj_map' _ hb, run_underlying Tryz.underlying160, go_sem]
end Go.Proofs.YtkiojenkpbkjpaaGreatDoor
