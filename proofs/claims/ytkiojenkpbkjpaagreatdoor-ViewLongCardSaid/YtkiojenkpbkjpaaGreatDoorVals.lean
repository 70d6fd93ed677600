/- Walks: maps.Values and its iterator. -/
import Derived.Test.YtkiojenkpbkjpaaGreatDoorMpR
import Derived.Test.YtkiojenkpbkjpaaGreatDoorParse
import Derived.Maps.Range
set_option linter.unusedVariables false
set_option linter.unusedSimpArgs false
namespace Go.Proofs.YtkiojenkpbkjpaaGreatDoor
open Go Go.RowKit Go.Shelf RV
attribute [local go_sem] Oper.semAt_some

theorem values_in (n r : Nat) (w : World) :
    CallsIn Fence.wide n Tryz.prog 153 #[.map (some r)] w fun e w' => e = .returned (.func (.func 209) #[] #[.pointer (some ⟨w.heap.size, 0, none⟩)]) ∧ w' = w.alloc (.cells #[.map (some r)] 160) := by
  refine callsIn_of_wp Tryz.func153 rfl trivial ?_ rfl
  simp only [Tryz.ntmps153, List.size_toArray, List.length_cons, List.length_nil, Nat.reduceAdd, Nat.reduceSub, Array.replicate_succ, Array.replicate_zero, List.push_toArray, List.append_toArray, List.nil_append, List.cons_append]
  gi_wp2
  go_ret
  exact ⟨rfl, rfl⟩

/-- What a round over the values of the map in block r keeps: the map, and what loops are under way. -/
def KpV (r : Nat) (A B : World) : Prop := KeepsWalks A B ∧ ∀ es clock, A.heap[r]? = some (.map es clock) → B.heap[r]? = some (.map es clock)
theorem KpV.trans {r : Nat} {A B C : World} (h : KpV r A B) (k : KpV r B C) : KpV r A C := ⟨⟨Nat.le_trans h.1.size k.1.size, fun i o hi ho => k.1.same i o (h.1.same i o hi ho) ho⟩, fun es c e => k.2 es c (h.2 es c e)⟩
theorem KpV.of {r : Nat} {A B : World} (h : KeepsOthers A B) : KpV r A B := ⟨h.walks, fun _ _ e => h.same _ _ e rfl⟩
theorem IsI.keeps {it r : Nat} {w w' : World} (hk : KpV r w w') {m rest : List Ch} (h : IsI w it r m rest) : IsI w' it r m rest := by
  obtain ⟨es, clock, since, seen, c0, hb, hf, hp, hr, h⟩ := h
  exact ⟨es, clock, since, seen, c0, hk.2 _ _ hb, hf, hp, hk.1.same _ _ hr rfl, h⟩
theorem IsI.left {w : World} {it r : Nat} {m rest : List Ch} (h : IsI w it r m rest) : World.rangeLeft w r it = rest.length := by
  obtain ⟨es, clock, since, seen, c0, hb, hf, hp, hr, _, _, _, hl⟩ := h
  have := congrArg List.length hl
  simp only [List.length_map, Array.length_toList] at this
  simp only [World.rangeLeft, hb, hr]
  exact this
theorem IsI.walk {w : World} {it r : Nat} {m rest : List Ch} (h : IsI w it r m rest) : ∃ o : Obj, w.heap[it]? = some o ∧ o.isWalk = true := by
  obtain ⟨es, clock, since, seen, c0, hb, hf, hp, hr, _⟩ := h
  exact ⟨_, hr, rfl⟩

set_option maxRecDepth 100000 in
set_option maxHeartbeats 2000000 in
theorem values1_in (n : Nat) (hn : 3 ≤ n) (l B r : Nat) (m : List Ch) (J Jx : List Ch → World → Prop) (W : World) (hBn : W.cell? ⟨B, 0, none⟩ = some (.map (some r))) (hM : IsM W r m) (hJ : AbidesFrom W.heap.size J)
    (hY : ∀ pre x W1, J pre W1 → pre.length < m.length → YieldAt Fence.wide (n - 1) Tryz.prog l #[chV x] W1 fun e W' =>
      (e = .returned (.bool true) ∧ J (pre ++ [x]) W' ∧ KpV r W1 W') ∨ (e = .returned (.bool false) ∧ Jx (pre ++ [x]) W'))
    (h0 : J [] W) :
    CallsIn Fence.wide n Tryz.prog 209 #[.func (.yield l) #[] #[], .pointer (some ⟨B, 0, none⟩)] W fun e W' => (∃ v, e = .returned v) ∧
      ((∃ xs, xs.Perm m ∧ J xs W') ∨ (∃ pre, (∃ rest, (pre ++ rest).Perm m) ∧ Jx pre W')) := by
  obtain ⟨W0, hrun, hI, hg⟩ := range_run hM
  refine callsIn_of_wp Tryz.func209 rfl trivial ?_ rfl
  simp only [Tryz.ntmps209, List.size_toArray, List.length_cons, List.length_nil, Nat.reduceAdd, Nat.reduceSub, Array.replicate_succ, Array.replicate_zero, List.push_toArray, List.append_toArray, List.nil_append, List.cons_append]
  gi_wp2
  gi_loopw [7] (fun t wr => ∃ (pre rest : List Ch), (pre ++ rest).Perm m ∧ IsI wr W.heap.size r m rest ∧ J pre wr) (fun t wr => World.rangeLeft wr r W.heap.size)
  case atStart => exact ⟨[], m, List.Perm.refl _, hI, hJ _ _ _ none h0 ⟨hg.os, hg.tape, hg.output, hg.size, fun k hk _ => Below.block hg k hk⟩ (fun _ e => by cases e)⟩
  case round =>
    obtain ⟨pre, rest, hpm, hIr, hJr⟩ := hrel
    rcases next_run hIr 0 with ⟨rfl, hrun1⟩ | ⟨c, rest', w1, hperm, hrun1, hI1, hg1, hent⟩
    · gi_wp2
      go_end0
      exact ⟨⟨_, rfl⟩, .inl ⟨pre, by simpa using hpm, hJr⟩⟩
    · have hlen := hpm.length_eq
      have hl2 := hperm.length_eq
      simp only [List.length_append, List.length_cons] at hlen hl2
      have hpm2 : ((pre ++ [c]) ++ rest').Perm m := by
        rw [List.append_assoc]
        exact ((hperm.symm).append_left pre).trans hpm
      have hJ1 : J pre w1 := hJ _ _ _ _ hJr hg1 (fun k e => by cases e; exact ⟨Nat.le_refl _, hIr.walk⟩)
      have hJ2 : J pre (w1.alloc (.cells #[.int .i64 c.name.kind, .string c.name.owner, .int .i64 c.name.number, .int .i64 c.name.index, .string c.name.text, .string c.value, .bool c.absent] 66)) := hJ _ _ _ none hJ1 (World.grownBy_alloc _ _ _) (fun _ e => by cases e)
      obtain ⟨fn, tmps, assign, body, hy, hR⟩ := hY pre c _ hJ2 (by omega)
      gi_wp2
      refine ⟨fun _ => by omega, hR.mono ?_⟩
      rintro e W3 (⟨rfl, hJ3, hk3⟩ | ⟨rfl, hJx3⟩)
      · have hI3 := (hI1.keeps (KpV.of (KeepsOthers.alloc _ _))).keeps hk3
        gi_wp2
        go_roundw
        case rel => exact ⟨pre ++ [c], rest', hpm2, hI3, hJ3⟩
        case measure => rw [hI3.left, hIr.left]; omega
      · gi_wp2
        refine bodyPost_ret (results_none rfl _ _ _) rfl ?_
        exact ⟨⟨_, rfl⟩, .inr ⟨pre ++ [c], ⟨rest', hpm2⟩, hJx3⟩⟩

theorem KpV.putObj {r : Nat} (W : World) (l : Nat) (o o' : Obj) (hr : r < l) (hl : W.heap[l]? = some o) (ho : o.isWalk = false) : KpV r W (W.putObj l o') := by
  refine ⟨⟨by simp, fun k u hk hu => ?_⟩, fun es c hb => ?_⟩
  · have hne : k ≠ l := fun e => by subst e; rw [hl] at hk; cases hk; rw [ho] at hu; cases hu
    exact ((grownBy_putObj' W l o').block k (Array.getElem?_eq_some_iff.1 hk).1 (by simpa using hne)).trans hk
  · exact ((grownBy_putObj' W l o').block r (Array.getElem?_eq_some_iff.1 hb).1 (by simp; omega)).trans hb

theorem values_stops (n : Nat) (hn : 3 ≤ n) (B r : Nat) (m : List Ch) (w : World) (hB : w.cell? ⟨B, 0, none⟩ = some (.map (some r))) (hM : IsM w r m) :
    SeqStopsK Fence.wide n Tryz.prog 209 #[.pointer (some ⟨B, 0, none⟩)] (fun x : Ch => #[chV x]) (KpV r) (fun ys => ys.Perm m) (fun pre => ∃ rest, (pre ++ rest).Perm m) m.length w := fun l J Jx W hW hJ _ hY h0 =>
  values1_in n hn l B r m J Jx W (Grew.cell hW hB) (hM.grew hW) hJ hY h0
end Go.Proofs.YtkiojenkpbkjpaaGreatDoor
