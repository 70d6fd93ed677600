/- Walk: Name.Check. -/
import Derived.Test.YtkiojenkpbkjpaaGreatDoorCheckK
set_option linter.unusedVariables false
set_option linter.unusedSimpArgs false
namespace Go.Proofs.YtkiojenkpbkjpaaGreatDoor
open Go Go.RowKit Go.Shelf RV
set_option maxHeartbeats 2000000

theorem cell_alloc_old {w : World} (o : Obj) {a : Addr} {v : Value} (h : w.cell? a = some v) : (w.alloc o).cell? a = some v := (Grew.alloc w o).cell h
theorem valid_none {s : ByteArray} (h : (ords (bl s)).isNone = true) : validB s = false := by
  unfold validB
  cases ho : ords (bl s) with
  | none => rfl
  | some x => rw [ho] at h; cases h
theorem valid_absurd {s : ByteArray} (h1 : validB s = false) (h : (ords (bl s)).isNone = false) : False := by
  unfold validB at h1
  cases ho : ords (bl s) with
  | none => rw [ho] at h; cases h
  | some x => rw [ho] at h1; cases h1
theorem word_absurd {s : ByteArray} (h1 : wordB s = false) (h : (!wordB s) = false) : False := by rw [h1] at h; cases h
set_option maxRecDepth 100000 in
theorem check_any (n : Nm) (h1 : 1 ≤ n.kind) (h2 : n.kind ≤ 20) (ho : n.owner.size ≤ maxLen) (ht : n.text.size ≤ maxLen) (w : World) : Calls Tryz.prog 80 #[nmV n] w fun e w' => e = .returned (.int .i64 (checkN n)) ∧ Grew w w' := by
  go_enter Tryz.func80, Tryz.ntmps80
  go_wp2_with fail
  obtain ⟨w1, hw1⟩ : ∃ w1, w1 = (w.alloc (.cells #[.int .i64 n.kind, .string n.owner, .int .i64 n.number, .int .i64 n.index, .string n.text] 32)) := ⟨_, rfl⟩
  have hg1 : Grew w w1 := by rw [hw1]; exact Grew.alloc _ _
  have c0 : w1.cell? ⟨w.heap.size, 0, none⟩ = some (.int .i64 n.kind) := by rw [hw1]; simp [go_sem]
  have c1 : w1.cell? ⟨w.heap.size, 1, none⟩ = some (.string n.owner) := by rw [hw1]; simp [go_sem]
  have c2 : w1.cell? ⟨w.heap.size, 2, none⟩ = some (.int .i64 n.number) := by rw [hw1]; simp [go_sem]
  have c3 : w1.cell? ⟨w.heap.size, 3, none⟩ = some (.int .i64 n.index) := by rw [hw1]; simp [go_sem]
  have c4 : w1.cell? ⟨w.heap.size, 4, none⟩ = some (.string n.text) := by rw [hw1]; simp [go_sem]
  rw [← hw1]
  clear hw1
  rename_i KK hKK
  obtain ⟨QQ, hQQ⟩ : ∃ QQ : Act → World → Prop, ∀ a W, QQ a W ↔ (∃ (b : Nat) (wd : ByteArray), a = { tmps := #[nmV n, .pointer (some ⟨w.heap.size, 0, none⟩), .int .i64 0, .pointer (some ⟨b, 0, none⟩), .pointer (some ⟨w.heap.size, 0, none⟩), .int .i64 n.kind, .bool (decide (n.kind < 1)), .bool (decide (n.kind < 1)), .pointer (some ⟨w.heap.size, 0, none⟩), .int .i64 n.kind, .bool (decide (20 < n.kind)), .bool (decide (n.kind < 1) || decide (20 < n.kind)), .agg usesA, .pointer (some ⟨w.heap.size, 0, none⟩), .int .i64 n.kind, .agg #[.string wd, .bool (kOwner n.kind), .bool (kNumber n.kind), .bool (kText n.kind), .int .i64 (kMost n.kind)], undef, undef, undef, undef, undef, undef, undef, undef, undef, undef, undef, undef, undef, undef, undef, undef, undef, undef, undef, undef, undef, undef, undef, undef, undef, undef, undef, undef, undef, undef, undef, undef, undef, undef, undef, undef, undef, undef, undef, undef, undef, undef, undef, undef, undef, undef, undef, undef, undef, undef, undef, undef, undef, undef, undef, undef, undef, undef, undef, undef, undef, undef, undef, undef, undef, undef, undef, undef, undef, undef, undef, undef, undef, undef, undef], defers := [] } ∧ Grew w1 W ∧
      W.cell? ⟨b, 0, none⟩ = some (.string wd) ∧ W.cell? ⟨b, 1, none⟩ = some (.bool (kOwner n.kind)) ∧ W.cell? ⟨b, 2, none⟩ = some (.bool (kNumber n.kind)) ∧ W.cell? ⟨b, 3, none⟩ = some (.bool (kText n.kind)) ∧ W.cell? ⟨b, 4, none⟩ = some (.int .i64 (kMost n.kind))) := ⟨_, fun _ _ => Iff.rfl⟩
  refine Go.wp_mono (Q := fun e a W => match e with | .normal => QQ a W | _ => False) ?_ ?_
  · have hix := index_uses h1 h2
    generalize wdOf n.kind = wd0 at hix
    generalize hko : kOwner n.kind = ko at hix
    generalize hkn : kNumber n.kind = kn at hix
    generalize hkt : kText n.kind = kt at hix
    generalize hkm : kMost n.kind = km at hix
    replace hko := Lib.hid hko
    replace hkn := Lib.hid hkn
    replace hkt := Lib.hid hkt
    replace hkm := Lib.hid hkm
    replace hQQ := Lib.hid hQQ
    clear c1 c2 c3 c4
    have hlt : w.heap.size < w1.heap.size := World.block_lt_of_cell? w1 _ c0
    have hne : ¬ w.heap.size = w1.heap.size := by omega
    have hne2 : ¬ w1.heap.size = w.heap.size := by omega
    have c0a : (w1.drew.alloc (.cells #[.string ⟨#[]⟩, .bool false, .bool false, .bool false, .int .i64 0] 253)).cell? ⟨w.heap.size, 0, none⟩ = some (.int .i64 n.kind) := cell_alloc_old _ c0
    go_region_with (go_at_call 150; refine (uses_any _).mono ?_; rintro e w' ⟨rfl, hg⟩; replace c0 := hg.cell (show World.cell? _ _ = some (.int .i64 n.kind) by first | exact c0 | exact cell_alloc_old _ c0); have c0b := cell_alloc_old (.cells #[.string ⟨#[]⟩, .bool false, .bool false, .bool false, .int .i64 0] 253) c0; have hl' := World.block_lt_of_cell? _ _ c0; have hn' := Nat.ne_of_lt hl'; have hn'' := Nat.ne_of_gt hl'; try (have hzb := (Below.block hg w1.heap.size (by simp)).trans (heap_alloc_new _ _); have z0 := cell_of_row _ _ 0 _ _ _ hzb; have z1 := cell_of_row _ _ 1 _ _ _ hzb; have z2 := cell_of_row _ _ 2 _ _ _ hzb; have z3 := cell_of_row _ _ 3 _ _ _ hzb; have z4 := cell_of_row _ _ 4 _ _ _ hzb; have f0 := frozen_of_row _ _ 0 _ _ hzb; have f1 := frozen_of_row _ _ 1 _ _ hzb; have f2 := frozen_of_row _ _ 2 _ _ hzb; have f3 := frozen_of_row _ _ 3 _ _ hzb; have f4 := frozen_of_row _ _ 4 _ _ hzb))
    all_goals
      show QQ _ _
      refine (hQQ.out _ _).2 ⟨_, wd0, by rw [hko.out, hkn.out, hkt.out, hkm.out], ?_⟩
      rw [hko.out, hkn.out, hkt.out, hkm.out]
      refine ⟨?_, ?_, ?_, ?_, ?_, ?_⟩
    all_goals first
      | exact ((Grew.drew w1).trans hg).trans (Grew.alloc _ _)
      | exact (((((((Grew.drew w1).trans (Grew.alloc _ _)).trans hg).setCell (p := ⟨w1.heap.size, 0, none⟩) (Nat.le_refl _) _).setCell (p := ⟨w1.heap.size, 1, none⟩) (Nat.le_refl _) _).setCell (p := ⟨w1.heap.size, 2, none⟩) (Nat.le_refl _) _).setCell (p := ⟨w1.heap.size, 3, none⟩) (Nat.le_refl _) _).setCell (p := ⟨w1.heap.size, 4, none⟩) (Nat.le_refl _) _
      | (simp [go_sem]; done)
      | (simp [go_sem, z0, z1, z2, z3, z4]; done)
      | trace_state
  · intro e a W hq
    cases e with
    | normal => ?_
    | _ => exact hq.elim
    replace hq := (hQQ a W).1 hq
    clear hQQ QQ
    revert hq
    rintro ⟨b, wd, rfl, hg, k0, k1, k2, k3, k4⟩
    replace c1 := hg.cell c1
    replace c2 := hg.cell c2
    replace c3 := hg.cell c3
    replace c4 := hg.cell c4
    clear c0
    go_simp
    refine hKK _ _ ?_
    refine wp_seq_k fun K3 hK3 => ?_
    refine wp_block ?_
    refine wp_seq_k fun K4 hK4 => ?_
    refine Go.wp_mono (Q := fun e a W2 => e = .normal ∧ W2 = W ∧ ∃ (bv : Bool) (x17 x18 x19 x20 x21 x22 x23 x24 x25 x26 x27 x28 x29 x30 x31 x32 x33 x34 x35 x36 x37 x38 x39 x40 x41 x42 x43 x44 x45 x46 x47 x48 x49 x50 x51 x52 x53 x54 : Value), a = { tmps := #[nmV n, .pointer (some ⟨w.heap.size, 0, none⟩), .int .i64 0, .pointer (some ⟨b, 0, none⟩), .pointer (some ⟨w.heap.size, 0, none⟩), .int .i64 n.kind, .bool (decide (n.kind < 1)), .bool (decide (n.kind < 1)), .pointer (some ⟨w.heap.size, 0, none⟩), .int .i64 n.kind, .bool (decide (20 < n.kind)), .bool (decide (n.kind < 1) || decide (20 < n.kind)), .agg usesA, .pointer (some ⟨w.heap.size, 0, none⟩), .int .i64 n.kind, .agg #[.string wd, .bool (kOwner n.kind), .bool (kNumber n.kind), .bool (kText n.kind), .int .i64 (kMost n.kind)], .bool bv, x17, x18, x19, x20, x21, x22, x23, x24, x25, x26, x27, x28, x29, x30, x31, x32, x33, x34, x35, x36, x37, x38, x39, x40, x41, x42, x43, x44, x45, x46, x47, x48, x49, x50, x51, x52, x53, x54, undef, undef, undef, undef, undef, undef, undef, undef, undef, undef, undef, undef, undef, undef, undef, undef, undef, undef, undef, undef, undef, undef, undef, undef, undef, undef, undef, undef, undef, undef, undef, undef, undef, undef, undef, undef], defers := [] } ∧ (bv = true ↔ ((kOwner n.kind = false ∧ n.owner.toList ≠ []) ∨ (kNumber n.kind = false ∧ n.number ≠ 0) ∨ (kMost n.kind < 0 ∧ n.index ≠ 0) ∨ (kText n.kind = false ∧ n.text.toList ≠ [])))) ?_ ?_
    · go_wp2
      all_goals first | omega | exact Classical.em _ | (by_cases hT : n.text.toList = [] <;> simp [hT] <;> omega)
    · rintro e a W2 ⟨rfl, rfl, bv, x17, x18, x19, x20, x21, x22, x23, x24, x25, x26, x27, x28, x29, x30, x31, x32, x33, x34, x35, x36, x37, x38, x39, x40, x41, x42, x43, x44, x45, x46, x47, x48, x49, x50, x51, x52, x53, x54, rfl, hbv⟩
      by_cases hA : ((kOwner n.kind = false ∧ n.owner.toList ≠ []) ∨ (kNumber n.kind = false ∧ n.number ≠ 0) ∨ (kMost n.kind < 0 ∧ n.index ≠ 0) ∨ (kText n.kind = false ∧ n.text.toList ≠ []))
      · obtain rfl : bv = true := hbv.2 hA
        have hr := Lib.hid (checkN_one h1 h2 hA)
        clear hbv hA
        refine hK4 _ _ ?_
        go_wp2
        go_ret
        exact ⟨by rw [hr.out]; rfl, hg1.trans hg⟩
      · obtain rfl : bv = false := by simpa using mt hbv.1 hA
        have hr := Lib.hid (checkN_more h1 h2 hA)
        clear hbv hA
        refine hK4 _ _ ?_
        replace hg1 := hg1.trans hg
        clear hg
        go_wp2_with (first
          | (go_at_call 136; refine (valid_any _ ho _).mono ?_; rintro e w' ⟨rfl, hg⟩; replace hg1 := hg1.trans hg; replace c1 := hg.cell c1; replace c2 := hg.cell c2; replace c3 := hg.cell c3; replace c4 := hg.cell c4; replace k0 := hg.cell k0; replace k1 := hg.cell k1; replace k2 := hg.cell k2; replace k3 := hg.cell k3; replace k4 := hg.cell k4; clear hg)
          | (go_at_call 137; refine (number_any _ _).mono ?_; rintro e w' ⟨rfl, rfl⟩)
          | (go_at_call 151; refine (word_any _ ht _).mono ?_; rintro e w' ⟨rfl, hg⟩; replace hg1 := hg1.trans hg; clear hg))
        all_goals
          go_ret
          refine ⟨?_, hg1⟩
          rw [hr.out]
          first
            | (rw [if_pos ⟨‹kOwner n.kind = true›, valid_none ‹(ords (bl n.owner)).isNone = true›⟩]; rfl)
            | ((first | rw [if_neg (fun h => absurd h.1 ‹¬kOwner n.kind = true›)] | rw [if_neg (fun h => valid_absurd h.2 ‹(ords (bl n.owner)).isNone = false›)]); rw [if_pos (by omega)]; rfl)
            | ((first | rw [if_neg (fun h => absurd h.1 ‹¬kOwner n.kind = true›)] | rw [if_neg (fun h => valid_absurd h.2 ‹(ords (bl n.owner)).isNone = false›)]); rw [if_neg (by omega)]; first | (rw [if_pos ⟨‹kText n.kind = true›, by simpa using ‹(!wordB n.text) = true›⟩]; rfl) | (rw [if_neg (fun h => absurd h.1 ‹¬kText n.kind = true›)]; rfl) | (rw [if_neg (fun h => word_absurd h.2 ‹(!wordB n.text) = false›)]; rfl))
end Go.Proofs.YtkiojenkpbkjpaaGreatDoor
