/- Walks: join and balance. -/
import Derived.Test.YtkiojenkpbkjpaaGreatDoorTreeA
import Derived.Test.YtkiojenkpbkjpaaGreatDoorGrow
set_option linter.unusedVariables false
set_option linter.unusedSimpArgs false
namespace Go.Proofs.YtkiojenkpbkjpaaGreatDoor
open Go Go.RowKit RV
set_option maxRecDepth 100000 in
set_option maxHeartbeats 1000000 in
theorem join_any {pl pr : Option Addr} {l r : T} (n : Nm) (v : ByteArray) (w : World) (hl : IsT w pl l) (hr : IsT w pr r) (hb : l.many + r.many < 1000000) (ht : v.size + l.total + r.total < 1000000000000) :
    Calls Tryz.prog 203 #[.pointer pl, nmV n, .string v, .pointer pr] w fun e w' => ∃ p, e = .returned (.pointer p) ∧ IsT w' p (.node l n v r) ∧ Grew w w' := by
  have hal := T.tall_le_many l
  have har := T.tall_le_many r
  go_enter Tryz.func203, Tryz.ntmps203
  go_wp2
  obtain ⟨w1, hw1⟩ : ∃ w1, w1 = (w.alloc (.cells #[.int .i64 n.kind, .string n.owner, .int .i64 n.number, .int .i64 n.index, .string n.text] 32)) := ⟨_, rfl⟩
  have hg1 : Grew w w1 := by rw [hw1]; exact Grew.alloc _ _
  have c0 : w1.cell? ⟨w.heap.size, 0, none⟩ = some (.int .i64 n.kind) := by rw [hw1]; simp [go_sem]
  have c1 : w1.cell? ⟨w.heap.size, 1, none⟩ = some (.string n.owner) := by rw [hw1]; simp [go_sem]
  have c2 : w1.cell? ⟨w.heap.size, 2, none⟩ = some (.int .i64 n.number) := by rw [hw1]; simp [go_sem]
  have c3 : w1.cell? ⟨w.heap.size, 3, none⟩ = some (.int .i64 n.index) := by rw [hw1]; simp [go_sem]
  have c4 : w1.cell? ⟨w.heap.size, 4, none⟩ = some (.string n.text) := by rw [hw1]; simp [go_sem]
  rw [← hw1]
  clear hw1
  have hl1 := hl.grew hg1
  have hr1 := hr.grew hg1
  refine wp_region_grow [Fx (nmV n), Fx (.string v), Fx (.pointer pl), Fx (.pointer pr), Fx (.pointer pl), Fx (.int .i64 (l.tall : Int)), Fx (.pointer pr), Fx (.int .i64 (r.tall : Int)), Fx (.int .i64 (max (l.tall : Int) (r.tall : Int))), Fx (.int .i64 ((1) + (max (l.tall : Int) (r.tall : Int)))), Fx (.pointer pl), Fx (.int .i64 (l.many : Int)), Fx (.int .i64 ((1) + (l.many : Int))), Fx (.pointer pr), Fx (.int .i64 (r.many : Int)), Fx (.int .i64 (((1) + (l.many : Int)) + (r.many : Int))), Fx (.string v), Fx (.int .i64 ((v.size : Int))), Fx (.pointer pl), Fx (.int .i64 (l.total : Int)), Fx (.int .i64 (((v.size : Int)) + (l.total : Int))), Fx (.pointer pr), Fx (.int .i64 (r.total : Int)), Fx (.int .i64 ((((v.size : Int)) + (l.total : Int)) + (r.total : Int))), Fx (.agg #[.int .i64 n.kind, .string n.owner, .int .i64 n.number, .int .i64 n.index, .string n.text, .string v, .pointer pl, .pointer pr, .int .i64 ((1) + (max (l.tall : Int) (r.tall : Int))), .int .i64 (((1) + (l.many : Int)) + (r.many : Int)), .int .i64 ((((v.size : Int)) + (l.total : Int)) + (r.total : Int))]), PT (.node l n v r), PT (.node l n v r)] (by kernel_rfl) (by kernel_rfl) (by simp only [AllStable, Fx.stable, Any.stable, PT.stable, and_self]) ⟨?_, ?_, ?_, ?_, ?_, ?_, ?_, ?_, ?_, ?_, ?_, ?_, ?_, ?_, ?_, ?_, ?_, ?_, ?_, ?_, ?_, ?_, ?_, ?_, ?_, ?_, ?_, trivial⟩ ?_
  · -- 0: load 32, t5
    intro a' W hG hd hΦ h0 K hK
    have e5 : a'.tmps[5]? = some (.pointer (some ⟨w.heap.size, 0, none⟩)) := h0 5 (by kernel_rfl)
    have c0 := hG.cell c0
    have c1 := hG.cell c1
    have c2 := hG.cell c2
    have c3 := hG.cell c3
    have c4 := hG.cell c4
    clear hd hΦ h0
    go_simp
    exact hK _ _ (Below.refl _ _) rfl
  · -- 1: move t2
    intro a' W hG hd hΦ h0 K hK
    have e2 : a'.tmps[2]? = some (.string v) := h0 2 (by kernel_rfl)
    clear hd hΦ h0
    go_simp
    exact hK _ _ (Below.refl _ _) rfl
  · -- 2: move t0
    intro a' W hG hd hΦ h0 K hK
    have e0 : a'.tmps[0]? = some (.pointer pl) := h0 0 (by kernel_rfl)
    clear hd hΦ h0
    go_simp
    exact hK _ _ (Below.refl _ _) rfl
  · -- 3: move t3
    intro a' W hG hd hΦ h0 K hK
    have e3 : a'.tmps[3]? = some (.pointer pr) := h0 3 (by kernel_rfl)
    clear hd hΦ h0
    go_simp
    exact hK _ _ (Below.refl _ _) rfl
  · -- 4: move t0
    intro a' W hG hd hΦ h0 K hK
    have e0 : a'.tmps[0]? = some (.pointer pl) := h0 0 (by kernel_rfl)
    clear hd hΦ h0
    go_simp
    exact hK _ _ (Below.refl _ _) rfl
  · -- 5: call F262{(*replevin/state.tree).tall}(t13)
    intro a' W hG hd hΦ h0 K hK
    have e13 : a'.tmps[13]? = some (.pointer pl) := fx (W := W) (hΦ 4 13 (by kernel_rfl) (by kernel_rfl))
    clear hd hΦ h0
    go_simp
    refine (tall_any _ (hl1.grew hG)).mono ?_
    rintro e w' ⟨rfl, rfl⟩
    exact hK _ _ (Below.refl _ _) rfl
  · -- 6: move t3
    intro a' W hG hd hΦ h0 K hK
    have e3 : a'.tmps[3]? = some (.pointer pr) := h0 3 (by kernel_rfl)
    clear hd hΦ h0
    go_simp
    exact hK _ _ (Below.refl _ _) rfl
  · -- 7: call F262{(*replevin/state.tree).tall}(t15)
    intro a' W hG hd hΦ h0 K hK
    have e15 : a'.tmps[15]? = some (.pointer pr) := fx (W := W) (hΦ 6 15 (by kernel_rfl) (by kernel_rfl))
    clear hd hΦ h0
    go_simp
    refine (tall_any _ (hr1.grew hG)).mono ?_
    rintro e w' ⟨rfl, rfl⟩
    exact hK _ _ (Below.refl _ _) rfl
  · -- 8: builtin max(t14, t16) [3, 3]
    intro a' W hG hd hΦ h0 K hK
    have e14 : a'.tmps[14]? = some (.int .i64 (l.tall : Int)) := fx (W := W) (hΦ 5 14 (by kernel_rfl) (by kernel_rfl))
    have e16 : a'.tmps[16]? = some (.int .i64 (r.tall : Int)) := fx (W := W) (hΦ 7 16 (by kernel_rfl) (by kernel_rfl))
    clear hd hΦ h0
    go_simp
    exact hK _ _ (Below.refl _ _) rfl
  · -- 9: binOp add, 3, 1, t17, 3
    intro a' W hG hd hΦ h0 K hK
    have e17 : a'.tmps[17]? = some (.int .i64 (max (l.tall : Int) (r.tall : Int))) := fx (W := W) (hΦ 8 17 (by kernel_rfl) (by kernel_rfl))
    clear hd hΦ h0
    go_simp
    rw [i64w (by omega) (by omega)]; exact hK _ _ (Below.refl _ _) rfl
  · -- 10: move t0
    intro a' W hG hd hΦ h0 K hK
    have e0 : a'.tmps[0]? = some (.pointer pl) := h0 0 (by kernel_rfl)
    clear hd hΦ h0
    go_simp
    exact hK _ _ (Below.refl _ _) rfl
  · -- 11: call F202{(*replevin/state.tree).many}(t19)
    intro a' W hG hd hΦ h0 K hK
    have e19 : a'.tmps[19]? = some (.pointer pl) := fx (W := W) (hΦ 10 19 (by kernel_rfl) (by kernel_rfl))
    clear hd hΦ h0
    go_simp
    refine (many_any _ (hl1.grew hG)).mono ?_
    rintro e w' ⟨rfl, rfl⟩
    exact hK _ _ (Below.refl _ _) rfl
  · -- 12: binOp add, 3, 1, t20, 3
    intro a' W hG hd hΦ h0 K hK
    have e20 : a'.tmps[20]? = some (.int .i64 (l.many : Int)) := fx (W := W) (hΦ 11 20 (by kernel_rfl) (by kernel_rfl))
    clear hd hΦ h0
    go_simp
    rw [i64w (by omega) (by omega)]; exact hK _ _ (Below.refl _ _) rfl
  · -- 13: move t3
    intro a' W hG hd hΦ h0 K hK
    have e3 : a'.tmps[3]? = some (.pointer pr) := h0 3 (by kernel_rfl)
    clear hd hΦ h0
    go_simp
    exact hK _ _ (Below.refl _ _) rfl
  · -- 14: call F202{(*replevin/state.tree).many}(t22)
    intro a' W hG hd hΦ h0 K hK
    have e22 : a'.tmps[22]? = some (.pointer pr) := fx (W := W) (hΦ 13 22 (by kernel_rfl) (by kernel_rfl))
    clear hd hΦ h0
    go_simp
    refine (many_any _ (hr1.grew hG)).mono ?_
    rintro e w' ⟨rfl, rfl⟩
    exact hK _ _ (Below.refl _ _) rfl
  · -- 15: binOp add, 3, t21, t23, 3
    intro a' W hG hd hΦ h0 K hK
    have e21 : a'.tmps[21]? = some (.int .i64 ((1) + (l.many : Int))) := fx (W := W) (hΦ 12 21 (by kernel_rfl) (by kernel_rfl))
    have e23 : a'.tmps[23]? = some (.int .i64 (r.many : Int)) := fx (W := W) (hΦ 14 23 (by kernel_rfl) (by kernel_rfl))
    clear hd hΦ h0
    go_simp
    rw [i64w (by omega) (by omega)]; exact hK _ _ (Below.refl _ _) rfl
  · -- 16: move t2
    intro a' W hG hd hΦ h0 K hK
    have e2 : a'.tmps[2]? = some (.string v) := h0 2 (by kernel_rfl)
    clear hd hΦ h0
    go_simp
    exact hK _ _ (Below.refl _ _) rfl
  · -- 17: builtin len(t25) [9]
    intro a' W hG hd hΦ h0 K hK
    have e25 : a'.tmps[25]? = some (.string v) := fx (W := W) (hΦ 16 25 (by kernel_rfl) (by kernel_rfl))
    clear hd hΦ h0
    go_simp
    exact hK _ _ (Below.refl _ _) rfl
  · -- 18: move t0
    intro a' W hG hd hΦ h0 K hK
    have e0 : a'.tmps[0]? = some (.pointer pl) := h0 0 (by kernel_rfl)
    clear hd hΦ h0
    go_simp
    exact hK _ _ (Below.refl _ _) rfl
  · -- 19: call F263{(*replevin/state.tree).total}(t27)
    intro a' W hG hd hΦ h0 K hK
    have e27 : a'.tmps[27]? = some (.pointer pl) := fx (W := W) (hΦ 18 27 (by kernel_rfl) (by kernel_rfl))
    clear hd hΦ h0
    go_simp
    refine (total_any _ (hl1.grew hG)).mono ?_
    rintro e w' ⟨rfl, rfl⟩
    exact hK _ _ (Below.refl _ _) rfl
  · -- 20: binOp add, 3, t26, t28, 3
    intro a' W hG hd hΦ h0 K hK
    have e26 : a'.tmps[26]? = some (.int .i64 ((v.size : Int))) := fx (W := W) (hΦ 17 26 (by kernel_rfl) (by kernel_rfl))
    have e28 : a'.tmps[28]? = some (.int .i64 (l.total : Int)) := fx (W := W) (hΦ 19 28 (by kernel_rfl) (by kernel_rfl))
    clear hd hΦ h0
    go_simp
    rw [i64w (by omega) (by omega)]; exact hK _ _ (Below.refl _ _) rfl
  · -- 21: move t3
    intro a' W hG hd hΦ h0 K hK
    have e3 : a'.tmps[3]? = some (.pointer pr) := h0 3 (by kernel_rfl)
    clear hd hΦ h0
    go_simp
    exact hK _ _ (Below.refl _ _) rfl
  · -- 22: call F263{(*replevin/state.tree).total}(t30)
    intro a' W hG hd hΦ h0 K hK
    have e30 : a'.tmps[30]? = some (.pointer pr) := fx (W := W) (hΦ 21 30 (by kernel_rfl) (by kernel_rfl))
    clear hd hΦ h0
    go_simp
    refine (total_any _ (hr1.grew hG)).mono ?_
    rintro e w' ⟨rfl, rfl⟩
    exact hK _ _ (Below.refl _ _) rfl
  · -- 23: binOp add, 3, t29, t31, 3
    intro a' W hG hd hΦ h0 K hK
    have e29 : a'.tmps[29]? = some (.int .i64 (((v.size : Int)) + (l.total : Int))) := fx (W := W) (hΦ 20 29 (by kernel_rfl) (by kernel_rfl))
    have e31 : a'.tmps[31]? = some (.int .i64 (r.total : Int)) := fx (W := W) (hΦ 22 31 (by kernel_rfl) (by kernel_rfl))
    clear hd hΦ h0
    go_simp
    rw [i64w (by omega) (by omega)]; exact hK _ _ (Below.refl _ _) rfl
  · -- 24: build 211, [<0, t9>, <1, t10>, <2, t11>, <3, t12>, <4, t18>, <5, t24>, <6, t32>]
    intro a' W hG hd hΦ h0 K hK
    have e9 : a'.tmps[9]? = some (nmV n) := fx (W := W) (hΦ 0 9 (by kernel_rfl) (by kernel_rfl))
    have e10 : a'.tmps[10]? = some (.string v) := fx (W := W) (hΦ 1 10 (by kernel_rfl) (by kernel_rfl))
    have e11 : a'.tmps[11]? = some (.pointer pl) := fx (W := W) (hΦ 2 11 (by kernel_rfl) (by kernel_rfl))
    have e12 : a'.tmps[12]? = some (.pointer pr) := fx (W := W) (hΦ 3 12 (by kernel_rfl) (by kernel_rfl))
    have e18 : a'.tmps[18]? = some (.int .i64 ((1) + (max (l.tall : Int) (r.tall : Int)))) := fx (W := W) (hΦ 9 18 (by kernel_rfl) (by kernel_rfl))
    have e24 : a'.tmps[24]? = some (.int .i64 (((1) + (l.many : Int)) + (r.many : Int))) := fx (W := W) (hΦ 15 24 (by kernel_rfl) (by kernel_rfl))
    have e32 : a'.tmps[32]? = some (.int .i64 ((((v.size : Int)) + (l.total : Int)) + (r.total : Int))) := fx (W := W) (hΦ 23 32 (by kernel_rfl) (by kernel_rfl))
    clear hd hΦ h0
    go_simp
    exact hK _ _ (Below.refl _ _) rfl
  · -- 25: box 211, t33
    intro a' W hG hd hΦ h0 K hK
    have e33 : a'.tmps[33]? = some (.agg #[.int .i64 n.kind, .string n.owner, .int .i64 n.number, .int .i64 n.index, .string n.text, .string v, .pointer pl, .pointer pr, .int .i64 ((1) + (max (l.tall : Int) (r.tall : Int))), .int .i64 (((1) + (l.many : Int)) + (r.many : Int)), .int .i64 ((((v.size : Int)) + (l.total : Int)) + (r.total : Int))]) := fx (W := W) (hΦ 24 33 (by kernel_rfl) (by kernel_rfl))
    clear hd hΦ h0
    go_simp
    refine hK _ _ (Grew.alloc _ _) ⟨_, rfl, isT_alloc (hl1.grew hG) (hr1.grew hG)⟩
  · -- 26: assign t34
    intro a' W hG hd hΦ h0 K hK
    obtain ⟨_, e34, p34, rfl, h34⟩ := hΦ 25 34 (by kernel_rfl) (by kernel_rfl)
    clear hd hΦ h0
    go_simp
    exact hK _ _ (Below.refl _ _) ⟨_, rfl, h34⟩
  intro W hG
  simp only [FinG, Fx, Any, forall_eq, true_implies]
  rintro _ - v2 ⟨p, rfl, hp⟩
  go_simp
  go_wp2
  go_ret
  exact ⟨p, rfl, hp, hg1.trans hG⟩

set_option maxRecDepth 100000 in
set_option maxHeartbeats 1000000 in
theorem bal_none {pl pr : Option Addr} {l r : T} (n : Nm) (v : ByteArray) (w : World) (hl : IsT w pl l) (hr : IsT w pr r) (hb : l.many + r.many < 1000000) (ht : v.size + l.total + r.total < 1000000000000) (h1 : ¬ r.tall + 1 < l.tall) (h2 : ¬ l.tall + 1 < r.tall) :
    Calls Tryz.prog 204 #[.pointer pl, nmV n, .string v, .pointer pr] w fun e w' => ∃ p, e = .returned (.pointer p) ∧ IsT w' p (.node l n v r) ∧ Grew w w' := by
  have hal := T.tall_le_many l
  have har := T.tall_le_many r
  go_enter Tryz.func204, Tryz.ntmps204
  go_wp2_with fail
  obtain ⟨w1, hw1⟩ : ∃ w1, w1 = (w.alloc (.cells #[.int .i64 n.kind, .string n.owner, .int .i64 n.number, .int .i64 n.index, .string n.text] 32)) := ⟨_, rfl⟩
  have hg1 : Grew w w1 := by rw [hw1]; exact Grew.alloc _ _
  have c0 : w1.cell? ⟨w.heap.size, 0, none⟩ = some (.int .i64 n.kind) := by rw [hw1]; simp [go_sem]
  have c1 : w1.cell? ⟨w.heap.size, 1, none⟩ = some (.string n.owner) := by rw [hw1]; simp [go_sem]
  have c2 : w1.cell? ⟨w.heap.size, 2, none⟩ = some (.int .i64 n.number) := by rw [hw1]; simp [go_sem]
  have c3 : w1.cell? ⟨w.heap.size, 3, none⟩ = some (.int .i64 n.index) := by rw [hw1]; simp [go_sem]
  have c4 : w1.cell? ⟨w.heap.size, 4, none⟩ = some (.string n.text) := by rw [hw1]; simp [go_sem]
  rw [← hw1]
  clear hw1
  have hl1 := hl.grew hg1
  have hr1 := hr.grew hg1
  refine (tall_any _ hl1).mono ?_
  rintro e w' ⟨rfl, rfl⟩
  go_wp2_with fail
  refine (tall_any _ hr1).mono ?_
  rintro e w' ⟨rfl, rfl⟩
  go_wp2_with fail
  refine (tall_any _ hr1).mono ?_
  rintro e w' ⟨rfl, rfl⟩
  go_wp2_with fail
  refine (tall_any _ hl1).mono ?_
  rintro e w' ⟨rfl, rfl⟩
  go_wp2_with fail
  refine (join_any n v _ hl1 hr1 hb ht).mono ?_
  rintro e w' ⟨p, rfl, hp, hg⟩
  go_wp2
  go_ret
  exact ⟨p, rfl, hp, hg1.trans hg⟩

set_option maxRecDepth 100000 in
set_option maxHeartbeats 2000000 in
theorem bal_l1 {pl pr : Option Addr} {ll lr r : T} {ln : Nm} {lv : ByteArray} (n : Nm) (v : ByteArray) (w : World) (hl : IsT w pl (T.node ll ln lv lr)) (hr : IsT w pr r) (hb : (T.node ll ln lv lr).many + r.many < 1000000) (ht : v.size + (T.node ll ln lv lr).total + r.total < 1000000000000) (h1 : r.tall + 1 < (T.node ll ln lv lr).tall) (h2 : lr.tall ≤ ll.tall) :
    Calls Tryz.prog 204 #[.pointer pl, nmV n, .string v, .pointer pr] w fun e w' => ∃ p, e = .returned (.pointer p) ∧ IsT w' p (.node ll ln lv (.node lr n v r)) ∧ Grew w w' := by
  have hal := T.tall_le_many (T.node ll ln lv lr)
  have har := T.tall_le_many r
  go_enter Tryz.func204, Tryz.ntmps204
  go_wp2_with fail
  obtain ⟨w1, hw1⟩ : ∃ w1, w1 = (w.alloc (.cells #[.int .i64 n.kind, .string n.owner, .int .i64 n.number, .int .i64 n.index, .string n.text] 32)) := ⟨_, rfl⟩
  have hg1 : Grew w w1 := by rw [hw1]; exact Grew.alloc _ _
  have c0 : w1.cell? ⟨w.heap.size, 0, none⟩ = some (.int .i64 n.kind) := by rw [hw1]; simp [go_sem]
  have c1 : w1.cell? ⟨w.heap.size, 1, none⟩ = some (.string n.owner) := by rw [hw1]; simp [go_sem]
  have c2 : w1.cell? ⟨w.heap.size, 2, none⟩ = some (.int .i64 n.number) := by rw [hw1]; simp [go_sem]
  have c3 : w1.cell? ⟨w.heap.size, 3, none⟩ = some (.int .i64 n.index) := by rw [hw1]; simp [go_sem]
  have c4 : w1.cell? ⟨w.heap.size, 4, none⟩ = some (.string n.text) := by rw [hw1]; simp [go_sem]
  rw [← hw1]
  clear hw1
  have hl1 := hl.grew hg1
  have hr1 := hr.grew hg1
  refine (tall_any _ hl1).mono ?_
  rintro e w' ⟨rfl, rfl⟩
  go_wp2_with fail
  refine (tall_any _ hr1).mono ?_
  rintro e w' ⟨rfl, rfl⟩
  go_wp2_with fail
  obtain ⟨b, pll, plr, rfl, l0, l1, l2, l3, l4, l5, l6, l7, -, -, -, hll, hlr⟩ := hl1
  refine wp_region_grow [Fx (.pointer (some ⟨b, 0, none⟩)), Fx (.pointer (some ⟨b, 0, none⟩)), Fx (.pointer (some ⟨b, 6, none⟩)), Fx (.pointer pll), Fx (.int .i64 (ll.tall : Int)), Fx (.pointer (some ⟨b, 0, none⟩)), Fx (.pointer (some ⟨b, 0, none⟩)), Fx (.pointer (some ⟨b, 7, none⟩)), Fx (.pointer plr), Fx (.int .i64 (lr.tall : Int)), Fx (.bool (true))] (by kernel_rfl) (by kernel_rfl) (by simp only [AllStable, Fx.stable, Any.stable, and_self]) ⟨?_, ?_, ?_, ?_, ?_, ?_, ?_, ?_, ?_, ?_, ?_, trivial⟩ ?_
  · -- 0: move t0
    intro a' W hG hd hΦ h0 K hK
    have e0 : a'.tmps[0]? = some (.pointer (some ⟨b, 0, none⟩)) := h0 0 (by kernel_rfl)
    clear hd hΦ h0
    go_simp
    exact hK _ _ (Below.refl _ _) rfl
  · -- 1: nilCheck t18
    intro a' W hG hd hΦ h0 K hK
    have e18 : a'.tmps[18]? = some (.pointer (some ⟨b, 0, none⟩)) := fx (W := W) (hΦ 0 18 (by kernel_rfl) (by kernel_rfl))
    clear hd hΦ h0
    go_simp
    exact hK _ _ (Below.refl _ _) rfl
  · -- 2: fieldAddr 211, t19, 2
    intro a' W hG hd hΦ h0 K hK
    have e19 : a'.tmps[19]? = some (.pointer (some ⟨b, 0, none⟩)) := fx (W := W) (hΦ 1 19 (by kernel_rfl) (by kernel_rfl))
    clear hd hΦ h0
    go_simp
    exact hK _ _ (Below.refl _ _) rfl
  · -- 3: load 163, t20
    intro a' W hG hd hΦ h0 K hK
    have e20 : a'.tmps[20]? = some (.pointer (some ⟨b, 6, none⟩)) := fx (W := W) (hΦ 2 20 (by kernel_rfl) (by kernel_rfl))
    have l6 := hG.cell l6
    clear hd hΦ h0
    go_simp
    exact hK _ _ (Below.refl _ _) rfl
  · -- 4: call F262{(*replevin/state.tree).tall}(t21)
    intro a' W hG hd hΦ h0 K hK
    have e21 : a'.tmps[21]? = some (.pointer pll) := fx (W := W) (hΦ 3 21 (by kernel_rfl) (by kernel_rfl))
    clear hd hΦ h0
    go_simp
    refine (tall_any _ (hll.grew hG)).mono ?_
    rintro e w' ⟨rfl, rfl⟩
    exact hK _ _ (Below.refl _ _) rfl
  · -- 5: move t0
    intro a' W hG hd hΦ h0 K hK
    have e0 : a'.tmps[0]? = some (.pointer (some ⟨b, 0, none⟩)) := h0 0 (by kernel_rfl)
    clear hd hΦ h0
    go_simp
    exact hK _ _ (Below.refl _ _) rfl
  · -- 6: nilCheck t23
    intro a' W hG hd hΦ h0 K hK
    have e23 : a'.tmps[23]? = some (.pointer (some ⟨b, 0, none⟩)) := fx (W := W) (hΦ 5 23 (by kernel_rfl) (by kernel_rfl))
    clear hd hΦ h0
    go_simp
    exact hK _ _ (Below.refl _ _) rfl
  · -- 7: fieldAddr 211, t24, 3
    intro a' W hG hd hΦ h0 K hK
    have e24 : a'.tmps[24]? = some (.pointer (some ⟨b, 0, none⟩)) := fx (W := W) (hΦ 6 24 (by kernel_rfl) (by kernel_rfl))
    clear hd hΦ h0
    go_simp
    exact hK _ _ (Below.refl _ _) rfl
  · -- 8: load 163, t25
    intro a' W hG hd hΦ h0 K hK
    have e25 : a'.tmps[25]? = some (.pointer (some ⟨b, 7, none⟩)) := fx (W := W) (hΦ 7 25 (by kernel_rfl) (by kernel_rfl))
    have l7 := hG.cell l7
    clear hd hΦ h0
    go_simp
    exact hK _ _ (Below.refl _ _) rfl
  · -- 9: call F262{(*replevin/state.tree).tall}(t26)
    intro a' W hG hd hΦ h0 K hK
    have e26 : a'.tmps[26]? = some (.pointer plr) := fx (W := W) (hΦ 8 26 (by kernel_rfl) (by kernel_rfl))
    clear hd hΦ h0
    go_simp
    refine (tall_any _ (hlr.grew hG)).mono ?_
    rintro e w' ⟨rfl, rfl⟩
    exact hK _ _ (Below.refl _ _) rfl
  · -- 10: binOp geq, 3, t22, t27, 3
    intro a' W hG hd hΦ h0 K hK
    have e22 : a'.tmps[22]? = some (.int .i64 (ll.tall : Int)) := fx (W := W) (hΦ 4 22 (by kernel_rfl) (by kernel_rfl))
    have e27 : a'.tmps[27]? = some (.int .i64 (lr.tall : Int)) := fx (W := W) (hΦ 9 27 (by kernel_rfl) (by kernel_rfl))
    clear hd hΦ h0
    go_simp
    exact hK _ _ (Below.refl _ _) rfl
  intro W hG
  simp only [FinG, Fx, Any, forall_eq, true_implies]
  go_simp
  go_wp2_with fail
  replace hg1 := hg1.trans hG
  replace hr1 := hr1.grew hG
  replace hll := hll.grew hG
  replace hlr := hlr.grew hG
  replace c0 := hG.cell c0
  replace c1 := hG.cell c1
  replace c2 := hG.cell c2
  replace c3 := hG.cell c3
  replace c4 := hG.cell c4
  replace l0 := hG.cell l0
  replace l1 := hG.cell l1
  replace l2 := hG.cell l2
  replace l3 := hG.cell l3
  replace l4 := hG.cell l4
  replace l5 := hG.cell l5
  replace l6 := hG.cell l6
  replace l7 := hG.cell l7
  clear hG
  refine wp_region_grow [Fx (.pointer (some ⟨b, 0, none⟩)), Fx (.pointer (some ⟨b, 0, none⟩)), Fx (.pointer (some ⟨b, 6, none⟩)), Fx (.pointer pll), Fx (.pointer (some ⟨b, 0, none⟩)), Fx (.pointer (some ⟨b, 0, none⟩)), Fx (.pointer (some ⟨b, 0, none⟩)), Fx (nmV ln), Fx (.pointer (some ⟨b, 0, none⟩)), Fx (.pointer (some ⟨b, 0, none⟩)), Fx (.pointer (some ⟨b, 5, none⟩)), Fx (.string lv), Fx (.pointer (some ⟨b, 0, none⟩)), Fx (.pointer (some ⟨b, 0, none⟩)), Fx (.pointer (some ⟨b, 7, none⟩)), Fx (.pointer plr), Fx (nmV n), Fx (.string v), Fx (.pointer pr), PT (.node lr n v r), PT (.node ll ln lv (.node lr n v r)), PT (.node ll ln lv (.node lr n v r))] (by kernel_rfl) (by kernel_rfl) (by simp only [AllStable, Fx.stable, Any.stable, PT.stable, and_self]) ⟨?_, ?_, ?_, ?_, ?_, ?_, ?_, ?_, ?_, ?_, ?_, ?_, ?_, ?_, ?_, ?_, ?_, ?_, ?_, ?_, ?_, ?_, trivial⟩ ?_
  · -- 0: move t0
    intro a' W hG hd hΦ h0 K hK
    have e0 : a'.tmps[0]? = some (.pointer (some ⟨b, 0, none⟩)) := h0 0 (by kernel_rfl)
    clear hd hΦ h0
    go_simp
    exact hK _ _ (Below.refl _ _) rfl
  · -- 1: nilCheck t29
    intro a' W hG hd hΦ h0 K hK
    have e29 : a'.tmps[29]? = some (.pointer (some ⟨b, 0, none⟩)) := fx (W := W) (hΦ 0 29 (by kernel_rfl) (by kernel_rfl))
    clear hd hΦ h0
    go_simp
    exact hK _ _ (Below.refl _ _) rfl
  · -- 2: fieldAddr 211, t30, 2
    intro a' W hG hd hΦ h0 K hK
    have e30 : a'.tmps[30]? = some (.pointer (some ⟨b, 0, none⟩)) := fx (W := W) (hΦ 1 30 (by kernel_rfl) (by kernel_rfl))
    clear hd hΦ h0
    go_simp
    exact hK _ _ (Below.refl _ _) rfl
  · -- 3: load 163, t31
    intro a' W hG hd hΦ h0 K hK
    have e31 : a'.tmps[31]? = some (.pointer (some ⟨b, 6, none⟩)) := fx (W := W) (hΦ 2 31 (by kernel_rfl) (by kernel_rfl))
    have l6 := hG.cell l6
    clear hd hΦ h0
    go_simp
    exact hK _ _ (Below.refl _ _) rfl
  · -- 4: move t0
    intro a' W hG hd hΦ h0 K hK
    have e0 : a'.tmps[0]? = some (.pointer (some ⟨b, 0, none⟩)) := h0 0 (by kernel_rfl)
    clear hd hΦ h0
    go_simp
    exact hK _ _ (Below.refl _ _) rfl
  · -- 5: nilCheck t33
    intro a' W hG hd hΦ h0 K hK
    have e33 : a'.tmps[33]? = some (.pointer (some ⟨b, 0, none⟩)) := fx (W := W) (hΦ 4 33 (by kernel_rfl) (by kernel_rfl))
    clear hd hΦ h0
    go_simp
    exact hK _ _ (Below.refl _ _) rfl
  · -- 6: fieldAddr 211, t34, 0
    intro a' W hG hd hΦ h0 K hK
    have e34 : a'.tmps[34]? = some (.pointer (some ⟨b, 0, none⟩)) := fx (W := W) (hΦ 5 34 (by kernel_rfl) (by kernel_rfl))
    clear hd hΦ h0
    go_simp
    exact hK _ _ (Below.refl _ _) rfl
  · -- 7: load 32, t35
    intro a' W hG hd hΦ h0 K hK
    have e35 : a'.tmps[35]? = some (.pointer (some ⟨b, 0, none⟩)) := fx (W := W) (hΦ 6 35 (by kernel_rfl) (by kernel_rfl))
    have l0 := hG.cell l0
    have l1 := hG.cell l1
    have l2 := hG.cell l2
    have l3 := hG.cell l3
    have l4 := hG.cell l4
    clear hd hΦ h0
    go_simp
    exact hK _ _ (Below.refl _ _) rfl
  · -- 8: move t0
    intro a' W hG hd hΦ h0 K hK
    have e0 : a'.tmps[0]? = some (.pointer (some ⟨b, 0, none⟩)) := h0 0 (by kernel_rfl)
    clear hd hΦ h0
    go_simp
    exact hK _ _ (Below.refl _ _) rfl
  · -- 9: nilCheck t37
    intro a' W hG hd hΦ h0 K hK
    have e37 : a'.tmps[37]? = some (.pointer (some ⟨b, 0, none⟩)) := fx (W := W) (hΦ 8 37 (by kernel_rfl) (by kernel_rfl))
    clear hd hΦ h0
    go_simp
    exact hK _ _ (Below.refl _ _) rfl
  · -- 10: fieldAddr 211, t38, 1
    intro a' W hG hd hΦ h0 K hK
    have e38 : a'.tmps[38]? = some (.pointer (some ⟨b, 0, none⟩)) := fx (W := W) (hΦ 9 38 (by kernel_rfl) (by kernel_rfl))
    clear hd hΦ h0
    go_simp
    exact hK _ _ (Below.refl _ _) rfl
  · -- 11: load 9, t39
    intro a' W hG hd hΦ h0 K hK
    have e39 : a'.tmps[39]? = some (.pointer (some ⟨b, 5, none⟩)) := fx (W := W) (hΦ 10 39 (by kernel_rfl) (by kernel_rfl))
    have l5 := hG.cell l5
    clear hd hΦ h0
    go_simp
    exact hK _ _ (Below.refl _ _) rfl
  · -- 12: move t0
    intro a' W hG hd hΦ h0 K hK
    have e0 : a'.tmps[0]? = some (.pointer (some ⟨b, 0, none⟩)) := h0 0 (by kernel_rfl)
    clear hd hΦ h0
    go_simp
    exact hK _ _ (Below.refl _ _) rfl
  · -- 13: nilCheck t41
    intro a' W hG hd hΦ h0 K hK
    have e41 : a'.tmps[41]? = some (.pointer (some ⟨b, 0, none⟩)) := fx (W := W) (hΦ 12 41 (by kernel_rfl) (by kernel_rfl))
    clear hd hΦ h0
    go_simp
    exact hK _ _ (Below.refl _ _) rfl
  · -- 14: fieldAddr 211, t42, 3
    intro a' W hG hd hΦ h0 K hK
    have e42 : a'.tmps[42]? = some (.pointer (some ⟨b, 0, none⟩)) := fx (W := W) (hΦ 13 42 (by kernel_rfl) (by kernel_rfl))
    clear hd hΦ h0
    go_simp
    exact hK _ _ (Below.refl _ _) rfl
  · -- 15: load 163, t43
    intro a' W hG hd hΦ h0 K hK
    have e43 : a'.tmps[43]? = some (.pointer (some ⟨b, 7, none⟩)) := fx (W := W) (hΦ 14 43 (by kernel_rfl) (by kernel_rfl))
    have l7 := hG.cell l7
    clear hd hΦ h0
    go_simp
    exact hK _ _ (Below.refl _ _) rfl
  · -- 16: load 32, t5
    intro a' W hG hd hΦ h0 K hK
    have e5 : a'.tmps[5]? = some (.pointer (some ⟨w.heap.size, 0, none⟩)) := h0 5 (by kernel_rfl)
    have c0 := hG.cell c0
    have c1 := hG.cell c1
    have c2 := hG.cell c2
    have c3 := hG.cell c3
    have c4 := hG.cell c4
    clear hd hΦ h0
    go_simp
    exact hK _ _ (Below.refl _ _) rfl
  · -- 17: move t2
    intro a' W hG hd hΦ h0 K hK
    have e2 : a'.tmps[2]? = some (.string v) := h0 2 (by kernel_rfl)
    clear hd hΦ h0
    go_simp
    exact hK _ _ (Below.refl _ _) rfl
  · -- 18: move t3
    intro a' W hG hd hΦ h0 K hK
    have e3 : a'.tmps[3]? = some (.pointer pr) := h0 3 (by kernel_rfl)
    clear hd hΦ h0
    go_simp
    exact hK _ _ (Below.refl _ _) rfl
  · -- 19: call F203{replevin/state.join}(t44, t45, t46, t47)
    intro a' W hG hd hΦ h0 K hK
    have e44 : a'.tmps[44]? = some (.pointer plr) := fx (W := W) (hΦ 15 44 (by kernel_rfl) (by kernel_rfl))
    have e45 : a'.tmps[45]? = some (nmV n) := fx (W := W) (hΦ 16 45 (by kernel_rfl) (by kernel_rfl))
    have e46 : a'.tmps[46]? = some (.string v) := fx (W := W) (hΦ 17 46 (by kernel_rfl) (by kernel_rfl))
    have e47 : a'.tmps[47]? = some (.pointer pr) := fx (W := W) (hΦ 18 47 (by kernel_rfl) (by kernel_rfl))
    clear hd hΦ h0
    go_simp
    refine (join_any n v _ (hlr.grew hG) (hr1.grew hG) (by simp only [T.many] at *; omega) (by simp only [T.total] at *; omega)).mono ?_
    rintro e w' ⟨p, rfl, hp, hg⟩
    exact hK _ _ hg ⟨p, rfl, hp⟩
  · -- 20: call F203{replevin/state.join}(t32, t36, t40, t48)
    intro a' W hG hd hΦ h0 K hK
    have e32 : a'.tmps[32]? = some (.pointer pll) := fx (W := W) (hΦ 3 32 (by kernel_rfl) (by kernel_rfl))
    have e36 : a'.tmps[36]? = some (nmV ln) := fx (W := W) (hΦ 7 36 (by kernel_rfl) (by kernel_rfl))
    have e40 : a'.tmps[40]? = some (.string lv) := fx (W := W) (hΦ 11 40 (by kernel_rfl) (by kernel_rfl))
    obtain ⟨_, e48, p48, rfl, h48⟩ := hΦ 19 48 (by kernel_rfl) (by kernel_rfl)
    clear hd hΦ h0
    go_simp
    refine (join_any ln lv _ (hll.grew hG) (h48) (by simp only [T.many] at *; omega) (by simp only [T.total] at *; omega)).mono ?_
    rintro e w' ⟨p, rfl, hp, hg⟩
    exact hK _ _ hg ⟨p, rfl, hp⟩
  · -- 21: assign t49
    intro a' W hG hd hΦ h0 K hK
    obtain ⟨_, e49, p49, rfl, h49⟩ := hΦ 20 49 (by kernel_rfl) (by kernel_rfl)
    clear hd hΦ h0
    go_simp
    exact hK _ _ (Below.refl _ _) ⟨_, rfl, h49⟩
  intro W hG
  simp only [FinG, Fx, Any, forall_eq, true_implies]
  rintro _ ⟨p0, rfl, -⟩ v1 - v2 ⟨p, rfl, hp⟩
  go_simp
  go_wp2
  go_ret
  exact ⟨p, rfl, hp, hg1.trans hG⟩

set_option maxRecDepth 100000 in
set_option maxHeartbeats 4000000 in
theorem bal_l2 {pl pr : Option Addr} {ll ml mr r : T} {ln mn : Nm} {lv mv : ByteArray} (n : Nm) (v : ByteArray) (w : World) (hl : IsT w pl (T.node ll ln lv (.node ml mn mv mr))) (hr : IsT w pr r) (hb : (T.node ll ln lv (.node ml mn mv mr)).many + r.many < 1000000) (ht : v.size + (T.node ll ln lv (.node ml mn mv mr)).total + r.total < 1000000000000) (h1 : r.tall + 1 < (T.node ll ln lv (.node ml mn mv mr)).tall) (h2 : ¬ (T.node ml mn mv mr).tall ≤ ll.tall) :
    Calls Tryz.prog 204 #[.pointer pl, nmV n, .string v, .pointer pr] w fun e w' => ∃ p, e = .returned (.pointer p) ∧ IsT w' p (.node (.node ll ln lv ml) mn mv (.node mr n v r)) ∧ Grew w w' := by
  have hal := T.tall_le_many (T.node ll ln lv (.node ml mn mv mr))
  have har := T.tall_le_many r
  go_enter Tryz.func204, Tryz.ntmps204
  go_wp2_with fail
  obtain ⟨w1, hw1⟩ : ∃ w1, w1 = (w.alloc (.cells #[.int .i64 n.kind, .string n.owner, .int .i64 n.number, .int .i64 n.index, .string n.text] 32)) := ⟨_, rfl⟩
  have hg1 : Grew w w1 := by rw [hw1]; exact Grew.alloc _ _
  have c0 : w1.cell? ⟨w.heap.size, 0, none⟩ = some (.int .i64 n.kind) := by rw [hw1]; simp [go_sem]
  have c1 : w1.cell? ⟨w.heap.size, 1, none⟩ = some (.string n.owner) := by rw [hw1]; simp [go_sem]
  have c2 : w1.cell? ⟨w.heap.size, 2, none⟩ = some (.int .i64 n.number) := by rw [hw1]; simp [go_sem]
  have c3 : w1.cell? ⟨w.heap.size, 3, none⟩ = some (.int .i64 n.index) := by rw [hw1]; simp [go_sem]
  have c4 : w1.cell? ⟨w.heap.size, 4, none⟩ = some (.string n.text) := by rw [hw1]; simp [go_sem]
  rw [← hw1]
  clear hw1
  have hl1 := hl.grew hg1
  have hr1 := hr.grew hg1
  refine (tall_any _ hl1).mono ?_
  rintro e w' ⟨rfl, rfl⟩
  go_wp2_with fail
  refine (tall_any _ hr1).mono ?_
  rintro e w' ⟨rfl, rfl⟩
  go_wp2_with fail
  obtain ⟨b, pll, plr, rfl, l0, l1, l2, l3, l4, l5, l6, l7, -, -, -, hll, hlr⟩ := hl1
  refine wp_region_grow [Fx (.pointer (some ⟨b, 0, none⟩)), Fx (.pointer (some ⟨b, 0, none⟩)), Fx (.pointer (some ⟨b, 6, none⟩)), Fx (.pointer pll), Fx (.int .i64 (ll.tall : Int)), Fx (.pointer (some ⟨b, 0, none⟩)), Fx (.pointer (some ⟨b, 0, none⟩)), Fx (.pointer (some ⟨b, 7, none⟩)), Fx (.pointer plr), Fx (.int .i64 ((T.node ml mn mv mr).tall : Int)), Fx (.bool (false))] (by kernel_rfl) (by kernel_rfl) (by simp only [AllStable, Fx.stable, Any.stable, and_self]) ⟨?_, ?_, ?_, ?_, ?_, ?_, ?_, ?_, ?_, ?_, ?_, trivial⟩ ?_
  · -- 0: move t0
    intro a' W hG hd hΦ h0 K hK
    have e0 : a'.tmps[0]? = some (.pointer (some ⟨b, 0, none⟩)) := h0 0 (by kernel_rfl)
    clear hd hΦ h0
    go_simp
    exact hK _ _ (Below.refl _ _) rfl
  · -- 1: nilCheck t18
    intro a' W hG hd hΦ h0 K hK
    have e18 : a'.tmps[18]? = some (.pointer (some ⟨b, 0, none⟩)) := fx (W := W) (hΦ 0 18 (by kernel_rfl) (by kernel_rfl))
    clear hd hΦ h0
    go_simp
    exact hK _ _ (Below.refl _ _) rfl
  · -- 2: fieldAddr 211, t19, 2
    intro a' W hG hd hΦ h0 K hK
    have e19 : a'.tmps[19]? = some (.pointer (some ⟨b, 0, none⟩)) := fx (W := W) (hΦ 1 19 (by kernel_rfl) (by kernel_rfl))
    clear hd hΦ h0
    go_simp
    exact hK _ _ (Below.refl _ _) rfl
  · -- 3: load 163, t20
    intro a' W hG hd hΦ h0 K hK
    have e20 : a'.tmps[20]? = some (.pointer (some ⟨b, 6, none⟩)) := fx (W := W) (hΦ 2 20 (by kernel_rfl) (by kernel_rfl))
    have l6 := hG.cell l6
    clear hd hΦ h0
    go_simp
    exact hK _ _ (Below.refl _ _) rfl
  · -- 4: call F262{(*replevin/state.tree).tall}(t21)
    intro a' W hG hd hΦ h0 K hK
    have e21 : a'.tmps[21]? = some (.pointer pll) := fx (W := W) (hΦ 3 21 (by kernel_rfl) (by kernel_rfl))
    clear hd hΦ h0
    go_simp
    refine (tall_any _ (hll.grew hG)).mono ?_
    rintro e w' ⟨rfl, rfl⟩
    exact hK _ _ (Below.refl _ _) rfl
  · -- 5: move t0
    intro a' W hG hd hΦ h0 K hK
    have e0 : a'.tmps[0]? = some (.pointer (some ⟨b, 0, none⟩)) := h0 0 (by kernel_rfl)
    clear hd hΦ h0
    go_simp
    exact hK _ _ (Below.refl _ _) rfl
  · -- 6: nilCheck t23
    intro a' W hG hd hΦ h0 K hK
    have e23 : a'.tmps[23]? = some (.pointer (some ⟨b, 0, none⟩)) := fx (W := W) (hΦ 5 23 (by kernel_rfl) (by kernel_rfl))
    clear hd hΦ h0
    go_simp
    exact hK _ _ (Below.refl _ _) rfl
  · -- 7: fieldAddr 211, t24, 3
    intro a' W hG hd hΦ h0 K hK
    have e24 : a'.tmps[24]? = some (.pointer (some ⟨b, 0, none⟩)) := fx (W := W) (hΦ 6 24 (by kernel_rfl) (by kernel_rfl))
    clear hd hΦ h0
    go_simp
    exact hK _ _ (Below.refl _ _) rfl
  · -- 8: load 163, t25
    intro a' W hG hd hΦ h0 K hK
    have e25 : a'.tmps[25]? = some (.pointer (some ⟨b, 7, none⟩)) := fx (W := W) (hΦ 7 25 (by kernel_rfl) (by kernel_rfl))
    have l7 := hG.cell l7
    clear hd hΦ h0
    go_simp
    exact hK _ _ (Below.refl _ _) rfl
  · -- 9: call F262{(*replevin/state.tree).tall}(t26)
    intro a' W hG hd hΦ h0 K hK
    have e26 : a'.tmps[26]? = some (.pointer plr) := fx (W := W) (hΦ 8 26 (by kernel_rfl) (by kernel_rfl))
    clear hd hΦ h0
    go_simp
    refine (tall_any _ (hlr.grew hG)).mono ?_
    rintro e w' ⟨rfl, rfl⟩
    exact hK _ _ (Below.refl _ _) rfl
  · -- 10: binOp geq, 3, t22, t27, 3
    intro a' W hG hd hΦ h0 K hK
    have e22 : a'.tmps[22]? = some (.int .i64 (ll.tall : Int)) := fx (W := W) (hΦ 4 22 (by kernel_rfl) (by kernel_rfl))
    have e27 : a'.tmps[27]? = some (.int .i64 ((T.node ml mn mv mr).tall : Int)) := fx (W := W) (hΦ 9 27 (by kernel_rfl) (by kernel_rfl))
    clear hd hΦ h0
    go_simp
    exact hK _ _ (Below.refl _ _) rfl
  intro W hG
  simp only [FinG, Fx, Any, forall_eq, true_implies]
  replace hg1 := hg1.trans hG
  replace hr1 := hr1.grew hG
  replace hll := hll.grew hG
  replace hlr := hlr.grew hG
  replace c0 := hG.cell c0
  replace c1 := hG.cell c1
  replace c2 := hG.cell c2
  replace c3 := hG.cell c3
  replace c4 := hG.cell c4
  replace l0 := hG.cell l0
  replace l1 := hG.cell l1
  replace l2 := hG.cell l2
  replace l3 := hG.cell l3
  replace l4 := hG.cell l4
  replace l5 := hG.cell l5
  replace l6 := hG.cell l6
  replace l7 := hG.cell l7
  clear hG
  obtain ⟨m, pml, pmr, rfl, m0, m1, m2, m3, m4, m5, m6, m7, -, -, -, hml, hmr⟩ := hlr
  go_simp
  go_wp2_with fail
  refine wp_region_grow [Fx (.pointer (some ⟨b, 0, none⟩)), Fx (.pointer (some ⟨b, 0, none⟩)), Fx (.pointer (some ⟨b, 6, none⟩)), Fx (.pointer pll), Fx (.pointer (some ⟨b, 0, none⟩)), Fx (.pointer (some ⟨b, 0, none⟩)), Fx (.pointer (some ⟨b, 0, none⟩)), Fx (nmV ln), Fx (.pointer (some ⟨b, 0, none⟩)), Fx (.pointer (some ⟨b, 0, none⟩)), Fx (.pointer (some ⟨b, 5, none⟩)), Fx (.string lv), Fx (.pointer (some ⟨m, 0, none⟩)), Fx (.pointer (some ⟨m, 0, none⟩)), Fx (.pointer (some ⟨m, 6, none⟩)), Fx (.pointer pml), PT (.node ll ln lv ml), Fx (.pointer (some ⟨m, 0, none⟩)), Fx (.pointer (some ⟨m, 0, none⟩)), Fx (.pointer (some ⟨m, 0, none⟩)), Fx (nmV mn), Fx (.pointer (some ⟨m, 0, none⟩)), Fx (.pointer (some ⟨m, 0, none⟩)), Fx (.pointer (some ⟨m, 5, none⟩)), Fx (.string mv), Fx (.pointer (some ⟨m, 0, none⟩)), Fx (.pointer (some ⟨m, 0, none⟩)), Fx (.pointer (some ⟨m, 7, none⟩)), Fx (.pointer pmr), Fx (nmV n), Fx (.string v), Fx (.pointer pr), PT (.node mr n v r), PT (.node (.node ll ln lv ml) mn mv (.node mr n v r)), PT (.node (.node ll ln lv ml) mn mv (.node mr n v r))] (by kernel_rfl) (by kernel_rfl) (by simp only [AllStable, Fx.stable, Any.stable, PT.stable, and_self]) ⟨?_, ?_, ?_, ?_, ?_, ?_, ?_, ?_, ?_, ?_, ?_, ?_, ?_, ?_, ?_, ?_, ?_, ?_, ?_, ?_, ?_, ?_, ?_, ?_, ?_, ?_, ?_, ?_, ?_, ?_, ?_, ?_, ?_, ?_, ?_, trivial⟩ ?_
  · -- 0: move t0
    intro a' W hG hd hΦ h0 K hK
    have e0 : a'.tmps[0]? = some (.pointer (some ⟨b, 0, none⟩)) := h0 0 (by kernel_rfl)
    clear hd hΦ h0
    go_simp
    exact hK _ _ (Below.refl _ _) rfl
  · -- 1: nilCheck t54
    intro a' W hG hd hΦ h0 K hK
    have e54 : a'.tmps[54]? = some (.pointer (some ⟨b, 0, none⟩)) := fx (W := W) (hΦ 0 54 (by kernel_rfl) (by kernel_rfl))
    clear hd hΦ h0
    go_simp
    exact hK _ _ (Below.refl _ _) rfl
  · -- 2: fieldAddr 211, t55, 2
    intro a' W hG hd hΦ h0 K hK
    have e55 : a'.tmps[55]? = some (.pointer (some ⟨b, 0, none⟩)) := fx (W := W) (hΦ 1 55 (by kernel_rfl) (by kernel_rfl))
    clear hd hΦ h0
    go_simp
    exact hK _ _ (Below.refl _ _) rfl
  · -- 3: load 163, t56
    intro a' W hG hd hΦ h0 K hK
    have e56 : a'.tmps[56]? = some (.pointer (some ⟨b, 6, none⟩)) := fx (W := W) (hΦ 2 56 (by kernel_rfl) (by kernel_rfl))
    have l6 := hG.cell l6
    clear hd hΦ h0
    go_simp
    exact hK _ _ (Below.refl _ _) rfl
  · -- 4: move t0
    intro a' W hG hd hΦ h0 K hK
    have e0 : a'.tmps[0]? = some (.pointer (some ⟨b, 0, none⟩)) := h0 0 (by kernel_rfl)
    clear hd hΦ h0
    go_simp
    exact hK _ _ (Below.refl _ _) rfl
  · -- 5: nilCheck t58
    intro a' W hG hd hΦ h0 K hK
    have e58 : a'.tmps[58]? = some (.pointer (some ⟨b, 0, none⟩)) := fx (W := W) (hΦ 4 58 (by kernel_rfl) (by kernel_rfl))
    clear hd hΦ h0
    go_simp
    exact hK _ _ (Below.refl _ _) rfl
  · -- 6: fieldAddr 211, t59, 0
    intro a' W hG hd hΦ h0 K hK
    have e59 : a'.tmps[59]? = some (.pointer (some ⟨b, 0, none⟩)) := fx (W := W) (hΦ 5 59 (by kernel_rfl) (by kernel_rfl))
    clear hd hΦ h0
    go_simp
    exact hK _ _ (Below.refl _ _) rfl
  · -- 7: load 32, t60
    intro a' W hG hd hΦ h0 K hK
    have e60 : a'.tmps[60]? = some (.pointer (some ⟨b, 0, none⟩)) := fx (W := W) (hΦ 6 60 (by kernel_rfl) (by kernel_rfl))
    have l0 := hG.cell l0
    have l1 := hG.cell l1
    have l2 := hG.cell l2
    have l3 := hG.cell l3
    have l4 := hG.cell l4
    clear hd hΦ h0
    go_simp
    exact hK _ _ (Below.refl _ _) rfl
  · -- 8: move t0
    intro a' W hG hd hΦ h0 K hK
    have e0 : a'.tmps[0]? = some (.pointer (some ⟨b, 0, none⟩)) := h0 0 (by kernel_rfl)
    clear hd hΦ h0
    go_simp
    exact hK _ _ (Below.refl _ _) rfl
  · -- 9: nilCheck t62
    intro a' W hG hd hΦ h0 K hK
    have e62 : a'.tmps[62]? = some (.pointer (some ⟨b, 0, none⟩)) := fx (W := W) (hΦ 8 62 (by kernel_rfl) (by kernel_rfl))
    clear hd hΦ h0
    go_simp
    exact hK _ _ (Below.refl _ _) rfl
  · -- 10: fieldAddr 211, t63, 1
    intro a' W hG hd hΦ h0 K hK
    have e63 : a'.tmps[63]? = some (.pointer (some ⟨b, 0, none⟩)) := fx (W := W) (hΦ 9 63 (by kernel_rfl) (by kernel_rfl))
    clear hd hΦ h0
    go_simp
    exact hK _ _ (Below.refl _ _) rfl
  · -- 11: load 9, t64
    intro a' W hG hd hΦ h0 K hK
    have e64 : a'.tmps[64]? = some (.pointer (some ⟨b, 5, none⟩)) := fx (W := W) (hΦ 10 64 (by kernel_rfl) (by kernel_rfl))
    have l5 := hG.cell l5
    clear hd hΦ h0
    go_simp
    exact hK _ _ (Below.refl _ _) rfl
  · -- 12: move t9
    intro a' W hG hd hΦ h0 K hK
    have e9 : a'.tmps[9]? = some (.pointer (some ⟨m, 0, none⟩)) := h0 9 (by kernel_rfl)
    clear hd hΦ h0
    go_simp
    exact hK _ _ (Below.refl _ _) rfl
  · -- 13: nilCheck t66
    intro a' W hG hd hΦ h0 K hK
    have e66 : a'.tmps[66]? = some (.pointer (some ⟨m, 0, none⟩)) := fx (W := W) (hΦ 12 66 (by kernel_rfl) (by kernel_rfl))
    clear hd hΦ h0
    go_simp
    exact hK _ _ (Below.refl _ _) rfl
  · -- 14: fieldAddr 211, t67, 2
    intro a' W hG hd hΦ h0 K hK
    have e67 : a'.tmps[67]? = some (.pointer (some ⟨m, 0, none⟩)) := fx (W := W) (hΦ 13 67 (by kernel_rfl) (by kernel_rfl))
    clear hd hΦ h0
    go_simp
    exact hK _ _ (Below.refl _ _) rfl
  · -- 15: load 163, t68
    intro a' W hG hd hΦ h0 K hK
    have e68 : a'.tmps[68]? = some (.pointer (some ⟨m, 6, none⟩)) := fx (W := W) (hΦ 14 68 (by kernel_rfl) (by kernel_rfl))
    have m6 := hG.cell m6
    clear hd hΦ h0
    go_simp
    exact hK _ _ (Below.refl _ _) rfl
  · -- 16: call F203{replevin/state.join}(t57, t61, t65, t69)
    intro a' W hG hd hΦ h0 K hK
    have e57 : a'.tmps[57]? = some (.pointer pll) := fx (W := W) (hΦ 3 57 (by kernel_rfl) (by kernel_rfl))
    have e61 : a'.tmps[61]? = some (nmV ln) := fx (W := W) (hΦ 7 61 (by kernel_rfl) (by kernel_rfl))
    have e65 : a'.tmps[65]? = some (.string lv) := fx (W := W) (hΦ 11 65 (by kernel_rfl) (by kernel_rfl))
    have e69 : a'.tmps[69]? = some (.pointer pml) := fx (W := W) (hΦ 15 69 (by kernel_rfl) (by kernel_rfl))
    clear hd hΦ h0
    go_simp
    refine (join_any ln lv _ (hll.grew hG) (hml.grew hG) (by simp only [T.many] at *; omega) (by simp only [T.total] at *; omega)).mono ?_
    rintro e w' ⟨p, rfl, hp, hg⟩
    exact hK _ _ hg ⟨p, rfl, hp⟩
  · -- 17: move t9
    intro a' W hG hd hΦ h0 K hK
    have e9 : a'.tmps[9]? = some (.pointer (some ⟨m, 0, none⟩)) := h0 9 (by kernel_rfl)
    clear hd hΦ h0
    go_simp
    exact hK _ _ (Below.refl _ _) rfl
  · -- 18: nilCheck t71
    intro a' W hG hd hΦ h0 K hK
    have e71 : a'.tmps[71]? = some (.pointer (some ⟨m, 0, none⟩)) := fx (W := W) (hΦ 17 71 (by kernel_rfl) (by kernel_rfl))
    clear hd hΦ h0
    go_simp
    exact hK _ _ (Below.refl _ _) rfl
  · -- 19: fieldAddr 211, t72, 0
    intro a' W hG hd hΦ h0 K hK
    have e72 : a'.tmps[72]? = some (.pointer (some ⟨m, 0, none⟩)) := fx (W := W) (hΦ 18 72 (by kernel_rfl) (by kernel_rfl))
    clear hd hΦ h0
    go_simp
    exact hK _ _ (Below.refl _ _) rfl
  · -- 20: load 32, t73
    intro a' W hG hd hΦ h0 K hK
    have e73 : a'.tmps[73]? = some (.pointer (some ⟨m, 0, none⟩)) := fx (W := W) (hΦ 19 73 (by kernel_rfl) (by kernel_rfl))
    have m0 := hG.cell m0
    have m1 := hG.cell m1
    have m2 := hG.cell m2
    have m3 := hG.cell m3
    have m4 := hG.cell m4
    clear hd hΦ h0
    go_simp
    exact hK _ _ (Below.refl _ _) rfl
  · -- 21: move t9
    intro a' W hG hd hΦ h0 K hK
    have e9 : a'.tmps[9]? = some (.pointer (some ⟨m, 0, none⟩)) := h0 9 (by kernel_rfl)
    clear hd hΦ h0
    go_simp
    exact hK _ _ (Below.refl _ _) rfl
  · -- 22: nilCheck t75
    intro a' W hG hd hΦ h0 K hK
    have e75 : a'.tmps[75]? = some (.pointer (some ⟨m, 0, none⟩)) := fx (W := W) (hΦ 21 75 (by kernel_rfl) (by kernel_rfl))
    clear hd hΦ h0
    go_simp
    exact hK _ _ (Below.refl _ _) rfl
  · -- 23: fieldAddr 211, t76, 1
    intro a' W hG hd hΦ h0 K hK
    have e76 : a'.tmps[76]? = some (.pointer (some ⟨m, 0, none⟩)) := fx (W := W) (hΦ 22 76 (by kernel_rfl) (by kernel_rfl))
    clear hd hΦ h0
    go_simp
    exact hK _ _ (Below.refl _ _) rfl
  · -- 24: load 9, t77
    intro a' W hG hd hΦ h0 K hK
    have e77 : a'.tmps[77]? = some (.pointer (some ⟨m, 5, none⟩)) := fx (W := W) (hΦ 23 77 (by kernel_rfl) (by kernel_rfl))
    have m5 := hG.cell m5
    clear hd hΦ h0
    go_simp
    exact hK _ _ (Below.refl _ _) rfl
  · -- 25: move t9
    intro a' W hG hd hΦ h0 K hK
    have e9 : a'.tmps[9]? = some (.pointer (some ⟨m, 0, none⟩)) := h0 9 (by kernel_rfl)
    clear hd hΦ h0
    go_simp
    exact hK _ _ (Below.refl _ _) rfl
  · -- 26: nilCheck t79
    intro a' W hG hd hΦ h0 K hK
    have e79 : a'.tmps[79]? = some (.pointer (some ⟨m, 0, none⟩)) := fx (W := W) (hΦ 25 79 (by kernel_rfl) (by kernel_rfl))
    clear hd hΦ h0
    go_simp
    exact hK _ _ (Below.refl _ _) rfl
  · -- 27: fieldAddr 211, t80, 3
    intro a' W hG hd hΦ h0 K hK
    have e80 : a'.tmps[80]? = some (.pointer (some ⟨m, 0, none⟩)) := fx (W := W) (hΦ 26 80 (by kernel_rfl) (by kernel_rfl))
    clear hd hΦ h0
    go_simp
    exact hK _ _ (Below.refl _ _) rfl
  · -- 28: load 163, t81
    intro a' W hG hd hΦ h0 K hK
    have e81 : a'.tmps[81]? = some (.pointer (some ⟨m, 7, none⟩)) := fx (W := W) (hΦ 27 81 (by kernel_rfl) (by kernel_rfl))
    have m7 := hG.cell m7
    clear hd hΦ h0
    go_simp
    exact hK _ _ (Below.refl _ _) rfl
  · -- 29: load 32, t5
    intro a' W hG hd hΦ h0 K hK
    have e5 : a'.tmps[5]? = some (.pointer (some ⟨w.heap.size, 0, none⟩)) := h0 5 (by kernel_rfl)
    have c0 := hG.cell c0
    have c1 := hG.cell c1
    have c2 := hG.cell c2
    have c3 := hG.cell c3
    have c4 := hG.cell c4
    clear hd hΦ h0
    go_simp
    exact hK _ _ (Below.refl _ _) rfl
  · -- 30: move t2
    intro a' W hG hd hΦ h0 K hK
    have e2 : a'.tmps[2]? = some (.string v) := h0 2 (by kernel_rfl)
    clear hd hΦ h0
    go_simp
    exact hK _ _ (Below.refl _ _) rfl
  · -- 31: move t3
    intro a' W hG hd hΦ h0 K hK
    have e3 : a'.tmps[3]? = some (.pointer pr) := h0 3 (by kernel_rfl)
    clear hd hΦ h0
    go_simp
    exact hK _ _ (Below.refl _ _) rfl
  · -- 32: call F203{replevin/state.join}(t82, t83, t84, t85)
    intro a' W hG hd hΦ h0 K hK
    have e82 : a'.tmps[82]? = some (.pointer pmr) := fx (W := W) (hΦ 28 82 (by kernel_rfl) (by kernel_rfl))
    have e83 : a'.tmps[83]? = some (nmV n) := fx (W := W) (hΦ 29 83 (by kernel_rfl) (by kernel_rfl))
    have e84 : a'.tmps[84]? = some (.string v) := fx (W := W) (hΦ 30 84 (by kernel_rfl) (by kernel_rfl))
    have e85 : a'.tmps[85]? = some (.pointer pr) := fx (W := W) (hΦ 31 85 (by kernel_rfl) (by kernel_rfl))
    clear hd hΦ h0
    go_simp
    refine (join_any n v _ (hmr.grew hG) (hr1.grew hG) (by simp only [T.many] at *; omega) (by simp only [T.total] at *; omega)).mono ?_
    rintro e w' ⟨p, rfl, hp, hg⟩
    exact hK _ _ hg ⟨p, rfl, hp⟩
  · -- 33: call F203{replevin/state.join}(t70, t74, t78, t86)
    intro a' W hG hd hΦ h0 K hK
    obtain ⟨_, e70, p70, rfl, h70⟩ := hΦ 16 70 (by kernel_rfl) (by kernel_rfl)
    have e74 : a'.tmps[74]? = some (nmV mn) := fx (W := W) (hΦ 20 74 (by kernel_rfl) (by kernel_rfl))
    have e78 : a'.tmps[78]? = some (.string mv) := fx (W := W) (hΦ 24 78 (by kernel_rfl) (by kernel_rfl))
    obtain ⟨_, e86, p86, rfl, h86⟩ := hΦ 32 86 (by kernel_rfl) (by kernel_rfl)
    clear hd hΦ h0
    go_simp
    refine (join_any mn mv _ (h70) (h86) (by simp only [T.many] at *; omega) (by simp only [T.total] at *; omega)).mono ?_
    rintro e w' ⟨p, rfl, hp, hg⟩
    exact hK _ _ hg ⟨p, rfl, hp⟩
  · -- 34: assign t87
    intro a' W hG hd hΦ h0 K hK
    obtain ⟨_, e87, p87, rfl, h87⟩ := hΦ 33 87 (by kernel_rfl) (by kernel_rfl)
    clear hd hΦ h0
    go_simp
    exact hK _ _ (Below.refl _ _) ⟨_, rfl, h87⟩
  intro W hG
  simp only [FinG, Fx, Any, forall_eq, true_implies]
  rintro _ ⟨p0, rfl, -⟩ _ ⟨p1, rfl, -⟩ v1 - v2 ⟨p, rfl, hp⟩
  go_simp
  go_wp2
  go_ret
  exact ⟨p, rfl, hp, hg1.trans hG⟩

set_option maxRecDepth 100000 in
set_option maxHeartbeats 4000000 in
theorem bal_r1 {pl pr : Option Addr} {l rl rr : T} {rn : Nm} {rv : ByteArray} (n : Nm) (v : ByteArray) (w : World) (hl : IsT w pl l) (hr : IsT w pr (T.node rl rn rv rr)) (hb : l.many + (T.node rl rn rv rr).many < 1000000) (ht : v.size + l.total + (T.node rl rn rv rr).total < 1000000000000) (h0 : ¬ (T.node rl rn rv rr).tall + 1 < l.tall) (h1 : l.tall + 1 < (T.node rl rn rv rr).tall) (h2 : rl.tall ≤ rr.tall) :
    Calls Tryz.prog 204 #[.pointer pl, nmV n, .string v, .pointer pr] w fun e w' => ∃ p, e = .returned (.pointer p) ∧ IsT w' p (.node (.node l n v rl) rn rv rr) ∧ Grew w w' := by
  have hal := T.tall_le_many l
  have har := T.tall_le_many (T.node rl rn rv rr)
  go_enter Tryz.func204, Tryz.ntmps204
  go_wp2_with fail
  obtain ⟨w1, hw1⟩ : ∃ w1, w1 = (w.alloc (.cells #[.int .i64 n.kind, .string n.owner, .int .i64 n.number, .int .i64 n.index, .string n.text] 32)) := ⟨_, rfl⟩
  have hg1 : Grew w w1 := by rw [hw1]; exact Grew.alloc _ _
  have c0 : w1.cell? ⟨w.heap.size, 0, none⟩ = some (.int .i64 n.kind) := by rw [hw1]; simp [go_sem]
  have c1 : w1.cell? ⟨w.heap.size, 1, none⟩ = some (.string n.owner) := by rw [hw1]; simp [go_sem]
  have c2 : w1.cell? ⟨w.heap.size, 2, none⟩ = some (.int .i64 n.number) := by rw [hw1]; simp [go_sem]
  have c3 : w1.cell? ⟨w.heap.size, 3, none⟩ = some (.int .i64 n.index) := by rw [hw1]; simp [go_sem]
  have c4 : w1.cell? ⟨w.heap.size, 4, none⟩ = some (.string n.text) := by rw [hw1]; simp [go_sem]
  rw [← hw1]
  clear hw1
  have hl1 := hl.grew hg1
  have hr1 := hr.grew hg1
  refine (tall_any _ hl1).mono ?_
  rintro e w' ⟨rfl, rfl⟩
  go_wp2_with fail
  refine (tall_any _ hr1).mono ?_
  rintro e w' ⟨rfl, rfl⟩
  go_wp2_with fail
  refine (tall_any _ hr1).mono ?_
  rintro e w' ⟨rfl, rfl⟩
  go_wp2_with fail
  refine (tall_any _ hl1).mono ?_
  rintro e w' ⟨rfl, rfl⟩
  go_wp2_with fail
  obtain ⟨b, prl, prr, rfl, l0, l1, l2, l3, l4, l5, l6, l7, -, -, -, hrl, hrr⟩ := hr1
  refine wp_region_grow [Fx (.pointer (some ⟨b, 0, none⟩)), Fx (.pointer (some ⟨b, 0, none⟩)), Fx (.pointer (some ⟨b, 7, none⟩)), Fx (.pointer prr), Fx (.int .i64 (rr.tall : Int)), Fx (.pointer (some ⟨b, 0, none⟩)), Fx (.pointer (some ⟨b, 0, none⟩)), Fx (.pointer (some ⟨b, 6, none⟩)), Fx (.pointer prl), Fx (.int .i64 (rl.tall : Int)), Fx (.bool (true))] (by kernel_rfl) (by kernel_rfl) (by simp only [AllStable, Fx.stable, Any.stable, and_self]) ⟨?_, ?_, ?_, ?_, ?_, ?_, ?_, ?_, ?_, ?_, ?_, trivial⟩ ?_
  · -- 0: move t3
    intro a' W hG hd hΦ h0 K hK
    have e3 : a'.tmps[3]? = some (.pointer (some ⟨b, 0, none⟩)) := h0 3 (by kernel_rfl)
    clear hd hΦ h0
    go_simp
    exact hK _ _ (Below.refl _ _) rfl
  · -- 1: nilCheck t95
    intro a' W hG hd hΦ h0 K hK
    have e95 : a'.tmps[95]? = some (.pointer (some ⟨b, 0, none⟩)) := fx (W := W) (hΦ 0 95 (by kernel_rfl) (by kernel_rfl))
    clear hd hΦ h0
    go_simp
    exact hK _ _ (Below.refl _ _) rfl
  · -- 2: fieldAddr 211, t96, 3
    intro a' W hG hd hΦ h0 K hK
    have e96 : a'.tmps[96]? = some (.pointer (some ⟨b, 0, none⟩)) := fx (W := W) (hΦ 1 96 (by kernel_rfl) (by kernel_rfl))
    clear hd hΦ h0
    go_simp
    exact hK _ _ (Below.refl _ _) rfl
  · -- 3: load 163, t97
    intro a' W hG hd hΦ h0 K hK
    have e97 : a'.tmps[97]? = some (.pointer (some ⟨b, 7, none⟩)) := fx (W := W) (hΦ 2 97 (by kernel_rfl) (by kernel_rfl))
    have l7 := hG.cell l7
    clear hd hΦ h0
    go_simp
    exact hK _ _ (Below.refl _ _) rfl
  · -- 4: call F262{(*replevin/state.tree).tall}(t98)
    intro a' W hG hd hΦ h0 K hK
    have e98 : a'.tmps[98]? = some (.pointer prr) := fx (W := W) (hΦ 3 98 (by kernel_rfl) (by kernel_rfl))
    clear hd hΦ h0
    go_simp
    refine (tall_any _ (hrr.grew hG)).mono ?_
    rintro e w' ⟨rfl, rfl⟩
    exact hK _ _ (Below.refl _ _) rfl
  · -- 5: move t3
    intro a' W hG hd hΦ h0 K hK
    have e3 : a'.tmps[3]? = some (.pointer (some ⟨b, 0, none⟩)) := h0 3 (by kernel_rfl)
    clear hd hΦ h0
    go_simp
    exact hK _ _ (Below.refl _ _) rfl
  · -- 6: nilCheck t100
    intro a' W hG hd hΦ h0 K hK
    have e100 : a'.tmps[100]? = some (.pointer (some ⟨b, 0, none⟩)) := fx (W := W) (hΦ 5 100 (by kernel_rfl) (by kernel_rfl))
    clear hd hΦ h0
    go_simp
    exact hK _ _ (Below.refl _ _) rfl
  · -- 7: fieldAddr 211, t101, 2
    intro a' W hG hd hΦ h0 K hK
    have e101 : a'.tmps[101]? = some (.pointer (some ⟨b, 0, none⟩)) := fx (W := W) (hΦ 6 101 (by kernel_rfl) (by kernel_rfl))
    clear hd hΦ h0
    go_simp
    exact hK _ _ (Below.refl _ _) rfl
  · -- 8: load 163, t102
    intro a' W hG hd hΦ h0 K hK
    have e102 : a'.tmps[102]? = some (.pointer (some ⟨b, 6, none⟩)) := fx (W := W) (hΦ 7 102 (by kernel_rfl) (by kernel_rfl))
    have l6 := hG.cell l6
    clear hd hΦ h0
    go_simp
    exact hK _ _ (Below.refl _ _) rfl
  · -- 9: call F262{(*replevin/state.tree).tall}(t103)
    intro a' W hG hd hΦ h0 K hK
    have e103 : a'.tmps[103]? = some (.pointer prl) := fx (W := W) (hΦ 8 103 (by kernel_rfl) (by kernel_rfl))
    clear hd hΦ h0
    go_simp
    refine (tall_any _ (hrl.grew hG)).mono ?_
    rintro e w' ⟨rfl, rfl⟩
    exact hK _ _ (Below.refl _ _) rfl
  · -- 10: binOp geq, 3, t99, t104, 3
    intro a' W hG hd hΦ h0 K hK
    have e99 : a'.tmps[99]? = some (.int .i64 (rr.tall : Int)) := fx (W := W) (hΦ 4 99 (by kernel_rfl) (by kernel_rfl))
    have e104 : a'.tmps[104]? = some (.int .i64 (rl.tall : Int)) := fx (W := W) (hΦ 9 104 (by kernel_rfl) (by kernel_rfl))
    clear hd hΦ h0
    go_simp
    exact hK _ _ (Below.refl _ _) rfl
  intro W hG
  simp only [FinG, Fx, Any, forall_eq, true_implies]
  go_simp
  go_wp2_with fail
  replace hg1 := hg1.trans hG
  replace hl1 := hl1.grew hG
  replace hrl := hrl.grew hG
  replace hrr := hrr.grew hG
  replace c0 := hG.cell c0
  replace c1 := hG.cell c1
  replace c2 := hG.cell c2
  replace c3 := hG.cell c3
  replace c4 := hG.cell c4
  replace l0 := hG.cell l0
  replace l1 := hG.cell l1
  replace l2 := hG.cell l2
  replace l3 := hG.cell l3
  replace l4 := hG.cell l4
  replace l5 := hG.cell l5
  replace l6 := hG.cell l6
  replace l7 := hG.cell l7
  clear hG
  refine wp_region_grow [Fx (.pointer pl), Fx (nmV n), Fx (.string v), Fx (.pointer (some ⟨b, 0, none⟩)), Fx (.pointer (some ⟨b, 0, none⟩)), Fx (.pointer (some ⟨b, 6, none⟩)), Fx (.pointer prl), PT (.node l n v rl), Fx (.pointer (some ⟨b, 0, none⟩)), Fx (.pointer (some ⟨b, 0, none⟩)), Fx (.pointer (some ⟨b, 0, none⟩)), Fx (nmV rn), Fx (.pointer (some ⟨b, 0, none⟩)), Fx (.pointer (some ⟨b, 0, none⟩)), Fx (.pointer (some ⟨b, 5, none⟩)), Fx (.string rv), Fx (.pointer (some ⟨b, 0, none⟩)), Fx (.pointer (some ⟨b, 0, none⟩)), Fx (.pointer (some ⟨b, 7, none⟩)), Fx (.pointer prr), PT (.node (.node l n v rl) rn rv rr), PT (.node (.node l n v rl) rn rv rr)] (by kernel_rfl) (by kernel_rfl) (by simp only [AllStable, Fx.stable, Any.stable, PT.stable, and_self]) ⟨?_, ?_, ?_, ?_, ?_, ?_, ?_, ?_, ?_, ?_, ?_, ?_, ?_, ?_, ?_, ?_, ?_, ?_, ?_, ?_, ?_, ?_, trivial⟩ ?_
  · -- 0: move t0
    intro a' W hG hd hΦ h0 K hK
    have e0 : a'.tmps[0]? = some (.pointer pl) := h0 0 (by kernel_rfl)
    clear hd hΦ h0
    go_simp
    exact hK _ _ (Below.refl _ _) rfl
  · -- 1: load 32, t5
    intro a' W hG hd hΦ h0 K hK
    have e5 : a'.tmps[5]? = some (.pointer (some ⟨w.heap.size, 0, none⟩)) := h0 5 (by kernel_rfl)
    have c0 := hG.cell c0
    have c1 := hG.cell c1
    have c2 := hG.cell c2
    have c3 := hG.cell c3
    have c4 := hG.cell c4
    clear hd hΦ h0
    go_simp
    exact hK _ _ (Below.refl _ _) rfl
  · -- 2: move t2
    intro a' W hG hd hΦ h0 K hK
    have e2 : a'.tmps[2]? = some (.string v) := h0 2 (by kernel_rfl)
    clear hd hΦ h0
    go_simp
    exact hK _ _ (Below.refl _ _) rfl
  · -- 3: move t3
    intro a' W hG hd hΦ h0 K hK
    have e3 : a'.tmps[3]? = some (.pointer (some ⟨b, 0, none⟩)) := h0 3 (by kernel_rfl)
    clear hd hΦ h0
    go_simp
    exact hK _ _ (Below.refl _ _) rfl
  · -- 4: nilCheck t109
    intro a' W hG hd hΦ h0 K hK
    have e109 : a'.tmps[109]? = some (.pointer (some ⟨b, 0, none⟩)) := fx (W := W) (hΦ 3 109 (by kernel_rfl) (by kernel_rfl))
    clear hd hΦ h0
    go_simp
    exact hK _ _ (Below.refl _ _) rfl
  · -- 5: fieldAddr 211, t110, 2
    intro a' W hG hd hΦ h0 K hK
    have e110 : a'.tmps[110]? = some (.pointer (some ⟨b, 0, none⟩)) := fx (W := W) (hΦ 4 110 (by kernel_rfl) (by kernel_rfl))
    clear hd hΦ h0
    go_simp
    exact hK _ _ (Below.refl _ _) rfl
  · -- 6: load 163, t111
    intro a' W hG hd hΦ h0 K hK
    have e111 : a'.tmps[111]? = some (.pointer (some ⟨b, 6, none⟩)) := fx (W := W) (hΦ 5 111 (by kernel_rfl) (by kernel_rfl))
    have l6 := hG.cell l6
    clear hd hΦ h0
    go_simp
    exact hK _ _ (Below.refl _ _) rfl
  · -- 7: call F203{replevin/state.join}(t106, t107, t108, t112)
    intro a' W hG hd hΦ h0 K hK
    have e106 : a'.tmps[106]? = some (.pointer pl) := fx (W := W) (hΦ 0 106 (by kernel_rfl) (by kernel_rfl))
    have e107 : a'.tmps[107]? = some (nmV n) := fx (W := W) (hΦ 1 107 (by kernel_rfl) (by kernel_rfl))
    have e108 : a'.tmps[108]? = some (.string v) := fx (W := W) (hΦ 2 108 (by kernel_rfl) (by kernel_rfl))
    have e112 : a'.tmps[112]? = some (.pointer prl) := fx (W := W) (hΦ 6 112 (by kernel_rfl) (by kernel_rfl))
    clear hd hΦ h0
    go_simp
    refine (join_any n v _ (hl1.grew hG) (hrl.grew hG) (by simp only [T.many] at *; omega) (by simp only [T.total] at *; omega)).mono ?_
    rintro e w' ⟨p, rfl, hp, hg⟩
    exact hK _ _ hg ⟨p, rfl, hp⟩
  · -- 8: move t3
    intro a' W hG hd hΦ h0 K hK
    have e3 : a'.tmps[3]? = some (.pointer (some ⟨b, 0, none⟩)) := h0 3 (by kernel_rfl)
    clear hd hΦ h0
    go_simp
    exact hK _ _ (Below.refl _ _) rfl
  · -- 9: nilCheck t114
    intro a' W hG hd hΦ h0 K hK
    have e114 : a'.tmps[114]? = some (.pointer (some ⟨b, 0, none⟩)) := fx (W := W) (hΦ 8 114 (by kernel_rfl) (by kernel_rfl))
    clear hd hΦ h0
    go_simp
    exact hK _ _ (Below.refl _ _) rfl
  · -- 10: fieldAddr 211, t115, 0
    intro a' W hG hd hΦ h0 K hK
    have e115 : a'.tmps[115]? = some (.pointer (some ⟨b, 0, none⟩)) := fx (W := W) (hΦ 9 115 (by kernel_rfl) (by kernel_rfl))
    clear hd hΦ h0
    go_simp
    exact hK _ _ (Below.refl _ _) rfl
  · -- 11: load 32, t116
    intro a' W hG hd hΦ h0 K hK
    have e116 : a'.tmps[116]? = some (.pointer (some ⟨b, 0, none⟩)) := fx (W := W) (hΦ 10 116 (by kernel_rfl) (by kernel_rfl))
    have l0 := hG.cell l0
    have l1 := hG.cell l1
    have l2 := hG.cell l2
    have l3 := hG.cell l3
    have l4 := hG.cell l4
    clear hd hΦ h0
    go_simp
    exact hK _ _ (Below.refl _ _) rfl
  · -- 12: move t3
    intro a' W hG hd hΦ h0 K hK
    have e3 : a'.tmps[3]? = some (.pointer (some ⟨b, 0, none⟩)) := h0 3 (by kernel_rfl)
    clear hd hΦ h0
    go_simp
    exact hK _ _ (Below.refl _ _) rfl
  · -- 13: nilCheck t118
    intro a' W hG hd hΦ h0 K hK
    have e118 : a'.tmps[118]? = some (.pointer (some ⟨b, 0, none⟩)) := fx (W := W) (hΦ 12 118 (by kernel_rfl) (by kernel_rfl))
    clear hd hΦ h0
    go_simp
    exact hK _ _ (Below.refl _ _) rfl
  · -- 14: fieldAddr 211, t119, 1
    intro a' W hG hd hΦ h0 K hK
    have e119 : a'.tmps[119]? = some (.pointer (some ⟨b, 0, none⟩)) := fx (W := W) (hΦ 13 119 (by kernel_rfl) (by kernel_rfl))
    clear hd hΦ h0
    go_simp
    exact hK _ _ (Below.refl _ _) rfl
  · -- 15: load 9, t120
    intro a' W hG hd hΦ h0 K hK
    have e120 : a'.tmps[120]? = some (.pointer (some ⟨b, 5, none⟩)) := fx (W := W) (hΦ 14 120 (by kernel_rfl) (by kernel_rfl))
    have l5 := hG.cell l5
    clear hd hΦ h0
    go_simp
    exact hK _ _ (Below.refl _ _) rfl
  · -- 16: move t3
    intro a' W hG hd hΦ h0 K hK
    have e3 : a'.tmps[3]? = some (.pointer (some ⟨b, 0, none⟩)) := h0 3 (by kernel_rfl)
    clear hd hΦ h0
    go_simp
    exact hK _ _ (Below.refl _ _) rfl
  · -- 17: nilCheck t122
    intro a' W hG hd hΦ h0 K hK
    have e122 : a'.tmps[122]? = some (.pointer (some ⟨b, 0, none⟩)) := fx (W := W) (hΦ 16 122 (by kernel_rfl) (by kernel_rfl))
    clear hd hΦ h0
    go_simp
    exact hK _ _ (Below.refl _ _) rfl
  · -- 18: fieldAddr 211, t123, 3
    intro a' W hG hd hΦ h0 K hK
    have e123 : a'.tmps[123]? = some (.pointer (some ⟨b, 0, none⟩)) := fx (W := W) (hΦ 17 123 (by kernel_rfl) (by kernel_rfl))
    clear hd hΦ h0
    go_simp
    exact hK _ _ (Below.refl _ _) rfl
  · -- 19: load 163, t124
    intro a' W hG hd hΦ h0 K hK
    have e124 : a'.tmps[124]? = some (.pointer (some ⟨b, 7, none⟩)) := fx (W := W) (hΦ 18 124 (by kernel_rfl) (by kernel_rfl))
    have l7 := hG.cell l7
    clear hd hΦ h0
    go_simp
    exact hK _ _ (Below.refl _ _) rfl
  · -- 20: call F203{replevin/state.join}(t113, t117, t121, t125)
    intro a' W hG hd hΦ h0 K hK
    obtain ⟨_, e113, p113, rfl, h113⟩ := hΦ 7 113 (by kernel_rfl) (by kernel_rfl)
    have e117 : a'.tmps[117]? = some (nmV rn) := fx (W := W) (hΦ 11 117 (by kernel_rfl) (by kernel_rfl))
    have e121 : a'.tmps[121]? = some (.string rv) := fx (W := W) (hΦ 15 121 (by kernel_rfl) (by kernel_rfl))
    have e125 : a'.tmps[125]? = some (.pointer prr) := fx (W := W) (hΦ 19 125 (by kernel_rfl) (by kernel_rfl))
    clear hd hΦ h0
    go_simp
    refine (join_any rn rv _ (h113) (hrr.grew hG) (by simp only [T.many] at *; omega) (by simp only [T.total] at *; omega)).mono ?_
    rintro e w' ⟨p, rfl, hp, hg⟩
    exact hK _ _ hg ⟨p, rfl, hp⟩
  · -- 21: assign t126
    intro a' W hG hd hΦ h0 K hK
    obtain ⟨_, e126, p126, rfl, h126⟩ := hΦ 20 126 (by kernel_rfl) (by kernel_rfl)
    clear hd hΦ h0
    go_simp
    exact hK _ _ (Below.refl _ _) ⟨_, rfl, h126⟩
  intro W hG
  simp only [FinG, Fx, Any, forall_eq, true_implies]
  rintro _ ⟨p0, rfl, -⟩ v1 - v2 ⟨p, rfl, hp⟩
  go_simp
  go_wp2
  go_ret
  exact ⟨p, rfl, hp, hg1.trans hG⟩

set_option maxRecDepth 100000 in
set_option maxHeartbeats 4000000 in
theorem bal_r2 {pl pr : Option Addr} {l ml mr rr : T} {rn mn : Nm} {rv mv : ByteArray} (n : Nm) (v : ByteArray) (w : World) (hl : IsT w pl l) (hr : IsT w pr (T.node (.node ml mn mv mr) rn rv rr)) (hb : l.many + (T.node (.node ml mn mv mr) rn rv rr).many < 1000000) (ht : v.size + l.total + (T.node (.node ml mn mv mr) rn rv rr).total < 1000000000000) (h0 : ¬ (T.node (.node ml mn mv mr) rn rv rr).tall + 1 < l.tall) (h1 : l.tall + 1 < (T.node (.node ml mn mv mr) rn rv rr).tall) (h2 : ¬ (T.node ml mn mv mr).tall ≤ rr.tall) :
    Calls Tryz.prog 204 #[.pointer pl, nmV n, .string v, .pointer pr] w fun e w' => ∃ p, e = .returned (.pointer p) ∧ IsT w' p (.node (.node l n v ml) mn mv (.node mr rn rv rr)) ∧ Grew w w' := by
  have hal := T.tall_le_many l
  have har := T.tall_le_many (T.node (.node ml mn mv mr) rn rv rr)
  go_enter Tryz.func204, Tryz.ntmps204
  go_wp2_with fail
  obtain ⟨w1, hw1⟩ : ∃ w1, w1 = (w.alloc (.cells #[.int .i64 n.kind, .string n.owner, .int .i64 n.number, .int .i64 n.index, .string n.text] 32)) := ⟨_, rfl⟩
  have hg1 : Grew w w1 := by rw [hw1]; exact Grew.alloc _ _
  have c0 : w1.cell? ⟨w.heap.size, 0, none⟩ = some (.int .i64 n.kind) := by rw [hw1]; simp [go_sem]
  have c1 : w1.cell? ⟨w.heap.size, 1, none⟩ = some (.string n.owner) := by rw [hw1]; simp [go_sem]
  have c2 : w1.cell? ⟨w.heap.size, 2, none⟩ = some (.int .i64 n.number) := by rw [hw1]; simp [go_sem]
  have c3 : w1.cell? ⟨w.heap.size, 3, none⟩ = some (.int .i64 n.index) := by rw [hw1]; simp [go_sem]
  have c4 : w1.cell? ⟨w.heap.size, 4, none⟩ = some (.string n.text) := by rw [hw1]; simp [go_sem]
  rw [← hw1]
  clear hw1
  have hl1 := hl.grew hg1
  have hr1 := hr.grew hg1
  refine (tall_any _ hl1).mono ?_
  rintro e w' ⟨rfl, rfl⟩
  go_wp2_with fail
  refine (tall_any _ hr1).mono ?_
  rintro e w' ⟨rfl, rfl⟩
  go_wp2_with fail
  refine (tall_any _ hr1).mono ?_
  rintro e w' ⟨rfl, rfl⟩
  go_wp2_with fail
  refine (tall_any _ hl1).mono ?_
  rintro e w' ⟨rfl, rfl⟩
  go_wp2_with fail
  obtain ⟨b, prl, prr, rfl, l0, l1, l2, l3, l4, l5, l6, l7, -, -, -, hrl, hrr⟩ := hr1
  refine wp_region_grow [Fx (.pointer (some ⟨b, 0, none⟩)), Fx (.pointer (some ⟨b, 0, none⟩)), Fx (.pointer (some ⟨b, 7, none⟩)), Fx (.pointer prr), Fx (.int .i64 (rr.tall : Int)), Fx (.pointer (some ⟨b, 0, none⟩)), Fx (.pointer (some ⟨b, 0, none⟩)), Fx (.pointer (some ⟨b, 6, none⟩)), Fx (.pointer prl), Fx (.int .i64 ((T.node ml mn mv mr).tall : Int)), Fx (.bool (false))] (by kernel_rfl) (by kernel_rfl) (by simp only [AllStable, Fx.stable, Any.stable, and_self]) ⟨?_, ?_, ?_, ?_, ?_, ?_, ?_, ?_, ?_, ?_, ?_, trivial⟩ ?_
  · -- 0: move t3
    intro a' W hG hd hΦ h0 K hK
    have e3 : a'.tmps[3]? = some (.pointer (some ⟨b, 0, none⟩)) := h0 3 (by kernel_rfl)
    clear hd hΦ h0
    go_simp
    exact hK _ _ (Below.refl _ _) rfl
  · -- 1: nilCheck t95
    intro a' W hG hd hΦ h0 K hK
    have e95 : a'.tmps[95]? = some (.pointer (some ⟨b, 0, none⟩)) := fx (W := W) (hΦ 0 95 (by kernel_rfl) (by kernel_rfl))
    clear hd hΦ h0
    go_simp
    exact hK _ _ (Below.refl _ _) rfl
  · -- 2: fieldAddr 211, t96, 3
    intro a' W hG hd hΦ h0 K hK
    have e96 : a'.tmps[96]? = some (.pointer (some ⟨b, 0, none⟩)) := fx (W := W) (hΦ 1 96 (by kernel_rfl) (by kernel_rfl))
    clear hd hΦ h0
    go_simp
    exact hK _ _ (Below.refl _ _) rfl
  · -- 3: load 163, t97
    intro a' W hG hd hΦ h0 K hK
    have e97 : a'.tmps[97]? = some (.pointer (some ⟨b, 7, none⟩)) := fx (W := W) (hΦ 2 97 (by kernel_rfl) (by kernel_rfl))
    have l7 := hG.cell l7
    clear hd hΦ h0
    go_simp
    exact hK _ _ (Below.refl _ _) rfl
  · -- 4: call F262{(*replevin/state.tree).tall}(t98)
    intro a' W hG hd hΦ h0 K hK
    have e98 : a'.tmps[98]? = some (.pointer prr) := fx (W := W) (hΦ 3 98 (by kernel_rfl) (by kernel_rfl))
    clear hd hΦ h0
    go_simp
    refine (tall_any _ (hrr.grew hG)).mono ?_
    rintro e w' ⟨rfl, rfl⟩
    exact hK _ _ (Below.refl _ _) rfl
  · -- 5: move t3
    intro a' W hG hd hΦ h0 K hK
    have e3 : a'.tmps[3]? = some (.pointer (some ⟨b, 0, none⟩)) := h0 3 (by kernel_rfl)
    clear hd hΦ h0
    go_simp
    exact hK _ _ (Below.refl _ _) rfl
  · -- 6: nilCheck t100
    intro a' W hG hd hΦ h0 K hK
    have e100 : a'.tmps[100]? = some (.pointer (some ⟨b, 0, none⟩)) := fx (W := W) (hΦ 5 100 (by kernel_rfl) (by kernel_rfl))
    clear hd hΦ h0
    go_simp
    exact hK _ _ (Below.refl _ _) rfl
  · -- 7: fieldAddr 211, t101, 2
    intro a' W hG hd hΦ h0 K hK
    have e101 : a'.tmps[101]? = some (.pointer (some ⟨b, 0, none⟩)) := fx (W := W) (hΦ 6 101 (by kernel_rfl) (by kernel_rfl))
    clear hd hΦ h0
    go_simp
    exact hK _ _ (Below.refl _ _) rfl
  · -- 8: load 163, t102
    intro a' W hG hd hΦ h0 K hK
    have e102 : a'.tmps[102]? = some (.pointer (some ⟨b, 6, none⟩)) := fx (W := W) (hΦ 7 102 (by kernel_rfl) (by kernel_rfl))
    have l6 := hG.cell l6
    clear hd hΦ h0
    go_simp
    exact hK _ _ (Below.refl _ _) rfl
  · -- 9: call F262{(*replevin/state.tree).tall}(t103)
    intro a' W hG hd hΦ h0 K hK
    have e103 : a'.tmps[103]? = some (.pointer prl) := fx (W := W) (hΦ 8 103 (by kernel_rfl) (by kernel_rfl))
    clear hd hΦ h0
    go_simp
    refine (tall_any _ (hrl.grew hG)).mono ?_
    rintro e w' ⟨rfl, rfl⟩
    exact hK _ _ (Below.refl _ _) rfl
  · -- 10: binOp geq, 3, t99, t104, 3
    intro a' W hG hd hΦ h0 K hK
    have e99 : a'.tmps[99]? = some (.int .i64 (rr.tall : Int)) := fx (W := W) (hΦ 4 99 (by kernel_rfl) (by kernel_rfl))
    have e104 : a'.tmps[104]? = some (.int .i64 ((T.node ml mn mv mr).tall : Int)) := fx (W := W) (hΦ 9 104 (by kernel_rfl) (by kernel_rfl))
    clear hd hΦ h0
    go_simp
    exact hK _ _ (Below.refl _ _) rfl
  intro W hG
  simp only [FinG, Fx, Any, forall_eq, true_implies]
  replace hg1 := hg1.trans hG
  replace hl1 := hl1.grew hG
  replace hrl := hrl.grew hG
  replace hrr := hrr.grew hG
  replace c0 := hG.cell c0
  replace c1 := hG.cell c1
  replace c2 := hG.cell c2
  replace c3 := hG.cell c3
  replace c4 := hG.cell c4
  replace l0 := hG.cell l0
  replace l1 := hG.cell l1
  replace l2 := hG.cell l2
  replace l3 := hG.cell l3
  replace l4 := hG.cell l4
  replace l5 := hG.cell l5
  replace l6 := hG.cell l6
  replace l7 := hG.cell l7
  clear hG
  obtain ⟨m, pml, pmr, rfl, m0, m1, m2, m3, m4, m5, m6, m7, -, -, -, hml, hmr⟩ := hrl
  go_simp
  go_wp2_with fail
  refine wp_region_grow [Fx (.pointer pl), Fx (nmV n), Fx (.string v), Fx (.pointer (some ⟨m, 0, none⟩)), Fx (.pointer (some ⟨m, 0, none⟩)), Fx (.pointer (some ⟨m, 6, none⟩)), Fx (.pointer pml), PT (.node l n v ml), Fx (.pointer (some ⟨m, 0, none⟩)), Fx (.pointer (some ⟨m, 0, none⟩)), Fx (.pointer (some ⟨m, 0, none⟩)), Fx (nmV mn), Fx (.pointer (some ⟨m, 0, none⟩)), Fx (.pointer (some ⟨m, 0, none⟩)), Fx (.pointer (some ⟨m, 5, none⟩)), Fx (.string mv), Fx (.pointer (some ⟨m, 0, none⟩)), Fx (.pointer (some ⟨m, 0, none⟩)), Fx (.pointer (some ⟨m, 7, none⟩)), Fx (.pointer pmr), Fx (.pointer (some ⟨b, 0, none⟩)), Fx (.pointer (some ⟨b, 0, none⟩)), Fx (.pointer (some ⟨b, 0, none⟩)), Fx (nmV rn), Fx (.pointer (some ⟨b, 0, none⟩)), Fx (.pointer (some ⟨b, 0, none⟩)), Fx (.pointer (some ⟨b, 5, none⟩)), Fx (.string rv), Fx (.pointer (some ⟨b, 0, none⟩)), Fx (.pointer (some ⟨b, 0, none⟩)), Fx (.pointer (some ⟨b, 7, none⟩)), Fx (.pointer prr), PT (.node mr rn rv rr), PT (.node (.node l n v ml) mn mv (.node mr rn rv rr)), PT (.node (.node l n v ml) mn mv (.node mr rn rv rr))] (by kernel_rfl) (by kernel_rfl) (by simp only [AllStable, Fx.stable, Any.stable, PT.stable, and_self]) ⟨?_, ?_, ?_, ?_, ?_, ?_, ?_, ?_, ?_, ?_, ?_, ?_, ?_, ?_, ?_, ?_, ?_, ?_, ?_, ?_, ?_, ?_, ?_, ?_, ?_, ?_, ?_, ?_, ?_, ?_, ?_, ?_, ?_, ?_, ?_, trivial⟩ ?_
  · -- 0: move t0
    intro a' W hG hd hΦ h0 K hK
    have e0 : a'.tmps[0]? = some (.pointer pl) := h0 0 (by kernel_rfl)
    clear hd hΦ h0
    go_simp
    exact hK _ _ (Below.refl _ _) rfl
  · -- 1: load 32, t5
    intro a' W hG hd hΦ h0 K hK
    have e5 : a'.tmps[5]? = some (.pointer (some ⟨w.heap.size, 0, none⟩)) := h0 5 (by kernel_rfl)
    have c0 := hG.cell c0
    have c1 := hG.cell c1
    have c2 := hG.cell c2
    have c3 := hG.cell c3
    have c4 := hG.cell c4
    clear hd hΦ h0
    go_simp
    exact hK _ _ (Below.refl _ _) rfl
  · -- 2: move t2
    intro a' W hG hd hΦ h0 K hK
    have e2 : a'.tmps[2]? = some (.string v) := h0 2 (by kernel_rfl)
    clear hd hΦ h0
    go_simp
    exact hK _ _ (Below.refl _ _) rfl
  · -- 3: move t10
    intro a' W hG hd hΦ h0 K hK
    have e10 : a'.tmps[10]? = some (.pointer (some ⟨m, 0, none⟩)) := h0 10 (by kernel_rfl)
    clear hd hΦ h0
    go_simp
    exact hK _ _ (Below.refl _ _) rfl
  · -- 4: nilCheck t134
    intro a' W hG hd hΦ h0 K hK
    have e134 : a'.tmps[134]? = some (.pointer (some ⟨m, 0, none⟩)) := fx (W := W) (hΦ 3 134 (by kernel_rfl) (by kernel_rfl))
    clear hd hΦ h0
    go_simp
    exact hK _ _ (Below.refl _ _) rfl
  · -- 5: fieldAddr 211, t135, 2
    intro a' W hG hd hΦ h0 K hK
    have e135 : a'.tmps[135]? = some (.pointer (some ⟨m, 0, none⟩)) := fx (W := W) (hΦ 4 135 (by kernel_rfl) (by kernel_rfl))
    clear hd hΦ h0
    go_simp
    exact hK _ _ (Below.refl _ _) rfl
  · -- 6: load 163, t136
    intro a' W hG hd hΦ h0 K hK
    have e136 : a'.tmps[136]? = some (.pointer (some ⟨m, 6, none⟩)) := fx (W := W) (hΦ 5 136 (by kernel_rfl) (by kernel_rfl))
    have m6 := hG.cell m6
    clear hd hΦ h0
    go_simp
    exact hK _ _ (Below.refl _ _) rfl
  · -- 7: call F203{replevin/state.join}(t131, t132, t133, t137)
    intro a' W hG hd hΦ h0 K hK
    have e131 : a'.tmps[131]? = some (.pointer pl) := fx (W := W) (hΦ 0 131 (by kernel_rfl) (by kernel_rfl))
    have e132 : a'.tmps[132]? = some (nmV n) := fx (W := W) (hΦ 1 132 (by kernel_rfl) (by kernel_rfl))
    have e133 : a'.tmps[133]? = some (.string v) := fx (W := W) (hΦ 2 133 (by kernel_rfl) (by kernel_rfl))
    have e137 : a'.tmps[137]? = some (.pointer pml) := fx (W := W) (hΦ 6 137 (by kernel_rfl) (by kernel_rfl))
    clear hd hΦ h0
    go_simp
    refine (join_any n v _ (hl1.grew hG) (hml.grew hG) (by simp only [T.many] at *; omega) (by simp only [T.total] at *; omega)).mono ?_
    rintro e w' ⟨p, rfl, hp, hg⟩
    exact hK _ _ hg ⟨p, rfl, hp⟩
  · -- 8: move t10
    intro a' W hG hd hΦ h0 K hK
    have e10 : a'.tmps[10]? = some (.pointer (some ⟨m, 0, none⟩)) := h0 10 (by kernel_rfl)
    clear hd hΦ h0
    go_simp
    exact hK _ _ (Below.refl _ _) rfl
  · -- 9: nilCheck t139
    intro a' W hG hd hΦ h0 K hK
    have e139 : a'.tmps[139]? = some (.pointer (some ⟨m, 0, none⟩)) := fx (W := W) (hΦ 8 139 (by kernel_rfl) (by kernel_rfl))
    clear hd hΦ h0
    go_simp
    exact hK _ _ (Below.refl _ _) rfl
  · -- 10: fieldAddr 211, t140, 0
    intro a' W hG hd hΦ h0 K hK
    have e140 : a'.tmps[140]? = some (.pointer (some ⟨m, 0, none⟩)) := fx (W := W) (hΦ 9 140 (by kernel_rfl) (by kernel_rfl))
    clear hd hΦ h0
    go_simp
    exact hK _ _ (Below.refl _ _) rfl
  · -- 11: load 32, t141
    intro a' W hG hd hΦ h0 K hK
    have e141 : a'.tmps[141]? = some (.pointer (some ⟨m, 0, none⟩)) := fx (W := W) (hΦ 10 141 (by kernel_rfl) (by kernel_rfl))
    have m0 := hG.cell m0
    have m1 := hG.cell m1
    have m2 := hG.cell m2
    have m3 := hG.cell m3
    have m4 := hG.cell m4
    clear hd hΦ h0
    go_simp
    exact hK _ _ (Below.refl _ _) rfl
  · -- 12: move t10
    intro a' W hG hd hΦ h0 K hK
    have e10 : a'.tmps[10]? = some (.pointer (some ⟨m, 0, none⟩)) := h0 10 (by kernel_rfl)
    clear hd hΦ h0
    go_simp
    exact hK _ _ (Below.refl _ _) rfl
  · -- 13: nilCheck t143
    intro a' W hG hd hΦ h0 K hK
    have e143 : a'.tmps[143]? = some (.pointer (some ⟨m, 0, none⟩)) := fx (W := W) (hΦ 12 143 (by kernel_rfl) (by kernel_rfl))
    clear hd hΦ h0
    go_simp
    exact hK _ _ (Below.refl _ _) rfl
  · -- 14: fieldAddr 211, t144, 1
    intro a' W hG hd hΦ h0 K hK
    have e144 : a'.tmps[144]? = some (.pointer (some ⟨m, 0, none⟩)) := fx (W := W) (hΦ 13 144 (by kernel_rfl) (by kernel_rfl))
    clear hd hΦ h0
    go_simp
    exact hK _ _ (Below.refl _ _) rfl
  · -- 15: load 9, t145
    intro a' W hG hd hΦ h0 K hK
    have e145 : a'.tmps[145]? = some (.pointer (some ⟨m, 5, none⟩)) := fx (W := W) (hΦ 14 145 (by kernel_rfl) (by kernel_rfl))
    have m5 := hG.cell m5
    clear hd hΦ h0
    go_simp
    exact hK _ _ (Below.refl _ _) rfl
  · -- 16: move t10
    intro a' W hG hd hΦ h0 K hK
    have e10 : a'.tmps[10]? = some (.pointer (some ⟨m, 0, none⟩)) := h0 10 (by kernel_rfl)
    clear hd hΦ h0
    go_simp
    exact hK _ _ (Below.refl _ _) rfl
  · -- 17: nilCheck t147
    intro a' W hG hd hΦ h0 K hK
    have e147 : a'.tmps[147]? = some (.pointer (some ⟨m, 0, none⟩)) := fx (W := W) (hΦ 16 147 (by kernel_rfl) (by kernel_rfl))
    clear hd hΦ h0
    go_simp
    exact hK _ _ (Below.refl _ _) rfl
  · -- 18: fieldAddr 211, t148, 3
    intro a' W hG hd hΦ h0 K hK
    have e148 : a'.tmps[148]? = some (.pointer (some ⟨m, 0, none⟩)) := fx (W := W) (hΦ 17 148 (by kernel_rfl) (by kernel_rfl))
    clear hd hΦ h0
    go_simp
    exact hK _ _ (Below.refl _ _) rfl
  · -- 19: load 163, t149
    intro a' W hG hd hΦ h0 K hK
    have e149 : a'.tmps[149]? = some (.pointer (some ⟨m, 7, none⟩)) := fx (W := W) (hΦ 18 149 (by kernel_rfl) (by kernel_rfl))
    have m7 := hG.cell m7
    clear hd hΦ h0
    go_simp
    exact hK _ _ (Below.refl _ _) rfl
  · -- 20: move t3
    intro a' W hG hd hΦ h0 K hK
    have e3 : a'.tmps[3]? = some (.pointer (some ⟨b, 0, none⟩)) := h0 3 (by kernel_rfl)
    clear hd hΦ h0
    go_simp
    exact hK _ _ (Below.refl _ _) rfl
  · -- 21: nilCheck t151
    intro a' W hG hd hΦ h0 K hK
    have e151 : a'.tmps[151]? = some (.pointer (some ⟨b, 0, none⟩)) := fx (W := W) (hΦ 20 151 (by kernel_rfl) (by kernel_rfl))
    clear hd hΦ h0
    go_simp
    exact hK _ _ (Below.refl _ _) rfl
  · -- 22: fieldAddr 211, t152, 0
    intro a' W hG hd hΦ h0 K hK
    have e152 : a'.tmps[152]? = some (.pointer (some ⟨b, 0, none⟩)) := fx (W := W) (hΦ 21 152 (by kernel_rfl) (by kernel_rfl))
    clear hd hΦ h0
    go_simp
    exact hK _ _ (Below.refl _ _) rfl
  · -- 23: load 32, t153
    intro a' W hG hd hΦ h0 K hK
    have e153 : a'.tmps[153]? = some (.pointer (some ⟨b, 0, none⟩)) := fx (W := W) (hΦ 22 153 (by kernel_rfl) (by kernel_rfl))
    have l0 := hG.cell l0
    have l1 := hG.cell l1
    have l2 := hG.cell l2
    have l3 := hG.cell l3
    have l4 := hG.cell l4
    clear hd hΦ h0
    go_simp
    exact hK _ _ (Below.refl _ _) rfl
  · -- 24: move t3
    intro a' W hG hd hΦ h0 K hK
    have e3 : a'.tmps[3]? = some (.pointer (some ⟨b, 0, none⟩)) := h0 3 (by kernel_rfl)
    clear hd hΦ h0
    go_simp
    exact hK _ _ (Below.refl _ _) rfl
  · -- 25: nilCheck t155
    intro a' W hG hd hΦ h0 K hK
    have e155 : a'.tmps[155]? = some (.pointer (some ⟨b, 0, none⟩)) := fx (W := W) (hΦ 24 155 (by kernel_rfl) (by kernel_rfl))
    clear hd hΦ h0
    go_simp
    exact hK _ _ (Below.refl _ _) rfl
  · -- 26: fieldAddr 211, t156, 1
    intro a' W hG hd hΦ h0 K hK
    have e156 : a'.tmps[156]? = some (.pointer (some ⟨b, 0, none⟩)) := fx (W := W) (hΦ 25 156 (by kernel_rfl) (by kernel_rfl))
    clear hd hΦ h0
    go_simp
    exact hK _ _ (Below.refl _ _) rfl
  · -- 27: load 9, t157
    intro a' W hG hd hΦ h0 K hK
    have e157 : a'.tmps[157]? = some (.pointer (some ⟨b, 5, none⟩)) := fx (W := W) (hΦ 26 157 (by kernel_rfl) (by kernel_rfl))
    have l5 := hG.cell l5
    clear hd hΦ h0
    go_simp
    exact hK _ _ (Below.refl _ _) rfl
  · -- 28: move t3
    intro a' W hG hd hΦ h0 K hK
    have e3 : a'.tmps[3]? = some (.pointer (some ⟨b, 0, none⟩)) := h0 3 (by kernel_rfl)
    clear hd hΦ h0
    go_simp
    exact hK _ _ (Below.refl _ _) rfl
  · -- 29: nilCheck t159
    intro a' W hG hd hΦ h0 K hK
    have e159 : a'.tmps[159]? = some (.pointer (some ⟨b, 0, none⟩)) := fx (W := W) (hΦ 28 159 (by kernel_rfl) (by kernel_rfl))
    clear hd hΦ h0
    go_simp
    exact hK _ _ (Below.refl _ _) rfl
  · -- 30: fieldAddr 211, t160, 3
    intro a' W hG hd hΦ h0 K hK
    have e160 : a'.tmps[160]? = some (.pointer (some ⟨b, 0, none⟩)) := fx (W := W) (hΦ 29 160 (by kernel_rfl) (by kernel_rfl))
    clear hd hΦ h0
    go_simp
    exact hK _ _ (Below.refl _ _) rfl
  · -- 31: load 163, t161
    intro a' W hG hd hΦ h0 K hK
    have e161 : a'.tmps[161]? = some (.pointer (some ⟨b, 7, none⟩)) := fx (W := W) (hΦ 30 161 (by kernel_rfl) (by kernel_rfl))
    have l7 := hG.cell l7
    clear hd hΦ h0
    go_simp
    exact hK _ _ (Below.refl _ _) rfl
  · -- 32: call F203{replevin/state.join}(t150, t154, t158, t162)
    intro a' W hG hd hΦ h0 K hK
    have e150 : a'.tmps[150]? = some (.pointer pmr) := fx (W := W) (hΦ 19 150 (by kernel_rfl) (by kernel_rfl))
    have e154 : a'.tmps[154]? = some (nmV rn) := fx (W := W) (hΦ 23 154 (by kernel_rfl) (by kernel_rfl))
    have e158 : a'.tmps[158]? = some (.string rv) := fx (W := W) (hΦ 27 158 (by kernel_rfl) (by kernel_rfl))
    have e162 : a'.tmps[162]? = some (.pointer prr) := fx (W := W) (hΦ 31 162 (by kernel_rfl) (by kernel_rfl))
    clear hd hΦ h0
    go_simp
    refine (join_any rn rv _ (hmr.grew hG) (hrr.grew hG) (by simp only [T.many] at *; omega) (by simp only [T.total] at *; omega)).mono ?_
    rintro e w' ⟨p, rfl, hp, hg⟩
    exact hK _ _ hg ⟨p, rfl, hp⟩
  · -- 33: call F203{replevin/state.join}(t138, t142, t146, t163)
    intro a' W hG hd hΦ h0 K hK
    obtain ⟨_, e138, p138, rfl, h138⟩ := hΦ 7 138 (by kernel_rfl) (by kernel_rfl)
    have e142 : a'.tmps[142]? = some (nmV mn) := fx (W := W) (hΦ 11 142 (by kernel_rfl) (by kernel_rfl))
    have e146 : a'.tmps[146]? = some (.string mv) := fx (W := W) (hΦ 15 146 (by kernel_rfl) (by kernel_rfl))
    obtain ⟨_, e163, p163, rfl, h163⟩ := hΦ 32 163 (by kernel_rfl) (by kernel_rfl)
    clear hd hΦ h0
    go_simp
    refine (join_any mn mv _ (h138) (h163) (by simp only [T.many] at *; omega) (by simp only [T.total] at *; omega)).mono ?_
    rintro e w' ⟨p, rfl, hp, hg⟩
    exact hK _ _ hg ⟨p, rfl, hp⟩
  · -- 34: assign t164
    intro a' W hG hd hΦ h0 K hK
    obtain ⟨_, e164, p164, rfl, h164⟩ := hΦ 33 164 (by kernel_rfl) (by kernel_rfl)
    clear hd hΦ h0
    go_simp
    exact hK _ _ (Below.refl _ _) ⟨_, rfl, h164⟩
  intro W hG
  simp only [FinG, Fx, Any, forall_eq, true_implies]
  rintro _ ⟨p0, rfl, -⟩ _ ⟨p1, rfl, -⟩ v1 - v2 ⟨p, rfl, hp⟩
  go_simp
  go_wp2
  go_ret
  exact ⟨p, rfl, hp, hg1.trans hG⟩


theorem bal_any {pl pr : Option Addr} {l r : T} (n : Nm) (v : ByteArray) (w : World) (hl : IsT w pl l) (hr : IsT w pr r) (hb : l.many + r.many < 1000000) (ht : v.size + l.total + r.total < 1000000000000) :
    Calls Tryz.prog 204 #[.pointer pl, nmV n, .string v, .pointer pr] w fun e w' => ∃ p, e = .returned (.pointer p) ∧ IsT w' p (T.bal l n v r) ∧ Grew w w' := by
  unfold T.bal
  by_cases h1 : r.tall + 1 < l.tall
  · rw [if_pos h1]
    cases l with
    | nil => simp [T.tall] at h1
    | node ll ln lv lr =>
      simp only
      by_cases h2 : lr.tall ≤ ll.tall
      · rw [if_pos h2]; exact bal_l1 n v w hl hr hb ht h1 h2
      · rw [if_neg h2]
        cases lr with
        | nil => simp [T.tall] at h2
        | node ml mn mv mr => exact bal_l2 n v w hl hr hb ht h1 h2
  · rw [if_neg h1]
    by_cases h3 : l.tall + 1 < r.tall
    · rw [if_pos h3]
      cases r with
      | nil => simp [T.tall] at h3
      | node rl rn rv rr =>
        simp only
        by_cases h2 : rl.tall ≤ rr.tall
        · rw [if_pos h2]; exact bal_r1 n v w hl hr hb ht h1 h3 h2
        · rw [if_neg h2]
          cases rl with
          | nil => simp [T.tall] at h2
          | node ml mn mv mr => exact bal_r2 n v w hl hr hb ht h1 h3 h2
    · rw [if_neg h3]; exact bal_none n v w hl hr hb ht h1 h3

end Go.Proofs.YtkiojenkpbkjpaaGreatDoor
