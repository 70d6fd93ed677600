/- Walk: tree.with. -/
import Derived.Test.YtkiojenkpbkjpaaGreatDoorTreeC
set_option linter.unusedVariables false
set_option linter.unusedSimpArgs false
namespace Go.Proofs.YtkiojenkpbkjpaaGreatDoor
open Go Go.RowKit RV
set_option maxHeartbeats 2000000
theorem T.many_bal (l : T) (n : Nm) (v : ByteArray) (r : T) : (T.bal l n v r).many = 1 + l.many + r.many := by
  unfold T.bal
  repeat' split
  all_goals simp only [T.many]
  all_goals omega
theorem T.total_bal (l : T) (n : Nm) (v : ByteArray) (r : T) : (T.bal l n v r).total = v.size + l.total + r.total := by
  unfold T.bal
  repeat' split
  all_goals simp only [T.total]
  all_goals omega
theorem T.many_put (n : Nm) (v : ByteArray) (t : T) : (T.put n v t).many ≤ t.many + 1 := by
  induction t with
  | nil => simp [T.put, T.many]
  | node l m u r ihl ihr =>
    simp only [T.put]
    repeat' split
    all_goals simp only [T.many_bal, T.many]
    all_goals omega
theorem T.total_put (n : Nm) (v : ByteArray) (t : T) : (T.put n v t).total ≤ t.total + v.size := by
  induction t with
  | nil => simp [T.put, T.total]
  | node l m u r ihl ihr =>
    simp only [T.put]
    repeat' split
    all_goals simp only [T.total_bal, T.total]
    all_goals omega

set_option maxRecDepth 100000 in
theorem with_any (n : Nm) (hn : n.owner.size ≤ maxLen) (v : ByteArray) (t : T) : ∀ (p : Option Addr) (w : World) (_ : IsT w p t) (_ : Fine t) (_ : t.many < 900000) (_ : v.size + t.total < 900000000000),
    Calls Tryz.prog 148 #[.pointer p, nmV n, .string v] w fun e w' => ∃ q, e = .returned (.pointer q) ∧ IsT w' q (t.put n v) ∧ Grew w w' := by
  induction t with
  | nil =>
    intro p w ht hf hb hto
    obtain rfl : p = none := ht
    go_enter Tryz.func148, Tryz.ntmps148
    go_wp2_with fail
    obtain ⟨w1, hw1⟩ : ∃ w1, w1 = (w.alloc (.cells #[.int .i64 n.kind, .string n.owner, .int .i64 n.number, .int .i64 n.index, .string n.text] 32)) := ⟨_, rfl⟩
    have hg1 : Grew w w1 := by rw [hw1]; exact Grew.alloc _ _
    have c0 : w1.cell? ⟨w.heap.size, 0, none⟩ = some (.int .i64 n.kind) := by rw [hw1]; simp [go_sem]
    have c1 : w1.cell? ⟨w.heap.size, 1, none⟩ = some (.string n.owner) := by rw [hw1]; simp [go_sem]
    have c2 : w1.cell? ⟨w.heap.size, 2, none⟩ = some (.int .i64 n.number) := by rw [hw1]; simp [go_sem]
    have c3 : w1.cell? ⟨w.heap.size, 3, none⟩ = some (.int .i64 n.index) := by rw [hw1]; simp [go_sem]
    have c4 : w1.cell? ⟨w.heap.size, 4, none⟩ = some (.string n.text) := by rw [hw1]; simp [go_sem]
    rw [← hw1]
    clear hw1
    refine (join_any (l := .nil) (r := .nil) n v _ rfl rfl (by simp [T.many]) (by simp only [T.total] at *; omega)).mono ?_
    rintro e w' ⟨q, rfl, hq, hg⟩
    go_wp2
    go_ret
    exact ⟨q, rfl, hq, hg1.trans hg⟩
  | node l m u r ihl ihr =>
    intro p w ht hf hb hto
    have hmp := T.many_put n v l
    have htp := T.total_put n v l
    have hmq := T.many_put n v r
    have htq := T.total_put n v r
    obtain ⟨hfl, hm, hfr⟩ := hf.node
    go_enter Tryz.func148, Tryz.ntmps148
    obtain ⟨b, pl, pr, rfl, l0, l1, l2, l3, l4, l5, l6, l7, -, -, -, hll, hlr⟩ := ht
    go_wp2_with fail
    obtain ⟨w1, hw1⟩ : ∃ w1, w1 = (w.alloc (.cells #[.int .i64 n.kind, .string n.owner, .int .i64 n.number, .int .i64 n.index, .string n.text] 32)) := ⟨_, rfl⟩
    have hg1 : Grew w w1 := by rw [hw1]; exact Grew.alloc _ _
    have c0 : w1.cell? ⟨w.heap.size, 0, none⟩ = some (.int .i64 n.kind) := by rw [hw1]; simp [go_sem]
    have c1 : w1.cell? ⟨w.heap.size, 1, none⟩ = some (.string n.owner) := by rw [hw1]; simp [go_sem]
    have c2 : w1.cell? ⟨w.heap.size, 2, none⟩ = some (.int .i64 n.number) := by rw [hw1]; simp [go_sem]
    have c3 : w1.cell? ⟨w.heap.size, 3, none⟩ = some (.int .i64 n.index) := by rw [hw1]; simp [go_sem]
    have c4 : w1.cell? ⟨w.heap.size, 4, none⟩ = some (.string n.text) := by rw [hw1]; simp [go_sem]
    rw [← hw1]
    clear hw1
    replace hll := hll.grew hg1
    replace hlr := hlr.grew hg1
    replace l0 := hg1.cell l0
    replace l1 := hg1.cell l1
    replace l2 := hg1.cell l2
    replace l3 := hg1.cell l3
    replace l4 := hg1.cell l4
    replace l5 := hg1.cell l5
    replace l6 := hg1.cell l6
    replace l7 := hg1.cell l7
    refine wp_region_grow [Fx (nmV n), Fx (.pointer (some ⟨b, 0, none⟩)), Fx (.pointer (some ⟨b, 0, none⟩)), Fx (.pointer (some ⟨b, 0, none⟩)), Fx (nmV m), Fx (.int .i64 (nameCmp n m)), Fx (.int .i64 (nameCmp n m))] (by kernel_rfl) (by kernel_rfl) (by simp only [AllStable, Fx.stable, Any.stable, and_self]) ⟨?_, ?_, ?_, ?_, ?_, ?_, ?_, trivial⟩ ?_
    · -- 0: load 32, t4
      intro a' W hG hd hΦ h0 K hK
      have e4 : a'.tmps[4]? = some (.pointer (some ⟨w.heap.size, 0, none⟩)) := h0 4 (by kernel_rfl)
      have c0 := hG.cell c0
      have c1 := hG.cell c1
      have c2 := hG.cell c2
      have c3 := hG.cell c3
      have c4 := hG.cell c4
      clear hd hΦ h0
      go_simp
      exact hK _ _ (Below.refl _ _) rfl
    · -- 1: move t0
      intro a' W hG hd hΦ h0 K hK
      have e0 : a'.tmps[0]? = some (.pointer (some ⟨b, 0, none⟩)) := h0 0 (by kernel_rfl)
      clear hd hΦ h0
      go_simp
      exact hK _ _ (Below.refl _ _) rfl
    · -- 2: nilCheck t14
      intro a' W hG hd hΦ h0 K hK
      have e14 : a'.tmps[14]? = some (.pointer (some ⟨b, 0, none⟩)) := fx (W := W) (hΦ 1 14 (by kernel_rfl) (by kernel_rfl))
      clear hd hΦ h0
      go_simp
      exact hK _ _ (Below.refl _ _) rfl
    · -- 3: fieldAddr 211, t15, 0
      intro a' W hG hd hΦ h0 K hK
      have e15 : a'.tmps[15]? = some (.pointer (some ⟨b, 0, none⟩)) := fx (W := W) (hΦ 2 15 (by kernel_rfl) (by kernel_rfl))
      clear hd hΦ h0
      go_simp
      exact hK _ _ (Below.refl _ _) rfl
    · -- 4: load 32, t16
      intro a' W hG hd hΦ h0 K hK
      have e16 : a'.tmps[16]? = some (.pointer (some ⟨b, 0, none⟩)) := fx (W := W) (hΦ 3 16 (by kernel_rfl) (by kernel_rfl))
      have l0 := hG.cell l0
      have l1 := hG.cell l1
      have l2 := hG.cell l2
      have l3 := hG.cell l3
      have l4 := hG.cell l4
      clear hd hΦ h0
      go_simp
      exact hK _ _ (Below.refl _ _) rfl
    · -- 5: call F103{replevin/object.Compare}(t13, t17)
      intro a' W hG hd hΦ h0 K hK
      have e13 : a'.tmps[13]? = some (nmV n) := fx (W := W) (hΦ 0 13 (by kernel_rfl) (by kernel_rfl))
      have e17 : a'.tmps[17]? = some (nmV m) := fx (W := W) (hΦ 4 17 (by kernel_rfl) (by kernel_rfl))
      clear hd hΦ h0
      go_simp
      refine (nameCmp_any n m hn hm _).mono ?_
      rintro e w' ⟨rfl, hg⟩
      exact hK _ _ hg rfl
    · -- 6: assign t18
      intro a' W hG hd hΦ h0 K hK
      have e18 : a'.tmps[18]? = some (.int .i64 (nameCmp n m)) := fx (W := W) (hΦ 5 18 (by kernel_rfl) (by kernel_rfl))
      clear hd hΦ h0
      go_simp
      exact hK _ _ (Below.refl _ _) rfl
    intro W hG
    simp only [FinG, Fx, Any, forall_eq, true_implies]
    replace hll := hll.grew hG
    replace hlr := hlr.grew hG
    replace hg1 := hg1.trans hG
    replace l0 := hG.cell l0
    replace l1 := hG.cell l1
    replace l2 := hG.cell l2
    replace l3 := hG.cell l3
    replace l4 := hG.cell l4
    replace l5 := hG.cell l5
    replace l6 := hG.cell l6
    replace l7 := hG.cell l7
    replace c0 := hG.cell c0
    replace c1 := hG.cell c1
    replace c2 := hG.cell c2
    replace c3 := hG.cell c3
    replace c4 := hG.cell c4
    clear hG
    by_cases h1 : nameCmp n m < 0
    · have hres : T.put n v (.node l m u r) = .bal (.put n v l) m u r := by simp [T.put, h1]
      have hres := Lib.hid hres
      go_simp
      go_wp2_with fail
      refine wp_region_grow [Fx (.pointer (some ⟨b, 0, none⟩)), Fx (.pointer (some ⟨b, 0, none⟩)), Fx (.pointer (some ⟨b, 6, none⟩)), Fx (.pointer pl), Fx (nmV n), Fx (.string v), PT (.put n v l), Fx (.pointer (some ⟨b, 0, none⟩)), Fx (.pointer (some ⟨b, 0, none⟩)), Fx (.pointer (some ⟨b, 0, none⟩)), Fx (nmV m), Fx (.pointer (some ⟨b, 0, none⟩)), Fx (.pointer (some ⟨b, 0, none⟩)), Fx (.pointer (some ⟨b, 5, none⟩)), Fx (.string u), Fx (.pointer (some ⟨b, 0, none⟩)), Fx (.pointer (some ⟨b, 0, none⟩)), Fx (.pointer (some ⟨b, 7, none⟩)), Fx (.pointer pr), PT (.bal (.put n v l) m u r), PT (.bal (.put n v l) m u r)] (by kernel_rfl) (by kernel_rfl) (by simp only [AllStable, Fx.stable, Any.stable, PT.stable, and_self]) ⟨?_, ?_, ?_, ?_, ?_, ?_, ?_, ?_, ?_, ?_, ?_, ?_, ?_, ?_, ?_, ?_, ?_, ?_, ?_, ?_, ?_, trivial⟩ ?_
      · -- 0: move t0
        intro a' W hG hd hΦ h0 K hK
        have e0 : a'.tmps[0]? = some (.pointer (some ⟨b, 0, none⟩)) := h0 0 (by kernel_rfl)
        clear hd hΦ h0
        go_simp
        exact hK _ _ (Below.refl _ _) rfl
      · -- 1: nilCheck t22
        intro a' W hG hd hΦ h0 K hK
        have e22 : a'.tmps[22]? = some (.pointer (some ⟨b, 0, none⟩)) := fx (W := W) (hΦ 0 22 (by kernel_rfl) (by kernel_rfl))
        clear hd hΦ h0
        go_simp
        exact hK _ _ (Below.refl _ _) rfl
      · -- 2: fieldAddr 211, t23, 2
        intro a' W hG hd hΦ h0 K hK
        have e23 : a'.tmps[23]? = some (.pointer (some ⟨b, 0, none⟩)) := fx (W := W) (hΦ 1 23 (by kernel_rfl) (by kernel_rfl))
        clear hd hΦ h0
        go_simp
        exact hK _ _ (Below.refl _ _) rfl
      · -- 3: load 163, t24
        intro a' W hG hd hΦ h0 K hK
        have e24 : a'.tmps[24]? = some (.pointer (some ⟨b, 6, none⟩)) := fx (W := W) (hΦ 2 24 (by kernel_rfl) (by kernel_rfl))
        have l6 := hG.cell l6
        clear hd hΦ h0
        go_simp
        exact hK _ _ (Below.refl _ _) rfl
      · -- 4: load 32, t4
        intro a' W hG hd hΦ h0 K hK
        have e4 : a'.tmps[4]? = some (.pointer (some ⟨w.heap.size, 0, none⟩)) := h0 4 (by kernel_rfl)
        have c0 := hG.cell c0
        have c1 := hG.cell c1
        have c2 := hG.cell c2
        have c3 := hG.cell c3
        have c4 := hG.cell c4
        clear hd hΦ h0
        go_simp
        exact hK _ _ (Below.refl _ _) rfl
      · -- 5: move t2
        intro a' W hG hd hΦ h0 K hK
        have e2 : a'.tmps[2]? = some (.string v) := h0 2 (by kernel_rfl)
        clear hd hΦ h0
        go_simp
        exact hK _ _ (Below.refl _ _) rfl
      · -- 6: call F148{(*replevin/state.tree).with}(t25, t26, t27)
        intro a' W hG hd hΦ h0 K hK
        have e25 : a'.tmps[25]? = some (.pointer pl) := fx (W := W) (hΦ 3 25 (by kernel_rfl) (by kernel_rfl))
        have e26 : a'.tmps[26]? = some (nmV n) := fx (W := W) (hΦ 4 26 (by kernel_rfl) (by kernel_rfl))
        have e27 : a'.tmps[27]? = some (.string v) := fx (W := W) (hΦ 5 27 (by kernel_rfl) (by kernel_rfl))
        clear hd hΦ h0
        go_simp
        refine (ihl _ _ (hll.grew hG) hfl (by simp only [T.many] at *; omega) (by simp only [T.total] at *; omega)).mono ?_
        rintro e w' ⟨p, rfl, hp, hg⟩
        exact hK _ _ hg ⟨p, rfl, hp⟩
      · -- 7: move t0
        intro a' W hG hd hΦ h0 K hK
        have e0 : a'.tmps[0]? = some (.pointer (some ⟨b, 0, none⟩)) := h0 0 (by kernel_rfl)
        clear hd hΦ h0
        go_simp
        exact hK _ _ (Below.refl _ _) rfl
      · -- 8: nilCheck t29
        intro a' W hG hd hΦ h0 K hK
        have e29 : a'.tmps[29]? = some (.pointer (some ⟨b, 0, none⟩)) := fx (W := W) (hΦ 7 29 (by kernel_rfl) (by kernel_rfl))
        clear hd hΦ h0
        go_simp
        exact hK _ _ (Below.refl _ _) rfl
      · -- 9: fieldAddr 211, t30, 0
        intro a' W hG hd hΦ h0 K hK
        have e30 : a'.tmps[30]? = some (.pointer (some ⟨b, 0, none⟩)) := fx (W := W) (hΦ 8 30 (by kernel_rfl) (by kernel_rfl))
        clear hd hΦ h0
        go_simp
        exact hK _ _ (Below.refl _ _) rfl
      · -- 10: load 32, t31
        intro a' W hG hd hΦ h0 K hK
        have e31 : a'.tmps[31]? = some (.pointer (some ⟨b, 0, none⟩)) := fx (W := W) (hΦ 9 31 (by kernel_rfl) (by kernel_rfl))
        have l0 := hG.cell l0
        have l1 := hG.cell l1
        have l2 := hG.cell l2
        have l3 := hG.cell l3
        have l4 := hG.cell l4
        clear hd hΦ h0
        go_simp
        exact hK _ _ (Below.refl _ _) rfl
      · -- 11: move t0
        intro a' W hG hd hΦ h0 K hK
        have e0 : a'.tmps[0]? = some (.pointer (some ⟨b, 0, none⟩)) := h0 0 (by kernel_rfl)
        clear hd hΦ h0
        go_simp
        exact hK _ _ (Below.refl _ _) rfl
      · -- 12: nilCheck t33
        intro a' W hG hd hΦ h0 K hK
        have e33 : a'.tmps[33]? = some (.pointer (some ⟨b, 0, none⟩)) := fx (W := W) (hΦ 11 33 (by kernel_rfl) (by kernel_rfl))
        clear hd hΦ h0
        go_simp
        exact hK _ _ (Below.refl _ _) rfl
      · -- 13: fieldAddr 211, t34, 1
        intro a' W hG hd hΦ h0 K hK
        have e34 : a'.tmps[34]? = some (.pointer (some ⟨b, 0, none⟩)) := fx (W := W) (hΦ 12 34 (by kernel_rfl) (by kernel_rfl))
        clear hd hΦ h0
        go_simp
        exact hK _ _ (Below.refl _ _) rfl
      · -- 14: load 9, t35
        intro a' W hG hd hΦ h0 K hK
        have e35 : a'.tmps[35]? = some (.pointer (some ⟨b, 5, none⟩)) := fx (W := W) (hΦ 13 35 (by kernel_rfl) (by kernel_rfl))
        have l5 := hG.cell l5
        clear hd hΦ h0
        go_simp
        exact hK _ _ (Below.refl _ _) rfl
      · -- 15: move t0
        intro a' W hG hd hΦ h0 K hK
        have e0 : a'.tmps[0]? = some (.pointer (some ⟨b, 0, none⟩)) := h0 0 (by kernel_rfl)
        clear hd hΦ h0
        go_simp
        exact hK _ _ (Below.refl _ _) rfl
      · -- 16: nilCheck t37
        intro a' W hG hd hΦ h0 K hK
        have e37 : a'.tmps[37]? = some (.pointer (some ⟨b, 0, none⟩)) := fx (W := W) (hΦ 15 37 (by kernel_rfl) (by kernel_rfl))
        clear hd hΦ h0
        go_simp
        exact hK _ _ (Below.refl _ _) rfl
      · -- 17: fieldAddr 211, t38, 3
        intro a' W hG hd hΦ h0 K hK
        have e38 : a'.tmps[38]? = some (.pointer (some ⟨b, 0, none⟩)) := fx (W := W) (hΦ 16 38 (by kernel_rfl) (by kernel_rfl))
        clear hd hΦ h0
        go_simp
        exact hK _ _ (Below.refl _ _) rfl
      · -- 18: load 163, t39
        intro a' W hG hd hΦ h0 K hK
        have e39 : a'.tmps[39]? = some (.pointer (some ⟨b, 7, none⟩)) := fx (W := W) (hΦ 17 39 (by kernel_rfl) (by kernel_rfl))
        have l7 := hG.cell l7
        clear hd hΦ h0
        go_simp
        exact hK _ _ (Below.refl _ _) rfl
      · -- 19: call F204{replevin/state.balance}(t28, t32, t36, t40)
        intro a' W hG hd hΦ h0 K hK
        obtain ⟨_, e28, p28, rfl, h28⟩ := hΦ 6 28 (by kernel_rfl) (by kernel_rfl)
        have e32 : a'.tmps[32]? = some (nmV m) := fx (W := W) (hΦ 10 32 (by kernel_rfl) (by kernel_rfl))
        have e36 : a'.tmps[36]? = some (.string u) := fx (W := W) (hΦ 14 36 (by kernel_rfl) (by kernel_rfl))
        have e40 : a'.tmps[40]? = some (.pointer pr) := fx (W := W) (hΦ 18 40 (by kernel_rfl) (by kernel_rfl))
        clear hd hΦ h0
        go_simp
        refine (bal_any m u _ h28 (hlr.grew hG) (by simp only [T.many] at *; omega) (by simp only [T.total] at *; omega)).mono ?_
        rintro e w' ⟨p, rfl, hp, hg⟩
        exact hK _ _ hg ⟨p, rfl, hp⟩
      · -- 20: assign t41
        intro a' W hG hd hΦ h0 K hK
        obtain ⟨_, e41, p41, rfl, h41⟩ := hΦ 19 41 (by kernel_rfl) (by kernel_rfl)
        clear hd hΦ h0
        go_simp
        exact hK _ _ (Below.refl _ _) ⟨_, rfl, h41⟩
      intro W hG
      simp only [FinG, Fx, Any, forall_eq, true_implies]
      rintro _ ⟨p0, rfl, -⟩ v1 - v2 ⟨p, rfl, hp⟩
      go_simp
      go_wp2
      go_ret
      exact ⟨p, rfl, by rw [hres.out]; exact hp, hg1.trans hG⟩
    · by_cases h2 : 0 < nameCmp n m
      · have hres : T.put n v (.node l m u r) = .bal l m u (.put n v r) := by simp [T.put, h1, h2]
        have hres := Lib.hid hres
        go_simp
        go_wp2_with fail
        refine wp_region_grow [Fx (.pointer (some ⟨b, 0, none⟩)), Fx (.pointer (some ⟨b, 0, none⟩)), Fx (.pointer (some ⟨b, 6, none⟩)), Fx (.pointer pl), Fx (.pointer (some ⟨b, 0, none⟩)), Fx (.pointer (some ⟨b, 0, none⟩)), Fx (.pointer (some ⟨b, 0, none⟩)), Fx (nmV m), Fx (.pointer (some ⟨b, 0, none⟩)), Fx (.pointer (some ⟨b, 0, none⟩)), Fx (.pointer (some ⟨b, 5, none⟩)), Fx (.string u), Fx (.pointer (some ⟨b, 0, none⟩)), Fx (.pointer (some ⟨b, 0, none⟩)), Fx (.pointer (some ⟨b, 7, none⟩)), Fx (.pointer pr), Fx (nmV n), Fx (.string v), PT (.put n v r), PT (.bal l m u (.put n v r)), PT (.bal l m u (.put n v r))] (by kernel_rfl) (by kernel_rfl) (by simp only [AllStable, Fx.stable, Any.stable, PT.stable, and_self]) ⟨?_, ?_, ?_, ?_, ?_, ?_, ?_, ?_, ?_, ?_, ?_, ?_, ?_, ?_, ?_, ?_, ?_, ?_, ?_, ?_, ?_, trivial⟩ ?_
        · -- 0: move t0
          intro a' W hG hd hΦ h0 K hK
          have e0 : a'.tmps[0]? = some (.pointer (some ⟨b, 0, none⟩)) := h0 0 (by kernel_rfl)
          clear hd hΦ h0
          go_simp
          exact hK _ _ (Below.refl _ _) rfl
        · -- 1: nilCheck t45
          intro a' W hG hd hΦ h0 K hK
          have e45 : a'.tmps[45]? = some (.pointer (some ⟨b, 0, none⟩)) := fx (W := W) (hΦ 0 45 (by kernel_rfl) (by kernel_rfl))
          clear hd hΦ h0
          go_simp
          exact hK _ _ (Below.refl _ _) rfl
        · -- 2: fieldAddr 211, t46, 2
          intro a' W hG hd hΦ h0 K hK
          have e46 : a'.tmps[46]? = some (.pointer (some ⟨b, 0, none⟩)) := fx (W := W) (hΦ 1 46 (by kernel_rfl) (by kernel_rfl))
          clear hd hΦ h0
          go_simp
          exact hK _ _ (Below.refl _ _) rfl
        · -- 3: load 163, t47
          intro a' W hG hd hΦ h0 K hK
          have e47 : a'.tmps[47]? = some (.pointer (some ⟨b, 6, none⟩)) := fx (W := W) (hΦ 2 47 (by kernel_rfl) (by kernel_rfl))
          have l6 := hG.cell l6
          clear hd hΦ h0
          go_simp
          exact hK _ _ (Below.refl _ _) rfl
        · -- 4: move t0
          intro a' W hG hd hΦ h0 K hK
          have e0 : a'.tmps[0]? = some (.pointer (some ⟨b, 0, none⟩)) := h0 0 (by kernel_rfl)
          clear hd hΦ h0
          go_simp
          exact hK _ _ (Below.refl _ _) rfl
        · -- 5: nilCheck t49
          intro a' W hG hd hΦ h0 K hK
          have e49 : a'.tmps[49]? = some (.pointer (some ⟨b, 0, none⟩)) := fx (W := W) (hΦ 4 49 (by kernel_rfl) (by kernel_rfl))
          clear hd hΦ h0
          go_simp
          exact hK _ _ (Below.refl _ _) rfl
        · -- 6: fieldAddr 211, t50, 0
          intro a' W hG hd hΦ h0 K hK
          have e50 : a'.tmps[50]? = some (.pointer (some ⟨b, 0, none⟩)) := fx (W := W) (hΦ 5 50 (by kernel_rfl) (by kernel_rfl))
          clear hd hΦ h0
          go_simp
          exact hK _ _ (Below.refl _ _) rfl
        · -- 7: load 32, t51
          intro a' W hG hd hΦ h0 K hK
          have e51 : a'.tmps[51]? = some (.pointer (some ⟨b, 0, none⟩)) := fx (W := W) (hΦ 6 51 (by kernel_rfl) (by kernel_rfl))
          have l0 := hG.cell l0
          have l1 := hG.cell l1
          have l2 := hG.cell l2
          have l3 := hG.cell l3
          have l4 := hG.cell l4
          clear hd hΦ h0
          go_simp
          exact hK _ _ (Below.refl _ _) rfl
        · -- 8: move t0
          intro a' W hG hd hΦ h0 K hK
          have e0 : a'.tmps[0]? = some (.pointer (some ⟨b, 0, none⟩)) := h0 0 (by kernel_rfl)
          clear hd hΦ h0
          go_simp
          exact hK _ _ (Below.refl _ _) rfl
        · -- 9: nilCheck t53
          intro a' W hG hd hΦ h0 K hK
          have e53 : a'.tmps[53]? = some (.pointer (some ⟨b, 0, none⟩)) := fx (W := W) (hΦ 8 53 (by kernel_rfl) (by kernel_rfl))
          clear hd hΦ h0
          go_simp
          exact hK _ _ (Below.refl _ _) rfl
        · -- 10: fieldAddr 211, t54, 1
          intro a' W hG hd hΦ h0 K hK
          have e54 : a'.tmps[54]? = some (.pointer (some ⟨b, 0, none⟩)) := fx (W := W) (hΦ 9 54 (by kernel_rfl) (by kernel_rfl))
          clear hd hΦ h0
          go_simp
          exact hK _ _ (Below.refl _ _) rfl
        · -- 11: load 9, t55
          intro a' W hG hd hΦ h0 K hK
          have e55 : a'.tmps[55]? = some (.pointer (some ⟨b, 5, none⟩)) := fx (W := W) (hΦ 10 55 (by kernel_rfl) (by kernel_rfl))
          have l5 := hG.cell l5
          clear hd hΦ h0
          go_simp
          exact hK _ _ (Below.refl _ _) rfl
        · -- 12: move t0
          intro a' W hG hd hΦ h0 K hK
          have e0 : a'.tmps[0]? = some (.pointer (some ⟨b, 0, none⟩)) := h0 0 (by kernel_rfl)
          clear hd hΦ h0
          go_simp
          exact hK _ _ (Below.refl _ _) rfl
        · -- 13: nilCheck t57
          intro a' W hG hd hΦ h0 K hK
          have e57 : a'.tmps[57]? = some (.pointer (some ⟨b, 0, none⟩)) := fx (W := W) (hΦ 12 57 (by kernel_rfl) (by kernel_rfl))
          clear hd hΦ h0
          go_simp
          exact hK _ _ (Below.refl _ _) rfl
        · -- 14: fieldAddr 211, t58, 3
          intro a' W hG hd hΦ h0 K hK
          have e58 : a'.tmps[58]? = some (.pointer (some ⟨b, 0, none⟩)) := fx (W := W) (hΦ 13 58 (by kernel_rfl) (by kernel_rfl))
          clear hd hΦ h0
          go_simp
          exact hK _ _ (Below.refl _ _) rfl
        · -- 15: load 163, t59
          intro a' W hG hd hΦ h0 K hK
          have e59 : a'.tmps[59]? = some (.pointer (some ⟨b, 7, none⟩)) := fx (W := W) (hΦ 14 59 (by kernel_rfl) (by kernel_rfl))
          have l7 := hG.cell l7
          clear hd hΦ h0
          go_simp
          exact hK _ _ (Below.refl _ _) rfl
        · -- 16: load 32, t4
          intro a' W hG hd hΦ h0 K hK
          have e4 : a'.tmps[4]? = some (.pointer (some ⟨w.heap.size, 0, none⟩)) := h0 4 (by kernel_rfl)
          have c0 := hG.cell c0
          have c1 := hG.cell c1
          have c2 := hG.cell c2
          have c3 := hG.cell c3
          have c4 := hG.cell c4
          clear hd hΦ h0
          go_simp
          exact hK _ _ (Below.refl _ _) rfl
        · -- 17: move t2
          intro a' W hG hd hΦ h0 K hK
          have e2 : a'.tmps[2]? = some (.string v) := h0 2 (by kernel_rfl)
          clear hd hΦ h0
          go_simp
          exact hK _ _ (Below.refl _ _) rfl
        · -- 18: call F148{(*replevin/state.tree).with}(t60, t61, t62)
          intro a' W hG hd hΦ h0 K hK
          have e60 : a'.tmps[60]? = some (.pointer pr) := fx (W := W) (hΦ 15 60 (by kernel_rfl) (by kernel_rfl))
          have e61 : a'.tmps[61]? = some (nmV n) := fx (W := W) (hΦ 16 61 (by kernel_rfl) (by kernel_rfl))
          have e62 : a'.tmps[62]? = some (.string v) := fx (W := W) (hΦ 17 62 (by kernel_rfl) (by kernel_rfl))
          clear hd hΦ h0
          go_simp
          refine (ihr _ _ (hlr.grew hG) hfr (by simp only [T.many] at *; omega) (by simp only [T.total] at *; omega)).mono ?_
          rintro e w' ⟨p, rfl, hp, hg⟩
          exact hK _ _ hg ⟨p, rfl, hp⟩
        · -- 19: call F204{replevin/state.balance}(t48, t52, t56, t63)
          intro a' W hG hd hΦ h0 K hK
          have e48 : a'.tmps[48]? = some (.pointer pl) := fx (W := W) (hΦ 3 48 (by kernel_rfl) (by kernel_rfl))
          have e52 : a'.tmps[52]? = some (nmV m) := fx (W := W) (hΦ 7 52 (by kernel_rfl) (by kernel_rfl))
          have e56 : a'.tmps[56]? = some (.string u) := fx (W := W) (hΦ 11 56 (by kernel_rfl) (by kernel_rfl))
          obtain ⟨_, e63, p63, rfl, h63⟩ := hΦ 18 63 (by kernel_rfl) (by kernel_rfl)
          clear hd hΦ h0
          go_simp
          refine (bal_any m u _ (hll.grew hG) h63 (by simp only [T.many] at *; omega) (by simp only [T.total] at *; omega)).mono ?_
          rintro e w' ⟨p, rfl, hp, hg⟩
          exact hK _ _ hg ⟨p, rfl, hp⟩
        · -- 20: assign t64
          intro a' W hG hd hΦ h0 K hK
          obtain ⟨_, e64, p64, rfl, h64⟩ := hΦ 19 64 (by kernel_rfl) (by kernel_rfl)
          clear hd hΦ h0
          go_simp
          exact hK _ _ (Below.refl _ _) ⟨_, rfl, h64⟩
        intro W hG
        simp only [FinG, Fx, Any, forall_eq, true_implies]
        rintro _ ⟨p0, rfl, -⟩ v1 - v2 ⟨p, rfl, hp⟩
        go_simp
        go_wp2
        go_ret
        exact ⟨p, rfl, by rw [hres.out]; exact hp, hg1.trans hG⟩
      · have hres : T.put n v (.node l m u r) = .node l n v r := by simp [T.put, h1, h2]
        have hres := Lib.hid hres
        go_simp
        go_wp2_with fail
        refine wp_region_grow [Fx (.pointer (some ⟨b, 0, none⟩)), Fx (.pointer (some ⟨b, 0, none⟩)), Fx (.pointer (some ⟨b, 6, none⟩)), Fx (.pointer pl), Fx (nmV n), Fx (.string v), Fx (.pointer (some ⟨b, 0, none⟩)), Fx (.pointer (some ⟨b, 0, none⟩)), Fx (.pointer (some ⟨b, 7, none⟩)), Fx (.pointer pr), PT (.node l n v r), PT (.node l n v r)] (by kernel_rfl) (by kernel_rfl) (by simp only [AllStable, Fx.stable, Any.stable, PT.stable, and_self]) ⟨?_, ?_, ?_, ?_, ?_, ?_, ?_, ?_, ?_, ?_, ?_, ?_, trivial⟩ ?_
        · -- 0: move t0
          intro a' W hG hd hΦ h0 K hK
          have e0 : a'.tmps[0]? = some (.pointer (some ⟨b, 0, none⟩)) := h0 0 (by kernel_rfl)
          clear hd hΦ h0
          go_simp
          exact hK _ _ (Below.refl _ _) rfl
        · -- 1: nilCheck t65
          intro a' W hG hd hΦ h0 K hK
          have e65 : a'.tmps[65]? = some (.pointer (some ⟨b, 0, none⟩)) := fx (W := W) (hΦ 0 65 (by kernel_rfl) (by kernel_rfl))
          clear hd hΦ h0
          go_simp
          exact hK _ _ (Below.refl _ _) rfl
        · -- 2: fieldAddr 211, t66, 2
          intro a' W hG hd hΦ h0 K hK
          have e66 : a'.tmps[66]? = some (.pointer (some ⟨b, 0, none⟩)) := fx (W := W) (hΦ 1 66 (by kernel_rfl) (by kernel_rfl))
          clear hd hΦ h0
          go_simp
          exact hK _ _ (Below.refl _ _) rfl
        · -- 3: load 163, t67
          intro a' W hG hd hΦ h0 K hK
          have e67 : a'.tmps[67]? = some (.pointer (some ⟨b, 6, none⟩)) := fx (W := W) (hΦ 2 67 (by kernel_rfl) (by kernel_rfl))
          have l6 := hG.cell l6
          clear hd hΦ h0
          go_simp
          exact hK _ _ (Below.refl _ _) rfl
        · -- 4: load 32, t4
          intro a' W hG hd hΦ h0 K hK
          have e4 : a'.tmps[4]? = some (.pointer (some ⟨w.heap.size, 0, none⟩)) := h0 4 (by kernel_rfl)
          have c0 := hG.cell c0
          have c1 := hG.cell c1
          have c2 := hG.cell c2
          have c3 := hG.cell c3
          have c4 := hG.cell c4
          clear hd hΦ h0
          go_simp
          exact hK _ _ (Below.refl _ _) rfl
        · -- 5: move t2
          intro a' W hG hd hΦ h0 K hK
          have e2 : a'.tmps[2]? = some (.string v) := h0 2 (by kernel_rfl)
          clear hd hΦ h0
          go_simp
          exact hK _ _ (Below.refl _ _) rfl
        · -- 6: move t0
          intro a' W hG hd hΦ h0 K hK
          have e0 : a'.tmps[0]? = some (.pointer (some ⟨b, 0, none⟩)) := h0 0 (by kernel_rfl)
          clear hd hΦ h0
          go_simp
          exact hK _ _ (Below.refl _ _) rfl
        · -- 7: nilCheck t71
          intro a' W hG hd hΦ h0 K hK
          have e71 : a'.tmps[71]? = some (.pointer (some ⟨b, 0, none⟩)) := fx (W := W) (hΦ 6 71 (by kernel_rfl) (by kernel_rfl))
          clear hd hΦ h0
          go_simp
          exact hK _ _ (Below.refl _ _) rfl
        · -- 8: fieldAddr 211, t72, 3
          intro a' W hG hd hΦ h0 K hK
          have e72 : a'.tmps[72]? = some (.pointer (some ⟨b, 0, none⟩)) := fx (W := W) (hΦ 7 72 (by kernel_rfl) (by kernel_rfl))
          clear hd hΦ h0
          go_simp
          exact hK _ _ (Below.refl _ _) rfl
        · -- 9: load 163, t73
          intro a' W hG hd hΦ h0 K hK
          have e73 : a'.tmps[73]? = some (.pointer (some ⟨b, 7, none⟩)) := fx (W := W) (hΦ 8 73 (by kernel_rfl) (by kernel_rfl))
          have l7 := hG.cell l7
          clear hd hΦ h0
          go_simp
          exact hK _ _ (Below.refl _ _) rfl
        · -- 10: call F203{replevin/state.join}(t68, t69, t70, t74)
          intro a' W hG hd hΦ h0 K hK
          have e68 : a'.tmps[68]? = some (.pointer pl) := fx (W := W) (hΦ 3 68 (by kernel_rfl) (by kernel_rfl))
          have e69 : a'.tmps[69]? = some (nmV n) := fx (W := W) (hΦ 4 69 (by kernel_rfl) (by kernel_rfl))
          have e70 : a'.tmps[70]? = some (.string v) := fx (W := W) (hΦ 5 70 (by kernel_rfl) (by kernel_rfl))
          have e74 : a'.tmps[74]? = some (.pointer pr) := fx (W := W) (hΦ 9 74 (by kernel_rfl) (by kernel_rfl))
          clear hd hΦ h0
          go_simp
          refine (join_any n v _ (hll.grew hG) (hlr.grew hG) (by simp only [T.many] at *; omega) (by simp only [T.total] at *; omega)).mono ?_
          rintro e w' ⟨p, rfl, hp, hg⟩
          exact hK _ _ hg ⟨p, rfl, hp⟩
        · -- 11: assign t75
          intro a' W hG hd hΦ h0 K hK
          obtain ⟨_, e75, p75, rfl, h75⟩ := hΦ 10 75 (by kernel_rfl) (by kernel_rfl)
          clear hd hΦ h0
          go_simp
          exact hK _ _ (Below.refl _ _) ⟨_, rfl, h75⟩
        intro W hG
        simp only [FinG, Fx, Any, forall_eq, true_implies]
        rintro v1 - v2 ⟨p, rfl, hp⟩
        go_simp
        go_wp2
        go_ret
        exact ⟨p, rfl, by rw [hres.out]; exact hp, hg1.trans hG⟩

end Go.Proofs.YtkiojenkpbkjpaaGreatDoor
