/- Walks: the state's Get, Len, New. -/
import Derived.Test.YtkiojenkpbkjpaaGreatDoorTreeB
import Derived.Test.YtkiojenkpbkjpaaGreatDoorObjC
import Derived.LoopTactic
import Derived.LoopN
set_option linter.unusedVariables false
set_option linter.unusedSimpArgs false
namespace Go.Proofs.YtkiojenkpbkjpaaGreatDoor
open Go Go.RowKit RV
set_option maxHeartbeats 1000000
/-- The names of a tree have owners that are no longer than any text. -/
def Fine (t : T) : Prop := ∀ e ∈ t.list, e.1.owner.size ≤ maxLen
theorem Fine.node {l r : T} {n : Nm} {v : ByteArray} (h : Fine (.node l n v r)) : Fine l ∧ n.owner.size ≤ maxLen ∧ Fine r :=
  ⟨fun e he => h e (by simp [T.list, he]), h (n, v) (by simp [T.list]), fun e he => h e (by simp [T.list, he])⟩
/-- A state lies behind a pointer. -/
def IsS (w : World) (sp : Option Addr) (t : T) : Prop := ∃ b p, sp = some ⟨b, 0, none⟩ ∧ w.cell? ⟨b, 0, none⟩ = some (.pointer p) ∧ IsT w p t
theorem IsS.grew {w w' : World} (hg : Grew w w') {sp : Option Addr} {t : T} (h : IsS w sp t) : IsS w' sp t := by
  obtain ⟨b, p, rfl, hc, ht⟩ := h
  exact ⟨b, p, rfl, hg.cell hc, ht.grew hg⟩
theorem tree_any {sp : Option Addr} {t : T} (w : World) (h : IsS w sp t) : Calls Tryz.prog 112 #[.pointer sp] w fun e w' => (∃ p, e = .returned (.pointer p) ∧ IsT w p t) ∧ w = w' := by
  obtain ⟨b, p, rfl, hc, ht⟩ := h
  go_enter Tryz.func112, Tryz.ntmps112
  go_wp2
  go_ret
  exact ⟨⟨p, rfl, ht⟩, rfl⟩
theorem len_any {sp : Option Addr} {t : T} (w : World) (h : IsS w sp t) : Calls Tryz.prog 147 #[.pointer sp] w fun e w' => e = .returned (.int .i64 (t.many : Nat)) ∧ w = w' := by
  go_enter Tryz.func147, Tryz.ntmps147
  go_wp2_with fail
  refine (tree_any _ h).mono ?_
  rintro e w' ⟨⟨p, rfl, ht⟩, rfl⟩
  go_wp2_with fail
  refine (many_any _ ht).mono ?_
  rintro e w' ⟨rfl, rfl⟩
  go_wp2
  go_ret
  exact ⟨rfl, rfl⟩
theorem new_any (w : World) : Calls Tryz.prog 20 #[] w fun e w' => (∃ p, e = .returned (.pointer p) ∧ IsS w' p .nil) ∧ Grew w w' := by
  go_enter Tryz.func20, Tryz.ntmps20
  go_wp2
  go_ret
  exact ⟨⟨_, rfl, _, none, rfl, by simp [go_sem], rfl⟩, Grew.alloc _ _⟩
/-- The size that a node bears, for the measure. -/
def szAt (w : World) (v : Value) : Nat := match v with
  | .pointer (some p) => (match w.cell? ⟨p.block, 9, none⟩ with | some (.int _ k) => k.toNat | _ => 0)
  | _ => 0
theorem szAt_eq {w : World} {p : Option Addr} {t : T} (h : IsT w p t) : szAt w (.pointer p) = t.many := by
  cases t with
  | nil => obtain rfl : p = none := h; rfl
  | node l n v r =>
    obtain ⟨b, pl, pr, rfl, -, -, -, -, -, -, -, -, -, h9, -, -, -⟩ := h
    simp [szAt, h9]

set_option maxRecDepth 100000 in
theorem get_any {sp : Option Addr} {t : T} (n : Nm) (hn : n.owner.size ≤ maxLen) (w : World) (hs : IsS w sp t) (hf : Fine t) :
    Calls Tryz.prog 54 #[.pointer sp, nmV n] w fun e w' => e = .returned (.tuple #[.string ((t.get n).getD ⟨#[]⟩), .bool (t.get n).isSome]) ∧ Grew w w' := by
  go_enter Tryz.func54, Tryz.ntmps54
  go_wp2_with fail
  obtain ⟨w1, hw1⟩ : ∃ w1, w1 = (w.alloc (.cells #[.int .i64 n.kind, .string n.owner, .int .i64 n.number, .int .i64 n.index, .string n.text] 32)) := ⟨_, rfl⟩
  have hg1 : Grew w w1 := by rw [hw1]; exact Grew.alloc _ _
  have c0 : w1.cell? ⟨w.heap.size, 0, none⟩ = some (.int .i64 n.kind) := by rw [hw1]; simp [go_sem]
  have c1 : w1.cell? ⟨w.heap.size, 1, none⟩ = some (.string n.owner) := by rw [hw1]; simp [go_sem]
  have c2 : w1.cell? ⟨w.heap.size, 2, none⟩ = some (.int .i64 n.number) := by rw [hw1]; simp [go_sem]
  have c3 : w1.cell? ⟨w.heap.size, 3, none⟩ = some (.int .i64 n.index) := by rw [hw1]; simp [go_sem]
  have c4 : w1.cell? ⟨w.heap.size, 4, none⟩ = some (.string n.text) := by rw [hw1]; simp [go_sem]
  rw [← hw1]
  clear hw1
  refine (tree_any _ (hs.grew hg1)).mono ?_
  rintro e w' ⟨⟨p, rfl, ht⟩, rfl⟩
  go_wp2
  go_loopw [6] (fun a wr => ∃ (q : Option Addr) (t' : T), a = .pointer q ∧ IsT wr q t' ∧ Grew w1 wr ∧ Hid (T.get n t' = T.get n t) ∧ Fine t') (fun a wr => szAt wr a)
  case atStart => exact ⟨p, t, rfl, ht, Grew.refl _, Lib.hid rfl, hf⟩
  case round =>
    obtain ⟨q, t', rfl, ht', hgr, hh, hf'⟩ := hrel
    cases t' with
    | nil =>
      obtain rfl : q = none := ht'
      have hh' : T.get n t = none := hh.out.symm
      have hhh := Lib.hid hh'
      clear hh' hh
      go_wp2
      go_ret2
      exact ⟨by rw [hhh.out]; rfl, hg1.trans hgr⟩
    | node l m u r =>
      have hsz := szAt_eq ht'
      have ht2 := ht'
      obtain ⟨b, pl, pr, rfl, l0, l1, l2, l3, l4, l5, l6, l7, -, -, -, hll, hlr⟩ := ht'
      obtain ⟨hfl, hm, hfr⟩ := hf'.node
      replace c0 := hgr.cell c0
      replace c1 := hgr.cell c1
      replace c2 := hgr.cell c2
      replace c3 := hgr.cell c3
      replace c4 := hgr.cell c4
      go_wp2_with fail
      refine wp_region_grow [Fx (nmV n), Fx (.pointer (some ⟨b, 0, none⟩)), Fx (.pointer (some ⟨b, 0, none⟩)), Fx (.pointer (some ⟨b, 0, none⟩)), Fx (nmV m), Fx (.int .i64 (nameCmp n m)), Fx (.int .i64 (nameCmp n m))] (by kernel_rfl) (by kernel_rfl) (by simp only [AllStable, Fx.stable, Any.stable, and_self]) ⟨?_, ?_, ?_, ?_, ?_, ?_, ?_, trivial⟩ ?_
      · -- 0: load 32, t3
        intro a' W hG hd hΦ h0 K hK
        have e3 : a'.tmps[3]? = some (.pointer (some ⟨w.heap.size, 0, none⟩)) := h0 3 (by kernel_rfl)
        have c0 := hG.cell c0
        have c1 := hG.cell c1
        have c2 := hG.cell c2
        have c3 := hG.cell c3
        have c4 := hG.cell c4
        clear hd hΦ h0
        go_simp
        exact hK _ _ (Below.refl _ _) rfl
      · -- 1: move t6
        intro a' W hG hd hΦ h0 K hK
        have e6 : a'.tmps[6]? = some (.pointer (some ⟨b, 0, none⟩)) := h0 6 (by kernel_rfl)
        clear hd hΦ h0
        go_simp
        exact hK _ _ (Below.refl _ _) rfl
      · -- 2: nilCheck t13
        intro a' W hG hd hΦ h0 K hK
        have e13 : a'.tmps[13]? = some (.pointer (some ⟨b, 0, none⟩)) := fx (W := W) (hΦ 1 13 (by kernel_rfl) (by kernel_rfl))
        clear hd hΦ h0
        go_simp
        exact hK _ _ (Below.refl _ _) rfl
      · -- 3: fieldAddr 211, t14, 0
        intro a' W hG hd hΦ h0 K hK
        have e14 : a'.tmps[14]? = some (.pointer (some ⟨b, 0, none⟩)) := fx (W := W) (hΦ 2 14 (by kernel_rfl) (by kernel_rfl))
        clear hd hΦ h0
        go_simp
        exact hK _ _ (Below.refl _ _) rfl
      · -- 4: load 32, t15
        intro a' W hG hd hΦ h0 K hK
        have e15 : a'.tmps[15]? = some (.pointer (some ⟨b, 0, none⟩)) := fx (W := W) (hΦ 3 15 (by kernel_rfl) (by kernel_rfl))
        have l0 := hG.cell l0
        have l1 := hG.cell l1
        have l2 := hG.cell l2
        have l3 := hG.cell l3
        have l4 := hG.cell l4
        clear hd hΦ h0
        go_simp
        exact hK _ _ (Below.refl _ _) rfl
      · -- 5: call F103{replevin/object.Compare}(t12, t16)
        intro a' W hG hd hΦ h0 K hK
        have e12 : a'.tmps[12]? = some (nmV n) := fx (W := W) (hΦ 0 12 (by kernel_rfl) (by kernel_rfl))
        have e16 : a'.tmps[16]? = some (nmV m) := fx (W := W) (hΦ 4 16 (by kernel_rfl) (by kernel_rfl))
        clear hd hΦ h0
        go_simp
        refine (nameCmp_any n m hn hm _).mono ?_
        rintro e w' ⟨rfl, hg⟩
        exact hK _ _ hg rfl
      · -- 6: assign t17
        intro a' W hG hd hΦ h0 K hK
        have e17 : a'.tmps[17]? = some (.int .i64 (nameCmp n m)) := fx (W := W) (hΦ 5 17 (by kernel_rfl) (by kernel_rfl))
        clear hd hΦ h0
        go_simp
        exact hK _ _ (Below.refl _ _) rfl
      intro W hG
      simp only [FinG, Fx, Any, forall_eq, true_implies]
      replace hll := hll.grew hG
      replace hlr := hlr.grew hG
      replace hgr := hgr.trans hG
      replace l0 := hG.cell l0
      replace l1 := hG.cell l1
      replace l2 := hG.cell l2
      replace l3 := hG.cell l3
      replace l4 := hG.cell l4
      replace l5 := hG.cell l5
      replace l6 := hG.cell l6
      replace l7 := hG.cell l7
      replace ht2 := ht2.grew hG
      by_cases h1 : nameCmp n m < 0
      · have hh' : T.get n l = T.get n t := by rw [← hh.out]; simp [T.get, h1]
        have hhh := Lib.hid hh'
        clear hh' hh
        go_simp
        go_wp2
        go_round
        case rel => exact ⟨pl, l, rfl, hll, hgr, hhh, hfl⟩
        case measure => rw [szAt_eq hll, hsz]; simp only [T.many]; omega
      · by_cases h2 : 0 < nameCmp n m
        · have hh' : T.get n r = T.get n t := by rw [← hh.out]; simp [T.get, h1, h2]
          have hhh := Lib.hid hh'
          clear hh' hh
          go_simp
          go_wp2
          go_round
          case rel => exact ⟨pr, r, rfl, hlr, hgr, hhh, hfr⟩
          case measure => rw [szAt_eq hlr, hsz]; simp only [T.many]; omega
        · have hh' : T.get n t = some u := by rw [← hh.out]; simp [T.get, h1, h2]
          have hhh := Lib.hid hh'
          clear hh' hh
          go_simp
          go_wp2
          go_ret2
          exact ⟨by rw [hhh.out]; rfl, hg1.trans hgr⟩

end Go.Proofs.YtkiojenkpbkjpaaGreatDoor
