/- Walk: state.With. -/
import Derived.Test.YtkiojenkpbkjpaaGreatDoorTreeD
import Derived.Test.YtkiojenkpbkjpaaGreatDoorCheckN
set_option linter.unusedVariables false
set_option linter.unusedSimpArgs false
namespace Go.Proofs.YtkiojenkpbkjpaaGreatDoor
open Go Go.RowKit RV
set_option maxHeartbeats 2000000
theorem checkN_any (n : Nm) (ho : n.owner.size ≤ maxLen) (ht : n.text.size ≤ maxLen) (w : World) : Calls Tryz.prog 80 #[nmV n] w fun e w' => e = .returned (.int .i64 (checkN n)) ∧ Grew w w' := by
  by_cases h : n.kind < 1 ∨ 20 < n.kind
  · have hr : checkN n = 11 := by unfold checkN; rw [if_pos h]
    rw [hr]
    exact check_kind _ h n rfl w
  · exact check_any n (by omega) (by omega) ho ht w

/-- What With answers: the error. -/
def withE (n : Nm) (v : ByteArray) (t : T) : Int :=
  if checkN n ≠ 0 then 12 else if 65536 < v.size then 5 else if t.get n = none ∧ 65536 ≤ t.many then 9 else 0
def WithR (n : Nm) (v : ByteArray) (t : T) (p : Option Addr) (w : World) : Prop := if withE n v t = 0 then IsS w p (t.put n v) else p = none
theorem WithR.ne {n : Nm} {v : ByteArray} {t : T} {w : World} (h : withE n v t ≠ 0) : WithR n v t none w := by unfold WithR; rw [if_neg h]
theorem WithR.ok {n : Nm} {v : ByteArray} {t : T} {p : Option Addr} {w : World} (h : withE n v t = 0) (hs : IsS w p (t.put n v)) : WithR n v t p w := by unfold WithR; rw [if_pos h]; exact hs

def PS (t : T) : Phi := fun v W => ∃ p, v = .pointer p ∧ IsS W p t
theorem PS.stable {t : T} : Stable (PS t) := fun _ _ _ ⟨p, hv, h⟩ hg => ⟨p, hv, h.grew hg⟩
def PG (t : T) : Phi := fun v W => ∃ p, v = .agg #[.pointer p] ∧ IsT W p t
theorem PG.stable {t : T} : Stable (PG t) := fun _ _ _ ⟨p, hv, h⟩ hg => ⟨p, hv, h.grew hg⟩
set_option maxRecDepth 100000 in
theorem With_any {sp : Option Addr} {t : T} (n : Nm) (v : ByteArray) (hn : n.owner.size ≤ maxLen) (htx : n.text.size ≤ maxLen) (w : World) (hs : IsS w sp t) (hf : Fine t) (hb : t.many < 900000) (hto : v.size + t.total < 900000000000) :
    Calls Tryz.prog 77 #[.pointer sp, nmV n, .string v] w fun e w' => ∃ p, e = .returned (.tuple #[.pointer p, .int .i64 (withE n v t)]) ∧ WithR n v t p w' ∧ Grew w w' := by
  have hs' := hs
  obtain ⟨b, q, rfl, s0, ht⟩ := hs
  go_enter Tryz.func77, Tryz.ntmps77
  go_wp2_with fail
  obtain ⟨w1, hw1⟩ : ∃ w1, w1 = (w.alloc (.cells #[.int .i64 n.kind, .string n.owner, .int .i64 n.number, .int .i64 n.index, .string n.text] 32)) := ⟨_, rfl⟩
  have hg1 : Grew w w1 := by rw [hw1]; exact Grew.alloc _ _
  have c0 : w1.cell? ⟨w.heap.size, 0, none⟩ = some (.int .i64 n.kind) := by rw [hw1]; simp [go_sem]
  have c1 : w1.cell? ⟨w.heap.size, 1, none⟩ = some (.string n.owner) := by rw [hw1]; simp [go_sem]
  have c2 : w1.cell? ⟨w.heap.size, 2, none⟩ = some (.int .i64 n.number) := by rw [hw1]; simp [go_sem]
  have c3 : w1.cell? ⟨w.heap.size, 3, none⟩ = some (.int .i64 n.index) := by rw [hw1]; simp [go_sem]
  have c4 : w1.cell? ⟨w.heap.size, 4, none⟩ = some (.string n.text) := by rw [hw1]; simp [go_sem]
  rw [← hw1]
  clear hw1
  refine (get_any n hn _ (hs'.grew hg1) hf).mono ?_
  rintro e w2 ⟨rfl, hg2⟩
  replace c0 := hg2.cell c0
  replace c1 := hg2.cell c1
  replace c2 := hg2.cell c2
  replace c3 := hg2.cell c3
  replace c4 := hg2.cell c4
  go_wp2_with fail
  refine (checkN_any n hn htx _).mono ?_
  rintro e w3 ⟨rfl, hg3⟩
  have hg : Grew w w3 := (hg1.trans hg2).trans hg3
  by_cases hk : checkN n = 0
  · have hkb : (checkN n != 0) = false := by simp [hk]
    replace hk := Lib.hid hk
    by_cases hv : 65536 < v.size
    · have hr := Lib.hid (show withE n v t = 5 by unfold withE; rw [if_neg (by simp [hk.out]), if_pos hv])
      go_wp2
      go_ret2
      exact ⟨none, by rw [hr.out]; rfl, WithR.ne (by rw [hr.out]; decide), hg⟩
    · cases hget : t.get n with
      | none =>
        by_cases hm : 65536 ≤ t.many
        · have hr := Lib.hid (show withE n v t = 9 by unfold withE; rw [if_neg (by simp [hk.out]), if_neg hv, if_pos ⟨hget, hm⟩])
          have his : (t.get n).isSome = false := by rw [hget]; rfl
          replace hget := Lib.hid hget
          go_wp2_with fail
          refine (len_any _ (hs'.grew hg)).mono ?_
          rintro e w' ⟨rfl, rfl⟩
          obtain ⟨M, hM⟩ : ∃ M : Int, ((t.many : Nat) : Int) = M := ⟨_, rfl⟩
          rw [hM]
          have hmi : 65536 ≤ M := by omega
          replace hM := Lib.hid hM
          replace hm := Lib.hid hm
          replace hb := Lib.hid hb
          go_wp2
          go_ret2
          exact ⟨none, by rw [hr.out]; rfl, WithR.ne (by rw [hr.out]; decide), hg⟩
        · have hr := Lib.hid (show withE n v t = 0 by unfold withE; rw [if_neg (by simp [hk.out]), if_neg hv, if_neg (fun h => hm h.2)])
          have his : (t.get n).isSome = false := by rw [hget]; rfl
          replace hget := Lib.hid hget
          go_wp2_with fail
          refine (len_any _ (hs'.grew hg)).mono ?_
          rintro e w' ⟨rfl, rfl⟩
          obtain ⟨M, hM⟩ : ∃ M : Int, ((t.many : Nat) : Int) = M := ⟨_, rfl⟩
          rw [hM]
          have hmi : M < 65536 := by omega
          replace hM := Lib.hid hM
          replace hm := Lib.hid hm
          replace hb := Lib.hid hb
          go_wp2_with fail
          replace c0 := hg3.cell c0
          replace c1 := hg3.cell c1
          replace c2 := hg3.cell c2
          replace c3 := hg3.cell c3
          replace c4 := hg3.cell c4
          replace s0 := hg.cell s0
          replace ht := ht.grew hg
          refine wp_region_grow [Fx (.pointer (some ⟨b, 0, none⟩)), Fx (.pointer (some ⟨b, 0, none⟩)), Fx (.pointer (some ⟨b, 0, none⟩)), Fx (.pointer q), Fx (nmV n), Fx (.string v), PT (.put n v t), PG (.put n v t), PS (.put n v t), PS (.put n v t), Fx (.int .i64 (0))] (by kernel_rfl) (by kernel_rfl) (by simp only [AllStable, Fx.stable, Any.stable, PG.stable, PS.stable, PT.stable, and_self]) ⟨?_, ?_, ?_, ?_, ?_, ?_, ?_, ?_, ?_, ?_, ?_, trivial⟩ ?_
          · -- 0: move t0
            intro a' W hG hd hΦ h0 K hK
            have e0 : a'.tmps[0]? = some (.pointer (some ⟨b, 0, none⟩)) := h0 0 (by kernel_rfl)
            clear hd hΦ h0
            go_simp
            exact hK _ _ (Below.refl _ _) rfl
          · -- 1: nilCheck t34
            intro a' W hG hd hΦ h0 K hK
            have e34 : a'.tmps[34]? = some (.pointer (some ⟨b, 0, none⟩)) := fx (W := W) (hΦ 0 34 (by kernel_rfl) (by kernel_rfl))
            clear hd hΦ h0
            go_simp
            exact hK _ _ (Below.refl _ _) rfl
          · -- 2: fieldAddr 165, t35, 0
            intro a' W hG hd hΦ h0 K hK
            have e35 : a'.tmps[35]? = some (.pointer (some ⟨b, 0, none⟩)) := fx (W := W) (hΦ 1 35 (by kernel_rfl) (by kernel_rfl))
            clear hd hΦ h0
            go_simp
            exact hK _ _ (Below.refl _ _) rfl
          · -- 3: load 163, t36
            intro a' W hG hd hΦ h0 K hK
            have e36 : a'.tmps[36]? = some (.pointer (some ⟨b, 0, none⟩)) := fx (W := W) (hΦ 2 36 (by kernel_rfl) (by kernel_rfl))
            have s0 := hG.cell s0
            clear hd hΦ h0
            go_simp
            exact hK _ _ (Below.refl _ _) rfl
          · -- 4: load 32, t4
            intro a' W hG hd hΦ h0 K hK
            have e4 : a'.tmps[4]? = some (.pointer (some ⟨w.heap.size, 0, none⟩)) := h0 4 (by kernel_rfl)
            have c0 := hG.cell c0
            have c1 := hG.cell c1
            have c2 := hG.cell c2
            have c3 := hG.cell c3
            have c4 := hG.cell c4
            clear hd hΦ h0
            go_simp
            exact hK _ _ (Below.refl _ _) rfl
          · -- 5: move t2
            intro a' W hG hd hΦ h0 K hK
            have e2 : a'.tmps[2]? = some (.string v) := h0 2 (by kernel_rfl)
            clear hd hΦ h0
            go_simp
            exact hK _ _ (Below.refl _ _) rfl
          · -- 6: call F148{(*replevin/state.tree).with}(t37, t38, t39)
            intro a' W hG hd hΦ h0 K hK
            have e37 : a'.tmps[37]? = some (.pointer q) := fx (W := W) (hΦ 3 37 (by kernel_rfl) (by kernel_rfl))
            have e38 : a'.tmps[38]? = some (nmV n) := fx (W := W) (hΦ 4 38 (by kernel_rfl) (by kernel_rfl))
            have e39 : a'.tmps[39]? = some (.string v) := fx (W := W) (hΦ 5 39 (by kernel_rfl) (by kernel_rfl))
            clear hd hΦ h0
            go_simp
            refine (with_any n hn v t _ _ (ht.grew hG) hf (by first | exact hb.out | exact hb) (by omega)).mono ?_
            rintro e w' ⟨p, rfl, hp, hg⟩
            exact hK _ _ hg ⟨p, rfl, hp⟩
          · -- 7: build 165, [<0, t40>]
            intro a' W hG hd hΦ h0 K hK
            obtain ⟨_, e40, p40, rfl, h40⟩ := hΦ 6 40 (by kernel_rfl) (by kernel_rfl)
            clear hd hΦ h0
            go_simp
            exact hK _ _ (Below.refl _ _) ⟨_, rfl, h40⟩
          · -- 8: box 165, t41
            intro a' W hG hd hΦ h0 K hK
            obtain ⟨_, e41, q41, rfl, h41⟩ := hΦ 7 41 (by kernel_rfl) (by kernel_rfl)
            clear hd hΦ h0
            go_simp
            exact hK _ _ (Grew.alloc _ _) ⟨_, rfl, _, _, rfl, by simp [go_sem], h41.grew (Grew.alloc _ _)⟩
          · -- 9: assign t42
            intro a' W hG hd hΦ h0 K hK
            obtain ⟨_, e42, p42, rfl, h42⟩ := hΦ 8 42 (by kernel_rfl) (by kernel_rfl)
            clear hd hΦ h0
            go_simp
            exact hK _ _ (Below.refl _ _) ⟨_, rfl, h42⟩
          · -- 10: assign 0
            intro a' W hG hd hΦ h0 K hK
            clear hd hΦ h0
            go_simp
            exact hK _ _ (Below.refl _ _) rfl
          intro W hG
          simp only [FinG, Fx, Any, forall_eq, true_implies]
          rintro _ ⟨p0, rfl, -⟩ _ ⟨p1, rfl, -⟩ v3 - v4 ⟨p, rfl, hp⟩
          go_simp
          go_wp2
          go_ret2
          exact ⟨p, by rw [hr.out]; rfl, WithR.ok hr.out hp, hg.trans hG⟩
      | some u =>
        have hr := Lib.hid (show withE n v t = 0 by unfold withE; rw [if_neg (by simp [hk.out]), if_neg hv, if_neg (fun h => by rw [hget] at h; cases h.1)])
        have his : (t.get n).isSome = true := by rw [hget]; rfl
        replace hget := Lib.hid hget
        go_wp2_with fail
        replace c0 := hg3.cell c0
        replace c1 := hg3.cell c1
        replace c2 := hg3.cell c2
        replace c3 := hg3.cell c3
        replace c4 := hg3.cell c4
        replace s0 := hg.cell s0
        replace ht := ht.grew hg
        refine wp_region_grow [Fx (.pointer (some ⟨b, 0, none⟩)), Fx (.pointer (some ⟨b, 0, none⟩)), Fx (.pointer (some ⟨b, 0, none⟩)), Fx (.pointer q), Fx (nmV n), Fx (.string v), PT (.put n v t), PG (.put n v t), PS (.put n v t), PS (.put n v t), Fx (.int .i64 (0))] (by kernel_rfl) (by kernel_rfl) (by simp only [AllStable, Fx.stable, Any.stable, PG.stable, PS.stable, PT.stable, and_self]) ⟨?_, ?_, ?_, ?_, ?_, ?_, ?_, ?_, ?_, ?_, ?_, trivial⟩ ?_
        · -- 0: move t0
          intro a' W hG hd hΦ h0 K hK
          have e0 : a'.tmps[0]? = some (.pointer (some ⟨b, 0, none⟩)) := h0 0 (by kernel_rfl)
          clear hd hΦ h0
          go_simp
          exact hK _ _ (Below.refl _ _) rfl
        · -- 1: nilCheck t34
          intro a' W hG hd hΦ h0 K hK
          have e34 : a'.tmps[34]? = some (.pointer (some ⟨b, 0, none⟩)) := fx (W := W) (hΦ 0 34 (by kernel_rfl) (by kernel_rfl))
          clear hd hΦ h0
          go_simp
          exact hK _ _ (Below.refl _ _) rfl
        · -- 2: fieldAddr 165, t35, 0
          intro a' W hG hd hΦ h0 K hK
          have e35 : a'.tmps[35]? = some (.pointer (some ⟨b, 0, none⟩)) := fx (W := W) (hΦ 1 35 (by kernel_rfl) (by kernel_rfl))
          clear hd hΦ h0
          go_simp
          exact hK _ _ (Below.refl _ _) rfl
        · -- 3: load 163, t36
          intro a' W hG hd hΦ h0 K hK
          have e36 : a'.tmps[36]? = some (.pointer (some ⟨b, 0, none⟩)) := fx (W := W) (hΦ 2 36 (by kernel_rfl) (by kernel_rfl))
          have s0 := hG.cell s0
          clear hd hΦ h0
          go_simp
          exact hK _ _ (Below.refl _ _) rfl
        · -- 4: load 32, t4
          intro a' W hG hd hΦ h0 K hK
          have e4 : a'.tmps[4]? = some (.pointer (some ⟨w.heap.size, 0, none⟩)) := h0 4 (by kernel_rfl)
          have c0 := hG.cell c0
          have c1 := hG.cell c1
          have c2 := hG.cell c2
          have c3 := hG.cell c3
          have c4 := hG.cell c4
          clear hd hΦ h0
          go_simp
          exact hK _ _ (Below.refl _ _) rfl
        · -- 5: move t2
          intro a' W hG hd hΦ h0 K hK
          have e2 : a'.tmps[2]? = some (.string v) := h0 2 (by kernel_rfl)
          clear hd hΦ h0
          go_simp
          exact hK _ _ (Below.refl _ _) rfl
        · -- 6: call F148{(*replevin/state.tree).with}(t37, t38, t39)
          intro a' W hG hd hΦ h0 K hK
          have e37 : a'.tmps[37]? = some (.pointer q) := fx (W := W) (hΦ 3 37 (by kernel_rfl) (by kernel_rfl))
          have e38 : a'.tmps[38]? = some (nmV n) := fx (W := W) (hΦ 4 38 (by kernel_rfl) (by kernel_rfl))
          have e39 : a'.tmps[39]? = some (.string v) := fx (W := W) (hΦ 5 39 (by kernel_rfl) (by kernel_rfl))
          clear hd hΦ h0
          go_simp
          refine (with_any n hn v t _ _ (ht.grew hG) hf (by first | exact hb.out | exact hb) (by omega)).mono ?_
          rintro e w' ⟨p, rfl, hp, hg⟩
          exact hK _ _ hg ⟨p, rfl, hp⟩
        · -- 7: build 165, [<0, t40>]
          intro a' W hG hd hΦ h0 K hK
          obtain ⟨_, e40, p40, rfl, h40⟩ := hΦ 6 40 (by kernel_rfl) (by kernel_rfl)
          clear hd hΦ h0
          go_simp
          exact hK _ _ (Below.refl _ _) ⟨_, rfl, h40⟩
        · -- 8: box 165, t41
          intro a' W hG hd hΦ h0 K hK
          obtain ⟨_, e41, q41, rfl, h41⟩ := hΦ 7 41 (by kernel_rfl) (by kernel_rfl)
          clear hd hΦ h0
          go_simp
          exact hK _ _ (Grew.alloc _ _) ⟨_, rfl, _, _, rfl, by simp [go_sem], h41.grew (Grew.alloc _ _)⟩
        · -- 9: assign t42
          intro a' W hG hd hΦ h0 K hK
          obtain ⟨_, e42, p42, rfl, h42⟩ := hΦ 8 42 (by kernel_rfl) (by kernel_rfl)
          clear hd hΦ h0
          go_simp
          exact hK _ _ (Below.refl _ _) ⟨_, rfl, h42⟩
        · -- 10: assign 0
          intro a' W hG hd hΦ h0 K hK
          clear hd hΦ h0
          go_simp
          exact hK _ _ (Below.refl _ _) rfl
        intro W hG
        simp only [FinG, Fx, Any, forall_eq, true_implies]
        rintro _ ⟨p0, rfl, -⟩ _ ⟨p1, rfl, -⟩ v3 - v4 ⟨p, rfl, hp⟩
        go_simp
        go_wp2
        go_ret2
        exact ⟨p, by rw [hr.out]; rfl, WithR.ok hr.out hp, hg.trans hG⟩
  · have hkb : (checkN n != 0) = true := by simp [hk]
    have hr := Lib.hid (show withE n v t = 12 by unfold withE; rw [if_pos hk])
    replace hk := Lib.hid hk
    go_wp2
    go_ret2
    exact ⟨none, by rw [hr.out]; rfl, WithR.ne (by rw [hr.out]; decide), hg⟩

end Go.Proofs.YtkiojenkpbkjpaaGreatDoor
