/- Walk: the view reads. -/
import Derived.Test.YtkiojenkpbkjpaaGreatDoorViewG
set_option linter.unusedVariables false
set_option linter.unusedSimpArgs false
namespace Go.Proofs.YtkiojenkpbkjpaaGreatDoor
open Go Go.RowKit RV
set_option maxHeartbeats 4000000
set_option maxRecDepth 100000 in
theorem vget_any {base : Nat} {vp : Option Addr} {t : T} {m1 cl m2 : List Ch} (n : Nm) (hn : n.owner.size ≤ maxLen) (htx : n.text.size ≤ maxLen) (hf : Fine t) (w : World) (h : IsW base w vp t m1 cl m2) :
    Calls Tryz.prog 23 #[.pointer vp, nmV n] w fun e w' => e = .returned (.tuple #[.string (vval n t m2).1, .bool (vval n t m2).2]) ∧ IsW base w' vp t (vread n t m1 m2) cl m2 ∧ Below base w w' := by
  have hW := h
  obtain ⟨b, sp, r1, r2, cv, w0, rfl, b1, b2, b3, b4, hb, hw0, hg0, hs, hm1, hl, hm2, hne⟩ := h
  go_enter Tryz.func23, Tryz.ntmps23
  go_wp2_with fail
  obtain ⟨w1, hw1⟩ : ∃ w1, w1 = (w.alloc (.cells #[.int .i64 n.kind, .string n.owner, .int .i64 n.number, .int .i64 n.index, .string n.text] 32)) := ⟨_, rfl⟩
  have hg1 : Grew w w1 := by rw [hw1]; exact Grew.alloc _ _
  have c0 : w1.cell? ⟨w.heap.size, 0, none⟩ = some (.int .i64 n.kind) := by rw [hw1]; simp [go_sem]
  have c1 : w1.cell? ⟨w.heap.size, 1, none⟩ = some (.string n.owner) := by rw [hw1]; simp [go_sem]
  have c2 : w1.cell? ⟨w.heap.size, 2, none⟩ = some (.int .i64 n.number) := by rw [hw1]; simp [go_sem]
  have c3 : w1.cell? ⟨w.heap.size, 3, none⟩ = some (.int .i64 n.index) := by rw [hw1]; simp [go_sem]
  have c4 : w1.cell? ⟨w.heap.size, 4, none⟩ = some (.string n.text) := by rw [hw1]; simp [go_sem]
  rw [← hw1]
  clear hw1
  refine (checkN_any n hn htx _).mono ?_
  rintro e w2 ⟨rfl, hg2⟩
  by_cases hk : checkN n = 0
  · have hkb : (checkN n != 0) = false := by simp [hk]
    have hg : Grew w w2 := hg1.trans hg2
    have hbl : b < w2.heap.size := Nat.lt_of_lt_of_le (Array.getElem?_eq_some_iff.1 hb).1 hg.size
    replace hb := (Below.block hg b (Array.getElem?_eq_some_iff.1 hb).1).trans hb
    replace hm1 := hm1.grew hg
    replace hm2 := hm2.grew hg
    replace hl := IsL.grew hg hl
    replace hW := Lib.hid (hW.grew hg)
    have hgs : Grew w0 w2 := hg0.trans hg
    have v3 : w2.cell? ⟨b, 3, none⟩ = some (.map (some r2)) := by simp [World.cell?, hb]
    replace c0 := hg2.cell c0
    replace c1 := hg2.cell c1
    replace c2 := hg2.cell c2
    replace c3 := hg2.cell c3
    replace c4 := hg2.cell c4
    have hlk := look_run (hm2.grew (Grew.drew w2)) n
    have hlk2 := look_run ((hm2.grew (Grew.alloc w2 (.cells #[.int .i64 0, .string ⟨#[]⟩, .int .i64 0, .int .i64 0, .string ⟨#[]⟩, .string ⟨#[]⟩, .bool false] 66))).grew (Grew.drew _)) n
    have hl' := World.block_lt_of_cell? _ _ c0
    have hn' := Nat.ne_of_lt hl'
    have hn'' := Nat.ne_of_gt hl'
    have hb' := Nat.ne_of_lt hbl
    have hb'' := Nat.ne_of_gt hbl
    replace hm1 := Lib.hid hm1
    replace hm2 := Lib.hid hm2
    replace hl := Lib.hid hl
    replace hb := Lib.hid hb
    replace hg0 := Lib.hid hg0
    cases hget : getM n m2 with
    | none =>
      have hV := Lib.hid (show vval n t m2 = ((t.get n).getD ⟨#[]⟩, (t.get n).isSome) by unfold vval; rw [if_neg (by simp [hk]), hget])
      have hR := Lib.hid (show vread n t m1 m2 = putM ⟨n, (t.get n).getD ⟨#[]⟩, !(t.get n).isSome⟩ m1 by unfold vread; rw [if_neg (by simp [hk]), hget])
      rw [hget] at hlk hlk2
      simp only [Option.getD_none, Option.isSome_none] at hlk hlk2
      replace hk := Lib.hid hk
      go_wp2_with fail
      go_region
      all_goals
        have hg3 : Grew w2 (w2.alloc (.cells #[.int .i64 zCh.name.kind, .string zCh.name.owner, .int .i64 zCh.name.number, .int .i64 zCh.name.index, .string zCh.name.text, .string zCh.value, .bool zCh.absent] 66)).drew := (Grew.alloc _ _).trans (Grew.drew _)
        generalize (w2.alloc (.cells #[.int .i64 zCh.name.kind, .string zCh.name.owner, .int .i64 zCh.name.number, .int .i64 zCh.name.index, .string zCh.name.text, .string zCh.value, .bool zCh.absent] 66)).drew = w3 at hg3 ⊢
        replace c0 := hg3.cell c0
        replace c1 := hg3.cell c1
        replace c2 := hg3.cell c2
        replace c3 := hg3.cell c3
        replace c4 := hg3.cell c4
        have v0 : w3.cell? ⟨b, 0, none⟩ = some (.pointer sp) := hg3.cell (by simp [World.cell?, hb.out])
        have v1 : w3.cell? ⟨b, 1, none⟩ = some (.map (some r1)) := hg3.cell (by simp [World.cell?, hb.out])
        replace hgs : Grew w0 w3 := hgs.trans hg3
        clear hlk hlk2 v3
        generalize hxe : (t.get n).getD ⟨#[]⟩ = x at hV hR
        generalize hye : (t.get n).isSome = y at hV hR
        have hx := Lib.hid hxe
        have hy := Lib.hid hye
        clear hxe hye
        generalize hBe : w.heap.size = B at *
        go_wp2_with fail
        refine wp_region_grow [Fx (.pointer (some ⟨b, 0, none⟩)), Fx (.pointer (some ⟨b, 0, none⟩)), Fx (.pointer (some ⟨b, 0, none⟩)), Fx (.pointer sp), Fx (nmV n), Fx (.tuple #[.string x, .bool (y)]), Fx (.tuple #[.string x, .bool (y)]), Fx (.string x), Fx (.bool (y)), Fx (.string x), Fx (.bool (y))] (by kernel_rfl) (by kernel_rfl) (by simp only [AllStable, Fx.stable, Any.stable, and_self]) ⟨?_, ?_, ?_, ?_, ?_, ?_, ?_, ?_, ?_, ?_, ?_, trivial⟩ ?_
        · -- 0: move t0
          intro a' W hG hd hΦ h0 K hK
          have e0 : a'.tmps[0]? = some (.pointer (some ⟨b, 0, none⟩)) := h0 0 (by kernel_rfl)
          clear hd hΦ h0
          go_simp
          exact hK _ _ (Below.refl _ _) rfl
        · -- 1: nilCheck t33
          intro a' W hG hd hΦ h0 K hK
          have e33 : a'.tmps[33]? = some (.pointer (some ⟨b, 0, none⟩)) := fx (W := W) (hΦ 0 33 (by kernel_rfl) (by kernel_rfl))
          clear hd hΦ h0
          go_simp
          exact hK _ _ (Below.refl _ _) rfl
        · -- 2: fieldAddr 162, t34, 0
          intro a' W hG hd hΦ h0 K hK
          have e34 : a'.tmps[34]? = some (.pointer (some ⟨b, 0, none⟩)) := fx (W := W) (hΦ 1 34 (by kernel_rfl) (by kernel_rfl))
          clear hd hΦ h0
          go_simp
          exact hK _ _ (Below.refl _ _) rfl
        · -- 3: load 26, t35
          intro a' W hG hd hΦ h0 K hK
          have e35 : a'.tmps[35]? = some (.pointer (some ⟨b, 0, none⟩)) := fx (W := W) (hΦ 2 35 (by kernel_rfl) (by kernel_rfl))
          have v0 := hG.cell v0
          clear hd hΦ h0
          go_simp
          exact hK _ _ (Below.refl _ _) rfl
        · -- 4: load 32, t3
          intro a' W hG hd hΦ h0 K hK
          have e3 : a'.tmps[3]? = some (.pointer (some ⟨B, 0, none⟩)) := h0 3 (by kernel_rfl)
          have c0 := hG.cell c0
          have c1 := hG.cell c1
          have c2 := hG.cell c2
          have c3 := hG.cell c3
          have c4 := hG.cell c4
          clear hd hΦ h0
          go_simp
          exact hK _ _ (Below.refl _ _) rfl
        · -- 5: call F54{(*replevin/state.State).Get}(t36, t37)
          intro a' W hG hd hΦ h0 K hK
          have e36 : a'.tmps[36]? = some (.pointer sp) := fx (W := W) (hΦ 3 36 (by kernel_rfl) (by kernel_rfl))
          have e37 : a'.tmps[37]? = some (nmV n) := fx (W := W) (hΦ 4 37 (by kernel_rfl) (by kernel_rfl))
          clear hd hΦ h0
          go_simp
          refine (get_any n hn W (hs.grew (hgs.trans hG)) hf).mono ?_
          rintro e w' ⟨rfl, hg⟩
          rw [hx.out, hy.out]
          exact hK _ _ hg rfl
        · -- 6: move t38
          intro a' W hG hd hΦ h0 K hK
          have e38 : a'.tmps[38]? = some (.tuple #[.string x, .bool (y)]) := fx (W := W) (hΦ 5 38 (by kernel_rfl) (by kernel_rfl))
          clear hd hΦ h0
          go_simp
          exact hK _ _ (Below.refl _ _) rfl
        · -- 7: extract t32, 0
          intro a' W hG hd hΦ h0 K hK
          have e32 : a'.tmps[32]? = some (.tuple #[.string x, .bool (y)]) := fx (W := W) (hΦ 6 32 (by kernel_rfl) (by kernel_rfl))
          clear hd hΦ h0
          go_simp
          exact hK _ _ (Below.refl _ _) rfl
        · -- 8: extract t32, 1
          intro a' W hG hd hΦ h0 K hK
          have e32 : a'.tmps[32]? = some (.tuple #[.string x, .bool (y)]) := fx (W := W) (hΦ 6 32 (by kernel_rfl) (by kernel_rfl))
          clear hd hΦ h0
          go_simp
          exact hK _ _ (Below.refl _ _) rfl
        · -- 9: assign t39
          intro a' W hG hd hΦ h0 K hK
          have e39 : a'.tmps[39]? = some (.string x) := fx (W := W) (hΦ 7 39 (by kernel_rfl) (by kernel_rfl))
          clear hd hΦ h0
          go_simp
          exact hK _ _ (Below.refl _ _) rfl
        · -- 10: assign t40
          intro a' W hG hd hΦ h0 K hK
          have e40 : a'.tmps[40]? = some (.bool (y)) := fx (W := W) (hΦ 8 40 (by kernel_rfl) (by kernel_rfl))
          clear hd hΦ h0
          go_simp
          exact hK _ _ (Below.refl _ _) rfl
        intro W hG
        simp only [FinG, Fx, Any, forall_eq, true_implies]
        intros
        go_simp
        rename_i w4 _
        obtain ⟨w4, hw4⟩ : ∃ w4, w4 = W := ⟨_, rfl⟩
        rw [← hw4]
        subst hw4
        have hg4 : Grew w2 w4 := hg3.trans hG
        replace hm1 := Lib.hid (hm1.out.grew hg4)
        replace v1 := hG.cell v1
        replace c0 := hG.cell c0
        replace c1 := hG.cell c1
        replace c2 := hG.cell c2
        replace c3 := hG.cell c3
        replace c4 := hG.cell c4
        go_wp2_with fail
        refine wp_region_chain 10 [] [] [H79 w4 r1 ⟨n, x, !y⟩ m1] [Fx (.pointer (some ⟨b, 0, none⟩)), Fx (.pointer (some ⟨b, 0, none⟩)), Fx (.pointer (some ⟨b, 1, none⟩)), Fx (.map (some r1)), Fx (nmV n), Fx (nmV n), Fx (.string x), Fx (.bool (y)), Fx (.bool (!(y))), Fx (chV ⟨n, x, !y⟩), Any] (by kernel_rfl) (by kernel_rfl) (by simp only [AllStable, Fx.stable, Any.stable, and_self]) ⟨?_, ?_, ?_, ?_, ?_, ?_, ?_, ?_, ?_, ?_, ?_, trivial⟩ ?_
        · -- 0: move t0
          intro a' W hG hd hΦ h0 K hK
          have e0 : a'.tmps[0]? = some (.pointer (some ⟨b, 0, none⟩)) := h0 0 (by kernel_rfl)
          clear hd hΦ h0
          go_simp
          exact hK _ _ (Below.refl _ _) rfl
        · -- 1: nilCheck t41
          intro a' W hG hd hΦ h0 K hK
          have e41 : a'.tmps[41]? = some (.pointer (some ⟨b, 0, none⟩)) := fx (W := W) (hΦ 0 41 (by kernel_rfl) (by kernel_rfl))
          clear hd hΦ h0
          go_simp
          exact hK _ _ (Below.refl _ _) rfl
        · -- 2: fieldAddr 162, t42, 1
          intro a' W hG hd hΦ h0 K hK
          have e42 : a'.tmps[42]? = some (.pointer (some ⟨b, 0, none⟩)) := fx (W := W) (hΦ 1 42 (by kernel_rfl) (by kernel_rfl))
          clear hd hΦ h0
          go_simp
          exact hK _ _ (Below.refl _ _) rfl
        · -- 3: load 160, t43
          intro a' W hG hd hΦ h0 K hK
          have e43 : a'.tmps[43]? = some (.pointer (some ⟨b, 1, none⟩)) := fx (W := W) (hΦ 2 43 (by kernel_rfl) (by kernel_rfl))
          have v1 := hG.cell v1
          clear hd hΦ h0
          go_simp
          exact hK _ _ (Below.refl _ _) rfl
        · -- 4: load 32, t3
          intro a' W hG hd hΦ h0 K hK
          have e3 : a'.tmps[3]? = some (.pointer (some ⟨B, 0, none⟩)) := h0 3 (by kernel_rfl)
          have c0 := hG.cell c0
          have c1 := hG.cell c1
          have c2 := hG.cell c2
          have c3 := hG.cell c3
          have c4 := hG.cell c4
          clear hd hΦ h0
          go_simp
          exact hK _ _ (Below.refl _ _) rfl
        · -- 5: load 32, t3
          intro a' W hG hd hΦ h0 K hK
          have e3 : a'.tmps[3]? = some (.pointer (some ⟨B, 0, none⟩)) := h0 3 (by kernel_rfl)
          have c0 := hG.cell c0
          have c1 := hG.cell c1
          have c2 := hG.cell c2
          have c3 := hG.cell c3
          have c4 := hG.cell c4
          clear hd hΦ h0
          go_simp
          exact hK _ _ (Below.refl _ _) rfl
        · -- 6: move t8
          intro a' W hG hd hΦ h0 K hK
          have e8 : a'.tmps[8]? = some (.string x) := h0 8 (by kernel_rfl)
          clear hd hΦ h0
          go_simp
          exact hK _ _ (Below.refl _ _) rfl
        · -- 7: move t9
          intro a' W hG hd hΦ h0 K hK
          have e9 : a'.tmps[9]? = some (.bool (y)) := h0 9 (by kernel_rfl)
          clear hd hΦ h0
          go_simp
          exact hK _ _ (Below.refl _ _) rfl
        · -- 8: unOp not, 4, t48
          intro a' W hG hd hΦ h0 K hK
          have e48 : a'.tmps[48]? = some (.bool (y)) := fx (W := W) (hΦ 7 48 (by kernel_rfl) (by kernel_rfl))
          clear hd hΦ h0
          go_simp
          exact hK _ _ (Below.refl _ _) rfl
        · -- 9: build 66, [<0, t46>, <1, t47>, <2, t49>]
          intro a' W hG hd hΦ h0 K hK
          have e46 : a'.tmps[46]? = some (nmV n) := fx (W := W) (hΦ 5 46 (by kernel_rfl) (by kernel_rfl))
          have e47 : a'.tmps[47]? = some (.string x) := fx (W := W) (hΦ 6 47 (by kernel_rfl) (by kernel_rfl))
          have e49 : a'.tmps[49]? = some (.bool (!(y))) := fx (W := W) (hΦ 8 49 (by kernel_rfl) (by kernel_rfl))
          clear hd hΦ h0
          go_simp
          exact hK _ _ (Below.refl _ _) rfl
        · -- 10: mapUpdate 160, t44, t45, t50
          intro a' W hG hd hΦ h0 K hK
          have e44 : a'.tmps[44]? = some (.map (some r1)) := fx (W := W) (hΦ 3 44 (by kernel_rfl) (by kernel_rfl))
          have e45 : a'.tmps[45]? = some (nmV n) := fx (W := W) (hΦ 4 45 (by kernel_rfl) (by kernel_rfl))
          have e50 : a'.tmps[50]? = some (chV ⟨n, x, !y⟩) := fx (W := W) (hΦ 9 50 (by kernel_rfl) (by kernel_rfl))
          obtain ⟨w5, hrun, hm5, hg5⟩ := upd_run (hm1.out.grew hG) ⟨n, x, !y⟩
          clear hd hΦ h0
          go_simp
          exact hK undef _ (show H79 w4 r1 ⟨n, x, !y⟩ m1 _ from ⟨hm5, ((hG : Grew w4 W).but [r1]).trans (But.grown hg5 _ (by simp))⟩) trivial
        intro W hF
        simp only [FinG, List.map, soft, Fx, Any, forall_eq, true_implies, exists_const, exists_eq]
        obtain ⟨hm5, hbut2⟩ : H79 w4 r1 ⟨n, x, !y⟩ m1 W := hF
        intros
        go_simp
        go_wp2
        go_ret2
        have hb4 := (Below.block hg4 b (Array.getElem?_eq_some_iff.1 hb.out).1).trans hb.out
        have hbr : b ∉ [r1] := by simp; rintro rfl; obtain ⟨_, _, h1, _⟩ := hm1.out; rw [hb4] at h1; cases h1
        have hr21 : r2 ∉ [r1] := by simp; exact fun e => hne e.symm
        have hw4 : B ≤ w4.heap.size := by rw [← hBe]; exact Nat.le_trans hg.size hg4.size
        have hB : Below base w W := (Below.mono (hg.trans hg4) (by rw [hBe]; exact b4)).trans (hbut2.below (Nat.le_trans b4 hw4) (fun k hk => by rw [List.mem_singleton.1 hk]; exact b2))
        refine ⟨by rw [hV.out]; rfl, ?_, hB⟩
        rw [hR.out]
        refine ⟨b, sp, r1, r2, cv, w0, rfl, b1, b2, b3, Nat.le_trans b4 (by rw [← hBe]; exact hB.size), (hbut2.block b (Array.getElem?_eq_some_iff.1 hb4).1 hbr).trans hb4, hw0, Below.trans hg0.out (Below.mono hB hw0), hs, hm5, hbut2.row (IsL.grew hg4 hl.out) ?_, hbut2.isM (hm2.out.grew hg4) hr21, hne⟩
        intro g hg9 cc hcc
        have : g = r1 := by simpa using hg9
        subst this
        obtain ⟨_, _, h1, _⟩ := hm1.out
        rw [h1] at hcc
        cases hcc
    | some d =>
      have hV := Lib.hid (show vval n t m2 = (d.value, !d.absent) by unfold vval; rw [if_neg (by simp [hk]), hget])
      have hR := Lib.hid (show vread n t m1 m2 = m1 by unfold vread; rw [if_neg (by simp [hk]), hget])
      rw [hget] at hlk hlk2
      simp only [Option.getD_some, Option.isSome_some] at hlk hlk2
      replace hk := Lib.hid hk
      go_wp2_with fail
      go_region
      all_goals
        have hg3 : Grew w2 (w2.alloc (.cells #[.int .i64 d.name.kind, .string d.name.owner, .int .i64 d.name.number, .int .i64 d.name.index, .string d.name.text, .string d.value, .bool d.absent] 66)).drew := (Grew.alloc _ _).trans (Grew.drew _)
        have d5 : (w2.alloc (.cells #[.int .i64 d.name.kind, .string d.name.owner, .int .i64 d.name.number, .int .i64 d.name.index, .string d.name.text, .string d.value, .bool d.absent] 66)).drew.cell? ⟨w2.heap.size, 5, none⟩ = some (.string d.value) := by simp [go_sem]
        have d6 : (w2.alloc (.cells #[.int .i64 d.name.kind, .string d.name.owner, .int .i64 d.name.number, .int .i64 d.name.index, .string d.name.text, .string d.value, .bool d.absent] 66)).drew.cell? ⟨w2.heap.size, 6, none⟩ = some (.bool d.absent) := by simp [go_sem]
        generalize (w2.alloc (.cells #[.int .i64 d.name.kind, .string d.name.owner, .int .i64 d.name.number, .int .i64 d.name.index, .string d.name.text, .string d.value, .bool d.absent] 66)).drew = w3 at hg3 d5 d6 ⊢
        clear hlk hlk2 v3
        go_wp2_with fail
        go_region
        all_goals
          go_wp2
          go_ret2
          refine ⟨by rw [hV.out]; rfl, ?_, Below.mono (hg.trans (hg3.trans (Grew.drew _))) b4⟩
          rw [hR.out]
          exact hW.out.grew (hg3.trans (Grew.drew _))
  · have hkb : (checkN n != 0) = true := by simp [hk]
    have hV := Lib.hid (show vval n t m2 = (⟨#[]⟩, false) by unfold vval; rw [if_pos hk])
    have hR := Lib.hid (show vread n t m1 m2 = m1 by unfold vread; rw [if_pos hk])
    replace hk := Lib.hid hk
    replace hW := Lib.hid (hW.grew (hg1.trans hg2))
    clear hb hg0 hs hm1 hm2 hl
    go_wp2
    go_ret2
    refine ⟨by rw [hV.out]; rfl, ?_, Below.mono (hg1.trans hg2) b4⟩
    rw [hR.out]
    exact hW.out

end Go.Proofs.YtkiojenkpbkjpaaGreatDoor
