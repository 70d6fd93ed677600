/- Walks: Has, Rollback of a view. -/
import Derived.Test.YtkiojenkpbkjpaaGreatDoorViewH
import Derived.Test.YtkiojenkpbkjpaaGreatDoorPlay
set_option linter.unusedVariables false
set_option linter.unusedSimpArgs false
namespace Go.Proofs.YtkiojenkpbkjpaaGreatDoor
open Go Go.RowKit RV
set_option maxHeartbeats 2000000
theorem has_any {base : Nat} {vp : Option Addr} {t : T} {m1 cl m2 : List Ch} (n : Nm) (hn : n.owner.size ≤ maxLen) (htx : n.text.size ≤ maxLen) (hf : Fine t) (w : World) (h : IsW base w vp t m1 cl m2) :
    Calls Tryz.prog 34 #[.pointer vp, nmV n] w fun e w' => e = .returned (.bool (vval n t m2).2) ∧ IsW base w' vp t (vread n t m1 m2) cl m2 ∧ Below base w w' := by
  have b4 : base ≤ w.heap.size := by obtain ⟨b, sp, r1, r2, cv, w0, rfl, b1, b2, b3, b4, _⟩ := h; exact b4
  have hc := fun W (hg : Grew w W) => vget_any n hn htx hf W (h.grew hg)
  clear h
  go_enter Tryz.func34, Tryz.ntmps34
  go_wp2_with fail
  refine (hc _ (Grew.alloc _ _)).mono ?_
  clear hc
  rintro e w' ⟨rfl, h', hb⟩
  replace h' := Lib.hid h'
  go_wp2
  go_ret
  exact ⟨rfl, h'.out, (Below.mono (Grew.alloc _ _) b4).trans hb⟩

theorem flat_take (m : Nat) : ∀ cl : List Ch, (cl.take m).flatMap chCells = (cl.flatMap chCells).take (m * 7) := by
  induction m with
  | zero => intro cl; simp
  | succ m ih =>
    intro cl
    cases cl with
    | nil => simp
    | cons c cl =>
      rw [List.take_succ_cons, List.flatMap_cons, List.flatMap_cons, ih, show (m + 1) * 7 = (chCells c).length + m * 7 by simp; omega, List.take_length_add_append]
theorem IsL.take {w : World} {a : Option Addr} {k : Nat} {cl : List Ch} (h : IsL w (.slice a cl.length k) cl) {m : Nat} (hm : m ≤ cl.length) : IsL w (.slice a m k) (cl.take m) := by
  have hl : (cl.take m).length = m := by simp; omega
  obtain ⟨h1, h2⟩ := h
  refine ⟨by rw [flat_length], ?_⟩
  rw [hl]
  rcases h2 with ⟨e, h0⟩ | ⟨g, cap, cur, e, hg, hh, a1, a2, a3, a4⟩
  · simp only [Value.slice.injEq] at e
    obtain ⟨rfl, e2, rfl⟩ := e
    exact .inl ⟨by rw [show m = 0 by omega], by omega⟩
  · simp only [Value.slice.injEq] at e
    obtain ⟨rfl, e2, rfl⟩ := e
    refine .inr ⟨g, k, cur, rfl, hg, hh, by omega, a2, a3, ?_⟩
    rw [flat_take, ← a4, List.take_take, Nat.min_eq_left (Nat.mul_le_mul_right 7 hm)]
/-- A change in a list's block. -/
theorem IsL.cells {w : World} {a : Option Addr} {n k : Nat} {cl : List Ch} (h : IsL w (.slice a n k) cl) {j : Nat} {d : Ch} (hd : cl[j]? = some d) :
    ∃ g, a = some ⟨g, 0, none⟩ ∧ n = cl.length ∧ ∀ i u, (chCells d)[i]? = some u → w.cell? ⟨g, j * 7 + i, none⟩ = some u := by
  obtain ⟨h1, h2⟩ := h
  have hj := (List.getElem?_eq_some_iff.1 hd).1
  rcases h2 with ⟨e, h0⟩ | ⟨g, cap, cur, e, hg, hh, a1, a2, a3, a4⟩
  · omega
  · simp only [Value.slice.injEq] at e
    obtain ⟨rfl, e2, rfl⟩ := e
    refine ⟨g, rfl, e2, fun i u hu => ?_⟩
    have hi : i < 7 := by have := (List.getElem?_eq_some_iff.1 hu).1; simpa using this
    have key : (cl.flatMap chCells)[j * 7 + i]? = some u := by
      have h7 := flat_take j cl
      have hsplit : cl = cl.take j ++ d :: cl.drop (j + 1) := by
        rw [← (List.getElem?_eq_some_iff.1 hd).2, List.getElem_cons_drop, List.take_append_drop]
      rw [hsplit, List.flatMap_append, List.flatMap_cons]
      have hl7 : ((cl.take j).flatMap chCells).length = j * 7 := by rw [flat_length]; simp; omega
      rw [List.getElem?_append_right (by omega), hl7, Nat.add_sub_cancel_left, List.getElem?_append_left (by simpa using hi)]
      exact hu
    rw [← a4] at key
    have hlt : j * 7 + i < cl.length * 7 := by omega
    rw [List.getElem?_take_of_lt hlt, Array.getElem?_toList] at key
    simp [World.cell?, hh, key]

set_option maxRecDepth 100000 in
theorem back_any {base : Nat} {vp : Option Addr} {t : T} {m1 cl m2 : List Ch} (mark : Int) (w : World) (h : IsW base w vp t m1 cl m2) :
    Calls Tryz.prog 35 #[.pointer vp, .int .i64 mark] w fun e w' => e = .returned (.int .i64 (backE mark cl)) ∧ IsW base w' vp t m1 (backL mark cl) (backM mark cl m2) ∧ Below base w w' := by
  have hW := Lib.hid h
  obtain ⟨b, sp, r1, r2, cv, w0, rfl, b1, b2, b3, b4, hb, hw0, hg0, hs, hm1, hl, hm2, hne⟩ := h
  obtain ⟨a, k, rfl⟩ := row_shape hl
  have v2 : w.cell? ⟨b, 2, none⟩ = some (.slice a cl.length k) := by simp [World.cell?, hb]
  by_cases h1 : mark < 0
  · have hE := Lib.hid (show backE mark cl = 2 by unfold backE; rw [if_pos (.inl h1)])
    clear hb hm1 hm2 hl hg0 hs
    go_enter Tryz.func35, Tryz.ntmps35
    go_wp2
    go_ret
    refine ⟨by rw [hE.out]; rfl, ?_, Below.refl _ _⟩
    unfold backL backM
    rw [if_neg (by rw [hE.out]; decide), if_neg (by rw [hE.out]; decide)]
    exact hW.out
  by_cases h2 : (cl.length : Int) < mark
  · have hE := Lib.hid (show backE mark cl = 2 by unfold backE; rw [if_pos (.inr h2)])
    clear hb hm1 hm2 hl hg0 hs
    go_enter Tryz.func35, Tryz.ntmps35
    go_wp2
    go_ret
    refine ⟨by rw [hE.out]; rfl, ?_, Below.refl _ _⟩
    unfold backL backM
    rw [if_neg (by rw [hE.out]; decide), if_neg (by rw [hE.out]; decide)]
    exact hW.out
  obtain ⟨m, rfl⟩ : ∃ m : Nat, mark = m := ⟨mark.toNat, by omega⟩
  have hE := Lib.hid (show backE (m : Int) cl = 0 by unfold backE; rw [if_neg (by omega)])
  have hm : m ≤ cl.length := by omega
  clear h1 h2
  have v3 : w.cell? ⟨b, 3, none⟩ = some (.map (some r2)) := by simp [World.cell?, hb]
  have z2 : w.frozen? ⟨b, 2, none⟩ = false := by simp [World.frozen?, hb]
  have hkc : cl.length ≤ k := by
    rcases hl.2 with ⟨e, h0⟩ | ⟨g, cap, cur, e, _, _, h1, _⟩
    · simp only [Value.slice.injEq] at e; omega
    · simp only [Value.slice.injEq] at e; omega
  have hkm : m ≤ 9223372036854775807 := by
    rcases hl.2 with ⟨e, h0⟩ | ⟨g, cap, cur, e, _, _, h1, h3, _⟩
    · omega
    · simp only [Value.slice.injEq] at e; unfold maxLen at h3; omega
  have hr2b : r2 ∉ [b] := by simp; rintro rfl; obtain ⟨_, _, h1, _⟩ := hm2; rw [hb] at h1; cases h1
  have hr1b : r1 ∉ [b] := by simp; rintro rfl; obtain ⟨_, _, h1, _⟩ := hm1; rw [hb] at h1; cases h1
  have hbut1 : But [b] w (w.setCell ⟨b, 2, none⟩ (.slice a m k)) := But.setCell 2 _
  have hb1 := heap_setCell_same w b 2 _ _ (.slice a m k) hb
  obtain ⟨w2, hcl, hm2n, hg2⟩ := clear_run (hbut1.isM hm2 hr2b) 0
  have hbut2 : But [r2] _ w2 := But.grown hg2 [r2] (by simp)
  have hbr2 : b ∉ [r2] := by simp; rintro rfl; simp at hr2b
  have hb2 := (hbut2.block b (Array.getElem?_eq_some_iff.1 hb1).1 hbr2).trans hb1
  have hm12 := hbut2.isM (hbut1.isM hm1 hr1b) (by simpa using hne)
  have hlt := hbut2.row (hbut1.row (IsL.take hl hm) (by intro g hg cc hcc; have : g = b := (by simpa using hg); subst this; rw [hb] at hcc; simp at hcc)) (by intro g hg cc hcc; have : g = r2 := (by simpa using hg); subst this; obtain ⟨_, _, h1, _⟩ := hbut1.isM hm2 hr2b; rw [h1] at hcc; cases hcc)
  have y2 : w2.cell? ⟨b, 2, none⟩ = some (.slice a m k) := by simp [World.cell?, hb2]
  have y3 : w2.cell? ⟨b, 3, none⟩ = some (.map (some r2)) := by simp [World.cell?, hb2]
  have hB2 : Below base w w2 := (hbut1.below b4 (fun k hk => by rw [List.mem_singleton.1 hk]; exact b1)).trans (hbut2.below (Nat.le_trans b4 hbut1.size) (fun k hk => by rw [List.mem_singleton.1 hk]; exact b3))
  have hb2l := (Array.getElem?_eq_some_iff.1 hb2).1
  replace hb2 := Lib.hid hb2
  replace hm12 := Lib.hid hm12
  replace hm2n := Lib.hid hm2n
  replace hlt : Hid (IsL w2 (.slice a m k) (cl.take m)) := hlt
  replace hg0 := Lib.hid hg0
  replace hB2 := Lib.hid hB2
  replace hs := Lib.hid hs
  clear hW hb hm1 hm2 hl hbut1 hbut2 hb1 hg2
  have hmb : (m : Int) ≤ k := by omega
  have q1 : decide ((m : Int) < 0) = false := by simp
  have q2 : decide (cl.length < m) = false := by simp; omega
  go_enter Tryz.func35, Tryz.ntmps35
  go_wp2
  go_loopw [40] (fun i wr => ∃ j : Nat, j ≤ m ∧ i = .int .i64 j ∧ Hid (But [r2] w2 wr ∧ IsM wr r2 (setAll (cl.take j) []))) (fun i _ => m - (intOf i).toNat)
  case atStart => exact ⟨0, by omega, rfl, But.refl _ _, by simpa [setAll] using hm2n.out⟩
  case round =>
    obtain ⟨j, hjm, rfl, hh⟩ := hrel
    by_cases hj : j < m
    · have hjb : decide ((j : Int) < (m : Int)) = true := by simp; omega
      obtain ⟨hbw, hmw⟩ := hh.out
      have hnr : ∀ g cc, w2.heap[g]? = some (.cells cc 66 (0, 0)) → g ∉ [r2] := by
        intro g cc hc; simp; rintro rfl; obtain ⟨_, _, h1, _⟩ := hm2n.out; rw [h1] at hc; cases hc
      have hlw : IsL wr (.slice a m k) (cl.take m) := hbw.row hlt.out (by intro g hg cc hcc; exact hnr g cc hcc hg)
      obtain ⟨d, hd⟩ : ∃ d, (cl.take m)[j]? = some d := ⟨_, List.getElem?_eq_getElem (by simp; omega)⟩
      have hdd := Lib.hid hd
      obtain ⟨g, rfl, hgm, hc⟩ := hlw.cells hd
      have x0 : wr.cell? ⟨g, j * 7, none⟩ = some (.int .i64 d.name.kind) := hc 0 _ rfl
      have x1 : wr.cell? ⟨g, j * 7 + 1, none⟩ = some (.string d.name.owner) := hc 1 _ rfl
      have x2 : wr.cell? ⟨g, j * 7 + 2, none⟩ = some (.int .i64 d.name.number) := hc 2 _ rfl
      have x3 : wr.cell? ⟨g, j * 7 + 3, none⟩ = some (.int .i64 d.name.index) := hc 3 _ rfl
      have x4 : wr.cell? ⟨g, j * 7 + 4, none⟩ = some (.string d.name.text) := hc 4 _ rfl
      have x5 : wr.cell? ⟨g, j * 7 + 5, none⟩ = some (.string d.value) := hc 5 _ rfl
      have x6 : wr.cell? ⟨g, j * 7 + 6, none⟩ = some (.bool d.absent) := hc 6 _ rfl
      clear hnr hlw hc hgm hd
      replace hmw := Lib.hid hmw
      replace hbw := Lib.hid hbw
      have hy3 : wr.cell? ⟨b, 3, none⟩ = some (.map (some r2)) := hbw.out.cell y3 hbr2
      go_wp2_with fail
      obtain ⟨w4, hw4⟩ : ∃ w4, w4 = (wr.alloc (.cells #[.int .i64 d.name.kind, .string d.name.owner, .int .i64 d.name.number, .int .i64 d.name.index, .string d.name.text, .string d.value, .bool d.absent] 66)) := ⟨_, rfl⟩
      have hg4 : Grew wr w4 := by rw [hw4]; exact Grew.alloc _ _
      have c0 : w4.cell? ⟨wr.heap.size, 0, none⟩ = some (.int .i64 d.name.kind) := by rw [hw4]; simp [go_sem]
      have c1 : w4.cell? ⟨wr.heap.size, 1, none⟩ = some (.string d.name.owner) := by rw [hw4]; simp [go_sem]
      have c2 : w4.cell? ⟨wr.heap.size, 2, none⟩ = some (.int .i64 d.name.number) := by rw [hw4]; simp [go_sem]
      have c3 : w4.cell? ⟨wr.heap.size, 3, none⟩ = some (.int .i64 d.name.index) := by rw [hw4]; simp [go_sem]
      have c4 : w4.cell? ⟨wr.heap.size, 4, none⟩ = some (.string d.name.text) := by rw [hw4]; simp [go_sem]
      have c5 : w4.cell? ⟨wr.heap.size, 5, none⟩ = some (.string d.value) := by rw [hw4]; simp [go_sem]
      have c6 : w4.cell? ⟨wr.heap.size, 6, none⟩ = some (.bool d.absent) := by rw [hw4]; simp [go_sem]
      rw [← hw4]
      clear hw4
      replace hmw := Lib.hid (hmw.out.grew hg4)
      have y3 := hg4.cell hy3
      generalize hBe : wr.heap.size = B at *
      clear x0 x1 x2 x3 x4 x5 x6 hy3
      refine wp_region_chain 7 [] [] [H79 w4 r2 d (setAll (cl.take j) [])] [Fx (.pointer (some ⟨b, 0, none⟩)), Fx (.pointer (some ⟨b, 0, none⟩)), Fx (.pointer (some ⟨b, 3, none⟩)), Fx (.map (some r2)), Fx (.pointer (some ⟨B, 0, none⟩)), Fx (nmV d.name), Fx (chV d), Any] (by kernel_rfl) (by kernel_rfl) (by simp only [AllStable, Fx.stable, Any.stable, and_self]) ⟨?_, ?_, ?_, ?_, ?_, ?_, ?_, ?_, trivial⟩ ?_
      · -- 0: move t0
        intro a' W hG hd hΦ h0 K hK
        have e0 : a'.tmps[0]? = some (.pointer (some ⟨b, 0, none⟩)) := h0 0 (by kernel_rfl)
        clear hd hΦ h0
        go_simp
        exact hK _ _ (Below.refl _ _) rfl
      · -- 1: nilCheck t44
        intro a' W hG hd hΦ h0 K hK
        have e44 : a'.tmps[44]? = some (.pointer (some ⟨b, 0, none⟩)) := fx (W := W) (hΦ 0 44 (by kernel_rfl) (by kernel_rfl))
        clear hd hΦ h0
        go_simp
        exact hK _ _ (Below.refl _ _) rfl
      · -- 2: fieldAddr 162, t45, 3
        intro a' W hG hd hΦ h0 K hK
        have e45 : a'.tmps[45]? = some (.pointer (some ⟨b, 0, none⟩)) := fx (W := W) (hΦ 1 45 (by kernel_rfl) (by kernel_rfl))
        clear hd hΦ h0
        go_simp
        exact hK _ _ (Below.refl _ _) rfl
      · -- 3: load 160, t46
        intro a' W hG hd hΦ h0 K hK
        have e46 : a'.tmps[46]? = some (.pointer (some ⟨b, 3, none⟩)) := fx (W := W) (hΦ 2 46 (by kernel_rfl) (by kernel_rfl))
        have y3 := hG.cell y3
        clear hd hΦ h0
        go_simp
        exact hK _ _ (Below.refl _ _) rfl
      · -- 4: fieldAddr 66, t6, 0
        intro a' W hG hd hΦ h0 K hK
        have e6 : a'.tmps[6]? = some (.pointer (some ⟨B, 0, none⟩)) := h0 6 (by kernel_rfl)
        clear hd hΦ h0
        go_simp
        exact hK _ _ (Below.refl _ _) rfl
      · -- 5: load 32, t48
        intro a' W hG hd hΦ h0 K hK
        have e48 : a'.tmps[48]? = some (.pointer (some ⟨B, 0, none⟩)) := fx (W := W) (hΦ 4 48 (by kernel_rfl) (by kernel_rfl))
        have c0 := hG.cell c0
        have c1 := hG.cell c1
        have c2 := hG.cell c2
        have c3 := hG.cell c3
        have c4 := hG.cell c4
        clear hd hΦ h0
        go_simp
        exact hK _ _ (Below.refl _ _) rfl
      · -- 6: load 66, t6
        intro a' W hG hd hΦ h0 K hK
        have e6 : a'.tmps[6]? = some (.pointer (some ⟨B, 0, none⟩)) := h0 6 (by kernel_rfl)
        have c0 := hG.cell c0
        have c1 := hG.cell c1
        have c2 := hG.cell c2
        have c3 := hG.cell c3
        have c4 := hG.cell c4
        have c5 := hG.cell c5
        have c6 := hG.cell c6
        clear hd hΦ h0
        go_simp
        exact hK _ _ (Below.refl _ _) rfl
      · -- 7: mapUpdate 160, t47, t49, t50
        intro a' W hG hd hΦ h0 K hK
        have e47 : a'.tmps[47]? = some (.map (some r2)) := fx (W := W) (hΦ 3 47 (by kernel_rfl) (by kernel_rfl))
        have e49 : a'.tmps[49]? = some (nmV d.name) := fx (W := W) (hΦ 5 49 (by kernel_rfl) (by kernel_rfl))
        have e50 : a'.tmps[50]? = some (chV d) := fx (W := W) (hΦ 6 50 (by kernel_rfl) (by kernel_rfl))
        obtain ⟨w5, hrun, hm5, hg5⟩ := upd_run (hmw.out.grew hG) d
        clear hd hΦ h0
        go_simp
        exact hK undef _ (show H79 w4 r2 d (setAll (cl.take j) []) _ from ⟨hm5, ((hG : Grew w4 W).but [r2]).trans (But.grown hg5 _ (by simp))⟩) trivial
      intro W hF
      simp only [FinG, List.map, soft, Fx, Any, forall_eq, true_implies, exists_const, exists_eq]
      obtain ⟨hm5, hbut2⟩ : H79 w4 r2 d (setAll (cl.take j) []) W := hF
      intros
      go_simp
      have hjl : j < cl.length := by omega
      have hcj : cl[j]? = some d := by have := hdd.out; rwa [List.getElem?_take_of_lt hj] at this
      have hst : setAll (cl.take (j + 1)) [] = putM d (setAll (cl.take j) []) := by rw [List.take_add_one, hcj]; exact setAll_snoc _ _ _
      have hfin := Lib.hid (show But [r2] w2 W ∧ IsM W r2 (setAll (cl.take (j + 1)) []) from ⟨hbw.out.trans ((Below.but hg4 [r2]).trans hbut2), by rw [hst]; exact hm5⟩)
      clear hst hcj hm5 hbut2
      go_wp2
      go_round
      case rel => exact ⟨j + 1, by omega, by go_num, hfin⟩
      case measure => simp [intOf]; omega
    · have hjb : decide ((j : Int) < (m : Int)) = false := by simp; omega
      obtain rfl : j = m := by omega
      go_wp2
      go_ret
      obtain ⟨hbw, hmw⟩ := hh.out
      have hB : Below base w wr := hB2.out.trans (hbw.below (Nat.le_trans b4 hB2.out.size) (fun k hk => by rw [List.mem_singleton.1 hk]; exact b3))
      refine ⟨by rw [hE.out]; rfl, ?_, hB⟩
      unfold backL backM
      rw [if_pos hE.out, if_pos hE.out, Int.toNat_natCast]
      refine ⟨b, sp, r1, r2, _, w0, rfl, b1, b2, b3, Nat.le_trans b4 hB.size, (hbw.block b hb2l hbr2).trans hb2.out, hw0, Below.trans hg0.out (Below.mono hB hw0), hs.out, hbw.isM hm12.out (by simpa using hne), hbw.row hlt.out ?_, hmw, hne⟩
      intro g hg cc hcc
      have : g = r2 := by simpa using hg
      subst this
      obtain ⟨_, _, h1, _⟩ := hm2n.out
      rw [h1] at hcc
      cases hcc
end Go.Proofs.YtkiojenkpbkjpaaGreatDoor
