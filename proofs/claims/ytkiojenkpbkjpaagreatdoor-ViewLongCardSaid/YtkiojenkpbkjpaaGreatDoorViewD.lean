/- Walk: the view records a call. -/
import Derived.Test.YtkiojenkpbkjpaaGreatDoorViewS
import Derived.Test.YtkiojenkpbkjpaaGreatDoorLast
import Derived.Test.YtkiojenkpbkjpaaGreatDoorTreeE
set_option linter.unusedVariables false
set_option linter.unusedSimpArgs false
namespace Go.Proofs.YtkiojenkpbkjpaaGreatDoor
open Go Go.RowKit RV
set_option maxHeartbeats 4000000
theorem fxs {a' : Act} {t : Nat} {e : Value} (h : ∃ v, a'.tmps[t]? = some v ∧ ∃ W0 : World, Fx e v W0) : a'.tmps[t]? = some e := by obtain ⟨_, h, _, rfl⟩ := h; exact h
theorem Below.but {w w' : World} (h : Below w.heap.size w w') (S : List Nat) : But S w w' := ⟨h.os, h.tape, h.output, h.size, fun k hk _ => Below.block h k hk⟩
theorem row_own_base {base : Nat} {w : World} {v : Value} {l : List Ch} (h : IsLO base w v l) : ∀ k, v.ownBlock = some k → base ≤ k := by
  intro k hk
  rcases h.2 with ⟨rfl, _⟩ | ⟨g, cap, cur, rfl, hb, _⟩
  · cases hk
  · cases hk; exact hb
theorem one_ch (c : Ch) : ∀ u ∈ chCells c, u.oneCell' = true := by
  intro u hu
  simp only [List.mem_cons, List.not_mem_nil, or_false] at hu
  rcases hu with rfl | rfl | rfl | rfl | rfl | rfl | rfl <;> rfl
theorem cells_new (W : World) (c : Ch) (j : Nat) (u : Value) (h : (chCells c)[j]? = some u) : (W.alloc (.cells (chCells c).toArray 66)).cell? ⟨W.heap.size, j, none⟩ = some u := by
  simp only [World.cell?, heap_alloc_new]
  simpa using h
/-- A list of changes in a block of its own. -/
def PR (base : Nat) (l : List Ch) : Phi := fun v W => IsLO base W v l
theorem PR.stable {base : Nat} {l : List Ch} : Stable (PR base l) := fun _ _ _ h hg => row_grew h hg
/-- A slice of one change in a new block. -/
def PB (base : Nat) (c : Ch) : Phi := fun v W => ∃ g, v = .slice (some ⟨g, 0, none⟩) 1 1 ∧ base ≤ g ∧ ∀ j u, (chCells c)[j]? = some u → W.cell? ⟨g, j, none⟩ = some u
theorem PB.stable {base : Nat} {c : Ch} : Stable (PB base c) := fun _ _ _ ⟨g, hv, hb, h⟩ hg => ⟨g, hv, hb, fun j u hj => hg.cell (h j u hj)⟩
def F79 (w2 : World) (W : World) : Prop := Below w2.heap.size w2 W
def G79 (w2 : World) (b : Nat) (sp : Option Addr) (r1 r2 : Nat) (cl : List Ch) (c : Ch) (W : World) : Prop :=
  (∃ u, W.heap[b]? = some (.cells #[.pointer sp, .map (some r1), u, .map (some r2)] 162 (0, 0)) ∧ IsLO w2.heap.size W u (cl ++ [c])) ∧ But [b] w2 W
def H79 (w3 : World) (r2 : Nat) (c : Ch) (m2 : List Ch) (W : World) : Prop := IsM W r2 (putM c m2) ∧ But [r2] w3 W
theorem But.cell {S : List Nat} {w w' : World} (h : But S w w') {p : Addr} {v : Value} (hc : w.cell? p = some v) (hn : p.block ∉ S) : w'.cell? p = some v :=
  (World.cell?_of_block (w := w) (h.block p.block (World.block_lt_of_cell? w p hc) hn)).trans hc
theorem But.isM {S : List Nat} {w w' : World} (h : But S w w') {r : Nat} {m : List Ch} (hm : IsM w r m) (hn : r ∉ S) : IsM w' r m := by
  obtain ⟨es, clock, hb, hr⟩ := hm
  exact ⟨es, clock, (h.block r (Array.getElem?_eq_some_iff.1 hb).1 hn).trans hb, hr⟩

set_option maxRecDepth 100000 in
theorem call_any {base : Nat} {vp : Option Addr} {t : T} {m1 cl m2 : List Ch} (c : Ch) (hn : c.name.owner.size ≤ maxLen) (htx : c.name.text.size ≤ maxLen) (hcv : c.value.size ≤ maxLen) (w : World) (h : IsW base w vp t m1 cl m2) (hlen : cl.length ≤ 100000) :
    Calls Tryz.prog 79 #[.pointer vp, chV c] w fun e w' => e = .returned (.int .i64 (callE c)) ∧ IsW base w' vp t m1 (callL c cl) (callM c m2) ∧ Below base w w' := by
  have hW := h
  obtain ⟨b, sp, r1, r2, cv, w0, rfl, b1, b2, b3, b4, hb, hw0, hg0, hs, hm1, hl, hm2, hne⟩ := h
  obtain ⟨i0, hi, hz0, hz1, hz2⟩ := info_parts info66
  obtain ⟨a, k, rfl⟩ := row_shape hl
  go_enter Tryz.func79, Tryz.ntmps79
  go_wp2_with fail
  obtain ⟨w1, hw1⟩ : ∃ w1, w1 = (w.alloc (.cells #[.int .i64 c.name.kind, .string c.name.owner, .int .i64 c.name.number, .int .i64 c.name.index, .string c.name.text, .string c.value, .bool c.absent] 66)) := ⟨_, rfl⟩
  have hg1 : Grew w w1 := by rw [hw1]; exact Grew.alloc _ _
  have c0 : w1.cell? ⟨w.heap.size, 0, none⟩ = some (.int .i64 c.name.kind) := by rw [hw1]; simp [go_sem]
  have c1 : w1.cell? ⟨w.heap.size, 1, none⟩ = some (.string c.name.owner) := by rw [hw1]; simp [go_sem]
  have c2 : w1.cell? ⟨w.heap.size, 2, none⟩ = some (.int .i64 c.name.number) := by rw [hw1]; simp [go_sem]
  have c3 : w1.cell? ⟨w.heap.size, 3, none⟩ = some (.int .i64 c.name.index) := by rw [hw1]; simp [go_sem]
  have c4 : w1.cell? ⟨w.heap.size, 4, none⟩ = some (.string c.name.text) := by rw [hw1]; simp [go_sem]
  have c5 : w1.cell? ⟨w.heap.size, 5, none⟩ = some (.string c.value) := by rw [hw1]; simp [go_sem]
  have c6 : w1.cell? ⟨w.heap.size, 6, none⟩ = some (.bool c.absent) := by rw [hw1]; simp [go_sem]
  rw [← hw1]
  clear hw1
  refine (checkN_any c.name hn htx _).mono ?_
  rintro e w2 ⟨rfl, hg2⟩
  by_cases hk : checkN c.name = 0
  · have hkb : (checkN c.name != 0) = false := by simp [hk]
    by_cases hv : 65536 < c.value.size
    · have hvb : decide ((65536 : Int) < (c.value.size : Int)) = true := by simp; omega
      have hE := Lib.hid (show callE c = 5 by unfold callE; rw [if_neg (by simp [hk]), if_pos hv])
      replace hk := Lib.hid hk
      replace hv := Lib.hid hv
      replace c0 := hg2.cell c0
      replace c1 := hg2.cell c1
      replace c2 := hg2.cell c2
      replace c3 := hg2.cell c3
      replace c4 := hg2.cell c4
      replace c5 := hg2.cell c5
      replace c6 := hg2.cell c6
      go_wp2
      go_ret
      refine ⟨by rw [hE.out]; rfl, ?_, (Below.mono (hg1.trans hg2) b4)⟩
      unfold callL callM
      rw [if_neg (by rw [hE.out]; decide), if_neg (by rw [hE.out]; decide)]
      exact hW.grew (hg1.trans hg2)
    · have hvb : decide ((65536 : Int) < (c.value.size : Int)) = false := by simp; omega
      have hE := Lib.hid (show callE c = 0 by unfold callE; rw [if_neg (by simp [hk]), if_neg hv])
      replace hk := Lib.hid hk
      replace hv := Lib.hid hv
      replace c0 := hg2.cell c0
      replace c1 := hg2.cell c1
      replace c2 := hg2.cell c2
      replace c3 := hg2.cell c3
      replace c4 := hg2.cell c4
      replace c5 := hg2.cell c5
      replace c6 := hg2.cell c6
      have hg : Grew w w2 := hg1.trans hg2
      have hbl : b < w2.heap.size := Nat.lt_of_lt_of_le (Array.getElem?_eq_some_iff.1 hb).1 hg.size
      have hBl : ¬ w.heap.size = b := by have := (Array.getElem?_eq_some_iff.1 hb).1; omega
      replace hb := (Below.block hg b (Array.getElem?_eq_some_iff.1 hb).1).trans hb
      replace hm1 := hm1.grew hg
      replace hm2 := hm2.grew hg
      replace hl := IsL.grew hg hl
      have v2 : w2.cell? ⟨b, 2, none⟩ = some (.slice a cl.length k) := by simp [World.cell?, hb]
      have v3 : w2.cell? ⟨b, 3, none⟩ = some (.map (some r2)) := by simp [World.cell?, hb]
      have z2 : w2.frozen? ⟨b, 2, none⟩ = false := by simp [World.frozen?, hb]
      generalize hBe : w.heap.size = B at *
      go_wp2_with fail
      refine wp_region_chain 8 [0] [9, 10] [F79 w2, F79 w2, F79 w2, G79 w2 b sp r1 r2 cl c] [Fx (.pointer (some ⟨b, 0, none⟩)), Fx (.pointer (some ⟨b, 0, none⟩)), Fx (.pointer (some ⟨b, 0, none⟩)), Fx (.pointer (some ⟨b, 2, none⟩)), Fx (.slice a cl.length k), PR w2.heap.size cl, Fx (chV c), PB w2.heap.size c, PR w2.heap.size (cl ++ [c]), Fx (.pointer (some ⟨b, 0, none⟩)), Fx (.pointer (some ⟨b, 2, none⟩)), Any] (by kernel_rfl) (by kernel_rfl) (by simp only [AllStable, Fx.stable, Any.stable, PB.stable, PR.stable, and_self]) ⟨?_, ?_, ?_, ?_, ?_, ?_, ?_, ?_, ?_, ?_, ?_, ?_, trivial⟩ ?_
      · -- 0: move t0
        intro a' W hd hΦ h0 K hK
        have e0 : a'.tmps[0]? = some (.pointer (some ⟨b, 0, none⟩)) := h0 0 (by kernel_rfl)
        clear hd hΦ h0
        go_simp
        exact hK _ (fun _ => rfl)
      · -- 1: move t0
        intro a' W hG hd hΦ h0 K hK
        have e0 : a'.tmps[0]? = some (.pointer (some ⟨b, 0, none⟩)) := h0 0 (by kernel_rfl)
        clear hd hΦ h0
        go_simp
        exact hK _ _ (Below.refl _ _) rfl
      · -- 2: nilCheck t19
        intro a' W hG hd hΦ h0 K hK
        have e19 : a'.tmps[19]? = some (.pointer (some ⟨b, 0, none⟩)) := fx (W := W) (hΦ 1 19 (by kernel_rfl) (by kernel_rfl))
        clear hd hΦ h0
        go_simp
        exact hK _ _ (Below.refl _ _) rfl
      · -- 3: fieldAddr 162, t20, 2
        intro a' W hG hd hΦ h0 K hK
        have e20 : a'.tmps[20]? = some (.pointer (some ⟨b, 0, none⟩)) := fx (W := W) (hΦ 2 20 (by kernel_rfl) (by kernel_rfl))
        clear hd hΦ h0
        go_simp
        exact hK _ _ (Below.refl _ _) rfl
      · -- 4: load 36, t21
        intro a' W hG hd hΦ h0 K hK
        have e21 : a'.tmps[21]? = some (.pointer (some ⟨b, 2, none⟩)) := fx (W := W) (hΦ 3 21 (by kernel_rfl) (by kernel_rfl))
        have v2 := hG.cell v2
        clear hd hΦ h0
        go_simp
        exact hK _ _ (Below.refl _ _) rfl
      · -- 5: call F149{slices.Clone[[]replevin/state.Change,replevin/state.Change]}(t22)
        intro a' W hG hd hΦ h0 K hK
        have e22 : a'.tmps[22]? = some (.slice a cl.length k) := fx (W := W) (hΦ 4 22 (by kernel_rfl) (by kernel_rfl))
        clear hd hΦ h0
        go_simp
        refine (clone_any W (hl.grew hG) (by omega)).mono ?_
        rintro e w' ⟨u, rfl, hu, hg⟩
        exact hK _ _ hg (row_base hu hG.size)
      · -- 6: load 66, t3
        intro a' W hG hd hΦ h0 K hK
        have e3 : a'.tmps[3]? = some (.pointer (some ⟨B, 0, none⟩)) := h0 3 (by kernel_rfl)
        have c0 := hG.cell c0
        have c1 := hG.cell c1
        have c2 := hG.cell c2
        have c3 := hG.cell c3
        have c4 := hG.cell c4
        have c5 := hG.cell c5
        have c6 := hG.cell c6
        clear hd hΦ h0
        go_simp
        exact hK _ _ (Below.refl _ _) rfl
      · -- 7: buildSlice 36, 1, [<0, t24>]
        intro a' W hG hd hΦ h0 K hK
        have e24 : a'.tmps[24]? = some (chV c) := fx (W := W) (hΦ 6 24 (by kernel_rfl) (by kernel_rfl))
        clear hd hΦ h0
        go_simp
        exact hK _ _ (Grew.alloc _ _) ⟨_, rfl, hG.size, fun j u hj => cells_new _ _ j u hj⟩
      · -- 8: builtin append(t23, t25) [36, 36]
        intro a' W hG hd hΦ h0 K hK
        obtain ⟨u23, e23, h23⟩ := hΦ 5 23 (by kernel_rfl) (by kernel_rfl)
        obtain ⟨_, e25, g25, rfl, hgb, h25⟩ := hΦ 7 25 (by kernel_rfl) (by kernel_rfl)
        clear hd hΦ h0
        refine (if_pos (c := Region.wanted _ _ = true) rfl).mpr ?_
        refine wp_append_own W (.tmp 23) (.tmp 25) 36 rfl w2.heap.size 66 i0 (chV zCh) 7 80 und36 hi hz0 hz1 hz2 rfl (by decide) u23 cl.length (cl.flatMap chCells) (by simp [Act.eval, e23]) h23 ⟨g25, 0, none⟩ 1 1 (chCells c) (by simp [Act.eval, e25]) rfl (fun j u hj => by cases j <;> simpa [Addr.add] using h25 _ u hj) (one_ch c) (by unfold maxLen; omega) (by omega) hG.size ?_
        intro v' w' hown hgrow _
        refine hK _ _ (show F79 w2 _ from ((Below.refl w2.heap.size w2).trans hG).grown hgrow hG.size fun k e => row_own_base h23 k e) ?_
        show IsLO _ _ _ _
        unfold IsLO
        rw [List.flatMap_append, List.length_append]
        simpa using hown
      · -- 9: nilCheck t18
        intro a' W hF hd hΦ hL h0 K hK
        have e18 : a'.tmps[18]? = some (.pointer (some ⟨b, 0, none⟩)) := fxs (hΦ 0 18 (by kernel_rfl) (by kernel_rfl))
        clear hd hΦ hL h0
        go_simp
        exact hK _ hF rfl
      · -- 10: fieldAddr 162, t27, 2
        intro a' W hF hd hΦ hL h0 K hK
        have e27 : a'.tmps[27]? = some (.pointer (some ⟨b, 0, none⟩)) := fx (W := W) (hL 9 27 (by decide) (by decide) (by kernel_rfl) (by kernel_rfl))
        clear hd hΦ hL h0
        go_simp
        exact hK _ hF rfl
      · -- 11: store 36, t28, t26
        intro a' W hF hd hΦ hL h0 K hK
        have e28 : a'.tmps[28]? = some (.pointer (some ⟨b, 2, none⟩)) := fx (W := W) (hL 10 28 (by decide) (by decide) (by kernel_rfl) (by kernel_rfl))
        obtain ⟨u26, e26, h26⟩ := (hL 8 26 (by decide) (by decide) (by kernel_rfl) (by kernel_rfl))
        obtain ⟨a26, k26, rfl⟩ := row_shape h26
        rw [show (cl ++ [c]).length = cl.length + 1 by simp] at h26 e26
        replace hF : Below w2.heap.size w2 W := hF
        have v2 := (Below.cell hF (p := ⟨b, 2, none⟩) hbl).trans v2
        have z2 := (Below.frozen hF (p := ⟨b, 2, none⟩) hbl).trans z2
        have hb := (Below.block hF b hbl).trans hb
        clear hd hΦ hL h0
        go_simp
        refine hK undef _ (show G79 w2 b sp r1 r2 cl c _ from ⟨⟨_, heap_setCell_same W b 2 _ _ _ hb, (But.setCell 2 _).row h26 ?_⟩, (Below.but hF [b]).trans (But.setCell 2 _)⟩) trivial
        intro g hg cc hcc
        have : g = b := by simpa using hg
        subst this
        rw [hb] at hcc
        simp at hcc
      intro W hF
      simp only [FinG, List.map, soft, Fx, Any, forall_eq, true_implies, exists_const, exists_eq]
      obtain ⟨⟨u, hb3, hu⟩, hbut⟩ : G79 w2 b sp r1 r2 cl c W := hF
      intros
      go_simp
      have hBb : B ∉ [b] := by simp; omega
      have hr1b : r1 ∉ [b] := by simp; rintro rfl; obtain ⟨_, _, h1, _⟩ := hm1; rw [hb] at h1; cases h1
      have hr2b : r2 ∉ [b] := by simp; rintro rfl; obtain ⟨_, _, h1, _⟩ := hm2; rw [hb] at h1; cases h1
      replace hm1 := hbut.isM hm1 hr1b
      replace hm2 := hbut.isM hm2 hr2b
      replace c0 := hbut.cell c0 hBb
      replace c1 := hbut.cell c1 hBb
      replace c2 := hbut.cell c2 hBb
      replace c3 := hbut.cell c3 hBb
      replace c4 := hbut.cell c4 hBb
      replace c5 := hbut.cell c5 hBb
      replace c6 := hbut.cell c6 hBb
      replace v3 : W.cell? ⟨b, 3, none⟩ = some (.map (some r2)) := by simp [World.cell?, hb3]
      obtain ⟨w3, hw3⟩ : ∃ w3, w3 = W := ⟨_, rfl⟩
      rw [← hw3]
      subst hw3
      clear v2 z2 hl hi hz0 hz1 hz2
      go_wp2_with fail
      refine wp_region_chain 7 [] [] [H79 w3 r2 c m2] [Fx (.pointer (some ⟨b, 0, none⟩)), Fx (.pointer (some ⟨b, 0, none⟩)), Fx (.pointer (some ⟨b, 3, none⟩)), Fx (.map (some r2)), Fx (.pointer (some ⟨B, 0, none⟩)), Fx (nmV c.name), Fx (chV c), Any] (by kernel_rfl) (by kernel_rfl) (by simp only [AllStable, Fx.stable, Any.stable, and_self]) ⟨?_, ?_, ?_, ?_, ?_, ?_, ?_, ?_, trivial⟩ ?_
      · -- 0: move t0
        intro a' W hG hd hΦ h0 K hK
        have e0 : a'.tmps[0]? = some (.pointer (some ⟨b, 0, none⟩)) := h0 0 (by kernel_rfl)
        clear hd hΦ h0
        go_simp
        exact hK _ _ (Below.refl _ _) rfl
      · -- 1: nilCheck t29
        intro a' W hG hd hΦ h0 K hK
        have e29 : a'.tmps[29]? = some (.pointer (some ⟨b, 0, none⟩)) := fx (W := W) (hΦ 0 29 (by kernel_rfl) (by kernel_rfl))
        clear hd hΦ h0
        go_simp
        exact hK _ _ (Below.refl _ _) rfl
      · -- 2: fieldAddr 162, t30, 3
        intro a' W hG hd hΦ h0 K hK
        have e30 : a'.tmps[30]? = some (.pointer (some ⟨b, 0, none⟩)) := fx (W := W) (hΦ 1 30 (by kernel_rfl) (by kernel_rfl))
        clear hd hΦ h0
        go_simp
        exact hK _ _ (Below.refl _ _) rfl
      · -- 3: load 160, t31
        intro a' W hG hd hΦ h0 K hK
        have e31 : a'.tmps[31]? = some (.pointer (some ⟨b, 3, none⟩)) := fx (W := W) (hΦ 2 31 (by kernel_rfl) (by kernel_rfl))
        have v3 := hG.cell v3
        clear hd hΦ h0
        go_simp
        exact hK _ _ (Below.refl _ _) rfl
      · -- 4: fieldAddr 66, t3, 0
        intro a' W hG hd hΦ h0 K hK
        have e3 : a'.tmps[3]? = some (.pointer (some ⟨B, 0, none⟩)) := h0 3 (by kernel_rfl)
        clear hd hΦ h0
        go_simp
        exact hK _ _ (Below.refl _ _) rfl
      · -- 5: load 32, t33
        intro a' W hG hd hΦ h0 K hK
        have e33 : a'.tmps[33]? = some (.pointer (some ⟨B, 0, none⟩)) := fx (W := W) (hΦ 4 33 (by kernel_rfl) (by kernel_rfl))
        have c0 := hG.cell c0
        have c1 := hG.cell c1
        have c2 := hG.cell c2
        have c3 := hG.cell c3
        have c4 := hG.cell c4
        clear hd hΦ h0
        go_simp
        exact hK _ _ (Below.refl _ _) rfl
      · -- 6: load 66, t3
        intro a' W hG hd hΦ h0 K hK
        have e3 : a'.tmps[3]? = some (.pointer (some ⟨B, 0, none⟩)) := h0 3 (by kernel_rfl)
        have c0 := hG.cell c0
        have c1 := hG.cell c1
        have c2 := hG.cell c2
        have c3 := hG.cell c3
        have c4 := hG.cell c4
        have c5 := hG.cell c5
        have c6 := hG.cell c6
        clear hd hΦ h0
        go_simp
        exact hK _ _ (Below.refl _ _) rfl
      · -- 7: mapUpdate 160, t32, t34, t35
        intro a' W hG hd hΦ h0 K hK
        have e32 : a'.tmps[32]? = some (.map (some r2)) := fx (W := W) (hΦ 3 32 (by kernel_rfl) (by kernel_rfl))
        have e34 : a'.tmps[34]? = some (nmV c.name) := fx (W := W) (hΦ 5 34 (by kernel_rfl) (by kernel_rfl))
        have e35 : a'.tmps[35]? = some (chV c) := fx (W := W) (hΦ 6 35 (by kernel_rfl) (by kernel_rfl))
        obtain ⟨w5, hrun, hm5, hg5⟩ := upd_run (hm2.grew hG) c
        clear hd hΦ h0
        go_simp
        exact hK undef _ (show H79 w3 r2 c m2 _ from ⟨hm5, ((hG : Grew w3 W).but [r2]).trans (But.grown hg5 _ (by simp))⟩) trivial
      intro W hF
      simp only [FinG, List.map, soft, Fx, Any, forall_eq, true_implies, exists_const, exists_eq]
      obtain ⟨hm5, hbut2⟩ : H79 w3 r2 c m2 W := hF
      intros
      go_simp
      go_wp2
      go_ret
      have hbr : b ∉ [r2] := by simp; rintro rfl; simp at hr2b
      have hr12 : r1 ∉ [r2] := by simpa using hne
      have hgs : B ≤ w2.heap.size := by rw [← hBe]; exact hg.size
      have B1 : Below base w2 w3 := hbut.below (Nat.le_trans b4 hgs) (fun k hk => by rw [List.mem_singleton.1 hk]; exact b1)
      have B2 : Below base w3 W := hbut2.below (Nat.le_trans b4 (Nat.le_trans hgs hbut.size)) (fun k hk => by rw [List.mem_singleton.1 hk]; exact b3)
      have hB : Below base w W := ((Below.mono hg (by rw [hBe]; exact b4)).trans B1).trans B2
      refine ⟨by rw [hE.out]; rfl, ?_, hB⟩
      unfold callL callM
      rw [if_pos hE.out, if_pos hE.out]
      refine ⟨b, sp, r1, r2, u, w0, rfl, b1, b2, b3, Nat.le_trans b4 (by rw [← hBe]; exact hB.size), (hbut2.block b (Nat.lt_of_lt_of_le hbl hbut.size) hbr).trans hb3, hw0, (Below.trans hg0 (Below.mono hB hw0)), hs, hbut2.isM hm1 hr12, ?_, hm5, hne⟩
      refine hbut2.row (IsLO.isL hu) ?_
      intro g hg9 cc hcc
      have : g = r2 := by simpa using hg9
      subst this
      obtain ⟨_, _, h1, _⟩ := hm2
      rw [h1] at hcc
      cases hcc
  · have hkb : (checkN c.name != 0) = true := by simp [hk]
    have hE := Lib.hid (show callE c = 12 by unfold callE; rw [if_pos hk])
    replace hk := Lib.hid hk
    replace c0 := hg2.cell c0
    replace c1 := hg2.cell c1
    replace c2 := hg2.cell c2
    replace c3 := hg2.cell c3
    replace c4 := hg2.cell c4
    replace c5 := hg2.cell c5
    replace c6 := hg2.cell c6
    go_wp2
    go_ret
    refine ⟨by rw [hE.out]; rfl, ?_, (Below.mono (hg1.trans hg2) b4)⟩
    unfold callL callM
    rw [if_neg (by rw [hE.out]; decide), if_neg (by rw [hE.out]; decide)]
    exact hW.grew (hg1.trans hg2)

end Go.Proofs.YtkiojenkpbkjpaaGreatDoor
