/- Walk: the examples with which the statements of chapter 24 begin. -/
import Derived.Test.YtkiojenkpbkjpaaGreatDoorViewJ
set_option linter.unusedVariables false
set_option linter.unusedSimpArgs false
namespace Go.Proofs.YtkiojenkpbkjpaaGreatDoor
open Go Go.RowKit RV
set_option maxHeartbeats 4000000
theorem shape1 {base : Nat} {W : World} {v : Value} {c : Ch} (h : IsLO base W v [c]) : ∃ g k, v = .slice (some ⟨g, 0, none⟩) 1 k ∧ ∀ i u, (chCells c)[i]? = some u → W.cell? ⟨g, i, none⟩ = some u := by
  obtain ⟨a, k, rfl⟩ := row_shape h
  obtain ⟨g, rfl, -, hc⟩ := IsL.cells (IsLO.isL h) (j := 0) (d := c) rfl
  exact ⟨g, k, rfl, fun i u hu => by simpa using hc i u hu⟩
theorem shape2 {base : Nat} {W : World} {v : Value} {c d : Ch} (h : IsLO base W v [c, d]) : ∃ g k, v = .slice (some ⟨g, 0, none⟩) 2 k ∧ (∀ i u, (chCells c)[i]? = some u → W.cell? ⟨g, i, none⟩ = some u) ∧ ∀ i u, (chCells d)[i]? = some u → W.cell? ⟨g, 7 + i, none⟩ = some u := by
  obtain ⟨a, k, rfl⟩ := row_shape h
  obtain ⟨g, rfl, -, hc⟩ := IsL.cells (IsLO.isL h) (j := 0) (d := c) rfl
  obtain ⟨g', e, -, hc'⟩ := IsL.cells (IsLO.isL h) (j := 1) (d := d) rfl
  cases e
  exact ⟨g, k, rfl, fun i u hu => by simpa using hc i u hu, fun i u hu => by simpa using hc' i u hu⟩
theorem shape0 {base : Nat} {W : World} {v : Value} (h : IsLO base W v []) : ∃ a k, v = .slice a 0 k := by
  obtain ⟨a, k, rfl⟩ := row_shape h
  exact ⟨a, k, rfl⟩
set_option maxRecDepth 100000 in
theorem known_any (w : World) : Calls Tryz.prog 18 #[] w fun e w' => e = .returned (.bool true) ∧ Grew w w' := by
  go_enter Tryz.func18, Tryz.ntmps18
  go_wp2_with fail
  refine (new_any _).mono ?_
  rintro e w1 ⟨⟨p, rfl, hs⟩, g1⟩
  replace hs := Lib.hid hs
  go_wp2_with fail
  refine (clock_any _).mono ?_
  rintro e w2 ⟨rfl, g2⟩
  go_wp2_with fail
  refine (With_any clockN five (Nat.zero_le _) (Nat.zero_le _) _ (hs.out.grew g2) (fun e he => by cases he) (by decide) (by decide)).mono ?_
  rintro e w3 ⟨p3, rfl, hr, g3⟩
  have hkw := k_with
  have hs3 := Lib.hid (show IsS w3 p3 t0 by unfold WithR at hr; rw [if_pos k_with] at hr; exact hr)
  clear hr hs
  go_wp2_with fail
  refine (vnewW_any _ hs3.out).mono ?_
  rintro e w4 ⟨b, rfl, h, g4⟩
  have hG := Lib.hid (show Grew w w3 from (g1.trans g2).trans g3)
  have hB := Lib.hid (show Below w3.heap.size w3 w4 from g4)
  replace h := Lib.hid h
  clear g1 g2 g3 g4 hs3 hkw
  have hwb := Lib.hid hG.out.size
  generalize w3.heap.size = base at *
  go_wp2_with fail
  refine (clock_any _).mono ?_
  rintro e w5 ⟨rfl, g⟩
  replace hB := Lib.hid (hB.out.trans (Below.mono g h.out.b4))
  replace h := Lib.hid (h.out.grew g)
  clear g
  go_wp2_with fail
  have hv := vget_any clockN (Nat.zero_le _) (Nat.zero_le _) k_fine _ h.out
  rw [k_v1, k_r1] at hv
  refine hv.mono ?_
  clear hv
  rintro e w6 ⟨rfl, h', hb⟩
  replace hB := Lib.hid (hB.out.trans hb)
  replace h := Lib.hid h'
  clear h' hb
  go_wp2_with fail
  refine (clock_any _).mono ?_
  rintro e w7 ⟨rfl, g⟩
  replace hB := Lib.hid (hB.out.trans (Below.mono g h.out.b4))
  replace h := Lib.hid (h.out.grew g)
  clear g
  go_wp2_with fail
  have hv := set_any clockN six (Nat.zero_le _) (Nat.zero_le _) (by decide) _ h.out (by decide)
  rw [k_e6, k_l6, k_m6] at hv
  refine hv.mono ?_
  clear hv
  rintro e w8 ⟨rfl, h', hb⟩
  replace hB := Lib.hid (hB.out.trans hb)
  replace h := Lib.hid h'
  clear h' hb
  go_wp2_with fail
  refine (clock_any _).mono ?_
  rintro e w9 ⟨rfl, g⟩
  replace hB := Lib.hid (hB.out.trans (Below.mono g h.out.b4))
  replace h := Lib.hid (h.out.grew g)
  clear g
  go_wp2_with fail
  have hv := vget_any clockN (Nat.zero_le _) (Nat.zero_le _) k_fine _ h.out
  rw [k_v2, k_r2] at hv
  refine hv.mono ?_
  clear hv
  rintro e w10 ⟨rfl, h', hb⟩
  replace hB := Lib.hid (hB.out.trans hb)
  replace h := Lib.hid h'
  clear h' hb
  go_wp2_with fail
  refine (epoch_any _).mono ?_
  rintro e w11 ⟨rfl, g⟩
  replace hB := Lib.hid (hB.out.trans (Below.mono g h.out.b4))
  replace h := Lib.hid (h.out.grew g)
  clear g
  go_wp2_with fail
  have hv := set_any epochN one (Nat.zero_le _) (Nat.zero_le _) (by decide) _ h.out (by decide)
  rw [k_e1, k_l1, k_m1] at hv
  refine hv.mono ?_
  clear hv
  rintro e w12 ⟨rfl, h', hb⟩
  replace hB := Lib.hid (hB.out.trans hb)
  replace h := Lib.hid h'
  clear h' hb
  go_wp2_with fail
  refine (epoch_any _).mono ?_
  rintro e w13 ⟨rfl, g⟩
  replace hB := Lib.hid (hB.out.trans (Below.mono g h.out.b4))
  replace h := Lib.hid (h.out.grew g)
  clear g
  go_wp2_with fail
  have hv := has_any epochN (Nat.zero_le _) (Nat.zero_le _) k_fine _ h.out
  rw [k_v3, k_r3] at hv
  refine hv.mono ?_
  clear hv
  rintro e w14 ⟨rfl, h', hb⟩
  replace hB := Lib.hid (hB.out.trans hb)
  replace h := Lib.hid h'
  clear h' hb
  go_wp2_with fail
  have hv := reads_any _ h.out (by decide) (by decide)
  rw [k_s1] at hv
  refine hv.mono ?_
  clear hv
  rintro e w15 ⟨v1, rfl, hl, g⟩
  replace hB := Lib.hid (hB.out.trans (Below.mono g h.out.b4))
  replace h := Lib.hid (h.out.grew g)
  have hl1 := Lib.hid hl
  clear g hl
  go_wp2_with fail
  have hv := writes_any _ h.out (by decide) (by decide)
  rw [k_s2] at hv
  refine hv.mono ?_
  clear hv
  rintro e w16 ⟨v2, rfl, hl, g⟩
  replace hB := Lib.hid (hB.out.trans (Below.mono g h.out.b4))
  replace h := Lib.hid (h.out.grew g)
  replace hl1 := Lib.hid (row_grew hl1.out g)
  have hl2 := Lib.hid hl
  clear g hl
  obtain ⟨g1, k1, rfl, hc1⟩ := shape1 hl1.out
  obtain ⟨g2, k2, rfl, hc2, hc3⟩ := shape2 hl2.out
  have x0 : w16.cell? ⟨g1, 0, none⟩ = some (.int .i64 clockN.kind) := hc1 0 _ rfl
  have x1 : w16.cell? ⟨g1, 1, none⟩ = some (.string clockN.owner) := hc1 1 _ rfl
  have x2 : w16.cell? ⟨g1, 2, none⟩ = some (.int .i64 clockN.number) := hc1 2 _ rfl
  have x3 : w16.cell? ⟨g1, 3, none⟩ = some (.int .i64 clockN.index) := hc1 3 _ rfl
  have x4 : w16.cell? ⟨g1, 4, none⟩ = some (.string clockN.text) := hc1 4 _ rfl
  have x5 : w16.cell? ⟨g1, 5, none⟩ = some (.string ⟨#[53]⟩) := hc1 5 _ rfl
  have x6 : w16.cell? ⟨g1, 6, none⟩ = some (.bool false) := hc1 6 _ rfl
  have y5 : w16.cell? ⟨g2, 5, none⟩ = some (.string ⟨#[54]⟩) := hc2 5 _ rfl
  clear hc1 hc2 hc3 hl1 hl2
  have hne : ∀ W, (binOp .neq 66 (chV c5) (chV c5)).run Tryz.prog W = .ok (.bool false) W := fun W => by rw [run_ne66]; simp
  go_wp2_with fail
  refine wp_region_grow [Fx (.string ⟨#[53]⟩), Fx (.bool (false)), Fx (.bool (false)), Fx (.bool (true)), Fx (.bool (false)), Fx (.bool (false)), Fx (.bool (false)), Fx (.int .i64 (0)), Fx (.bool (false)), Fx (.bool (false)), Fx (.bool (false)), Fx (.string ⟨#[54]⟩), Fx (.bool (false)), Fx (.bool (false)), Fx (.bool (false)), Fx (.bool (true)), Fx (.bool (false)), Fx (.bool (false)), Fx (.bool (false)), Fx (.int .i64 (0)), Fx (.bool (false)), Fx (.bool (false)), Fx (.bool (false)), Fx (.bool (true)), Fx (.bool (false)), Fx (.bool (false)), Fx (.bool (false)), Fx (.slice (some ⟨g1, 0, none⟩) 1 k1), Fx (.int .i64 (1)), Fx (.bool (false)), Fx (.bool (false)), Fx (.bool (false)), Fx (.slice (some ⟨g1, 0, none⟩) 1 k1), Fx (.pointer (some ⟨g1, 0, none⟩)), Fx (chV c5), Fx (nmV clockN), Fx (chV c5), Fx (.bool (false)), Fx (.bool (false)), Fx (.bool (false)), Fx (.slice (some ⟨g2, 0, none⟩) 2 k2), Fx (.int .i64 (2)), Fx (.bool (false)), Fx (.bool (false)), Fx (.bool (false)), Fx (.slice (some ⟨g2, 0, none⟩) 2 k2), Fx (.pointer (some ⟨g2, 0, none⟩)), Fx (.pointer (some ⟨g2, 5, none⟩)), Fx (.string ⟨#[54]⟩), Fx (.bool (false)), Fx (.bool (false)), Fx (.bool (false)), Fx (.pointer (some ⟨b, 0, none⟩)), Fx (.int .i64 (2)), Fx (.bool (false)), Fx (.bool (false))] (by kernel_rfl) (by kernel_rfl) (by simp only [AllStable, Fx.stable, Any.stable, and_self]) ⟨?_, ?_, ?_, ?_, ?_, ?_, ?_, ?_, ?_, ?_, ?_, ?_, ?_, ?_, ?_, ?_, ?_, ?_, ?_, ?_, ?_, ?_, ?_, ?_, ?_, ?_, ?_, ?_, ?_, ?_, ?_, ?_, ?_, ?_, ?_, ?_, ?_, ?_, ?_, ?_, ?_, ?_, ?_, ?_, ?_, ?_, ?_, ?_, ?_, ?_, ?_, ?_, ?_, ?_, ?_, ?_, trivial⟩ ?_
  · -- 0: move t4
    intro a' W hG hd hΦ h0 K hK
    have e4 : a'.tmps[4]? = some (.string ⟨#[53]⟩) := h0 4 (by kernel_rfl)
    clear hd hΦ h0
    go_simp
    exact hK _ _ (Below.refl _ _) rfl
  · -- 1: binOp neq, 9, t54, '5', 9
    intro a' W hG hd hΦ h0 K hK
    have e54 : a'.tmps[54]? = some (.string ⟨#[53]⟩) := fx (W := W) (hΦ 0 54 (by kernel_rfl) (by kernel_rfl))
    clear hd hΦ h0
    go_simp
    exact hK _ _ (Below.refl _ _) rfl
  · -- 2: move t55
    intro a' W hG hd hΦ h0 K hK
    have e55 : a'.tmps[55]? = some (.bool (false)) := fx (W := W) (hΦ 1 55 (by kernel_rfl) (by kernel_rfl))
    clear hd hΦ h0
    go_simp
    exact hK _ _ (Below.refl _ _) rfl
  · -- 3: move t5
    intro a' W hG hd hΦ h0 K hK
    have e56 : a'.tmps[56]? = some (.bool (false)) := fx (W := W) (hΦ 2 56 (by kernel_rfl) (by kernel_rfl))
    have e5 : a'.tmps[5]? = some (.bool (true)) := h0 5 (by kernel_rfl)
    clear hd hΦ h0
    go_simp
    exact hK _ _ (Below.refl _ _) rfl
  · -- 4: unOp not, 4, t57
    intro a' W hG hd hΦ h0 K hK
    have e56 : a'.tmps[56]? = some (.bool (false)) := fx (W := W) (hΦ 2 56 (by kernel_rfl) (by kernel_rfl))
    have e57 : a'.tmps[57]? = some (.bool (true)) := fx (W := W) (hΦ 3 57 (by kernel_rfl) (by kernel_rfl))
    clear hd hΦ h0
    go_simp
    exact hK _ _ (Below.refl _ _) rfl
  · -- 5: pick t56, true, t58
    intro a' W hG hd hΦ h0 K hK
    have e56 : a'.tmps[56]? = some (.bool (false)) := fx (W := W) (hΦ 2 56 (by kernel_rfl) (by kernel_rfl))
    have e58 : a'.tmps[58]? = some (.bool (false)) := fx (W := W) (hΦ 4 58 (by kernel_rfl) (by kernel_rfl))
    clear hd hΦ h0
    go_simp
    exact hK _ _ (Below.refl _ _) rfl
  · -- 6: move t59
    intro a' W hG hd hΦ h0 K hK
    have e59 : a'.tmps[59]? = some (.bool (false)) := fx (W := W) (hΦ 5 59 (by kernel_rfl) (by kernel_rfl))
    clear hd hΦ h0
    go_simp
    exact hK _ _ (Below.refl _ _) rfl
  · -- 7: move t6
    intro a' W hG hd hΦ h0 K hK
    have e60 : a'.tmps[60]? = some (.bool (false)) := fx (W := W) (hΦ 6 60 (by kernel_rfl) (by kernel_rfl))
    have e6 : a'.tmps[6]? = some (.int .i64 (0)) := h0 6 (by kernel_rfl)
    clear hd hΦ h0
    go_simp
    exact hK _ _ (Below.refl _ _) rfl
  · -- 8: binOp neq, 28, t61, 0, 28
    intro a' W hG hd hΦ h0 K hK
    have e60 : a'.tmps[60]? = some (.bool (false)) := fx (W := W) (hΦ 6 60 (by kernel_rfl) (by kernel_rfl))
    have e61 : a'.tmps[61]? = some (.int .i64 (0)) := fx (W := W) (hΦ 7 61 (by kernel_rfl) (by kernel_rfl))
    clear hd hΦ h0
    go_simp
    exact hK _ _ (Below.refl _ _) rfl
  · -- 9: pick t60, true, t62
    intro a' W hG hd hΦ h0 K hK
    have e60 : a'.tmps[60]? = some (.bool (false)) := fx (W := W) (hΦ 6 60 (by kernel_rfl) (by kernel_rfl))
    have e62 : a'.tmps[62]? = some (.bool (false)) := fx (W := W) (hΦ 8 62 (by kernel_rfl) (by kernel_rfl))
    clear hd hΦ h0
    go_simp
    exact hK _ _ (Below.refl _ _) rfl
  · -- 10: move t63
    intro a' W hG hd hΦ h0 K hK
    have e63 : a'.tmps[63]? = some (.bool (false)) := fx (W := W) (hΦ 9 63 (by kernel_rfl) (by kernel_rfl))
    clear hd hΦ h0
    go_simp
    exact hK _ _ (Below.refl _ _) rfl
  · -- 11: move t7
    intro a' W hG hd hΦ h0 K hK
    have e64 : a'.tmps[64]? = some (.bool (false)) := fx (W := W) (hΦ 10 64 (by kernel_rfl) (by kernel_rfl))
    have e7 : a'.tmps[7]? = some (.string ⟨#[54]⟩) := h0 7 (by kernel_rfl)
    clear hd hΦ h0
    go_simp
    exact hK _ _ (Below.refl _ _) rfl
  · -- 12: binOp neq, 9, t65, '6', 9
    intro a' W hG hd hΦ h0 K hK
    have e64 : a'.tmps[64]? = some (.bool (false)) := fx (W := W) (hΦ 10 64 (by kernel_rfl) (by kernel_rfl))
    have e65 : a'.tmps[65]? = some (.string ⟨#[54]⟩) := fx (W := W) (hΦ 11 65 (by kernel_rfl) (by kernel_rfl))
    clear hd hΦ h0
    go_simp
    exact hK _ _ (Below.refl _ _) rfl
  · -- 13: pick t64, true, t66
    intro a' W hG hd hΦ h0 K hK
    have e64 : a'.tmps[64]? = some (.bool (false)) := fx (W := W) (hΦ 10 64 (by kernel_rfl) (by kernel_rfl))
    have e66 : a'.tmps[66]? = some (.bool (false)) := fx (W := W) (hΦ 12 66 (by kernel_rfl) (by kernel_rfl))
    clear hd hΦ h0
    go_simp
    exact hK _ _ (Below.refl _ _) rfl
  · -- 14: move t67
    intro a' W hG hd hΦ h0 K hK
    have e67 : a'.tmps[67]? = some (.bool (false)) := fx (W := W) (hΦ 13 67 (by kernel_rfl) (by kernel_rfl))
    clear hd hΦ h0
    go_simp
    exact hK _ _ (Below.refl _ _) rfl
  · -- 15: move t8
    intro a' W hG hd hΦ h0 K hK
    have e68 : a'.tmps[68]? = some (.bool (false)) := fx (W := W) (hΦ 14 68 (by kernel_rfl) (by kernel_rfl))
    have e8 : a'.tmps[8]? = some (.bool (true)) := h0 8 (by kernel_rfl)
    clear hd hΦ h0
    go_simp
    exact hK _ _ (Below.refl _ _) rfl
  · -- 16: unOp not, 4, t69
    intro a' W hG hd hΦ h0 K hK
    have e68 : a'.tmps[68]? = some (.bool (false)) := fx (W := W) (hΦ 14 68 (by kernel_rfl) (by kernel_rfl))
    have e69 : a'.tmps[69]? = some (.bool (true)) := fx (W := W) (hΦ 15 69 (by kernel_rfl) (by kernel_rfl))
    clear hd hΦ h0
    go_simp
    exact hK _ _ (Below.refl _ _) rfl
  · -- 17: pick t68, true, t70
    intro a' W hG hd hΦ h0 K hK
    have e68 : a'.tmps[68]? = some (.bool (false)) := fx (W := W) (hΦ 14 68 (by kernel_rfl) (by kernel_rfl))
    have e70 : a'.tmps[70]? = some (.bool (false)) := fx (W := W) (hΦ 16 70 (by kernel_rfl) (by kernel_rfl))
    clear hd hΦ h0
    go_simp
    exact hK _ _ (Below.refl _ _) rfl
  · -- 18: move t71
    intro a' W hG hd hΦ h0 K hK
    have e71 : a'.tmps[71]? = some (.bool (false)) := fx (W := W) (hΦ 17 71 (by kernel_rfl) (by kernel_rfl))
    clear hd hΦ h0
    go_simp
    exact hK _ _ (Below.refl _ _) rfl
  · -- 19: move t9
    intro a' W hG hd hΦ h0 K hK
    have e72 : a'.tmps[72]? = some (.bool (false)) := fx (W := W) (hΦ 18 72 (by kernel_rfl) (by kernel_rfl))
    have e9 : a'.tmps[9]? = some (.int .i64 (0)) := h0 9 (by kernel_rfl)
    clear hd hΦ h0
    go_simp
    exact hK _ _ (Below.refl _ _) rfl
  · -- 20: binOp neq, 28, t73, 0, 28
    intro a' W hG hd hΦ h0 K hK
    have e72 : a'.tmps[72]? = some (.bool (false)) := fx (W := W) (hΦ 18 72 (by kernel_rfl) (by kernel_rfl))
    have e73 : a'.tmps[73]? = some (.int .i64 (0)) := fx (W := W) (hΦ 19 73 (by kernel_rfl) (by kernel_rfl))
    clear hd hΦ h0
    go_simp
    exact hK _ _ (Below.refl _ _) rfl
  · -- 21: pick t72, true, t74
    intro a' W hG hd hΦ h0 K hK
    have e72 : a'.tmps[72]? = some (.bool (false)) := fx (W := W) (hΦ 18 72 (by kernel_rfl) (by kernel_rfl))
    have e74 : a'.tmps[74]? = some (.bool (false)) := fx (W := W) (hΦ 20 74 (by kernel_rfl) (by kernel_rfl))
    clear hd hΦ h0
    go_simp
    exact hK _ _ (Below.refl _ _) rfl
  · -- 22: move t75
    intro a' W hG hd hΦ h0 K hK
    have e75 : a'.tmps[75]? = some (.bool (false)) := fx (W := W) (hΦ 21 75 (by kernel_rfl) (by kernel_rfl))
    clear hd hΦ h0
    go_simp
    exact hK _ _ (Below.refl _ _) rfl
  · -- 23: move t10
    intro a' W hG hd hΦ h0 K hK
    have e76 : a'.tmps[76]? = some (.bool (false)) := fx (W := W) (hΦ 22 76 (by kernel_rfl) (by kernel_rfl))
    have e10 : a'.tmps[10]? = some (.bool (true)) := h0 10 (by kernel_rfl)
    clear hd hΦ h0
    go_simp
    exact hK _ _ (Below.refl _ _) rfl
  · -- 24: unOp not, 4, t77
    intro a' W hG hd hΦ h0 K hK
    have e76 : a'.tmps[76]? = some (.bool (false)) := fx (W := W) (hΦ 22 76 (by kernel_rfl) (by kernel_rfl))
    have e77 : a'.tmps[77]? = some (.bool (true)) := fx (W := W) (hΦ 23 77 (by kernel_rfl) (by kernel_rfl))
    clear hd hΦ h0
    go_simp
    exact hK _ _ (Below.refl _ _) rfl
  · -- 25: pick t76, true, t78
    intro a' W hG hd hΦ h0 K hK
    have e76 : a'.tmps[76]? = some (.bool (false)) := fx (W := W) (hΦ 22 76 (by kernel_rfl) (by kernel_rfl))
    have e78 : a'.tmps[78]? = some (.bool (false)) := fx (W := W) (hΦ 24 78 (by kernel_rfl) (by kernel_rfl))
    clear hd hΦ h0
    go_simp
    exact hK _ _ (Below.refl _ _) rfl
  · -- 26: move t79
    intro a' W hG hd hΦ h0 K hK
    have e79 : a'.tmps[79]? = some (.bool (false)) := fx (W := W) (hΦ 25 79 (by kernel_rfl) (by kernel_rfl))
    clear hd hΦ h0
    go_simp
    exact hK _ _ (Below.refl _ _) rfl
  · -- 27: move t11
    intro a' W hG hd hΦ h0 K hK
    have e80 : a'.tmps[80]? = some (.bool (false)) := fx (W := W) (hΦ 26 80 (by kernel_rfl) (by kernel_rfl))
    have e11 : a'.tmps[11]? = some (.slice (some ⟨g1, 0, none⟩) 1 k1) := h0 11 (by kernel_rfl)
    clear hd hΦ h0
    go_simp
    exact hK _ _ (Below.refl _ _) rfl
  · -- 28: builtin len(t81) [36]
    intro a' W hG hd hΦ h0 K hK
    have e80 : a'.tmps[80]? = some (.bool (false)) := fx (W := W) (hΦ 26 80 (by kernel_rfl) (by kernel_rfl))
    have e81 : a'.tmps[81]? = some (.slice (some ⟨g1, 0, none⟩) 1 k1) := fx (W := W) (hΦ 27 81 (by kernel_rfl) (by kernel_rfl))
    clear hd hΦ h0
    go_simp
    exact hK _ _ (Below.refl _ _) rfl
  · -- 29: binOp neq, 3, t82, 1, 3
    intro a' W hG hd hΦ h0 K hK
    have e80 : a'.tmps[80]? = some (.bool (false)) := fx (W := W) (hΦ 26 80 (by kernel_rfl) (by kernel_rfl))
    have e82 : a'.tmps[82]? = some (.int .i64 (1)) := fx (W := W) (hΦ 28 82 (by kernel_rfl) (by kernel_rfl))
    clear hd hΦ h0
    go_simp
    exact hK _ _ (Below.refl _ _) rfl
  · -- 30: pick t80, true, t83
    intro a' W hG hd hΦ h0 K hK
    have e80 : a'.tmps[80]? = some (.bool (false)) := fx (W := W) (hΦ 26 80 (by kernel_rfl) (by kernel_rfl))
    have e83 : a'.tmps[83]? = some (.bool (false)) := fx (W := W) (hΦ 29 83 (by kernel_rfl) (by kernel_rfl))
    clear hd hΦ h0
    go_simp
    exact hK _ _ (Below.refl _ _) rfl
  · -- 31: move t84
    intro a' W hG hd hΦ h0 K hK
    have e84 : a'.tmps[84]? = some (.bool (false)) := fx (W := W) (hΦ 30 84 (by kernel_rfl) (by kernel_rfl))
    clear hd hΦ h0
    go_simp
    exact hK _ _ (Below.refl _ _) rfl
  · -- 32: move t11
    intro a' W hG hd hΦ h0 K hK
    have e85 : a'.tmps[85]? = some (.bool (false)) := fx (W := W) (hΦ 31 85 (by kernel_rfl) (by kernel_rfl))
    have e11 : a'.tmps[11]? = some (.slice (some ⟨g1, 0, none⟩) 1 k1) := h0 11 (by kernel_rfl)
    clear hd hΦ h0
    go_simp
    exact hK _ _ (Below.refl _ _) rfl
  · -- 33: indexAddr 36, t86, 0
    intro a' W hG hd hΦ h0 K hK
    have e85 : a'.tmps[85]? = some (.bool (false)) := fx (W := W) (hΦ 31 85 (by kernel_rfl) (by kernel_rfl))
    have e86 : a'.tmps[86]? = some (.slice (some ⟨g1, 0, none⟩) 1 k1) := fx (W := W) (hΦ 32 86 (by kernel_rfl) (by kernel_rfl))
    clear hd hΦ h0
    go_simp
    exact hK _ _ (Below.refl _ _) rfl
  · -- 34: load 66, t87
    intro a' W hG hd hΦ h0 K hK
    have e85 : a'.tmps[85]? = some (.bool (false)) := fx (W := W) (hΦ 31 85 (by kernel_rfl) (by kernel_rfl))
    have e87 : a'.tmps[87]? = some (.pointer (some ⟨g1, 0, none⟩)) := fx (W := W) (hΦ 33 87 (by kernel_rfl) (by kernel_rfl))
    have x0 := hG.cell x0
    have x1 := hG.cell x1
    have x2 := hG.cell x2
    have x3 := hG.cell x3
    have x4 := hG.cell x4
    have x5 := hG.cell x5
    have x6 := hG.cell x6
    clear hd hΦ h0
    go_simp
    exact hK _ _ (Below.refl _ _) rfl
  · -- 35: call F22{replevin/object.OfClock}()
    intro a' W hG hd hΦ h0 K hK
    have e85 : a'.tmps[85]? = some (.bool (false)) := fx (W := W) (hΦ 31 85 (by kernel_rfl) (by kernel_rfl))
    clear hd hΦ h0
    go_simp
    refine (clock_any _).mono ?_
    rintro e w' ⟨rfl, hg⟩
    exact hK _ _ hg rfl
  · -- 36: build 66, [<0, t89>, <1, '5'>]
    intro a' W hG hd hΦ h0 K hK
    have e85 : a'.tmps[85]? = some (.bool (false)) := fx (W := W) (hΦ 31 85 (by kernel_rfl) (by kernel_rfl))
    have e89 : a'.tmps[89]? = some (nmV clockN) := fx (W := W) (hΦ 35 89 (by kernel_rfl) (by kernel_rfl))
    clear hd hΦ h0
    go_simp
    exact hK _ _ (Below.refl _ _) rfl
  · -- 37: binOp neq, 66, t88, t90, 66
    intro a' W hG hd hΦ h0 K hK
    have e85 : a'.tmps[85]? = some (.bool (false)) := fx (W := W) (hΦ 31 85 (by kernel_rfl) (by kernel_rfl))
    have e88 : a'.tmps[88]? = some (chV c5) := fx (W := W) (hΦ 34 88 (by kernel_rfl) (by kernel_rfl))
    have e90 : a'.tmps[90]? = some (chV c5) := fx (W := W) (hΦ 36 90 (by kernel_rfl) (by kernel_rfl))
    have hne := hne
    clear hd hΦ h0
    go_simp
    exact hK _ _ (Below.refl _ _) rfl
  · -- 38: pick t85, true, t91
    intro a' W hG hd hΦ h0 K hK
    have e85 : a'.tmps[85]? = some (.bool (false)) := fx (W := W) (hΦ 31 85 (by kernel_rfl) (by kernel_rfl))
    have e91 : a'.tmps[91]? = some (.bool (false)) := fx (W := W) (hΦ 37 91 (by kernel_rfl) (by kernel_rfl))
    clear hd hΦ h0
    go_simp
    exact hK _ _ (Below.refl _ _) rfl
  · -- 39: move t92
    intro a' W hG hd hΦ h0 K hK
    have e92 : a'.tmps[92]? = some (.bool (false)) := fx (W := W) (hΦ 38 92 (by kernel_rfl) (by kernel_rfl))
    clear hd hΦ h0
    go_simp
    exact hK _ _ (Below.refl _ _) rfl
  · -- 40: move t12
    intro a' W hG hd hΦ h0 K hK
    have e93 : a'.tmps[93]? = some (.bool (false)) := fx (W := W) (hΦ 39 93 (by kernel_rfl) (by kernel_rfl))
    have e12 : a'.tmps[12]? = some (.slice (some ⟨g2, 0, none⟩) 2 k2) := h0 12 (by kernel_rfl)
    clear hd hΦ h0
    go_simp
    exact hK _ _ (Below.refl _ _) rfl
  · -- 41: builtin len(t94) [36]
    intro a' W hG hd hΦ h0 K hK
    have e93 : a'.tmps[93]? = some (.bool (false)) := fx (W := W) (hΦ 39 93 (by kernel_rfl) (by kernel_rfl))
    have e94 : a'.tmps[94]? = some (.slice (some ⟨g2, 0, none⟩) 2 k2) := fx (W := W) (hΦ 40 94 (by kernel_rfl) (by kernel_rfl))
    clear hd hΦ h0
    go_simp
    exact hK _ _ (Below.refl _ _) rfl
  · -- 42: binOp neq, 3, t95, 2, 3
    intro a' W hG hd hΦ h0 K hK
    have e93 : a'.tmps[93]? = some (.bool (false)) := fx (W := W) (hΦ 39 93 (by kernel_rfl) (by kernel_rfl))
    have e95 : a'.tmps[95]? = some (.int .i64 (2)) := fx (W := W) (hΦ 41 95 (by kernel_rfl) (by kernel_rfl))
    clear hd hΦ h0
    go_simp
    exact hK _ _ (Below.refl _ _) rfl
  · -- 43: pick t93, true, t96
    intro a' W hG hd hΦ h0 K hK
    have e93 : a'.tmps[93]? = some (.bool (false)) := fx (W := W) (hΦ 39 93 (by kernel_rfl) (by kernel_rfl))
    have e96 : a'.tmps[96]? = some (.bool (false)) := fx (W := W) (hΦ 42 96 (by kernel_rfl) (by kernel_rfl))
    clear hd hΦ h0
    go_simp
    exact hK _ _ (Below.refl _ _) rfl
  · -- 44: move t97
    intro a' W hG hd hΦ h0 K hK
    have e97 : a'.tmps[97]? = some (.bool (false)) := fx (W := W) (hΦ 43 97 (by kernel_rfl) (by kernel_rfl))
    clear hd hΦ h0
    go_simp
    exact hK _ _ (Below.refl _ _) rfl
  · -- 45: move t12
    intro a' W hG hd hΦ h0 K hK
    have e98 : a'.tmps[98]? = some (.bool (false)) := fx (W := W) (hΦ 44 98 (by kernel_rfl) (by kernel_rfl))
    have e12 : a'.tmps[12]? = some (.slice (some ⟨g2, 0, none⟩) 2 k2) := h0 12 (by kernel_rfl)
    clear hd hΦ h0
    go_simp
    exact hK _ _ (Below.refl _ _) rfl
  · -- 46: indexAddr 36, t99, 0
    intro a' W hG hd hΦ h0 K hK
    have e98 : a'.tmps[98]? = some (.bool (false)) := fx (W := W) (hΦ 44 98 (by kernel_rfl) (by kernel_rfl))
    have e99 : a'.tmps[99]? = some (.slice (some ⟨g2, 0, none⟩) 2 k2) := fx (W := W) (hΦ 45 99 (by kernel_rfl) (by kernel_rfl))
    clear hd hΦ h0
    go_simp
    exact hK _ _ (Below.refl _ _) rfl
  · -- 47: fieldAddr 66, t100, 1
    intro a' W hG hd hΦ h0 K hK
    have e98 : a'.tmps[98]? = some (.bool (false)) := fx (W := W) (hΦ 44 98 (by kernel_rfl) (by kernel_rfl))
    have e100 : a'.tmps[100]? = some (.pointer (some ⟨g2, 0, none⟩)) := fx (W := W) (hΦ 46 100 (by kernel_rfl) (by kernel_rfl))
    clear hd hΦ h0
    go_simp
    exact hK _ _ (Below.refl _ _) rfl
  · -- 48: load 9, t101
    intro a' W hG hd hΦ h0 K hK
    have e98 : a'.tmps[98]? = some (.bool (false)) := fx (W := W) (hΦ 44 98 (by kernel_rfl) (by kernel_rfl))
    have e101 : a'.tmps[101]? = some (.pointer (some ⟨g2, 5, none⟩)) := fx (W := W) (hΦ 47 101 (by kernel_rfl) (by kernel_rfl))
    have y5 := hG.cell y5
    clear hd hΦ h0
    go_simp
    exact hK _ _ (Below.refl _ _) rfl
  · -- 49: binOp neq, 9, t102, '6', 9
    intro a' W hG hd hΦ h0 K hK
    have e98 : a'.tmps[98]? = some (.bool (false)) := fx (W := W) (hΦ 44 98 (by kernel_rfl) (by kernel_rfl))
    have e102 : a'.tmps[102]? = some (.string ⟨#[54]⟩) := fx (W := W) (hΦ 48 102 (by kernel_rfl) (by kernel_rfl))
    clear hd hΦ h0
    go_simp
    exact hK _ _ (Below.refl _ _) rfl
  · -- 50: pick t98, true, t103
    intro a' W hG hd hΦ h0 K hK
    have e98 : a'.tmps[98]? = some (.bool (false)) := fx (W := W) (hΦ 44 98 (by kernel_rfl) (by kernel_rfl))
    have e103 : a'.tmps[103]? = some (.bool (false)) := fx (W := W) (hΦ 49 103 (by kernel_rfl) (by kernel_rfl))
    clear hd hΦ h0
    go_simp
    exact hK _ _ (Below.refl _ _) rfl
  · -- 51: move t104
    intro a' W hG hd hΦ h0 K hK
    have e104 : a'.tmps[104]? = some (.bool (false)) := fx (W := W) (hΦ 50 104 (by kernel_rfl) (by kernel_rfl))
    clear hd hΦ h0
    go_simp
    exact hK _ _ (Below.refl _ _) rfl
  · -- 52: move t3
    intro a' W hG hd hΦ h0 K hK
    have e105 : a'.tmps[105]? = some (.bool (false)) := fx (W := W) (hΦ 51 105 (by kernel_rfl) (by kernel_rfl))
    have e3 : a'.tmps[3]? = some (.pointer (some ⟨b, 0, none⟩)) := h0 3 (by kernel_rfl)
    clear hd hΦ h0
    go_simp
    exact hK _ _ (Below.refl _ _) rfl
  · -- 53: call F29{(*replevin/view.View).Mark}(t106)
    intro a' W hG hd hΦ h0 K hK
    have e105 : a'.tmps[105]? = some (.bool (false)) := fx (W := W) (hΦ 51 105 (by kernel_rfl) (by kernel_rfl))
    have e106 : a'.tmps[106]? = some (.pointer (some ⟨b, 0, none⟩)) := fx (W := W) (hΦ 52 106 (by kernel_rfl) (by kernel_rfl))
    clear hd hΦ h0
    go_simp
    refine (markW_any _ (h.out.grew hG)).mono ?_
    rintro e w' ⟨rfl, rfl⟩
    exact hK _ _ (Below.refl _ _) rfl
  · -- 54: binOp neq, 3, t107, 2, 3
    intro a' W hG hd hΦ h0 K hK
    have e105 : a'.tmps[105]? = some (.bool (false)) := fx (W := W) (hΦ 51 105 (by kernel_rfl) (by kernel_rfl))
    have e107 : a'.tmps[107]? = some (.int .i64 (2)) := fx (W := W) (hΦ 53 107 (by kernel_rfl) (by kernel_rfl))
    clear hd hΦ h0
    go_simp
    exact hK _ _ (Below.refl _ _) rfl
  · -- 55: pick t105, true, t108
    intro a' W hG hd hΦ h0 K hK
    have e105 : a'.tmps[105]? = some (.bool (false)) := fx (W := W) (hΦ 51 105 (by kernel_rfl) (by kernel_rfl))
    have e108 : a'.tmps[108]? = some (.bool (false)) := fx (W := W) (hΦ 54 108 (by kernel_rfl) (by kernel_rfl))
    clear hd hΦ h0
    go_simp
    exact hK _ _ (Below.refl _ _) rfl
  intro W hG
  simp only [FinG, Fx, Any, forall_eq, true_implies]
  intros
  go_simp
  replace hB := Lib.hid (hB.out.trans (Below.mono hG h.out.b4))
  replace h := Lib.hid (h.out.grew hG)
  clear hG
  clear x0 x1 x2 x3 x4 x5 x6 y5 hne

  go_wp2_with fail
  have hv := back_any 0 _ h.out
  rw [k_b0, k_bl, k_bm] at hv
  refine hv.mono ?_
  clear hv
  rintro e w17 ⟨rfl, h', hb⟩
  replace hB := Lib.hid (hB.out.trans hb)
  replace h := Lib.hid h'
  clear h' hb
  go_wp2_with fail
  refine (epoch_any _).mono ?_
  rintro e w18 ⟨rfl, g⟩
  replace hB := Lib.hid (hB.out.trans (Below.mono g h.out.b4))
  replace h := Lib.hid (h.out.grew g)
  clear g
  go_wp2_with fail
  have hv := has_any epochN (Nat.zero_le _) (Nat.zero_le _) k_fine _ h.out
  rw [k_v4, k_r4] at hv
  refine hv.mono ?_
  clear hv
  rintro e w19 ⟨rfl, h', hb⟩
  replace hB := Lib.hid (hB.out.trans hb)
  replace h := Lib.hid h'
  clear h' hb
  go_wp2_with fail
  have hv := reads_any _ h.out (by decide) (by decide)
  rw [k_s3] at hv
  refine hv.mono ?_
  clear hv
  rintro e w20 ⟨v3, rfl, hl, g⟩
  replace hB := Lib.hid (hB.out.trans (Below.mono g h.out.b4))
  replace h := Lib.hid (h.out.grew g)
  have hl3 := Lib.hid hl
  clear g hl
  go_wp2_with fail
  have hv := writes_any _ h.out (by decide) (by decide)
  rw [k_s4] at hv
  refine hv.mono ?_
  clear hv
  rintro e w21 ⟨v4, rfl, hl, g⟩
  replace hB := Lib.hid (hB.out.trans (Below.mono g h.out.b4))
  replace h := Lib.hid (h.out.grew g)
  replace hl3 := Lib.hid (row_grew hl3.out g)
  have hl4 := Lib.hid hl
  clear g hl
  obtain ⟨g3, k3, rfl, hc2, hc3⟩ := shape2 hl3.out
  obtain ⟨a4, k4, rfl⟩ := shape0 hl4.out
  have x0 : w21.cell? ⟨g3, 7, none⟩ = some (.int .i64 epochN.kind) := hc3 0 _ rfl
  have x1 : w21.cell? ⟨g3, 8, none⟩ = some (.string epochN.owner) := hc3 1 _ rfl
  have x2 : w21.cell? ⟨g3, 9, none⟩ = some (.int .i64 epochN.number) := hc3 2 _ rfl
  have x3 : w21.cell? ⟨g3, 10, none⟩ = some (.int .i64 epochN.index) := hc3 3 _ rfl
  have x4 : w21.cell? ⟨g3, 11, none⟩ = some (.string epochN.text) := hc3 4 _ rfl
  have x5 : w21.cell? ⟨g3, 12, none⟩ = some (.string ⟨#[]⟩) := hc3 5 _ rfl
  have x6 : w21.cell? ⟨g3, 13, none⟩ = some (.bool true) := hc3 6 _ rfl
  clear hc2 hc3 hl3 hl4
  have hne : ∀ W, (binOp .eql 66 (chV z1) (chV z1)).run Tryz.prog W = .ok (.bool true) W := fun W => by rw [run_eq66]; simp
  go_wp2_with fail
  refine wp_region_grow [Fx (.int .i64 (0)), Fx (.bool (true)), Fx (.bool (true)), Fx (.bool (false)), Fx (.bool (true)), Fx (.bool (true)), Fx (.bool (true)), Fx (.slice (some ⟨g3, 0, none⟩) 2 k3), Fx (.int .i64 (2)), Fx (.bool (true)), Fx (.bool (true)), Fx (.bool (true)), Fx (.slice (some ⟨g3, 0, none⟩) 2 k3), Fx (.pointer (some ⟨g3, 7, none⟩)), Fx (chV z1), Fx (nmV epochN), Fx (chV z1), Fx (.bool (true)), Fx (.bool (true)), Fx (.bool (true)), Fx (.slice a4 0 k4), Fx (.int .i64 (0)), Fx (.bool (true)), Fx (.bool (true)), Fx (.bool (true))] (by kernel_rfl) (by kernel_rfl) (by simp only [AllStable, Fx.stable, Any.stable, and_self]) ⟨?_, ?_, ?_, ?_, ?_, ?_, ?_, ?_, ?_, ?_, ?_, ?_, ?_, ?_, ?_, ?_, ?_, ?_, ?_, ?_, ?_, ?_, ?_, ?_, ?_, trivial⟩ ?_
  · -- 0: move t13
    intro a' W hG hd hΦ h0 K hK
    have e13 : a'.tmps[13]? = some (.int .i64 (0)) := h0 13 (by kernel_rfl)
    clear hd hΦ h0
    go_simp
    exact hK _ _ (Below.refl _ _) rfl
  · -- 1: binOp eql, 28, t119, 0, 28
    intro a' W hG hd hΦ h0 K hK
    have e119 : a'.tmps[119]? = some (.int .i64 (0)) := fx (W := W) (hΦ 0 119 (by kernel_rfl) (by kernel_rfl))
    clear hd hΦ h0
    go_simp
    exact hK _ _ (Below.refl _ _) rfl
  · -- 2: move t120
    intro a' W hG hd hΦ h0 K hK
    have e120 : a'.tmps[120]? = some (.bool (true)) := fx (W := W) (hΦ 1 120 (by kernel_rfl) (by kernel_rfl))
    clear hd hΦ h0
    go_simp
    exact hK _ _ (Below.refl _ _) rfl
  · -- 3: move t14
    intro a' W hG hd hΦ h0 K hK
    have e121 : a'.tmps[121]? = some (.bool (true)) := fx (W := W) (hΦ 2 121 (by kernel_rfl) (by kernel_rfl))
    have e14 : a'.tmps[14]? = some (.bool (false)) := h0 14 (by kernel_rfl)
    clear hd hΦ h0
    go_simp
    exact hK _ _ (Below.refl _ _) rfl
  · -- 4: unOp not, 4, t122
    intro a' W hG hd hΦ h0 K hK
    have e121 : a'.tmps[121]? = some (.bool (true)) := fx (W := W) (hΦ 2 121 (by kernel_rfl) (by kernel_rfl))
    have e122 : a'.tmps[122]? = some (.bool (false)) := fx (W := W) (hΦ 3 122 (by kernel_rfl) (by kernel_rfl))
    clear hd hΦ h0
    go_simp
    exact hK _ _ (Below.refl _ _) rfl
  · -- 5: pick t121, t123, false
    intro a' W hG hd hΦ h0 K hK
    have e121 : a'.tmps[121]? = some (.bool (true)) := fx (W := W) (hΦ 2 121 (by kernel_rfl) (by kernel_rfl))
    have e123 : a'.tmps[123]? = some (.bool (true)) := fx (W := W) (hΦ 4 123 (by kernel_rfl) (by kernel_rfl))
    clear hd hΦ h0
    go_simp
    exact hK _ _ (Below.refl _ _) rfl
  · -- 6: move t124
    intro a' W hG hd hΦ h0 K hK
    have e124 : a'.tmps[124]? = some (.bool (true)) := fx (W := W) (hΦ 5 124 (by kernel_rfl) (by kernel_rfl))
    clear hd hΦ h0
    go_simp
    exact hK _ _ (Below.refl _ _) rfl
  · -- 7: move t11
    intro a' W hG hd hΦ h0 K hK
    have e125 : a'.tmps[125]? = some (.bool (true)) := fx (W := W) (hΦ 6 125 (by kernel_rfl) (by kernel_rfl))
    have e11 : a'.tmps[11]? = some (.slice (some ⟨g3, 0, none⟩) 2 k3) := h0 11 (by kernel_rfl)
    clear hd hΦ h0
    go_simp
    exact hK _ _ (Below.refl _ _) rfl
  · -- 8: builtin len(t126) [36]
    intro a' W hG hd hΦ h0 K hK
    have e125 : a'.tmps[125]? = some (.bool (true)) := fx (W := W) (hΦ 6 125 (by kernel_rfl) (by kernel_rfl))
    have e126 : a'.tmps[126]? = some (.slice (some ⟨g3, 0, none⟩) 2 k3) := fx (W := W) (hΦ 7 126 (by kernel_rfl) (by kernel_rfl))
    clear hd hΦ h0
    go_simp
    exact hK _ _ (Below.refl _ _) rfl
  · -- 9: binOp eql, 3, t127, 2, 3
    intro a' W hG hd hΦ h0 K hK
    have e125 : a'.tmps[125]? = some (.bool (true)) := fx (W := W) (hΦ 6 125 (by kernel_rfl) (by kernel_rfl))
    have e127 : a'.tmps[127]? = some (.int .i64 (2)) := fx (W := W) (hΦ 8 127 (by kernel_rfl) (by kernel_rfl))
    clear hd hΦ h0
    go_simp
    exact hK _ _ (Below.refl _ _) rfl
  · -- 10: pick t125, t128, false
    intro a' W hG hd hΦ h0 K hK
    have e125 : a'.tmps[125]? = some (.bool (true)) := fx (W := W) (hΦ 6 125 (by kernel_rfl) (by kernel_rfl))
    have e128 : a'.tmps[128]? = some (.bool (true)) := fx (W := W) (hΦ 9 128 (by kernel_rfl) (by kernel_rfl))
    clear hd hΦ h0
    go_simp
    exact hK _ _ (Below.refl _ _) rfl
  · -- 11: move t129
    intro a' W hG hd hΦ h0 K hK
    have e129 : a'.tmps[129]? = some (.bool (true)) := fx (W := W) (hΦ 10 129 (by kernel_rfl) (by kernel_rfl))
    clear hd hΦ h0
    go_simp
    exact hK _ _ (Below.refl _ _) rfl
  · -- 12: move t11
    intro a' W hG hd hΦ h0 K hK
    have e130 : a'.tmps[130]? = some (.bool (true)) := fx (W := W) (hΦ 11 130 (by kernel_rfl) (by kernel_rfl))
    have e11 : a'.tmps[11]? = some (.slice (some ⟨g3, 0, none⟩) 2 k3) := h0 11 (by kernel_rfl)
    clear hd hΦ h0
    go_simp
    exact hK _ _ (Below.refl _ _) rfl
  · -- 13: indexAddr 36, t131, 1
    intro a' W hG hd hΦ h0 K hK
    have e130 : a'.tmps[130]? = some (.bool (true)) := fx (W := W) (hΦ 11 130 (by kernel_rfl) (by kernel_rfl))
    have e131 : a'.tmps[131]? = some (.slice (some ⟨g3, 0, none⟩) 2 k3) := fx (W := W) (hΦ 12 131 (by kernel_rfl) (by kernel_rfl))
    clear hd hΦ h0
    go_simp
    exact hK _ _ (Below.refl _ _) rfl
  · -- 14: load 66, t132
    intro a' W hG hd hΦ h0 K hK
    have e130 : a'.tmps[130]? = some (.bool (true)) := fx (W := W) (hΦ 11 130 (by kernel_rfl) (by kernel_rfl))
    have e132 : a'.tmps[132]? = some (.pointer (some ⟨g3, 7, none⟩)) := fx (W := W) (hΦ 13 132 (by kernel_rfl) (by kernel_rfl))
    have x0 := hG.cell x0
    have x1 := hG.cell x1
    have x2 := hG.cell x2
    have x3 := hG.cell x3
    have x4 := hG.cell x4
    have x5 := hG.cell x5
    have x6 := hG.cell x6
    clear hd hΦ h0
    go_simp
    exact hK _ _ (Below.refl _ _) rfl
  · -- 15: call F78{replevin/object.OfEpoch}()
    intro a' W hG hd hΦ h0 K hK
    have e130 : a'.tmps[130]? = some (.bool (true)) := fx (W := W) (hΦ 11 130 (by kernel_rfl) (by kernel_rfl))
    clear hd hΦ h0
    go_simp
    refine (epoch_any _).mono ?_
    rintro e w' ⟨rfl, hg⟩
    exact hK _ _ hg rfl
  · -- 16: build 66, [<0, t134>, <2, true>]
    intro a' W hG hd hΦ h0 K hK
    have e130 : a'.tmps[130]? = some (.bool (true)) := fx (W := W) (hΦ 11 130 (by kernel_rfl) (by kernel_rfl))
    have e134 : a'.tmps[134]? = some (nmV epochN) := fx (W := W) (hΦ 15 134 (by kernel_rfl) (by kernel_rfl))
    clear hd hΦ h0
    go_simp
    exact hK _ _ (Below.refl _ _) rfl
  · -- 17: binOp eql, 66, t133, t135, 66
    intro a' W hG hd hΦ h0 K hK
    have e130 : a'.tmps[130]? = some (.bool (true)) := fx (W := W) (hΦ 11 130 (by kernel_rfl) (by kernel_rfl))
    have e133 : a'.tmps[133]? = some (chV z1) := fx (W := W) (hΦ 14 133 (by kernel_rfl) (by kernel_rfl))
    have e135 : a'.tmps[135]? = some (chV z1) := fx (W := W) (hΦ 16 135 (by kernel_rfl) (by kernel_rfl))
    have hne := hne
    clear hd hΦ h0
    go_simp
    exact hK _ _ (Below.refl _ _) rfl
  · -- 18: pick t130, t136, false
    intro a' W hG hd hΦ h0 K hK
    have e130 : a'.tmps[130]? = some (.bool (true)) := fx (W := W) (hΦ 11 130 (by kernel_rfl) (by kernel_rfl))
    have e136 : a'.tmps[136]? = some (.bool (true)) := fx (W := W) (hΦ 17 136 (by kernel_rfl) (by kernel_rfl))
    clear hd hΦ h0
    go_simp
    exact hK _ _ (Below.refl _ _) rfl
  · -- 19: move t137
    intro a' W hG hd hΦ h0 K hK
    have e137 : a'.tmps[137]? = some (.bool (true)) := fx (W := W) (hΦ 18 137 (by kernel_rfl) (by kernel_rfl))
    clear hd hΦ h0
    go_simp
    exact hK _ _ (Below.refl _ _) rfl
  · -- 20: move t12
    intro a' W hG hd hΦ h0 K hK
    have e138 : a'.tmps[138]? = some (.bool (true)) := fx (W := W) (hΦ 19 138 (by kernel_rfl) (by kernel_rfl))
    have e12 : a'.tmps[12]? = some (.slice a4 0 k4) := h0 12 (by kernel_rfl)
    clear hd hΦ h0
    go_simp
    exact hK _ _ (Below.refl _ _) rfl
  · -- 21: builtin len(t139) [36]
    intro a' W hG hd hΦ h0 K hK
    have e138 : a'.tmps[138]? = some (.bool (true)) := fx (W := W) (hΦ 19 138 (by kernel_rfl) (by kernel_rfl))
    have e139 : a'.tmps[139]? = some (.slice a4 0 k4) := fx (W := W) (hΦ 20 139 (by kernel_rfl) (by kernel_rfl))
    clear hd hΦ h0
    go_simp
    exact hK _ _ (Below.refl _ _) rfl
  · -- 22: binOp eql, 3, t140, 0, 3
    intro a' W hG hd hΦ h0 K hK
    have e138 : a'.tmps[138]? = some (.bool (true)) := fx (W := W) (hΦ 19 138 (by kernel_rfl) (by kernel_rfl))
    have e140 : a'.tmps[140]? = some (.int .i64 (0)) := fx (W := W) (hΦ 21 140 (by kernel_rfl) (by kernel_rfl))
    clear hd hΦ h0
    go_simp
    exact hK _ _ (Below.refl _ _) rfl
  · -- 23: pick t138, t141, false
    intro a' W hG hd hΦ h0 K hK
    have e138 : a'.tmps[138]? = some (.bool (true)) := fx (W := W) (hΦ 19 138 (by kernel_rfl) (by kernel_rfl))
    have e141 : a'.tmps[141]? = some (.bool (true)) := fx (W := W) (hΦ 22 141 (by kernel_rfl) (by kernel_rfl))
    clear hd hΦ h0
    go_simp
    exact hK _ _ (Below.refl _ _) rfl
  · -- 24: assign t142
    intro a' W hG hd hΦ h0 K hK
    have e142 : a'.tmps[142]? = some (.bool (true)) := fx (W := W) (hΦ 23 142 (by kernel_rfl) (by kernel_rfl))
    clear hd hΦ h0
    go_simp
    exact hK _ _ (Below.refl _ _) rfl
  intro W hG
  simp only [FinG, Fx, Any, forall_eq, true_implies]
  intros
  go_simp
  replace hB := Lib.hid (hB.out.trans (Below.mono hG h.out.b4))
  clear hG x0 x1 x2 x3 x4 x5 x6 hne
  go_wp2
  go_ret
  exact ⟨rfl, Below.trans hG.out (Below.mono hB.out hwb.out)⟩

end Go.Proofs.YtkiojenkpbkjpaaGreatDoor
