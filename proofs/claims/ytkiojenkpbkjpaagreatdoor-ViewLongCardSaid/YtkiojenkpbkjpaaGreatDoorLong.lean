/- Walk: the statement ViewLong. -/
import Derived.Test.YtkiojenkpbkjpaaGreatDoorLongA
set_option linter.unusedVariables false
set_option linter.unusedSimpArgs false
namespace Go.Proofs.YtkiojenkpbkjpaaGreatDoor
open Go Go.RowKit RV
def F12 (base : Nat) (w4 : World) (b : Nat) (cl : List Ch) (W : World) : Prop := IsW base W (some ⟨b, 0, none⟩) .nil [] cl cl ∧ Below base w4 W
set_option maxHeartbeats 4000000
set_option maxRecDepth 100000 in
theorem long_less (a1 : Int) (w1 : (Lit.int .u8 a1).wf = true) (w : World) : Calls Tryz.prog 3 #[.bool false, .int .u8 a1] w fun e w' => e = .returned (.bool true) ∧ Grew w w' := by
  obtain ⟨n, hn⟩ : ∃ n : Nat, n = 65536 := ⟨_, rfl⟩
  have hN : (65536 : Int) = (n : Int) := by omega
  have hmk : ∀ W, (Instr.makeSlice 23 (.int .i64 65536) (.int .i64 65536)).run Tryz.prog W = .ok (.slice (some ⟨W.heap.size, 0, none⟩) n n) (W.alloc (.cells (madeCells #[.int .u8 0] n) 5)) := fun W => by rw [hN]; exact make_run n (by omega) W
  replace hn := Lib.hid hn
  replace hN := Lib.hid hN
  go_enter Tryz.func3, Tryz.ntmps3
  go_wp2_with fail
  refine (known_any _).mono ?_
  rintro e w1 ⟨rfl, g1⟩
  go_wp2
  have hrow := World.rowIs_made w1 (.int .u8 0) n 5
  have g2 := Grew.alloc w1 (.cells (madeCells #[.int .u8 0] n) 5)
  have hwg := Lib.hid g1.size
  generalize w1.alloc (.cells (madeCells #[.int .u8 0] n) 5) = w2 at hrow g2 ⊢
  have hB0 := Lib.hid (show Below w.heap.size w w2 from Below.trans g1 (Below.mono g2 g1.size))
  generalize w1.heap.size = g at *
  replace hrow := Lib.hid hrow
  clear g1 g2
  go_loopw [7] (fun i wr => ∃ j : Nat, j ≤ n ∧ i = .int .i64 j ∧ Hid (wr.rowIs g 5 n (fun q => .int .u8 (if q < j then a1 else 0)) ∧ Below w.heap.size w wr)) (fun i _ => n - (intOf i).toNat)
  case atStart => exact ⟨0, by omega, rfl, hrow.out.congr (fun i _ => by simp), hB0.out⟩
  case round =>
    obtain ⟨j, hjn, rfl, hh⟩ := hrel
    by_cases hj : j < n
    · have hjb : decide ((j : Int) < 65536) = true := by have := hN.out; simp; omega
      have x := hh.out.1.cell hj
      have z := hh.out.1.frozen j
      have hj5 : j < 100000 := by have := hn.out; omega
      go_wp2
      have hlast := Lib.hid (show (wr.setCell ⟨g, j, none⟩ (.int .u8 a1)).rowIs g 5 n (fun q => .int .u8 (if q < j + 1 then a1 else 0)) ∧ Below w.heap.size w (wr.setCell ⟨g, j, none⟩ (.int .u8 a1)) from
        ⟨(hh.out.1.set j _).congr (fun i _ => by by_cases e : i = j; · simp [e]
                                                 · simp [e]; by_cases f : i < j; · simp [f, show i < j + 1 by omega]
                                                   · simp [f, show ¬ i < j + 1 by omega]), hh.out.2.setCell (p := ⟨g, j, none⟩) hwg.out _⟩)
      have hnb := hn.out
      go_round
      case rel => exact ⟨j + 1, by omega, by go_num, hlast⟩
      case measure => simp [intOf]; omega
    · obtain rfl : j = n := by omega
      have hjb : decide ((j : Int) < 65536) = false := by have := hN.out; simp; omega
      have hrow := Lib.hid (hh.out.1.congr (g := fun _ => .int .u8 a1) (fun i hi => by simp [hi]))
      have hB := Lib.hid hh.out.2
      clear hh
      go_wp2_with fail
      refine (new_any _).mono ?_
      rintro e w3 ⟨⟨p, rfl, hs⟩, g3⟩
      have hgb0 := Nat.lt_of_lt_of_le hrow.out.lt g3.size
      have hwb0 := Nat.le_trans hB.out.size g3.size
      replace hrow := Lib.hid (hrow.out.of_block (Below.block g3 g hrow.out.lt))
      replace hB := Lib.hid (Below.trans hB.out (Below.mono g3 hB.out.size))
      go_wp2_with fail
      refine (vnewW_any _ hs).mono ?_
      rintro e w4 ⟨b, rfl, h, g4⟩
      replace hrow := Lib.hid (hrow.out.of_block (Below.block g4 g hrow.out.lt))
      replace hB := Lib.hid (Below.trans hB.out (Below.mono g4 hB.out.size))
      have hwb := Lib.hid (show w.heap.size ≤ w3.heap.size from hwb0)
      have hgb := Lib.hid (show g < w3.heap.size from hgb0)
      generalize w3.heap.size = base at *
      have hset : ∀ W, Grew w4 W → Calls Tryz.prog 21 #[.pointer (some ⟨b, 0, none⟩), nmV clockN, .string (bstr j a1)] W fun e w' => e = .returned (.int .i64 0) ∧ IsW base w' (some ⟨b, 0, none⟩) .nil [] [⟨clockN, bstr j a1, false⟩] [⟨clockN, bstr j a1, false⟩] ∧ Below base w4 w' := fun W hG => by
        have hv := set_any clockN (bstr j a1) (Nat.zero_le _) (Nat.zero_le _) (by rw [bstr_size]; have := hn.out; unfold maxLen; omega) W (h.grew hG) (by decide)
        have hE : callE ⟨clockN, bstr j a1, false⟩ = 0 := by have := hn.out; simp only [callE, k_ch, bstr_size]; simp; omega
        simp only [callL, callM, hE] at hv
        refine hv.mono ?_
        rintro e w' ⟨rfl, h1, h2⟩
        exact ⟨rfl, by simpa [putM] using h1, (Below.mono hG h.b4).trans h2⟩
      clear hs h
      go_wp2_with fail
      refine wp_region_chain 4 [] [5] [F12 base w4 b [⟨clockN, bstr j a1, false⟩], F12 base w4 b [⟨clockN, bstr j a1, false⟩]] [Fx (.pointer (some ⟨b, 0, none⟩)), Fx (nmV clockN), Fx (.slice (some ⟨g, 0, none⟩) j j), Fx (.string (bstr j a1)), Fx (.int .i64 (0)), Fx (.int .i64 (0))] (by kernel_rfl) (by kernel_rfl) (by simp only [AllStable, Fx.stable, Any.stable, and_self]) ⟨?_, ?_, ?_, ?_, ?_, ?_, trivial⟩ ?_
      · -- 0: move t8
        intro a' W hG hd hΦ h0 K hK
        have e8 : a'.tmps[8]? = some (.pointer (some ⟨b, 0, none⟩)) := h0 8 (by kernel_rfl)
        clear hd hΦ h0
        go_simp
        exact hK _ _ (Below.refl _ _) rfl
      · -- 1: call F22{replevin/object.OfClock}()
        intro a' W hG hd hΦ h0 K hK
        clear hd hΦ h0
        go_simp
        refine (clock_any _).mono ?_
        rintro e w' ⟨rfl, hg⟩
        exact hK _ _ hg rfl
      · -- 2: move t6
        intro a' W hG hd hΦ h0 K hK
        have e6 : a'.tmps[6]? = some (.slice (some ⟨g, 0, none⟩) j j) := h0 6 (by kernel_rfl)
        clear hd hΦ h0
        go_simp
        exact hK _ _ (Below.refl _ _) rfl
      · -- 3: convert 23, 9, t32
        intro a' W hG hd hΦ h0 K hK
        have e32 : a'.tmps[32]? = some (.slice (some ⟨g, 0, none⟩) j j) := fx (W := W) (hΦ 2 32 (by kernel_rfl) (by kernel_rfl))
        have hcv := conv_run (hrow.out.of_block (Below.block hG g hrow.out.lt))
        clear hd hΦ h0
        go_simp
        exact hK _ _ (Below.refl _ _) rfl
      · -- 4: call F21{(*replevin/view.View).Set}(t30, t31, t33)
        intro a' W hG hd hΦ h0 K hK
        have e30 : a'.tmps[30]? = some (.pointer (some ⟨b, 0, none⟩)) := fx (W := W) (hΦ 0 30 (by kernel_rfl) (by kernel_rfl))
        have e31 : a'.tmps[31]? = some (nmV clockN) := fx (W := W) (hΦ 1 31 (by kernel_rfl) (by kernel_rfl))
        have e33 : a'.tmps[33]? = some (.string (bstr j a1)) := fx (W := W) (hΦ 3 33 (by kernel_rfl) (by kernel_rfl))
        clear hd hΦ h0
        go_simp
        refine (hset W hG).mono ?_
        rintro e w' ⟨rfl, h', hb⟩
        exact hK _ _ (show F12 base w4 b [⟨clockN, bstr j a1, false⟩] w' from ⟨h', hb⟩) rfl
      · -- 5: assign t34
        intro a' W hF hd hΦ hL h0 K hK
        have e34 : a'.tmps[34]? = some (.int .i64 (0)) := fx (W := W) (hL 4 34 (by decide) (by decide) (by kernel_rfl) (by kernel_rfl))
        clear hd hΦ hL h0
        go_simp
        exact hK _ hF rfl
      intro W hF
      simp only [FinG, List.map, soft, Fx, Any, forall_eq, true_implies, exists_const, exists_eq]
      obtain ⟨h, hb⟩ : F12 base w4 b [⟨clockN, bstr j a1, false⟩] W := hF
      intros
      go_simp
      replace hrow := Lib.hid (hrow.out.of_block (Below.block hb g (Nat.lt_of_lt_of_le hgb.out (Nat.le_refl _))))
      replace hB := Lib.hid (Below.trans hB.out (Below.mono hb hwb.out))
      replace h := Lib.hid h
      clear hb hset
      go_wp2_with fail
      refine (clock_any _).mono ?_
      rintro e w5 ⟨rfl, g5⟩
      replace hrow := Lib.hid (hrow.out.of_block (Below.block g5 g hrow.out.lt))
      replace hB := Lib.hid (Below.trans hB.out (Below.mono g5 hB.out.size))
      replace h := Lib.hid (h.out.grew g5)
      clear g5
      go_wp2_with fail
      have hv := vget_any clockN (Nat.zero_le _) (Nat.zero_le _) (fun e he => by cases he) w5 h.out
      rw [k_v5, k_r5] at hv
      refine hv.mono ?_
      clear hv
      rintro e w6 ⟨rfl, h', hb⟩
      replace hrow := Lib.hid (hrow.out.of_block (Below.block hb g hgb.out))
      replace hB := Lib.hid (Below.trans hB.out (Below.mono hb hwb.out))
      replace h := Lib.hid h'
      clear h' hb
      have hcv := conv_run hrow.out
      go_wp2_with fail
      have hv := reads_any w6 h.out (by decide) (by intro c hc; cases hc)
      rw [k_s4] at hv
      refine hv.mono ?_
      clear hv
      rintro e w7 ⟨v, rfl, hl, g7⟩
      obtain ⟨a, k, rfl⟩ := shape0 hl
      replace hB := Lib.hid (Below.trans hB.out (Below.mono g7 hB.out.size))
      clear hl g7
      go_wp2
      go_ret
      exact ⟨rfl, hB.out⟩

set_option maxRecDepth 100000 in
theorem long_more (a1 : Int) (w1 : (Lit.int .u8 a1).wf = true) (w : World) : Calls Tryz.prog 3 #[.bool true, .int .u8 a1] w fun e w' => e = .returned (.bool true) ∧ Grew w w' := by
  obtain ⟨n, hn⟩ : ∃ n : Nat, n = 65537 := ⟨_, rfl⟩
  have hN : (65537 : Int) = (n : Int) := by omega
  have hmk : ∀ W, (Instr.makeSlice 23 (.int .i64 65537) (.int .i64 65537)).run Tryz.prog W = .ok (.slice (some ⟨W.heap.size, 0, none⟩) n n) (W.alloc (.cells (madeCells #[.int .u8 0] n) 5)) := fun W => by rw [hN]; exact make_run n (by omega) W
  replace hn := Lib.hid hn
  replace hN := Lib.hid hN
  go_enter Tryz.func3, Tryz.ntmps3
  go_wp2_with fail
  refine (known_any _).mono ?_
  rintro e w1 ⟨rfl, g1⟩
  go_wp2
  have hrow := World.rowIs_made w1 (.int .u8 0) n 5
  have g2 := Grew.alloc w1 (.cells (madeCells #[.int .u8 0] n) 5)
  have hwg := Lib.hid g1.size
  generalize w1.alloc (.cells (madeCells #[.int .u8 0] n) 5) = w2 at hrow g2 ⊢
  have hB0 := Lib.hid (show Below w.heap.size w w2 from Below.trans g1 (Below.mono g2 g1.size))
  generalize w1.heap.size = g at *
  replace hrow := Lib.hid hrow
  clear g1 g2
  go_loopw [7] (fun i wr => ∃ j : Nat, j ≤ n ∧ i = .int .i64 j ∧ Hid (wr.rowIs g 5 n (fun q => .int .u8 (if q < j then a1 else 0)) ∧ Below w.heap.size w wr)) (fun i _ => n - (intOf i).toNat)
  case atStart => exact ⟨0, by omega, rfl, hrow.out.congr (fun i _ => by simp), hB0.out⟩
  case round =>
    obtain ⟨j, hjn, rfl, hh⟩ := hrel
    by_cases hj : j < n
    · have hjb : decide ((j : Int) < 65537) = true := by have := hN.out; simp; omega
      have x := hh.out.1.cell hj
      have z := hh.out.1.frozen j
      have hj5 : j < 100000 := by have := hn.out; omega
      go_wp2
      have hlast := Lib.hid (show (wr.setCell ⟨g, j, none⟩ (.int .u8 a1)).rowIs g 5 n (fun q => .int .u8 (if q < j + 1 then a1 else 0)) ∧ Below w.heap.size w (wr.setCell ⟨g, j, none⟩ (.int .u8 a1)) from
        ⟨(hh.out.1.set j _).congr (fun i _ => by by_cases e : i = j; · simp [e]
                                                 · simp [e]; by_cases f : i < j; · simp [f, show i < j + 1 by omega]
                                                   · simp [f, show ¬ i < j + 1 by omega]), hh.out.2.setCell (p := ⟨g, j, none⟩) hwg.out _⟩)
      have hnb := hn.out
      go_round
      case rel => exact ⟨j + 1, by omega, by go_num, hlast⟩
      case measure => simp [intOf]; omega
    · obtain rfl : j = n := by omega
      have hjb : decide ((j : Int) < 65537) = false := by have := hN.out; simp; omega
      have hrow := Lib.hid (hh.out.1.congr (g := fun _ => .int .u8 a1) (fun i hi => by simp [hi]))
      have hB := Lib.hid hh.out.2
      clear hh
      go_wp2_with fail
      refine (new_any _).mono ?_
      rintro e w3 ⟨⟨p, rfl, hs⟩, g3⟩
      have hgb0 := Nat.lt_of_lt_of_le hrow.out.lt g3.size
      have hwb0 := Nat.le_trans hB.out.size g3.size
      replace hrow := Lib.hid (hrow.out.of_block (Below.block g3 g hrow.out.lt))
      replace hB := Lib.hid (Below.trans hB.out (Below.mono g3 hB.out.size))
      go_wp2_with fail
      refine (vnewW_any _ hs).mono ?_
      rintro e w4 ⟨b, rfl, h, g4⟩
      replace hrow := Lib.hid (hrow.out.of_block (Below.block g4 g hrow.out.lt))
      replace hB := Lib.hid (Below.trans hB.out (Below.mono g4 hB.out.size))
      have hwb := Lib.hid (show w.heap.size ≤ w3.heap.size from hwb0)
      have hgb := Lib.hid (show g < w3.heap.size from hgb0)
      generalize w3.heap.size = base at *
      have hset : ∀ W, Grew w4 W → Calls Tryz.prog 21 #[.pointer (some ⟨b, 0, none⟩), nmV clockN, .string (bstr j a1)] W fun e w' => e = .returned (.int .i64 5) ∧ IsW base w' (some ⟨b, 0, none⟩) .nil [] [] [] ∧ Below base w4 w' := fun W hG => by
        have hv := set_any clockN (bstr j a1) (Nat.zero_le _) (Nat.zero_le _) (by rw [bstr_size]; have := hn.out; unfold maxLen; omega) W (h.grew hG) (by decide)
        have hE : callE ⟨clockN, bstr j a1, false⟩ = 5 := by have := hn.out; simp only [callE, k_ch, bstr_size]; simp; omega
        simp only [callL, callM, hE] at hv
        refine hv.mono ?_
        rintro e w' ⟨rfl, h1, h2⟩
        exact ⟨rfl, by simpa [putM] using h1, (Below.mono hG h.b4).trans h2⟩
      clear hs h
      go_wp2_with fail
      refine wp_region_chain 4 [] [5] [F12 base w4 b [], F12 base w4 b []] [Fx (.pointer (some ⟨b, 0, none⟩)), Fx (nmV clockN), Fx (.slice (some ⟨g, 0, none⟩) j j), Fx (.string (bstr j a1)), Fx (.int .i64 (5)), Fx (.int .i64 (5))] (by kernel_rfl) (by kernel_rfl) (by simp only [AllStable, Fx.stable, Any.stable, and_self]) ⟨?_, ?_, ?_, ?_, ?_, ?_, trivial⟩ ?_
      · -- 0: move t8
        intro a' W hG hd hΦ h0 K hK
        have e8 : a'.tmps[8]? = some (.pointer (some ⟨b, 0, none⟩)) := h0 8 (by kernel_rfl)
        clear hd hΦ h0
        go_simp
        exact hK _ _ (Below.refl _ _) rfl
      · -- 1: call F22{replevin/object.OfClock}()
        intro a' W hG hd hΦ h0 K hK
        clear hd hΦ h0
        go_simp
        refine (clock_any _).mono ?_
        rintro e w' ⟨rfl, hg⟩
        exact hK _ _ hg rfl
      · -- 2: move t6
        intro a' W hG hd hΦ h0 K hK
        have e6 : a'.tmps[6]? = some (.slice (some ⟨g, 0, none⟩) j j) := h0 6 (by kernel_rfl)
        clear hd hΦ h0
        go_simp
        exact hK _ _ (Below.refl _ _) rfl
      · -- 3: convert 23, 9, t32
        intro a' W hG hd hΦ h0 K hK
        have e32 : a'.tmps[32]? = some (.slice (some ⟨g, 0, none⟩) j j) := fx (W := W) (hΦ 2 32 (by kernel_rfl) (by kernel_rfl))
        have hcv := conv_run (hrow.out.of_block (Below.block hG g hrow.out.lt))
        clear hd hΦ h0
        go_simp
        exact hK _ _ (Below.refl _ _) rfl
      · -- 4: call F21{(*replevin/view.View).Set}(t30, t31, t33)
        intro a' W hG hd hΦ h0 K hK
        have e30 : a'.tmps[30]? = some (.pointer (some ⟨b, 0, none⟩)) := fx (W := W) (hΦ 0 30 (by kernel_rfl) (by kernel_rfl))
        have e31 : a'.tmps[31]? = some (nmV clockN) := fx (W := W) (hΦ 1 31 (by kernel_rfl) (by kernel_rfl))
        have e33 : a'.tmps[33]? = some (.string (bstr j a1)) := fx (W := W) (hΦ 3 33 (by kernel_rfl) (by kernel_rfl))
        clear hd hΦ h0
        go_simp
        refine (hset W hG).mono ?_
        rintro e w' ⟨rfl, h', hb⟩
        exact hK _ _ (show F12 base w4 b [] w' from ⟨h', hb⟩) rfl
      · -- 5: assign t34
        intro a' W hF hd hΦ hL h0 K hK
        have e34 : a'.tmps[34]? = some (.int .i64 (5)) := fx (W := W) (hL 4 34 (by decide) (by decide) (by kernel_rfl) (by kernel_rfl))
        clear hd hΦ hL h0
        go_simp
        exact hK _ hF rfl
      intro W hF
      simp only [FinG, List.map, soft, Fx, Any, forall_eq, true_implies, exists_const, exists_eq]
      obtain ⟨h, hb⟩ : F12 base w4 b [] W := hF
      intros
      go_simp
      replace hrow := Lib.hid (hrow.out.of_block (Below.block hb g (Nat.lt_of_lt_of_le hgb.out (Nat.le_refl _))))
      replace hB := Lib.hid (Below.trans hB.out (Below.mono hb hwb.out))
      replace h := Lib.hid h
      clear hb hset
      go_wp2_with fail
      refine (clock_any _).mono ?_
      rintro e w5 ⟨rfl, g5⟩
      replace hrow := Lib.hid (hrow.out.of_block (Below.block g5 g hrow.out.lt))
      replace hB := Lib.hid (Below.trans hB.out (Below.mono g5 hB.out.size))
      replace h := Lib.hid (h.out.grew g5)
      clear g5
      go_wp2_with fail
      have hv := vget_any clockN (Nat.zero_le _) (Nat.zero_le _) (fun e he => by cases he) w5 h.out
      rw [k_v6] at hv
      refine hv.mono ?_
      clear hv
      rintro e w6 ⟨rfl, h', hb⟩
      replace hrow := Lib.hid (hrow.out.of_block (Below.block hb g hgb.out))
      replace hB := Lib.hid (Below.trans hB.out (Below.mono hb hwb.out))
      replace h := Lib.hid h'
      clear h' hb
      have hcv := conv_run hrow.out
      go_wp2_with fail
      have hv := writes_any w6 h.out (by decide) (by intro c hc; cases hc)
      rw [k_s4] at hv
      refine hv.mono ?_
      clear hv
      rintro e w7 ⟨v, rfl, hl, g7⟩
      obtain ⟨a, k, rfl⟩ := shape0 hl
      replace hB := Lib.hid (Below.trans hB.out (Below.mono g7 hB.out.size))
      clear hl g7
      go_wp2
      go_ret
      exact ⟨rfl, hB.out⟩

theorem viewLong_walk (a0 : Bool) (a1 : Int) (w1 : (Lit.int .u8 a1).wf = true) (w : World) : Calls Tryz.prog 3 #[.bool a0, .int .u8 a1] w fun e w' => e = .returned (.bool true) ∧ Grew w w' := by
  cases a0
  · exact long_less a1 w1 w
  · exact long_more a1 w1 w

end Go.Proofs.YtkiojenkpbkjpaaGreatDoor
