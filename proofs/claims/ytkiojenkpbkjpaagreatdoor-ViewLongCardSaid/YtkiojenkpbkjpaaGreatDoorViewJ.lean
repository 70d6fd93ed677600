/- Walk: view.New in new blocks; Mark. The names of the example. -/
import Derived.Test.YtkiojenkpbkjpaaGreatDoorViewI
import Derived.Test.YtkiojenkpbkjpaaGreatDoorViewO
import Derived.Test.YtkiojenkpbkjpaaGreatDoorTreeE
import Derived.Test.YtkiojenkpbkjpaaGreatDoorOf
import Derived.Test.YtkiojenkpbkjpaaGreatDoorEq66
set_option linter.unusedVariables false
set_option linter.unusedSimpArgs false
namespace Go.Proofs.YtkiojenkpbkjpaaGreatDoor
open Go Go.RowKit RV
set_option maxHeartbeats 2000000
theorem IsW.b4 {base : Nat} {w : World} {vp : Option Addr} {t : T} {m1 cl m2 : List Ch} (h : IsW base w vp t m1 cl m2) : base ≤ w.heap.size := by
  obtain ⟨b, sp, r1, r2, cv, w0, _, b1, b2, b3, b4, _⟩ := h; exact b4
theorem vnewW_any {sp : Option Addr} {t : T} (w : World) (hs : IsS w sp t) :
    Calls Tryz.prog 19 #[.pointer sp] w fun e w' => ∃ b, e = .returned (.pointer (some ⟨b, 0, none⟩)) ∧ IsW w.heap.size w' (some ⟨b, 0, none⟩) t [] [] [] ∧ Grew w w' := by
  have hs' := hs
  obtain ⟨b, q, rfl, hc, ht⟩ := hs
  have hmk := mk_run
  go_enter Tryz.func19, Tryz.ntmps19
  go_wp2
  go_ret
  have g1 : Grew w (w.alloc (.map #[] 0)) := Grew.alloc _ _
  have g2 : Grew (w.alloc (.map #[] 0)) ((w.alloc (.map #[] 0)).alloc (.map #[] 0)) := Grew.alloc _ _
  have g3 : Grew ((w.alloc (.map #[] 0)).alloc (.map #[] 0)) (((w.alloc (.map #[] 0)).alloc (.map #[] 0)).alloc (.cells #[.pointer (some ⟨b, 0, none⟩), .map (some w.heap.size), .slice none 0 0, .map (some (w.heap.size + 1))] 162)) := Grew.alloc _ _
  have hm1 := (IsM.new w).grew (g2.trans g3)
  have hm2 := (IsM.new (w.alloc (.map #[] 0))).grew g3
  rw [World.size_alloc] at hm2
  have hbk := heap_alloc_new ((w.alloc (.map #[] 0)).alloc (.map #[] 0)) (.cells #[.pointer (some ⟨b, 0, none⟩), .map (some w.heap.size), .slice none 0 0, .map (some (w.heap.size + 1))] 162)
  simp only [World.size_alloc] at hbk
  exact ⟨_, rfl, ⟨_, _, _, _, _, w, rfl, by omega, by omega, by omega, by simp; omega, hbk, Nat.le_refl _, (g1.trans g2).trans g3, hs', hm1, World.ownsRow_nil _ _ _ _, hm2, by omega⟩, (g1.trans g2).trans g3⟩
theorem markW_any {base : Nat} {vp : Option Addr} {t : T} {m1 cl m2 : List Ch} (w : World) (h : IsW base w vp t m1 cl m2) :
    Calls Tryz.prog 29 #[.pointer vp] w fun e w' => e = .returned (.int .i64 (cl.length : Nat)) ∧ w = w' := mark_any w h.isV

abbrev five : ByteArray := ⟨#[53]⟩
abbrev six : ByteArray := ⟨#[54]⟩
abbrev one : ByteArray := ⟨#[49]⟩
abbrev c5 : Ch := ⟨clockN, five, false⟩
abbrev c6 : Ch := ⟨clockN, six, false⟩
abbrev e1 : Ch := ⟨epochN, one, false⟩
abbrev z1 : Ch := ⟨epochN, ⟨#[]⟩, true⟩
def t0 : T := T.put clockN five .nil
theorem k_with : withE clockN five .nil = 0 := by kernel_rfl
theorem k_v1 : vval clockN t0 [] = (five, true) := by kernel_rfl
theorem k_r1 : vread clockN t0 [] [] = [c5] := by kernel_rfl
theorem k_e6 : callE c6 = 0 := by kernel_rfl
theorem k_l6 : callL c6 [] = [c6] := by kernel_rfl
theorem k_m6 : callM c6 [] = [c6] := by kernel_rfl
theorem k_v2 : vval clockN t0 [c6] = (six, true) := by kernel_rfl
theorem k_r2 : vread clockN t0 [c5] [c6] = [c5] := by kernel_rfl
theorem k_e1 : callE e1 = 0 := by kernel_rfl
theorem k_l1 : callL e1 [c6] = [c6, e1] := by kernel_rfl
theorem k_m1 : callM e1 [c6] = [c6, e1] := by kernel_rfl
theorem k_v3 : vval epochN t0 [c6, e1] = (one, true) := by kernel_rfl
theorem k_r3 : vread epochN t0 [c5] [c6, e1] = [c5] := by kernel_rfl
theorem k_s1 : sortM [c5] = [c5] := by kernel_rfl
theorem k_s2 : sortM [c6, e1] = [c6, e1] := by kernel_rfl
theorem k_b0 : backE 0 [c6, e1] = 0 := by kernel_rfl
theorem k_bl : backL 0 [c6, e1] = [] := by kernel_rfl
theorem k_bm : backM 0 [c6, e1] [c6, e1] = [] := by kernel_rfl
theorem k_v4 : vval epochN t0 [] = (⟨#[]⟩, false) := by kernel_rfl
theorem k_r4 : vread epochN t0 [c5] [] = [c5, z1] := by kernel_rfl
theorem k_s3 : sortM [c5, z1] = [c5, z1] := by kernel_rfl
theorem k_s4 : sortM [] = [] := rfl
theorem k_fine : Fine t0 := by
  have h : t0.list = [(clockN, five)] := by kernel_rfl
  intro e he
  rw [h] at he
  simp at he
  subst he
  exact Nat.zero_le _
end Go.Proofs.YtkiojenkpbkjpaaGreatDoor
