/- Walk: object.Compare. -/
import Derived.Test.YtkiojenkpbkjpaaGreatDoorLinC
set_option linter.unusedVariables false
set_option linter.unusedSimpArgs false
namespace Go.Proofs.YtkiojenkpbkjpaaGreatDoor
open Go Go.RowKit RV
set_option maxHeartbeats 1000000
theorem nameCmp_orL (a b : Nm) : orL [Lib.compareInt a.kind b.kind, linCmp (bl a.owner) (bl b.owner), Lib.compareInt a.number b.number, Lib.compareInt a.index b.index, Lib.compareBytes (bl a.text) (bl b.text)] = nameCmp a b := by
  unfold nameCmp
  simp only [orL, or2]
  split <;> rename_i h1
  · simp [h1]
  · split <;> rename_i h2
    · simp [h2]
    · split <;> rename_i h3
      · simp [h3]
      · split <;> rename_i h4
        · simp [h4]
        · simp at h1 h2 h3 h4; simp [h1, h2, h3, h4]; omega

set_option maxRecDepth 100000 in
theorem nameCmp_any (a b : Nm) (ha : a.owner.size ≤ maxLen) (hb : b.owner.size ≤ maxLen) (w : World) :
    Calls Tryz.prog 103 #[nmV a, nmV b] w fun e w' => e = .returned (.int .i64 (nameCmp a b)) ∧ Grew w w' := by
  go_enter Tryz.func103, Tryz.ntmps103
  go_wp2_with fail
  obtain ⟨w1, hw1⟩ : ∃ w1, w1 = ((w.alloc (.cells #[.int .i64 a.kind, .string a.owner, .int .i64 a.number, .int .i64 a.index, .string a.text] 32)).alloc (.cells #[.int .i64 b.kind, .string b.owner, .int .i64 b.number, .int .i64 b.index, .string b.text] 32)) := ⟨_, rfl⟩
  have hg1 : Grew w w1 := by rw [hw1]; exact (Grew.alloc _ _).trans (Grew.alloc _ _)
  have c0 : w1.cell? ⟨w.heap.size, 0, none⟩ = some (.int .i64 a.kind) := by rw [hw1]; simp [go_sem]
  have c1 : w1.cell? ⟨w.heap.size, 1, none⟩ = some (.string a.owner) := by rw [hw1]; simp [go_sem]
  have c2 : w1.cell? ⟨w.heap.size, 2, none⟩ = some (.int .i64 a.number) := by rw [hw1]; simp [go_sem]
  have c3 : w1.cell? ⟨w.heap.size, 3, none⟩ = some (.int .i64 a.index) := by rw [hw1]; simp [go_sem]
  have c4 : w1.cell? ⟨w.heap.size, 4, none⟩ = some (.string a.text) := by rw [hw1]; simp [go_sem]
  have d0 : w1.cell? ⟨w.heap.size + 1, 0, none⟩ = some (.int .i64 b.kind) := by rw [hw1]; simp [go_sem]
  have d1 : w1.cell? ⟨w.heap.size + 1, 1, none⟩ = some (.string b.owner) := by rw [hw1]; simp [go_sem]
  have d2 : w1.cell? ⟨w.heap.size + 1, 2, none⟩ = some (.int .i64 b.number) := by rw [hw1]; simp [go_sem]
  have d3 : w1.cell? ⟨w.heap.size + 1, 3, none⟩ = some (.int .i64 b.index) := by rw [hw1]; simp [go_sem]
  have d4 : w1.cell? ⟨w.heap.size + 1, 4, none⟩ = some (.string b.text) := by rw [hw1]; simp [go_sem]
  rw [← hw1]
  clear hw1
  refine wp_region_grow [Fx (.pointer (some ⟨w.heap.size, 0, none⟩)), Fx (.int .i64 a.kind), Fx (.pointer (some ⟨(w.heap.size + 1), 0, none⟩)), Fx (.int .i64 b.kind), Fx (.int .i64 (Lib.compareInt a.kind b.kind)), Fx (.pointer (some ⟨w.heap.size, 1, none⟩)), Fx (.string a.owner), Fx (.pointer (some ⟨(w.heap.size + 1), 1, none⟩)), Fx (.string b.owner), Fx (.int .i64 (linCmp (bl a.owner) (bl b.owner))), Fx (.pointer (some ⟨w.heap.size, 2, none⟩)), Fx (.int .i64 a.number), Fx (.pointer (some ⟨(w.heap.size + 1), 2, none⟩)), Fx (.int .i64 b.number), Fx (.int .i64 (Lib.compareInt a.number b.number)), Fx (.pointer (some ⟨w.heap.size, 3, none⟩)), Fx (.int .i64 a.index), Fx (.pointer (some ⟨(w.heap.size + 1), 3, none⟩)), Fx (.int .i64 b.index), Fx (.int .i64 (Lib.compareInt a.index b.index)), Fx (.pointer (some ⟨w.heap.size, 4, none⟩)), Fx (.string a.text), Fx (.pointer (some ⟨(w.heap.size + 1), 4, none⟩)), Fx (.string b.text), Fx (.int .i64 (Lib.compareBytes (bl a.text) (bl b.text))), SLI [Lib.compareInt a.kind b.kind, linCmp (bl a.owner) (bl b.owner), Lib.compareInt a.number b.number, Lib.compareInt a.index b.index, Lib.compareBytes (bl a.text) (bl b.text)], Fx (.int .i64 (orL [Lib.compareInt a.kind b.kind, linCmp (bl a.owner) (bl b.owner), Lib.compareInt a.number b.number, Lib.compareInt a.index b.index, Lib.compareBytes (bl a.text) (bl b.text)])), Fx (.int .i64 (orL [Lib.compareInt a.kind b.kind, linCmp (bl a.owner) (bl b.owner), Lib.compareInt a.number b.number, Lib.compareInt a.index b.index, Lib.compareBytes (bl a.text) (bl b.text)]))] (by kernel_rfl) (by kernel_rfl) (by simp only [AllStable, Fx.stable, Any.stable, SLI.stable, and_self]) ⟨?_, ?_, ?_, ?_, ?_, ?_, ?_, ?_, ?_, ?_, ?_, ?_, ?_, ?_, ?_, ?_, ?_, ?_, ?_, ?_, ?_, ?_, ?_, ?_, ?_, ?_, ?_, ?_, trivial⟩ ?_
  · -- 0: fieldAddr 32, t2, 0
    intro a' W hG hd hΦ h0 K hK
    have e2 : a'.tmps[2]? = some (.pointer (some ⟨w.heap.size, 0, none⟩)) := h0 2 (by kernel_rfl)
    clear hd hΦ h0
    go_simp
    exact hK _ _ (Below.refl _ _) rfl
  · -- 1: load 3, t5
    intro a' W hG hd hΦ h0 K hK
    have e5 : a'.tmps[5]? = some (.pointer (some ⟨w.heap.size, 0, none⟩)) := fx (W := W) (hΦ 0 5 (by kernel_rfl) (by kernel_rfl))
    have c0 := hG.cell c0
    clear hd hΦ h0
    go_simp
    exact hK _ _ (Below.refl _ _) rfl
  · -- 2: fieldAddr 32, t3, 0
    intro a' W hG hd hΦ h0 K hK
    have e3 : a'.tmps[3]? = some (.pointer (some ⟨(w.heap.size + 1), 0, none⟩)) := h0 3 (by kernel_rfl)
    clear hd hΦ h0
    go_simp
    exact hK _ _ (Below.refl _ _) rfl
  · -- 3: load 3, t7
    intro a' W hG hd hΦ h0 K hK
    have e7 : a'.tmps[7]? = some (.pointer (some ⟨(w.heap.size + 1), 0, none⟩)) := fx (W := W) (hΦ 2 7 (by kernel_rfl) (by kernel_rfl))
    have d0 := hG.cell d0
    clear hd hΦ h0
    go_simp
    exact hK _ _ (Below.refl _ _) rfl
  · -- 4: call F143{cmp.Compare[int]}(t6, t8)
    intro a' W hG hd hΦ h0 K hK
    have e6 : a'.tmps[6]? = some (.int .i64 a.kind) := fx (W := W) (hΦ 1 6 (by kernel_rfl) (by kernel_rfl))
    have e8 : a'.tmps[8]? = some (.int .i64 b.kind) := fx (W := W) (hΦ 3 8 (by kernel_rfl) (by kernel_rfl))
    clear hd hΦ h0
    go_simp
    refine (Tryz.cmp_Compare_int _ _ _).mono ?_
    rintro e w' ⟨rfl, rfl⟩
    exact hK _ _ (Below.refl _ _) rfl
  · -- 5: fieldAddr 32, t2, 1
    intro a' W hG hd hΦ h0 K hK
    have e2 : a'.tmps[2]? = some (.pointer (some ⟨w.heap.size, 0, none⟩)) := h0 2 (by kernel_rfl)
    clear hd hΦ h0
    go_simp
    exact hK _ _ (Below.refl _ _) rfl
  · -- 6: load 30, t10
    intro a' W hG hd hΦ h0 K hK
    have e10 : a'.tmps[10]? = some (.pointer (some ⟨w.heap.size, 1, none⟩)) := fx (W := W) (hΦ 5 10 (by kernel_rfl) (by kernel_rfl))
    have c1 := hG.cell c1
    clear hd hΦ h0
    go_simp
    exact hK _ _ (Below.refl _ _) rfl
  · -- 7: fieldAddr 32, t3, 1
    intro a' W hG hd hΦ h0 K hK
    have e3 : a'.tmps[3]? = some (.pointer (some ⟨(w.heap.size + 1), 0, none⟩)) := h0 3 (by kernel_rfl)
    clear hd hΦ h0
    go_simp
    exact hK _ _ (Below.refl _ _) rfl
  · -- 8: load 30, t12
    intro a' W hG hd hΦ h0 K hK
    have e12 : a'.tmps[12]? = some (.pointer (some ⟨(w.heap.size + 1), 1, none⟩)) := fx (W := W) (hΦ 7 12 (by kernel_rfl) (by kernel_rfl))
    have d1 := hG.cell d1
    clear hd hΦ h0
    go_simp
    exact hK _ _ (Below.refl _ _) rfl
  · -- 9: call F164{replevin/lineage.Compare}(t11, t13)
    intro a' W hG hd hΦ h0 K hK
    have e11 : a'.tmps[11]? = some (.string a.owner) := fx (W := W) (hΦ 6 11 (by kernel_rfl) (by kernel_rfl))
    have e13 : a'.tmps[13]? = some (.string b.owner) := fx (W := W) (hΦ 8 13 (by kernel_rfl) (by kernel_rfl))
    clear hd hΦ h0
    go_simp
    refine (linCompare_any _ _ ha hb _).mono ?_
    rintro e w' ⟨rfl, hg⟩
    exact hK _ _ hg rfl
  · -- 10: fieldAddr 32, t2, 2
    intro a' W hG hd hΦ h0 K hK
    have e2 : a'.tmps[2]? = some (.pointer (some ⟨w.heap.size, 0, none⟩)) := h0 2 (by kernel_rfl)
    clear hd hΦ h0
    go_simp
    exact hK _ _ (Below.refl _ _) rfl
  · -- 11: load 3, t15
    intro a' W hG hd hΦ h0 K hK
    have e15 : a'.tmps[15]? = some (.pointer (some ⟨w.heap.size, 2, none⟩)) := fx (W := W) (hΦ 10 15 (by kernel_rfl) (by kernel_rfl))
    have c2 := hG.cell c2
    clear hd hΦ h0
    go_simp
    exact hK _ _ (Below.refl _ _) rfl
  · -- 12: fieldAddr 32, t3, 2
    intro a' W hG hd hΦ h0 K hK
    have e3 : a'.tmps[3]? = some (.pointer (some ⟨(w.heap.size + 1), 0, none⟩)) := h0 3 (by kernel_rfl)
    clear hd hΦ h0
    go_simp
    exact hK _ _ (Below.refl _ _) rfl
  · -- 13: load 3, t17
    intro a' W hG hd hΦ h0 K hK
    have e17 : a'.tmps[17]? = some (.pointer (some ⟨(w.heap.size + 1), 2, none⟩)) := fx (W := W) (hΦ 12 17 (by kernel_rfl) (by kernel_rfl))
    have d2 := hG.cell d2
    clear hd hΦ h0
    go_simp
    exact hK _ _ (Below.refl _ _) rfl
  · -- 14: call F143{cmp.Compare[int]}(t16, t18)
    intro a' W hG hd hΦ h0 K hK
    have e16 : a'.tmps[16]? = some (.int .i64 a.number) := fx (W := W) (hΦ 11 16 (by kernel_rfl) (by kernel_rfl))
    have e18 : a'.tmps[18]? = some (.int .i64 b.number) := fx (W := W) (hΦ 13 18 (by kernel_rfl) (by kernel_rfl))
    clear hd hΦ h0
    go_simp
    refine (Tryz.cmp_Compare_int _ _ _).mono ?_
    rintro e w' ⟨rfl, rfl⟩
    exact hK _ _ (Below.refl _ _) rfl
  · -- 15: fieldAddr 32, t2, 3
    intro a' W hG hd hΦ h0 K hK
    have e2 : a'.tmps[2]? = some (.pointer (some ⟨w.heap.size, 0, none⟩)) := h0 2 (by kernel_rfl)
    clear hd hΦ h0
    go_simp
    exact hK _ _ (Below.refl _ _) rfl
  · -- 16: load 3, t20
    intro a' W hG hd hΦ h0 K hK
    have e20 : a'.tmps[20]? = some (.pointer (some ⟨w.heap.size, 3, none⟩)) := fx (W := W) (hΦ 15 20 (by kernel_rfl) (by kernel_rfl))
    have c3 := hG.cell c3
    clear hd hΦ h0
    go_simp
    exact hK _ _ (Below.refl _ _) rfl
  · -- 17: fieldAddr 32, t3, 3
    intro a' W hG hd hΦ h0 K hK
    have e3 : a'.tmps[3]? = some (.pointer (some ⟨(w.heap.size + 1), 0, none⟩)) := h0 3 (by kernel_rfl)
    clear hd hΦ h0
    go_simp
    exact hK _ _ (Below.refl _ _) rfl
  · -- 18: load 3, t22
    intro a' W hG hd hΦ h0 K hK
    have e22 : a'.tmps[22]? = some (.pointer (some ⟨(w.heap.size + 1), 3, none⟩)) := fx (W := W) (hΦ 17 22 (by kernel_rfl) (by kernel_rfl))
    have d3 := hG.cell d3
    clear hd hΦ h0
    go_simp
    exact hK _ _ (Below.refl _ _) rfl
  · -- 19: call F143{cmp.Compare[int]}(t21, t23)
    intro a' W hG hd hΦ h0 K hK
    have e21 : a'.tmps[21]? = some (.int .i64 a.index) := fx (W := W) (hΦ 16 21 (by kernel_rfl) (by kernel_rfl))
    have e23 : a'.tmps[23]? = some (.int .i64 b.index) := fx (W := W) (hΦ 18 23 (by kernel_rfl) (by kernel_rfl))
    clear hd hΦ h0
    go_simp
    refine (Tryz.cmp_Compare_int _ _ _).mono ?_
    rintro e w' ⟨rfl, rfl⟩
    exact hK _ _ (Below.refl _ _) rfl
  · -- 20: fieldAddr 32, t2, 4
    intro a' W hG hd hΦ h0 K hK
    have e2 : a'.tmps[2]? = some (.pointer (some ⟨w.heap.size, 0, none⟩)) := h0 2 (by kernel_rfl)
    clear hd hΦ h0
    go_simp
    exact hK _ _ (Below.refl _ _) rfl
  · -- 21: load 9, t25
    intro a' W hG hd hΦ h0 K hK
    have e25 : a'.tmps[25]? = some (.pointer (some ⟨w.heap.size, 4, none⟩)) := fx (W := W) (hΦ 20 25 (by kernel_rfl) (by kernel_rfl))
    have c4 := hG.cell c4
    clear hd hΦ h0
    go_simp
    exact hK _ _ (Below.refl _ _) rfl
  · -- 22: fieldAddr 32, t3, 4
    intro a' W hG hd hΦ h0 K hK
    have e3 : a'.tmps[3]? = some (.pointer (some ⟨(w.heap.size + 1), 0, none⟩)) := h0 3 (by kernel_rfl)
    clear hd hΦ h0
    go_simp
    exact hK _ _ (Below.refl _ _) rfl
  · -- 23: load 9, t27
    intro a' W hG hd hΦ h0 K hK
    have e27 : a'.tmps[27]? = some (.pointer (some ⟨(w.heap.size + 1), 4, none⟩)) := fx (W := W) (hΦ 22 27 (by kernel_rfl) (by kernel_rfl))
    have d4 := hG.cell d4
    clear hd hΦ h0
    go_simp
    exact hK _ _ (Below.refl _ _) rfl
  · -- 24: call F169{strings.Compare}(t26, t28)
    intro a' W hG hd hΦ h0 K hK
    have e26 : a'.tmps[26]? = some (.string a.text) := fx (W := W) (hΦ 21 26 (by kernel_rfl) (by kernel_rfl))
    have e28 : a'.tmps[28]? = some (.string b.text) := fx (W := W) (hΦ 23 28 (by kernel_rfl) (by kernel_rfl))
    clear hd hΦ h0
    go_simp
    refine (Tryz.strings_Compare _ _ _).mono ?_
    rintro e w' ⟨rfl, rfl⟩
    exact hK _ _ (Below.refl _ _) rfl
  · -- 25: buildSlice 102, 5, [<0, t9>, <1, t14>, <2, t19>, <3, t24>, <4, t29>]
    intro a' W hG hd hΦ h0 K hK
    have e9 : a'.tmps[9]? = some (.int .i64 (Lib.compareInt a.kind b.kind)) := fx (W := W) (hΦ 4 9 (by kernel_rfl) (by kernel_rfl))
    have e14 : a'.tmps[14]? = some (.int .i64 (linCmp (bl a.owner) (bl b.owner))) := fx (W := W) (hΦ 9 14 (by kernel_rfl) (by kernel_rfl))
    have e19 : a'.tmps[19]? = some (.int .i64 (Lib.compareInt a.number b.number)) := fx (W := W) (hΦ 14 19 (by kernel_rfl) (by kernel_rfl))
    have e24 : a'.tmps[24]? = some (.int .i64 (Lib.compareInt a.index b.index)) := fx (W := W) (hΦ 19 24 (by kernel_rfl) (by kernel_rfl))
    have e29 : a'.tmps[29]? = some (.int .i64 (Lib.compareBytes (bl a.text) (bl b.text))) := fx (W := W) (hΦ 24 29 (by kernel_rfl) (by kernel_rfl))
    clear hd hΦ h0
    go_simp
    exact hK _ _ (Grew.alloc _ _) (SLI.five _ _ _ _ _ _)
  · -- 26: call F142{cmp.Or[int]}(t30)
    intro a' W hG hd hΦ h0 K hK
    obtain ⟨_, e30, b30, k30, rfl, hs30⟩ := hΦ 25 30 (by kernel_rfl) (by kernel_rfl)
    clear hd hΦ h0
    go_simp
    refine (or_any _ (by simp) hs30).mono ?_
    rintro e w' ⟨rfl, rfl⟩
    exact hK _ _ (Below.refl _ _) rfl
  · -- 27: assign t31
    intro a' W hG hd hΦ h0 K hK
    have e31 : a'.tmps[31]? = some (.int .i64 (orL [Lib.compareInt a.kind b.kind, linCmp (bl a.owner) (bl b.owner), Lib.compareInt a.number b.number, Lib.compareInt a.index b.index, Lib.compareBytes (bl a.text) (bl b.text)])) := fx (W := W) (hΦ 26 31 (by kernel_rfl) (by kernel_rfl))
    clear hd hΦ h0
    go_simp
    exact hK _ _ (Below.refl _ _) rfl
  intro W hG
  simp only [FinG, Fx, Any, forall_eq, true_implies]
  intro v25 hv25
  go_simp
  go_wp2
  go_ret
  exact ⟨by rw [nameCmp_orL]; rfl, hg1.trans hG⟩
end Go.Proofs.YtkiojenkpbkjpaaGreatDoor
