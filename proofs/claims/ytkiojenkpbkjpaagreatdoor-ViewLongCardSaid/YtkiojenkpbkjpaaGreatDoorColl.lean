/- Walk: slices.AppendSeq of changes over the values of a map. -/
import Derived.Test.YtkiojenkpbkjpaaGreatDoorVals
import Derived.Test.YtkiojenkpbkjpaaGreatDoorViewC
set_option linter.unusedVariables false
set_option linter.unusedSimpArgs false
namespace Go.Proofs.YtkiojenkpbkjpaaGreatDoor
open Go Go.RowKit Go.Shelf RV
attribute [local go_sem] Oper.semAt_some
set_option maxRecDepth 100000 in
set_option maxHeartbeats 4000000 in
theorem appendSeq_in (n : Nat) (hn : 5 ≤ n) (B r : Nat) (m : List Ch) (hm : m.length ≤ 100000) (w : World) (hBn : w.cell? ⟨B, 0, none⟩ = some (.map (some r))) (hM : IsM w r m) :
    CallsIn Fence.wide n Tryz.prog 265 #[.slice none 0 0, .func (.func 209) #[] #[.pointer (some ⟨B, 0, none⟩)]] w fun e W' => ∃ v ys, e = .returned v ∧ ys.Perm m ∧ IsLO w.heap.size W' v ys ∧ Below w.heap.size w W' := by
  have h1 : 1 ≤ n := by omega
  have hrl : r < w.heap.size := by obtain ⟨es, c, hb, _⟩ := hM; exact (Array.getElem?_eq_some_iff.1 hb).1
  obtain ⟨i0, hi, hz0, hz1, hz2⟩ := info_parts info66
  refine callsIn_of_wp_marks Tryz.func265 rfl trivial ?_ rfl
  simp only [Tryz.ntmps265, List.size_toArray, List.length_cons, List.length_nil, Nat.reduceAdd, Nat.reduceSub, Array.replicate_succ, Array.replicate_zero, List.push_toArray, List.append_toArray, List.nil_append, List.cons_append]
  gi_wp2_with fail
  have b0 := Boxed.new w 36 (.slice none 0 0)
  have hg0 : Grew w (w.alloc (.cells #[.slice none 0 0] 36)) := Grew.alloc _ _
  refine wpIn_rangeFunc_ownH rfl h1 (gf := 209) (lb := #[.pointer (some ⟨B, 0, none⟩)]) rfl trivial (enters_of Tryz.func209 (by kernel_rfl) rfl)
    (values_stops (n - 1) (by omega) B r m _ (hg0.cell hBn) (hM.grew hg0)) KpV.trans (fun W l o o' hl hlo ho hw => KpV.putObj W l o o' (by simp at hl; omega) hlo hw) (Below.refl _ _) (fun _ => rfl)
    (fun pre W => (∃ v, Boxed W w.heap.size 36 v ∧ W.ownsRow w.heap.size 66 7 v pre.length (pre.flatMap chCells) ∧ True) ∧ Below w.heap.size w W)
    (fun _ _ _ => False)
    (OwnFrom.and (Own.from (holdsRow_own w.heap.size w.heap.size 36 66 7 (fun pre : List Ch => pre.length) (fun pre => pre.flatMap chCells) (fun _ _ => True)) _) (ownFrom_below (Nat.le_refl _) (by simp)))
    (fun _ _ _ _ _ hs _ _ => hs)
    ⟨⟨_, b0, World.ownsRow_nil _ _ _ _, trivial⟩, hg0⟩
    (fun x a' W => ∃ b, a' = { tmps := #[.slice none 0 0, .func (.func 209) #[] #[.pointer (some ⟨B, 0, none⟩)], .pointer (some ⟨w.heap.size, 0, none⟩), undef, .slice none 0 0, .pointer (some ⟨b, 0, none⟩), .func (.func 209) #[] #[.pointer (some ⟨B, 0, none⟩)], chV x, undef, undef, undef, undef, undef], defers := [] } ∧ w.heap.size < b ∧ W.heap[b]? = some (.cells (chCells x).toArray 66 (0, 0)))
    (fun x a' _ X Y row hs hg hr => by
      obtain ⟨b, ha, hb, hc⟩ := hs
      refine ⟨b, ha, hb, (hg.block b (Array.getElem?_eq_some_iff.1 hc).1 (fun e => ?_)).trans hc⟩
      obtain ⟨_, o, ho, hoc⟩ := hr b e.symm
      rw [hc] at ho; cases ho; cases hoc)
    ?assign ?body ?done ?stop
  case assign =>
    rintro l pre x W K ⟨⟨v, hv, hrow, -⟩, hB⟩ hK
    dsimp only
    have hlt := hv.lt
    gi_wp2
    exact hK _ _ (KeepsOthers.alloc W _ |>.from _) (KpV.of (KeepsOthers.alloc _ _)) ⟨⟨_, hv.alloc _, hrow.alloc _, trivial⟩, hB.alloc (by omega) _⟩ ⟨W.heap.size, rfl, hlt, heap_alloc_new _ _⟩
  case body =>
    rintro l pre x a' W _ _ ⟨⟨v, hv, hrow, -⟩, hB⟩ ⟨b, rfl, hb, hblk⟩ hlt
    have e0 : W.cell? ⟨b, 0, none⟩ = some (.int .i64 x.name.kind) := by simp [World.cell?, hblk]
    have e1 : W.cell? ⟨b, 1, none⟩ = some (.string x.name.owner) := by simp [World.cell?, hblk]
    have e2 : W.cell? ⟨b, 2, none⟩ = some (.int .i64 x.name.number) := by simp [World.cell?, hblk]
    have e3 : W.cell? ⟨b, 3, none⟩ = some (.int .i64 x.name.index) := by simp [World.cell?, hblk]
    have e4 : W.cell? ⟨b, 4, none⟩ = some (.string x.name.text) := by simp [World.cell?, hblk]
    have e5 : W.cell? ⟨b, 5, none⟩ = some (.string x.value) := by simp [World.cell?, hblk]
    have e6 : W.cell? ⟨b, 6, none⟩ = some (.bool x.absent) := by simp [World.cell?, hblk]
    have hc := hv.cell
    obtain ⟨va, vc, rfl⟩ := row_shape hrow
    have hbs := hB.size
    have hnew : ∀ j u, (chCells x)[j]? = some u → (W.alloc (.cells (chCells x).toArray 66)).cell? ((⟨W.heap.size, 0, none⟩ : Addr).add j) = some u := (World.ownsRow_lit W (chCells x).toArray 1 (base := 0) (e := 66) (size := 7) (Nat.zero_le _) (by unfold maxLen; omega) rfl).cells rfl
    have hone : ∀ u ∈ chCells x, u.oneCell' = true := fun u hu => flat_one [x] u (by simpa using hu)
    gi_wp2_with (gi_at_builtin; refine wpListIn_append_own _ rfl _ _ 36 rfl w.heap.size 66 i0 (chV zCh) 7 80 und36 hi hz0 hz1 hz2 rfl (by decide) _ _ _ rfl (hrow.alloc _) ⟨W.heap.size, 0, none⟩ 1 1 (chCells x) rfl rfl hnew hone (by unfold maxLen; omega) (by omega) (by simp; omega) ?_; intro v' w1 hown' hgrow _; obtain ⟨g', cap', rfl⟩ := ownsRow_succ hown'; obtain ⟨hv1, hv2, hr2, hk2, hb2⟩ := hv.appended (by decide) hrow (by omega) (Nat.le_refl _) hown' hgrow; have hd1 := hv1.cell; have hf1 := hv1.frozen)
    refine ⟨hk2.from _, KpV.of hk2, ⟨_, hv2, ?_, trivial⟩, hB.trans hb2⟩
    simpa [List.flatMap_append] using hr2
  case done =>
    rintro D ys W hD hys ⟨⟨v, hv, hrow, -⟩, hB⟩ hK
    have hc := hv.cell
    obtain ⟨va, vc, rfl⟩ := row_shape hrow
    gi_wp2
    refine ⟨by simp, .inl ⟨_, _, rfl, run_takeDeferred hK, ?_⟩⟩
    exact ⟨_, results_tmp rfl _ _ _, .slice va ys.length vc, ys, rfl, hys, ownsRow_putObj hrow _ hK rfl, hB.trans (belowK_b (w := w) (Nat.le_refl _) W D _ _ (by simp at hD; omega) hK rfl rfl)⟩
  case stop =>
    rintro D c pre W _ _ h _
    exact h.elim
end Go.Proofs.YtkiojenkpbkjpaaGreatDoor
