/- Walk: lineage.parse. -/
import Derived.Test.YtkiojenkpbkjpaaGreatDoorLinW
set_option linter.unusedVariables false
set_option linter.unusedSimpArgs false
namespace Go.Proofs.YtkiojenkpbkjpaaGreatDoor
open Go Go.RowKit Go.Shelf RV
attribute [local go_sem] Oper.semAt_some

theorem parts_in (n : Nat) (s : ByteArray) (w : World) :
    CallsIn Fence.wide n Tryz.prog 260 #[.string s] w fun e w' => e = .returned (.func (.func 289) #[] #[.pointer (some ⟨w.heap.size, 0, none⟩)]) ∧ w' = w.alloc (.cells #[.string s] 9) := by
  refine callsIn_of_wp Tryz.func260 rfl trivial ?_ rfl
  simp only [Tryz.ntmps260, List.size_toArray, List.length_cons, List.length_nil, Nat.reduceAdd, Nat.reduceSub, Array.replicate_succ, Array.replicate_zero, List.push_toArray, List.append_toArray, List.nil_append, List.cons_append]
  gi_wp2
  go_ret
  exact ⟨rfl, rfl⟩

theorem block_below {n B : Nat} {A C : World} {o : Obj} (h : Below n A C) (hB : B < n) (ho : A.heap[B]? = some o) : C.heap[B]? = some o := (h.block B hB).trans ho

theorem parts_stops (n : Nat) (hn : 3 ≤ n) (B : Nat) (s : ByteArray) (hs : s.size ≤ maxLen) (w : World) (hB : w.heap[B]? = some (.cells #[.string s] 9 (0, 0))) :
    SeqStopsK Fence.wide n Tryz.prog 289 #[.pointer (some ⟨B, 0, none⟩)] encP KpL (fun ys => ys = partsOf s) (fun pre => pre <+: partsOf s) 9 w := fun l J Jx W hW hJ _ hY h0 =>
  parts1_in n hn l B s hs J Jx W ((hW.block B (Array.getElem?_eq_some_iff.1 hB).1).trans hB) hJ hY h0

theorem KpL.putObj (W : World) (l : Nat) (o o' : Obj) (hl : W.heap[l]? = some o) (ho : o.isCells = false) : KpL W (W.putObj l o') := by
  intro k c t f ht hk
  have hne : k ≠ l := fun e => by subst e; rw [hl] at hk; cases hk; cases ho
  exact ((grownBy_putObj' W l o').block k (Array.getElem?_eq_some_iff.1 hk).1 (by simpa using hne)).trans hk
theorem info3 : (Tryz.prog.info? 3).map (fun i => (i.zero, i.size, i.bytes)) = some (some (.int .i64 0), 1, 8) := by kernel_rfl
theorem und102 : Tryz.prog.underlying 102 = some (.slice 3) := by kernel_rfl
theorem results_cells3 : True := trivial
theorem row_shape {w : World} {base : Nat} {e : TypeId} {size : Nat} {v : Value} {n : Nat} {xs : List Value} (h : w.ownsRow base e size v n xs) : ∃ a c, v = .slice a n c := by
  rcases h.2 with ⟨rfl, rfl⟩ | ⟨g, cap, cur, rfl, _⟩
  · exact ⟨none, 0, rfl⟩
  · exact ⟨_, cap, rfl⟩
def ordV (p : Part) : Value := .int .i64 p.ord

/-- The result of parse: the ordinals, or an error. -/
def ParseR (base : Nat) (s : ByteArray) (v : Value) (W : World) : Prop :=
  ∃ (sl : Value) (at_ e : Int), v = .tuple #[sl, .int .i64 at_, .int .i64 e] ∧
    ((∃ xs, ords (bl s) = some xs ∧ e = 0 ∧ W.ownsRow base 3 1 sl xs.length (xs.map (Value.int .i64))) ∨ (ords (bl s) = none ∧ e ≠ 0 ∧ sl = .slice none 0 0))

theorem okParts_snoc_false (l : List Part) (x : Part) (h : x.e ≠ 0) : okParts (l ++ [x]) = false := by
  have : (x.e == 0) = false := by simpa using h
  simp [okParts, List.all_append, this]
theorem okParts_snoc_true (l : List Part) (x : Part) (hl : okParts l = true) (h : x.e = 0) : okParts (l ++ [x]) = true := by
  have hl' := hl
  unfold okParts at hl' ⊢
  rw [List.all_append, hl']
  simp [h]
theorem okParts_prefix {pre l : List Part} (h : pre <+: l) (hk : okParts pre = false) : okParts l = false := by
  obtain ⟨t, rfl⟩ := h
  unfold okParts at hk ⊢
  rw [List.all_append, hk]; rfl
theorem row_apart {W : World} {base e size k B : Nat} {v : Value} {xs : List Value} (h : W.ownsRow base e size v k xs) (hB : B < base) : v.ownBlock = none ∨ v.ownBlock ≠ some B := by
  by_cases hv : v.ownBlock = some B
  · have := (h.lt B hv).1; omega
  · exact .inr hv
theorem Boxed.drew' {W : World} {B : Nat} {t : TypeId} {v : Value} (h : Boxed W B t v) : Boxed W.drew B t v := h
theorem Below.drew' {n : Nat} {A W : World} (h : Below n A W) : Below n A W.drew := h.drew
theorem row_base {W : World} {base base' : Nat} {e : TypeId} {size : Nat} {v : Value} {k : Nat} {xs : List Value} (h : W.ownsRow base e size v k xs) (hb : base' ≤ base) : W.ownsRow base' e size v k xs := by
  refine ⟨h.1, ?_⟩
  rcases h.2 with h1 | ⟨g, cap, cur, rfl, hg, rest⟩
  · exact .inl h1
  · exact .inr ⟨g, cap, cur, rfl, by omega, rest⟩
theorem KpL.appended {W w1 : World} {tmp : Obj} {base size k : Nat} {v : Value} {xs : List Value} (hrow : W.ownsRow base 3 size v k xs) (hg : (W.alloc tmp).grownBy w1 v.ownBlock) : KpL W w1 := by
  intro j c t f ht hj
  have hlt := (Array.getElem?_eq_some_iff.1 hj).1
  refine (hg.block j (by simp; omega) (fun e' => ?_)).trans ((Below.heap_alloc W tmp j hlt).trans hj)
  rcases hrow.2 with ⟨rfl, _⟩ | ⟨g, cap, cur, rfl, _, hgb, _⟩
  · simp [Value.ownBlock] at e'
  · simp [Value.ownBlock] at e'
    subst e'
    rw [hj] at hgb; cases hgb
    simp at ht
theorem KpL.set {W W' : World} {B : Nat} {t : TypeId} {v : Value} (h : KpL W W') (hb : Boxed W' B t v) (ht : t ≠ 357 ∧ t ≠ 9) (u : Value) : KpL W (W'.setCell ⟨B, 0, none⟩ u) := by
  intro j c t' f ht' hj
  have h' := h j c t' f ht' hj
  refine (heap_setCell_other W' ⟨B, 0, none⟩ j u (fun e => ?_)).trans h'
  simp at e
  subst e
  rw [show W'.heap[j]? = _ from hb] at h'
  cases h'
  rcases ht' with e | e <;> simp [e] at ht

set_option maxRecDepth 100000 in
set_option maxHeartbeats 4000000 in
theorem parse_in (n : Nat) (hn : 5 ≤ n) (s : ByteArray) (hs : s.size ≤ maxLen) (w : World) :
    CallsIn Fence.wide n Tryz.prog 195 #[.string s] w fun e W' => ∃ v, e = .returned v ∧ ParseR w.heap.size s v W' ∧ Below w.heap.size w W' := by
  have h1 : 1 ≤ n := by omega
  have hsl := hs
  unfold maxLen at hs
  obtain ⟨i0, hi, hz0, hz1, hz2⟩ := info_parts info3
  refine callsIn_of_wp_marks Tryz.func195 rfl trivial ?_ rfl
  simp only [Tryz.ntmps195, List.size_toArray, List.length_cons, List.length_nil, Nat.reduceAdd, Nat.reduceSub, Array.replicate_succ, Array.replicate_zero, List.push_toArray, List.append_toArray, List.nil_append, List.cons_append]
  gi_wp2_with fail
  first | refine ⟨trivial, fun _ => by omega, ?_⟩ | refine ⟨trivial, ?_⟩
  refine (parts_in (n - 1) _ _).mono ?_
  rintro e w' ⟨rfl, rfl⟩
  gi_wp2_with fail
  obtain ⟨wR, hwR⟩ : ∃ wR, wR = ((((w.alloc (.cells #[.slice none 0 0] 102)).alloc (.cells #[.int .i64 0] 3)).alloc (.cells #[.int .i64 0] 28)).alloc (.cells #[.slice none 0 0] 102)).alloc (.cells #[.string s] 9) := ⟨_, rfl⟩
  have hsz : wR.heap.size = w.heap.size + 1 + 1 + 1 + 1 + 1 := by rw [hwR]; simp
  have b2 : Boxed wR w.heap.size 102 (.slice none 0 0) := by rw [hwR]; exact (((((Boxed.new w 102 _).alloc _).alloc _).alloc _).alloc _)
  have b3 : Boxed wR (w.heap.size + 1) 3 (.int .i64 0) := by rw [hwR]; have := Boxed.new (w.alloc (.cells #[.slice none 0 0] 102)) 3 (.int .i64 0); rw [World.size_alloc] at this; exact (((this.alloc _).alloc _).alloc _)
  have b4 : Boxed wR (w.heap.size + 1 + 1) 28 (.int .i64 0) := by rw [hwR]; have := Boxed.new ((w.alloc (.cells #[.slice none 0 0] 102)).alloc (.cells #[.int .i64 0] 3)) 28 (.int .i64 0); simp only [World.size_alloc] at this; exact ((this.alloc _).alloc _)
  have b5 : Boxed wR (w.heap.size + 1 + 1 + 1) 102 (.slice none 0 0) := by rw [hwR]; have := Boxed.new (((w.alloc (.cells #[.slice none 0 0] 102)).alloc (.cells #[.int .i64 0] 3)).alloc (.cells #[.int .i64 0] 28)) 102 (.slice none 0 0); simp only [World.size_alloc] at this; exact this.alloc _
  have b6 : Boxed wR (w.heap.size + 1 + 1 + 1 + 1) 9 (.string s) := by rw [hwR]; have := Boxed.new ((((w.alloc (.cells #[.slice none 0 0] 102)).alloc (.cells #[.int .i64 0] 3)).alloc (.cells #[.int .i64 0] 28)).alloc (.cells #[.slice none 0 0] 102)) 9 (.string s); simp only [World.size_alloc] at this; exact this
  have hB0 : Below w.heap.size w wR := by rw [hwR]; exact (((((Below.refl _ w).alloc (Nat.le_refl _) _).alloc (by simp) _).alloc (by simp; omega) _).alloc (by simp; omega) _).alloc (by simp; omega) _
  rw [← hwR]
  clear hwR
  refine wpIn_rangeFunc_ownH rfl h1 (gf := 289) (lb := #[.pointer (some ⟨w.heap.size + 1 + 1 + 1 + 1, 0, none⟩)]) rfl trivial (enters_of Tryz.func289 (by kernel_rfl) rfl)
    (parts_stops (n - 1) (by omega) _ s hsl wR b6) KpL.trans (fun W l o o' _ hl ho _ => KpL.putObj W l o o' hl ho) (Below.refl _ _) (fun _ => rfl)
    (fun pre W => (∃ v, Boxed W (w.heap.size + 1 + 1 + 1) 102 v ∧ W.ownsRow (w.heap.size + 1 + 1 + 1) 3 1 v pre.length (pre.map ordV) ∧ okParts pre = true) ∧ Below (w.heap.size + 1 + 1 + 1) wR W)
    (fun c pre W => (c = .ret ∧ okParts pre = false ∧ ∃ a e : Int, e ≠ 0 ∧ Boxed W w.heap.size 102 (.slice none 0 0) ∧ Boxed W (w.heap.size + 1) 3 (.int .i64 a) ∧ Boxed W (w.heap.size + 1 + 1) 28 (.int .i64 e)) ∧ Below w.heap.size w W)
    (OwnFrom.and (Own.from (holdsRow_own (w.heap.size + 1 + 1 + 1) (w.heap.size + 1 + 1 + 1) 102 3 1 (fun pre => pre.length) (fun pre => pre.map ordV) (fun pre _ => okParts pre = true)) _) (ownFrom_below (by omega) (by omega)))
    (fun c => OwnFrom.and (fun pre X Y row hs hg hr => by
      obtain ⟨rfl, hk, a, e, he, c2, c3, c4⟩ := hs
      exact ⟨rfl, hk, a, e, he, c2.kept hg (fun e => by have := (hr _ e.symm).1; omega), c3.kept hg (fun e => by have := (hr _ e.symm).1; omega), c4.kept hg (fun e => by have := (hr _ e.symm).1; omega)⟩) (ownFrom_below (Nat.le_refl _) (by omega)))
    ⟨⟨_, b5, World.ownsRow_nil _ _ _ _, rfl⟩, Below.refl _ _⟩
    (fun x a' W => ∃ b, a' = { tmps := #[.string s, undef, .pointer (some ⟨w.heap.size, 0, none⟩), .pointer (some ⟨w.heap.size + 1, 0, none⟩), .pointer (some ⟨w.heap.size + 1 + 1, 0, none⟩), .pointer (some ⟨w.heap.size + 1 + 1 + 1, 0, none⟩), .pointer (some ⟨b, 0, none⟩), .string s, .func (.func 289) #[] #[.pointer (some ⟨w.heap.size + 1 + 1 + 1 + 1, 0, none⟩)], .agg #[.int .i64 x.ord, .int .i64 x.at_, .int .i64 x.e], undef, undef, undef, undef, undef, undef, undef, undef, undef, undef, undef, undef, undef], defers := [] } ∧ w.heap.size + 1 + 1 + 1 + 1 < b ∧ W.heap[b]? = some (.cells #[.int .i64 x.ord, .int .i64 x.at_, .int .i64 x.e] 357 (0, 0)))
    (fun x a' _ X Y row hs hg hr => by
      obtain ⟨b, ha, hb, hc⟩ := hs
      refine ⟨b, ha, hb, (hg.block b (Array.getElem?_eq_some_iff.1 hc).1 (fun e => ?_)).trans hc⟩
      obtain ⟨_, o, ho, hoc⟩ := hr b e.symm
      rw [hc] at ho; cases ho; cases hoc)
    ?assign ?body ?done ?stop
  case assign =>
    rintro l pre x W K ⟨⟨v, hv, hrow, hok⟩, hB⟩ hK
    dsimp only [encP]
    gi_wp2
    have hs1 := hB.size
    exact hK _ _ (KeepsOthers.alloc W _ |>.from _) (KpL.of_below ((Below.refl _ W).alloc (Nat.le_refl _) _)) ⟨⟨_, hv.alloc _, hrow.alloc _, hok⟩, hB.alloc (by omega) _⟩ ⟨W.heap.size, rfl, by omega, heap_alloc_new _ _⟩
  case body =>
    rintro l pre x a' W _ _ ⟨⟨v, hv, hrow, hok⟩, hB⟩ ⟨b, rfl, hb, hblk⟩ hlt
    have hc0 : W.cell? ⟨b, 0, none⟩ = some (.int .i64 x.ord) := by simp [World.cell?, hblk]
    have hc1 : W.cell? ⟨b, 1, none⟩ = some (.int .i64 x.at_) := by simp [World.cell?, hblk]
    have hc2 : W.cell? ⟨b, 2, none⟩ = some (.int .i64 x.e) := by simp [World.cell?, hblk]
    have hc := hv.cell
    have hWs : w.heap.size + 1 + 1 + 1 + 1 + 1 ≤ W.heap.size := by have := hB.size; omega
    obtain ⟨va, vc, rfl⟩ := row_shape hrow
    gi_wp2_with (gi_at_builtin; refine wpListIn_append_own _ rfl _ _ 102 rfl (w.heap.size + 1 + 1 + 1) 3 i0 (.int .i64 0) 1 8 und102 hi hz0 hz1 hz2 rfl (by decide) _ _ _ rfl (hrow.alloc _) ⟨W.heap.size, 0, none⟩ 1 1 [.int .i64 x.ord] rfl rfl (cell_one_new _ _ _) (by simp [Value.oneCell']) (by unfold maxLen; omega) (by omega) (by simp; omega) ?_; intro v' w1 hown' hgrow _; obtain ⟨g', cap', rfl⟩ := ownsRow_succ hown'; obtain ⟨hv1, hv2, hr2, hk2, hb2⟩ := hv.appended (by decide) hrow (by omega) (Nat.le_refl _) hown' hgrow; have hd1 := hv1.cell; have hf1 := hv1.frozen)
    · have d2 : Boxed W w.heap.size 102 (.slice none 0 0) := block_below hB (by omega) b2
      have d3 : Boxed W (w.heap.size + 1) 3 (.int .i64 0) := block_below hB (by omega) b3
      have d4 : Boxed W (w.heap.size + 1 + 1) 28 (.int .i64 0) := block_below hB (by omega) b4
      have d2c := d2.cell
      have d2f := d2.frozen
      have d3c := d3.cell
      have d3f := d3.frozen
      have d4c := d4.cell
      have d4f := d4.frozen
      have n2 : b ≠ w.heap.size := by omega
      have n3 : b ≠ w.heap.size + 1 := by omega
      have n4 : b ≠ w.heap.size + 1 + 1 := by omega
      have m2 : w.heap.size ≠ b := by omega
      have m3 : w.heap.size + 1 ≠ b := by omega
      have m4 : w.heap.size + 1 + 1 ≠ b := by omega
      have hx : x.e ≠ 0 := by simpa using ‹(x.e != 0) = true›
      have hBd : Below w.heap.size w W := hB0.trans (hB.mono (by omega))
      have hKd : KeepsOthers W W := KeepsOthers.refl W
      have hfin : KeepsOthers W (((W.setCell ⟨w.heap.size, 0, none⟩ (.slice none 0 0)).setCell ⟨w.heap.size + 1, 0, none⟩ (.int .i64 x.at_)).setCell ⟨w.heap.size + 1 + 1, 0, none⟩ (.int .i64 x.e)).drew ∧
          (okParts (pre ++ [x]) = false ∧ ∃ a e : Int, e ≠ 0 ∧ Boxed (((W.setCell ⟨w.heap.size, 0, none⟩ (.slice none 0 0)).setCell ⟨w.heap.size + 1, 0, none⟩ (.int .i64 x.at_)).setCell ⟨w.heap.size + 1 + 1, 0, none⟩ (.int .i64 x.e)).drew w.heap.size 102 (.slice none 0 0) ∧ Boxed (((W.setCell ⟨w.heap.size, 0, none⟩ (.slice none 0 0)).setCell ⟨w.heap.size + 1, 0, none⟩ (.int .i64 x.at_)).setCell ⟨w.heap.size + 1 + 1, 0, none⟩ (.int .i64 x.e)).drew (w.heap.size + 1) 3 (.int .i64 a) ∧ Boxed (((W.setCell ⟨w.heap.size, 0, none⟩ (.slice none 0 0)).setCell ⟨w.heap.size + 1, 0, none⟩ (.int .i64 x.at_)).setCell ⟨w.heap.size + 1 + 1, 0, none⟩ (.int .i64 x.e)).drew (w.heap.size + 1 + 1) 28 (.int .i64 e)) ∧ Below w.heap.size w (((W.setCell ⟨w.heap.size, 0, none⟩ (.slice none 0 0)).setCell ⟨w.heap.size + 1, 0, none⟩ (.int .i64 x.at_)).setCell ⟨w.heap.size + 1 + 1, 0, none⟩ (.int .i64 x.e)).drew := by
        refine ⟨(((KeepsOthers.setCell _ _ _).trans (KeepsOthers.setCell _ _ _)).trans (KeepsOthers.setCell _ _ _)).trans (KeepsOthers.drew _), ⟨okParts_snoc_false _ x hx, x.at_, x.e, hx, Boxed.drew' ?_, Boxed.drew' ?_, Boxed.drew' ?_⟩, Below.drew' ?_⟩
        · exact ((d2.set _).other (by omega) _).other (by omega) _
        · exact ((d3.other (by omega) _).set _).other (by omega) _
        · exact ((d4.other (by omega) _).other (by omega) _).set _
        · exact ((hBd.setCell (p := ⟨w.heap.size, 0, none⟩) (by simp) _).setCell (p := ⟨w.heap.size + 1, 0, none⟩) (by simp) _).setCell (p := ⟨w.heap.size + 1 + 1, 0, none⟩) (by simp; omega) _
      replace hfin := Lib.hid hfin
      gi_region
      all_goals gi_wp2
      all_goals exact ⟨KeepsOthers.from hfin.out.1 _, ⟨rfl, hfin.out.2.1⟩, hfin.out.2.2⟩
    · refine ⟨hk2.from _, (KpL.appended hrow hgrow).set hv1 ⟨by decide, by decide⟩ _, ⟨_, hv2, ?_, ?_⟩, hB.trans hb2⟩
      · simpa [ordV] using hr2
      · exact okParts_snoc_true _ x hok (by first | simpa using ‹(x.e != 0) = false› | simpa using ‹¬(x.e != 0) = true›)
  case done =>
    rintro D ys W hD rfl ⟨⟨v, hv, hrow, hok⟩, hB⟩ hK
    have hc := hv.cell
    obtain ⟨va, vc, rfl⟩ := row_shape hrow
    have d2 : Boxed W w.heap.size 102 (.slice none 0 0) := block_below hB (by omega) b2
    have d3 : Boxed W (w.heap.size + 1) 3 (.int .i64 0) := block_below hB (by omega) b3
    have d4 : Boxed W (w.heap.size + 1 + 1) 28 (.int .i64 0) := block_below hB (by omega) b4
    have d2c := d2.cell
    have d2f := d2.frozen
    have d3c := d3.cell
    have d3f := d3.frozen
    have d4c := d4.cell
    have d4f := d4.frozen
    gi_wp2
    have hK' := (((KeepsOthers.setCell W ⟨w.heap.size, 0, none⟩ (.slice va (partsOf s).length vc)).trans (KeepsOthers.setCell _ ⟨w.heap.size + 1, 0, none⟩ (.int .i64 0))).trans (KeepsOthers.setCell _ ⟨w.heap.size + 1 + 1, 0, none⟩ (.int .i64 0))).same D _ hK rfl
    have e2 := (((d2.set (.slice va (partsOf s).length vc)).other (B' := w.heap.size + 1) (by omega) (.int .i64 0)).other (B' := w.heap.size + 1 + 1) (by omega) (.int .i64 0)).kept (grownBy_putObj' _ D (.deferred none)) (by simp; omega)
    have e3 := (((d3.other (B' := w.heap.size) (by omega) (.slice va (partsOf s).length vc)).set (.int .i64 0)).other (B' := w.heap.size + 1 + 1) (by omega) (.int .i64 0)).kept (grownBy_putObj' _ D (.deferred none)) (by simp; omega)
    have e4 := (((d4.other (B' := w.heap.size) (by omega) (.slice va (partsOf s).length vc)).other (B' := w.heap.size + 1) (by omega) (.int .i64 0)).set (.int .i64 0)).kept (grownBy_putObj' _ D (.deferred none)) (by simp; omega)
    have e2c := e2.cell
    have e3c := e3.cell
    have e4c := e4.cell
    have hBB := (((hB0.trans (hB.mono (by omega))).setCell (p := ⟨w.heap.size, 0, none⟩) (by simp) (.slice va (partsOf s).length vc)).setCell (p := ⟨w.heap.size + 1, 0, none⟩) (by simp) (.int .i64 0)).setCell (p := ⟨w.heap.size + 1 + 1, 0, none⟩) (by simp; omega) (.int .i64 0)
    have hr4 := ownsRow_putObj (((hrow.kept (grownBy_setCell' W w.heap.size (.slice va (partsOf s).length vc)) (row_apart hrow (by omega))).kept (grownBy_setCell' _ (w.heap.size + 1) (.int .i64 0)) (row_apart hrow (by omega))).kept (grownBy_setCell' _ (w.heap.size + 1 + 1) (.int .i64 0)) (row_apart hrow (by omega))) (.deferred none) hK' rfl
    refine ⟨by simp, .inl ⟨_, _, rfl, run_takeDeferred hK', ?_⟩⟩
    refine ⟨.tuple #[.slice va (partsOf s).length vc, .int .i64 0, .int .i64 0], by simp [results, Tryz.f195, go_sem, e2c, e3c, e4c], _, rfl, ⟨_, _, _, rfl, .inl ⟨(partsOf s).map (·.ord), by rw [ords_parts, hok]; rfl, rfl, ?_⟩⟩, hBB.trans (belowK_b (w := w) (Nat.le_refl _) _ D _ _ (by omega) hK' rfl rfl)⟩
    have hr5 := row_base (base' := w.heap.size) hr4 (by omega)
    rw [show (partsOf s).map ordV = ((partsOf s).map (·.ord)).map (Value.int .i64) from by rw [List.map_map]; rfl] at hr5
    rw [List.length_map]
    exact hr5
  case stop =>
    rintro D c pre W hD hpre ⟨⟨rfl, hok, a, e, he, c2, c3, c4⟩, hB⟩ hK
    gi_wp2
    refine ⟨by simp, .inl ⟨_, _, rfl, run_takeDeferred hK, ?_⟩⟩
    have e2c := (c2.kept (grownBy_putObj' _ D (.deferred none)) (by simp; omega)).cell
    have e3c := (c3.kept (grownBy_putObj' _ D (.deferred none)) (by simp; omega)).cell
    have e4c := (c4.kept (grownBy_putObj' _ D (.deferred none)) (by simp; omega)).cell
    refine ⟨.tuple #[.slice none 0 0, .int .i64 a, .int .i64 e], by simp [results, Tryz.f195, go_sem, e2c, e3c, e4c], _, rfl, ⟨_, _, _, rfl, .inr ⟨?_, he, rfl⟩⟩, hB.trans (belowK_b (w := w) (Nat.le_refl _) W D _ _ (by omega) hK rfl rfl)⟩
    rw [ords_parts, okParts_prefix hpre hok]
    rfl
end Go.Proofs.YtkiojenkpbkjpaaGreatDoor
