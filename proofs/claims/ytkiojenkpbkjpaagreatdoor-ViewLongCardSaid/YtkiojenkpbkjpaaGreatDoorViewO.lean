/- Walks: slices.SortedFunc, view.sorted, Reads, Writes. -/
import Derived.Test.YtkiojenkpbkjpaaGreatDoorSort
set_option linter.unusedVariables false
set_option linter.unusedSimpArgs false
namespace Go.Proofs.YtkiojenkpbkjpaaGreatDoor
open Go Go.RowKit RV
set_option maxHeartbeats 2000000

theorem sortedFunc_any (B r : Nat) (m : List Ch) (hm : m.length ≤ 100000) (hn : ∀ c ∈ m, c.name.owner.size ≤ maxLen) (w : World) (hB : w.cell? ⟨B, 0, none⟩ = some (.map (some r))) (hM : IsM w r m) :
    Calls Tryz.prog 152 #[.func (.func 209) #[] #[.pointer (some ⟨B, 0, none⟩)], .func (.func 154) #[] #[]] w fun e w' => ∃ v, e = .returned v ∧ IsLO w.heap.size w' v (sortM m) ∧ Grew w w' := by
  have hnd : m.Pairwise fun a b => a.name ≠ b.name := by obtain ⟨_, _, _, _, _, _, h⟩ := hM; exact h
  have hc := fun W (h1 : W = w) => collect_any B r m hm W (by rw [h1]; exact hB) (by rw [h1]; exact hM)
  replace hnd := Lib.hid hnd
  replace hn := Lib.hid hn
  clear hM hB
  go_enter Tryz.func152, Tryz.ntmps152
  go_wp2_with fail
  refine (hc _ rfl).mono ?_
  clear hc
  rintro e w1 ⟨v, ys, rfl, hp, hl, hg⟩
  have hy : ys.Pairwise fun a b => a.name ≠ b.name := hp.symm.pairwise hnd.out fun h e => h e.symm
  have hs := sortFunc_any w1 hl hg.size (by rw [hp.length_eq]; exact hm) (fun c hc => hn.out c (hp.subset hc)) hy
  replace hp := Lib.hid hp
  clear hy hl
  go_wp2_with fail
  refine hs.mono ?_
  clear hs
  rintro e w2 ⟨rfl, zs, hzp, hzs, hzl, hb⟩
  have he : zs = sortM m := sort_eq (hzp.trans hp.out) hzs hnd.out
  subst he
  clear hzp hzs
  replace hzl := Lib.hid hzl
  go_wp2
  go_ret
  exact ⟨_, rfl, hzl.out, Below.trans hg hb⟩

theorem sorted_any (r : Nat) (m : List Ch) (hm : m.length ≤ 100000) (hn : ∀ c ∈ m, c.name.owner.size ≤ maxLen) (w : World) (hM : IsM w r m) :
    Calls Tryz.prog 81 #[.map (some r)] w fun e w' => ∃ v, e = .returned v ∧ IsLO w.heap.size w' v (sortM m) ∧ Grew w w' := by
  have hs := sortedFunc_any w.heap.size r m hm hn (w.alloc (.cells #[.map (some r)] 160)) (by simp [go_sem]) (hM.grew (Grew.alloc _ _))
  clear hM hn
  go_enter Tryz.func81, Tryz.ntmps81
  go_wp2_with fail
  refine (values_any r _).mono ?_
  rintro e w1 ⟨rfl, rfl⟩
  go_wp2_with fail
  refine hs.mono ?_
  clear hs
  rintro e w2 ⟨v, rfl, hl, hg⟩
  replace hl := Lib.hid hl
  go_wp2
  go_ret
  exact ⟨_, rfl, row_base hl.out (by simp), (Grew.alloc _ _).trans hg⟩

theorem reads_any {base : Nat} {vp : Option Addr} {t : T} {m1 cl m2 : List Ch} (w : World) (h : IsW base w vp t m1 cl m2) (hm : m1.length ≤ 100000) (hn : ∀ c ∈ m1, c.name.owner.size ≤ maxLen) :
    Calls Tryz.prog 25 #[.pointer vp] w fun e w' => ∃ v, e = .returned v ∧ IsLO w.heap.size w' v (sortM m1) ∧ Grew w w' := by
  obtain ⟨b, sp, r1, r2, cv, w0, rfl, b1, b2, b3, b4, hb, hw0, hg0, hs, hm1, hl, hm2, hne⟩ := h
  have hs := sorted_any r1 m1 hm hn w hm1
  have c1 : w.cell? ⟨b, 1, none⟩ = some (.map (some r1)) := by simp [World.cell?, hb]
  clear hm1 hm2 hn hl hb hg0
  go_enter Tryz.func25, Tryz.ntmps25
  go_wp2_with fail
  refine hs.mono ?_
  clear hs
  rintro e w2 ⟨v, rfl, hl, hg⟩
  replace hl := Lib.hid hl
  go_wp2
  go_ret
  exact ⟨_, rfl, hl.out, hg⟩
theorem writes_any {base : Nat} {vp : Option Addr} {t : T} {m1 cl m2 : List Ch} (w : World) (h : IsW base w vp t m1 cl m2) (hm : m2.length ≤ 100000) (hn : ∀ c ∈ m2, c.name.owner.size ≤ maxLen) :
    Calls Tryz.prog 24 #[.pointer vp] w fun e w' => ∃ v, e = .returned v ∧ IsLO w.heap.size w' v (sortM m2) ∧ Grew w w' := by
  obtain ⟨b, sp, r1, r2, cv, w0, rfl, b1, b2, b3, b4, hb, hw0, hg0, hs, hm1, hl, hm2, hne⟩ := h
  have hs := sorted_any r2 m2 hm hn w hm2
  have c1 : w.cell? ⟨b, 3, none⟩ = some (.map (some r2)) := by simp [World.cell?, hb]
  clear hm1 hm2 hn hl hb hg0
  go_enter Tryz.func24, Tryz.ntmps24
  go_wp2_with fail
  refine hs.mono ?_
  clear hs
  rintro e w2 ⟨v, rfl, hl, hg⟩
  replace hl := Lib.hid hl
  go_wp2
  go_ret
  exact ⟨_, rfl, hl.out, hg⟩
end Go.Proofs.YtkiojenkpbkjpaaGreatDoor
