/- Walks: the iterator over the parts of a text. -/
import Derived.Test.YtkiojenkpbkjpaaGreatDoorLinA
import Derived.RangeFuncNested
import Derived.RangeFuncBound
import Derived.RangeFuncCalls
import Derived.RangeFuncLeaves
import Derived.RangeFuncBox
import Derived.Shelf.Abstract
import Derived.Shelf.RegionOpen
import Derived.OwnWalkIn
import Derived.TacticsInMore
import Derived.LoopNIn
import Derived.LoopIn
import Derived.BigGuardIn
import Derived.Lib.Hide
set_option linter.unusedVariables false
set_option linter.unusedSimpArgs false
namespace Go.Proofs.YtkiojenkpbkjpaaGreatDoor
open Go Go.RowKit Go.Shelf RV
attribute [local go_sem] Oper.semAt_some

theorem setCell_block0 {w : World} {b : Nat} {x y z u : Value} {t : TypeId} (h : w.heap[b]? = some (.cells #[x, y, z] t (0, 0))) : (w.setCell ⟨b, 0, none⟩ u).heap[b]? = some (.cells #[u, y, z] t (0, 0)) := by
  have hlt := lt_of_block h
  have h' : w.heap[b] = .cells #[x, y, z] t (0, 0) := by simpa [Array.getElem?_eq_getElem hlt] using h
  show (w.heap.modify b _)[b]? = _
  rw [Array.getElem?_eq_getElem (by simpa using hlt), Array.getElem_modify_self, h']
  rfl

set_option maxRecDepth 100000 in
set_option maxHeartbeats 8000000 in
theorem parts1_in (n : Nat) (hn : 3 ≤ n) (l B : Nat) (s : ByteArray) (hs : s.size ≤ maxLen) (J Jx : List Part → World → Prop) (W : World) (hBn : W.heap[B]? = some (.cells #[.string s] 9 (0, 0)))
    (hJ : AbidesFrom W.heap.size J)
    (hY : ∀ pre x W1, J pre W1 → pre.length < 9 → YieldAt Fence.wide (n - 1) Tryz.prog l (encP x) W1 fun e W' =>
      (e = .returned (.bool true) ∧ J (pre ++ [x]) W' ∧ KpL W1 W') ∨ (e = .returned (.bool false) ∧ Jx (pre ++ [x]) W'))
    (h0 : J [] W) :
    CallsIn Fence.wide n Tryz.prog 289 #[.func (.yield l) #[] #[], .pointer (some ⟨B, 0, none⟩)] W fun e W' => (∃ v, e = .returned v) ∧
      ((∃ xs, xs = partsOf s ∧ J xs W') ∨ (∃ pre, pre <+: partsOf s ∧ Jx pre W')) := by
  unfold maxLen at hs
  refine callsIn_of_wp Tryz.func289 rfl trivial ?_ rfl
  simp only [Tryz.ntmps289, List.size_toArray, List.length_cons, List.length_nil, Nat.reduceAdd, Nat.reduceSub, Array.replicate_succ, Array.replicate_zero, List.push_toArray, List.append_toArray, List.nil_append, List.cons_append]
  gi_wp2
  gi_loopw [3, 4] (fun a c wr => ∃ (p k : Nat) (pre : List Part), a = .int .i64 p ∧ c = .int .i64 k ∧ k ≤ 8 ∧ p ≤ s.size ∧ pre.length = k ∧ J pre wr ∧ wr.heap[B]? = some (.cells #[.string s] 9 (0, 0)) ∧
      Hid (if bl s = [] then pre = [] else partsOf s = pre ++ partsL (8 - k) p ((bl s).drop p)))
    (fun _ c _ => 9 - (intOf c).toNat)
  case atStart =>
    refine ⟨0, 0, [], rfl, rfl, by omega, by omega, rfl, h0, hBn, ?_⟩
    unfold Hid
    split
    · rfl
    · rename_i h; simp [partsOf, h]
  case round =>
    obtain ⟨p, k, pre, rfl, rfl, hk, hp, hpre, hJs, hBk, H⟩ := hrel
    have hBr := cell_of_one hBk
    have hBl := lt_of_block hBk
    by_cases hse : bl s = []
    · have e1 : s.toList = [] := by rw [ByteArray.toList_eq]; exact hse
      have e2 : (!s.toList.isEmpty) = false := by rw [e1]; rfl
      have hpe : pre = [] := by have := H.out; rwa [if_pos hse] at this
      have hfin : partsOf s = [] := by simp [partsOf, hse]
      subst hpe
      have hfin := Lib.hid hfin
      clear H
      gi_wp2
      go_end0
      exact ⟨⟨_, rfl⟩, .inl ⟨_, hfin.out.symm, hJs⟩⟩
    · have e1 : s.toList.isEmpty = false := by
        rw [ByteArray.toList_eq]; cases h : s.data.toList with
        | nil => exact absurd h hse
        | cons => rfl
      have H1 : Hid (partsOf s = pre ++ partsL (8 - k) p ((bl s).drop p)) := by have := H.out; rwa [if_neg hse] at this
      clear H
      have hdl := dg_le s p hp
      have hprek := Lib.hid hpre
      clear hpre
      gi_wp2
      gi_loop [6] (fun x => ∃ d : Nat, d ≤ dg s p ∧ x = .int .i64 d) (fun x => s.size - (intOf x).toNat)
      case atStart => exact ⟨0, Nat.zero_le _, rfl⟩
      case round =>
        obtain ⟨d, hd, rfl⟩ := hrel
        by_cases hlt : d < dg s p
        · obtain ⟨h1, h2, h3⟩ := dg_lt hlt
          gi_wp2
          go_round
          case rel => exact ⟨d + 1, by omega, by go_num⟩
          case measure => simp [intOf]; omega
        · obtain rfl : d = dg s p := by omega
          clear hlt hd
          have hJ' : ∀ W2, Below wr.heap.size wr W2 → J pre W2 := fun W2 hb => hJ _ _ _ none hJs ⟨hb.os, hb.tape, hb.output, hb.size, fun k hk _ => hb.block k hk⟩ (fun _ e => by cases e)
          have hx : (¬ (p : Int) + dg s p < s.size) ∨ (∃ h : p + dg s p < s.size, (s[p + dg s p].toNat : Int) < 48) ∨ (∃ h : p + dg s p < s.size, 57 < (s[p + dg s p].toNat : Int)) := by
            by_cases hlt : p + dg s p < s.size
            · rcases dg_end hlt with h | h
              · exact .inr (.inl ⟨hlt, h⟩)
              · exact .inr (.inr ⟨hlt, h⟩)
            · exact .inl (by omega)
          have hPn : ∀ e : Int, Below wr.heap.size wr (wr.alloc (.cells #[.int .i64 0, .int .i64 (p : Int), .int .i64 e] 357)) := fun e => (Below.refl _ _).alloc (Nat.le_refl _) _
          by_cases k8 : 8 ≤ k
          · have hkb : ((k : Int) == 8) = true := by rw [beq_iff_eq]; omega
            have hk0 : 8 - k = 8 - 8 := by omega
            rw [hk0] at H1
            clear hk0
            have hpl := partsL_k8 p ((bl s).drop p)
            have hpf : Hid (partsOf s = pre ++ [⟨0, p, 9⟩]) := by have := H1.out; rw [hpl] at this; exact this
            clear hpl H1
            obtain ⟨fn, tmps, assign, body, hy, hR⟩ := hY pre ⟨0, p, 9⟩ _ (hJ' _ (hPn 9)) (by have := hprek.out; omega)
            dsimp only [encP] at hy
            rcases hx with hx | ⟨hlt, hx⟩ | ⟨hlt, hx⟩
            all_goals
              gi_wp2
              refine ⟨fun _ => by omega, hR.mono ?_⟩
              rintro e W3 (⟨rfl, hJ3, hk3⟩ | ⟨rfl, hJx3⟩)
              · have hblk := hk3 wr.heap.size #[.int .i64 0, .int .i64 (p : Int), .int .i64 9] 357 (0, 0) (.inl rfl) (heap_alloc_new _ _)
                have hce : W3.cell? ⟨wr.heap.size, 2, none⟩ = some (.int .i64 9) := by simp [World.cell?, hblk]
                gi_wp2
                refine bodyPost_ret (results_none rfl _ _ _) rfl ?_
                exact ⟨⟨_, rfl⟩, .inl ⟨_, hpf.out.symm, hJ3⟩⟩
              · gi_wp2
                refine bodyPost_ret (results_none rfl _ _ _) rfl ?_
                exact ⟨⟨_, rfl⟩, .inr ⟨_, by rw [hpf.out]; exact List.prefix_refl _, hJx3⟩⟩
          have hk8 : k < 8 := by omega
          have hkb : ((k : Int) == 8) = false := by rw [beq_eq_false_iff_ne]; omega
          by_cases pe : s.size ≤ p
          · have hpb : ((p : Int) == (s.size : Int)) = true := by rw [beq_iff_eq]; omega
            have hx1 : ¬ (p : Int) + dg s p < s.size := by omega
            clear hx
            have hpl := part_E4 hk8 (show p = s.size by omega)
            have hpf : Hid (partsOf s = pre ++ [⟨0, p, 4⟩]) := by have := H1.out; rw [hpl] at this; exact this
            clear hpl H1
            obtain ⟨fn, tmps, assign, body, hy, hR⟩ := hY pre ⟨0, p, 4⟩ _ (hJ' _ (hPn 4)) (by have := hprek.out; omega)
            dsimp only [encP] at hy
            all_goals
              gi_wp2
              refine ⟨fun _ => by omega, hR.mono ?_⟩
              rintro e W3 (⟨rfl, hJ3, hk3⟩ | ⟨rfl, hJx3⟩)
              · have hblk := hk3 wr.heap.size #[.int .i64 0, .int .i64 (p : Int), .int .i64 4] 357 (0, 0) (.inl rfl) (heap_alloc_new _ _)
                have hce : W3.cell? ⟨wr.heap.size, 2, none⟩ = some (.int .i64 4) := by simp [World.cell?, hblk]
                gi_wp2
                refine bodyPost_ret (results_none rfl _ _ _) rfl ?_
                exact ⟨⟨_, rfl⟩, .inl ⟨_, hpf.out.symm, hJ3⟩⟩
              · gi_wp2
                refine bodyPost_ret (results_none rfl _ _ _) rfl ?_
                exact ⟨⟨_, rfl⟩, .inr ⟨_, by rw [hpf.out]; exact List.prefix_refl _, hJx3⟩⟩
          have hps : p < s.size := by omega
          have hpb : ((p : Int) == (s.size : Int)) = false := by rw [beq_eq_false_iff_ne]; omega
          by_cases de : dg s p ≤ 0
          · have hdb : ((dg s p : Int) == 0) = true := by rw [beq_iff_eq]; omega
            replace hx : (∃ h : p + dg s p < s.size, (s[p + dg s p].toNat : Int) < 48) ∨ (∃ h : p + dg s p < s.size, 57 < (s[p + dg s p].toNat : Int)) := by
              rcases hx with hx | hx
              · exfalso; omega
              · exact hx
            have hpl := part_E6 hk8 hps (show dg s p = 0 by omega)
            have hpf : Hid (partsOf s = pre ++ [⟨0, p, 6⟩]) := by have := H1.out; rw [hpl] at this; exact this
            clear hpl H1
            obtain ⟨fn, tmps, assign, body, hy, hR⟩ := hY pre ⟨0, p, 6⟩ _ (hJ' _ (hPn 6)) (by have := hprek.out; omega)
            dsimp only [encP] at hy
            rcases hx with ⟨hlt, hx⟩ | ⟨hlt, hx⟩
            all_goals
              gi_wp2
              refine ⟨fun _ => by omega, hR.mono ?_⟩
              rintro e W3 (⟨rfl, hJ3, hk3⟩ | ⟨rfl, hJx3⟩)
              · have hblk := hk3 wr.heap.size #[.int .i64 0, .int .i64 (p : Int), .int .i64 6] 357 (0, 0) (.inl rfl) (heap_alloc_new _ _)
                have hce : W3.cell? ⟨wr.heap.size, 2, none⟩ = some (.int .i64 6) := by simp [World.cell?, hblk]
                gi_wp2
                refine bodyPost_ret (results_none rfl _ _ _) rfl ?_
                exact ⟨⟨_, rfl⟩, .inl ⟨_, hpf.out.symm, hJ3⟩⟩
              · gi_wp2
                refine bodyPost_ret (results_none rfl _ _ _) rfl ?_
                exact ⟨⟨_, rfl⟩, .inr ⟨_, by rw [hpf.out]; exact List.prefix_refl _, hJx3⟩⟩
          have hdb : ((dg s p : Int) == 0) = false := by rw [beq_eq_false_iff_ne]; omega
          by_cases ze : (s[p].toNat : Int) = 48
          · have hzb : ((s[p].toNat : Int) == 48) = true := by rw [beq_iff_eq]; exact ze
            have hz := Lib.hid ze
            clear ze
            have hpl := part_E3 hk8 hps (show dg s p ≠ 0 by omega) hz.out
            have hpf : Hid (partsOf s = pre ++ [⟨0, p, 3⟩]) := by have := H1.out; rw [hpl] at this; exact this
            clear hpl H1
            obtain ⟨fn, tmps, assign, body, hy, hR⟩ := hY pre ⟨0, p, 3⟩ _ (hJ' _ (hPn 3)) (by have := hprek.out; omega)
            dsimp only [encP] at hy
            rcases hx with hx | ⟨hlt, hx⟩ | ⟨hlt, hx⟩
            all_goals
              gi_wp2
              refine ⟨fun _ => by omega, hR.mono ?_⟩
              rintro e W3 (⟨rfl, hJ3, hk3⟩ | ⟨rfl, hJx3⟩)
              · have hblk := hk3 wr.heap.size #[.int .i64 0, .int .i64 (p : Int), .int .i64 3] 357 (0, 0) (.inl rfl) (heap_alloc_new _ _)
                have hce : W3.cell? ⟨wr.heap.size, 2, none⟩ = some (.int .i64 3) := by simp [World.cell?, hblk]
                gi_wp2
                refine bodyPost_ret (results_none rfl _ _ _) rfl ?_
                exact ⟨⟨_, rfl⟩, .inl ⟨_, hpf.out.symm, hJ3⟩⟩
              · gi_wp2
                refine bodyPost_ret (results_none rfl _ _ _) rfl ?_
                exact ⟨⟨_, rfl⟩, .inr ⟨_, by rw [hpf.out]; exact List.prefix_refl _, hJx3⟩⟩
          have hzb : ((s[p].toNat : Int) == 48) = false := by rw [beq_eq_false_iff_ne]; exact ze
          by_cases h6 : 6 < dg s p
          · skip
            have hpl := part_E2 hk8 hps (show dg s p ≠ 0 by omega) ze h6
            have hpf : Hid (partsOf s = pre ++ [⟨0, p, 2⟩]) := by have := H1.out; rw [hpl] at this; exact this
            clear hpl H1
            obtain ⟨fn, tmps, assign, body, hy, hR⟩ := hY pre ⟨0, p, 2⟩ _ (hJ' _ (hPn 2)) (by have := hprek.out; omega)
            dsimp only [encP] at hy
            rcases hx with hx | ⟨hlt, hx⟩ | ⟨hlt, hx⟩
            all_goals
              gi_wp2
              refine ⟨fun _ => by omega, hR.mono ?_⟩
              rintro e W3 (⟨rfl, hJ3, hk3⟩ | ⟨rfl, hJx3⟩)
              · have hblk := hk3 wr.heap.size #[.int .i64 0, .int .i64 (p : Int), .int .i64 2] 357 (0, 0) (.inl rfl) (heap_alloc_new _ _)
                have hce : W3.cell? ⟨wr.heap.size, 2, none⟩ = some (.int .i64 2) := by simp [World.cell?, hblk]
                gi_wp2
                refine bodyPost_ret (results_none rfl _ _ _) rfl ?_
                exact ⟨⟨_, rfl⟩, .inl ⟨_, hpf.out.symm, hJ3⟩⟩
              · gi_wp2
                refine bodyPost_ret (results_none rfl _ _ _) rfl ?_
                exact ⟨⟨_, rfl⟩, .inr ⟨_, by rw [hpf.out]; exact List.prefix_refl _, hJx3⟩⟩
          have hpl := part_OK hk8 hps (show dg s p ≠ 0 by omega) ze h6
          rw [dropWhile_drop] at hpl
          obtain ⟨v, hv⟩ : ∃ v, v = numVal (((bl s).drop p).takeWhile isDig) := ⟨_, rfl⟩
          have hat := fun w => atoi_in s p (by omega) h6 w
          rw [← hv] at hpl hat
          clear hv
          have hpl := Lib.hid hpl
          have hY1 := fun (W4 : World) (hb : Below wr.heap.size wr W4) => hY pre ⟨v, p, 0⟩ W4 (hJ' W4 hb) (by have := hprek.out; omega)
          simp only [encP] at hY1
          have hY1 := Lib.hid hY1
          have hJ' := Lib.hid hJ'
          have hPn := Lib.hid hPn
          have hfe : Hid ((p : Int) + dg s p < s.size → ¬ (p : Int) + dg s p = s.size) := fun h => by omega
          rcases hx with hx | ⟨hlt, hx⟩ | ⟨hlt, hx⟩
          · -- the end
            have hend : ((p : Int) + dg s p == (s.size : Int)) = true := by rw [beq_iff_eq]; omega
            have hfin : Hid (partsOf s = pre ++ [⟨v, p, 0⟩]) := by
              have h1 := hpl.out; have h2 : (bl s).drop (p + dg s p) = [] := (drop_nil_iff s _ (by omega)).2 (by omega)
              rw [h2] at h1; have := H1.out; rw [h1] at this; exact this
            gi_wp2_with fail
            refine ⟨trivial, fun _ => by omega, ?_⟩
            refine (callsIn_wide.2 (hat _)).mono ?_
            rintro e w3 ⟨rfl, hb3⟩
            have hN3 := (hb3.block wr.heap.size (by simp)).trans (heap_alloc_new wr (.cells #[.int .i64 0, .int .i64 (p : Int), .int .i64 0] 357))
            have c30 : w3.cell? ⟨wr.heap.size, 0, none⟩ = some (.int .i64 0) := by (simp [World.cell?, hN3])
            have c31 : w3.cell? ⟨wr.heap.size, 1, none⟩ = some (.int .i64 p) := by (simp [World.cell?, hN3])
            have c32 : w3.cell? ⟨wr.heap.size, 2, none⟩ = some (.int .i64 0) := by (simp [World.cell?, hN3])
            have f30 : w3.frozen? ⟨wr.heap.size, 0, none⟩ = false := by (simp [World.frozen?, hN3])
            have hbb := ((hPn.out 0).trans (hb3.mono (by simp))).setCell (p := ⟨wr.heap.size, 0, none⟩) (Nat.le_refl _) (.int .i64 (v : Int))
            obtain ⟨fn, tmps, assign, body, hy, hR⟩ := hY1.out _ hbb
            gi_wp2
            refine ⟨fun _ => by omega, hR.mono ?_⟩
            rintro e W5 (⟨rfl, hJ5, hk5⟩ | ⟨rfl, hJx5⟩)
            rotate_left
            · gi_wp2
              refine bodyPost_ret (results_none rfl _ _ _) rfl ?_
              exact ⟨⟨_, rfl⟩, .inr ⟨_, by rw [H1.out, hpl.out]; exact ⟨_, by rw [List.append_assoc]; rfl⟩, hJx5⟩⟩
            have hN5 := hk5 wr.heap.size #[.int .i64 (v : Int), .int .i64 (p : Int), .int .i64 0] 357 (0, 0) (.inl rfl) (setCell_block0 hN3)
            have hB5 := hk5 B #[.string s] 9 (0, 0) (.inr rfl) (by rw [Below.heap_setCell _ _ _ _ (by simp; omega)]; exact (hb3.block B (by simp; omega)).trans ((Below.heap_alloc _ _ _ hBl).trans hBk))
            have c52 : W5.cell? ⟨wr.heap.size, 2, none⟩ = some (.int .i64 0) := by simp [World.cell?, hN5]
            have cB5 := cell_of_one hB5
            clear hk5 hR hy
            gi_wp2
            refine bodyPost_ret (results_none rfl _ _ _) rfl ?_
            exact ⟨⟨_, rfl⟩, .inl ⟨_, hfin.out.symm, hJ5⟩⟩
          · by_cases hdot0 : (s[p + dg s p].toNat : Int) = 46
            · have hdot : ((s[p + dg s p].toNat : Int) != 46) = false := by rw [bne_eq_false_iff_eq]; exact hdot0
              have hend : ((p : Int) + dg s p == (s.size : Int)) = false := by rw [beq_eq_false_iff_ne]; omega
              have hfin : Hid (partsOf s = (pre ++ [⟨v, p, 0⟩]) ++ partsL (8 - (k + 1)) (p + dg s p + 1) ((bl s).drop (p + dg s p + 1))) := by
                have h1 := hpl.out; rw [drop_cons s _ hlt] at h1; simp only at h1; rw [if_pos (show s[p + dg s p] = (46 : UInt8) from byte_eq (n := 46) (by omega) hdot0)] at h1
                have := H1.out; rw [h1] at this; unfold Hid; rw [this]; simp
              clear hdot0
              gi_wp2_with fail
              refine ⟨trivial, fun _ => by omega, ?_⟩
              refine (callsIn_wide.2 (hat _)).mono ?_
              rintro e w3 ⟨rfl, hb3⟩
              have hN3 := (hb3.block wr.heap.size (by simp)).trans (heap_alloc_new wr (.cells #[.int .i64 0, .int .i64 (p : Int), .int .i64 0] 357))
              have c30 : w3.cell? ⟨wr.heap.size, 0, none⟩ = some (.int .i64 0) := by (simp [World.cell?, hN3])
              have c31 : w3.cell? ⟨wr.heap.size, 1, none⟩ = some (.int .i64 p) := by (simp [World.cell?, hN3])
              have c32 : w3.cell? ⟨wr.heap.size, 2, none⟩ = some (.int .i64 0) := by (simp [World.cell?, hN3])
              have f30 : w3.frozen? ⟨wr.heap.size, 0, none⟩ = false := by (simp [World.frozen?, hN3])
              have hbb := ((hPn.out 0).trans (hb3.mono (by simp))).setCell (p := ⟨wr.heap.size, 0, none⟩) (Nat.le_refl _) (.int .i64 (v : Int))
              obtain ⟨fn, tmps, assign, body, hy, hR⟩ := hY1.out _ hbb
              gi_wp2
              refine ⟨fun _ => by omega, hR.mono ?_⟩
              rintro e W5 (⟨rfl, hJ5, hk5⟩ | ⟨rfl, hJx5⟩)
              rotate_left
              · gi_wp2
                refine bodyPost_ret (results_none rfl _ _ _) rfl ?_
                exact ⟨⟨_, rfl⟩, .inr ⟨_, by rw [H1.out, hpl.out]; exact ⟨_, by rw [List.append_assoc]; rfl⟩, hJx5⟩⟩
              have hN5 := hk5 wr.heap.size #[.int .i64 (v : Int), .int .i64 (p : Int), .int .i64 0] 357 (0, 0) (.inl rfl) (setCell_block0 hN3)
              have hB5 := hk5 B #[.string s] 9 (0, 0) (.inr rfl) (by rw [Below.heap_setCell _ _ _ _ (by simp; omega)]; exact (hb3.block B (by simp; omega)).trans ((Below.heap_alloc _ _ _ hBl).trans hBk))
              have c52 : W5.cell? ⟨wr.heap.size, 2, none⟩ = some (.int .i64 0) := by simp [World.cell?, hN5]
              have cB5 := cell_of_one hB5
              clear hk5 hR hy
              gi_wp2
              go_roundw
              case rel => exact ⟨p + dg s p + 1, k + 1, pre ++ [⟨v, p, 0⟩], by go_num, by go_num, by omega, by omega, by have := hprek.out; simp; omega, hJ5, hB5, by unfold Hid; rw [if_neg hse]; exact hfin.out⟩
              case measure => simp [intOf]; omega
            · have hdot : ((s[p + dg s p].toNat : Int) != 46) = true := by rw [bne_iff_ne]; exact hdot0
              clear hdot0
              have hend : ((p : Int) + dg s p == (s.size : Int)) = false := by rw [beq_eq_false_iff_ne]; omega
              have hfin : Hid (partsOf s = (pre ++ [⟨v, p, 0⟩]) ++ [⟨0, (p + dg s p : Nat), 6⟩]) := by
                have h1 := hpl.out; rw [drop_cons s _ hlt] at h1; simp only at h1; rw [if_neg (fun e => by rw [e] at hdot; simp at hdot)] at h1
                have := H1.out; rw [h1] at this; unfold Hid; rw [this]; simp
              gi_wp2_with fail
              refine ⟨trivial, fun _ => by omega, ?_⟩
              refine (callsIn_wide.2 (hat _)).mono ?_
              rintro e w3 ⟨rfl, hb3⟩
              have hN3 := (hb3.block wr.heap.size (by simp)).trans (heap_alloc_new wr (.cells #[.int .i64 0, .int .i64 (p : Int), .int .i64 0] 357))
              have c30 : w3.cell? ⟨wr.heap.size, 0, none⟩ = some (.int .i64 0) := by (simp [World.cell?, hN3])
              have c31 : w3.cell? ⟨wr.heap.size, 1, none⟩ = some (.int .i64 p) := by (simp [World.cell?, hN3])
              have c32 : w3.cell? ⟨wr.heap.size, 2, none⟩ = some (.int .i64 0) := by (simp [World.cell?, hN3])
              have f30 : w3.frozen? ⟨wr.heap.size, 0, none⟩ = false := by (simp [World.frozen?, hN3])
              have hbb := ((hPn.out 0).trans (hb3.mono (by simp))).setCell (p := ⟨wr.heap.size, 0, none⟩) (Nat.le_refl _) (.int .i64 (v : Int))
              obtain ⟨fn, tmps, assign, body, hy, hR⟩ := hY1.out _ hbb
              gi_wp2
              refine ⟨fun _ => by omega, hR.mono ?_⟩
              rintro e W5 (⟨rfl, hJ5, hk5⟩ | ⟨rfl, hJx5⟩)
              rotate_left
              · gi_wp2
                refine bodyPost_ret (results_none rfl _ _ _) rfl ?_
                exact ⟨⟨_, rfl⟩, .inr ⟨_, by rw [H1.out, hpl.out]; exact ⟨_, by rw [List.append_assoc]; rfl⟩, hJx5⟩⟩
              have hN5 := hk5 wr.heap.size #[.int .i64 (v : Int), .int .i64 (p : Int), .int .i64 0] 357 (0, 0) (.inl rfl) (setCell_block0 hN3)
              have hB5 := hk5 B #[.string s] 9 (0, 0) (.inr rfl) (by rw [Below.heap_setCell _ _ _ _ (by simp; omega)]; exact (hb3.block B (by simp; omega)).trans ((Below.heap_alloc _ _ _ hBl).trans hBk))
              have c52 : W5.cell? ⟨wr.heap.size, 2, none⟩ = some (.int .i64 0) := by simp [World.cell?, hN5]
              have cB5 := cell_of_one hB5
              clear hk5 hR hy
              obtain ⟨fn2, tmps2, assign2, body2, hy2, hR2⟩ := hY (pre ++ [⟨v, p, 0⟩]) ⟨0, (p + dg s p : Nat), 6⟩ W5 hJ5 (by have := hprek.out; simp; omega)
              simp only [encP, Int.natCast_add] at hy2
              gi_wp2
              refine ⟨fun _ => by omega, hR2.mono ?_⟩
              rintro e W6 (⟨rfl, hJ6, -⟩ | ⟨rfl, hJx6⟩)
              · gi_wp2
                refine bodyPost_ret (results_none rfl _ _ _) rfl ?_
                exact ⟨⟨_, rfl⟩, .inl ⟨_, hfin.out.symm, hJ6⟩⟩
              · gi_wp2
                refine bodyPost_ret (results_none rfl _ _ _) rfl ?_
                exact ⟨⟨_, rfl⟩, .inr ⟨_, by rw [hfin.out]; exact List.prefix_refl _, hJx6⟩⟩
          · have hdot : ((s[p + dg s p].toNat : Int) != 46) = true := by rw [bne_iff_ne]; omega
            have hend : ((p : Int) + dg s p == (s.size : Int)) = false := by rw [beq_eq_false_iff_ne]; omega
            have hfin : Hid (partsOf s = (pre ++ [⟨v, p, 0⟩]) ++ [⟨0, (p + dg s p : Nat), 6⟩]) := by
              have h1 := hpl.out; rw [drop_cons s _ hlt] at h1; simp only at h1; rw [if_neg (fun e => by rw [e] at hdot; simp at hdot)] at h1
              have := H1.out; rw [h1] at this; unfold Hid; rw [this]; simp
            gi_wp2_with fail
            refine ⟨trivial, fun _ => by omega, ?_⟩
            refine (callsIn_wide.2 (hat _)).mono ?_
            rintro e w3 ⟨rfl, hb3⟩
            have hN3 := (hb3.block wr.heap.size (by simp)).trans (heap_alloc_new wr (.cells #[.int .i64 0, .int .i64 (p : Int), .int .i64 0] 357))
            have c30 : w3.cell? ⟨wr.heap.size, 0, none⟩ = some (.int .i64 0) := by (simp [World.cell?, hN3])
            have c31 : w3.cell? ⟨wr.heap.size, 1, none⟩ = some (.int .i64 p) := by (simp [World.cell?, hN3])
            have c32 : w3.cell? ⟨wr.heap.size, 2, none⟩ = some (.int .i64 0) := by (simp [World.cell?, hN3])
            have f30 : w3.frozen? ⟨wr.heap.size, 0, none⟩ = false := by (simp [World.frozen?, hN3])
            have hbb := ((hPn.out 0).trans (hb3.mono (by simp))).setCell (p := ⟨wr.heap.size, 0, none⟩) (Nat.le_refl _) (.int .i64 (v : Int))
            obtain ⟨fn, tmps, assign, body, hy, hR⟩ := hY1.out _ hbb
            gi_wp2
            refine ⟨fun _ => by omega, hR.mono ?_⟩
            rintro e W5 (⟨rfl, hJ5, hk5⟩ | ⟨rfl, hJx5⟩)
            rotate_left
            · gi_wp2
              refine bodyPost_ret (results_none rfl _ _ _) rfl ?_
              exact ⟨⟨_, rfl⟩, .inr ⟨_, by rw [H1.out, hpl.out]; exact ⟨_, by rw [List.append_assoc]; rfl⟩, hJx5⟩⟩
            have hN5 := hk5 wr.heap.size #[.int .i64 (v : Int), .int .i64 (p : Int), .int .i64 0] 357 (0, 0) (.inl rfl) (setCell_block0 hN3)
            have hB5 := hk5 B #[.string s] 9 (0, 0) (.inr rfl) (by rw [Below.heap_setCell _ _ _ _ (by simp; omega)]; exact (hb3.block B (by simp; omega)).trans ((Below.heap_alloc _ _ _ hBl).trans hBk))
            have c52 : W5.cell? ⟨wr.heap.size, 2, none⟩ = some (.int .i64 0) := by simp [World.cell?, hN5]
            have cB5 := cell_of_one hB5
            clear hk5 hR hy
            obtain ⟨fn2, tmps2, assign2, body2, hy2, hR2⟩ := hY (pre ++ [⟨v, p, 0⟩]) ⟨0, (p + dg s p : Nat), 6⟩ W5 hJ5 (by have := hprek.out; simp; omega)
            simp only [encP, Int.natCast_add] at hy2
            gi_wp2
            refine ⟨fun _ => by omega, hR2.mono ?_⟩
            rintro e W6 (⟨rfl, hJ6, -⟩ | ⟨rfl, hJx6⟩)
            · gi_wp2
              refine bodyPost_ret (results_none rfl _ _ _) rfl ?_
              exact ⟨⟨_, rfl⟩, .inl ⟨_, hfin.out.symm, hJ6⟩⟩
            · gi_wp2
              refine bodyPost_ret (results_none rfl _ _ _) rfl ?_
              exact ⟨⟨_, rfl⟩, .inr ⟨_, by rw [hfin.out]; exact List.prefix_refl _, hJx6⟩⟩


end Go.Proofs.YtkiojenkpbkjpaaGreatDoor
