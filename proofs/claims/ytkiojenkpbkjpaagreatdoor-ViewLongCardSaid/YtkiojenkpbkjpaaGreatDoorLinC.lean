/- Walks: lineage.Valid, Ordinals, slices.Compare, cmp.Or, lineage.Compare. -/
import Derived.Test.YtkiojenkpbkjpaaGreatDoorParse
import Derived.Test.YtkiojenkpbkjpaaGreatDoorShelf
import Derived.LoopTactic
set_option linter.unusedVariables false
set_option linter.unusedSimpArgs false
namespace Go.Proofs.YtkiojenkpbkjpaaGreatDoor
open Go Go.RowKit RV
set_option maxHeartbeats 1000000

theorem parse_any (s : ByteArray) (hs : s.size ≤ maxLen) (w : World) :
    Calls Tryz.prog 195 #[.string s] w fun e W' => ∃ v, e = .returned v ∧ ParseR w.heap.size s v W' ∧ Below w.heap.size w W' :=
  callsIn_wide.1 (parse_in 5 (by omega) s hs w)

theorem valid_any (s : ByteArray) (hs : s.size ≤ maxLen) (w : World) :
    Calls Tryz.prog 136 #[.string s] w fun e w' => e = .returned (.bool (ords (bl s)).isSome) ∧ Grew w w' := by
  go_enter Tryz.func136, Tryz.ntmps136
  go_wp2_with fail
  refine (parse_any s hs w).mono ?_
  rintro e w' ⟨v, rfl, ⟨sl, a, e, rfl, ⟨xs, hx, rfl, hr⟩ | ⟨hx, he, rfl⟩⟩, hg⟩
  · go_wp2
    go_ret
    exact ⟨by rw [hx]; rfl, hg⟩
  · go_wp2
    go_ret
    exact ⟨by rw [hx]; simp [he], hg⟩

theorem ordinals_any (s : ByteArray) (hs : s.size ≤ maxLen) {xs : List Int} (hxs : ords (bl s) = some xs) (w : World) :
    Calls Tryz.prog 219 #[.string s] w fun e w' => ∃ v, e = .returned v ∧ w'.ownsRow w.heap.size 3 1 v xs.length (xs.map (Value.int .i64)) ∧ Grew w w' := by
  go_enter Tryz.func219, Tryz.ntmps219
  go_wp2_with fail
  refine (parse_any s hs w).mono ?_
  rintro e w' ⟨v, rfl, ⟨sl, a, e, rfl, ⟨ys, hx, rfl, hr⟩ | ⟨hx, he, rfl⟩⟩, hg⟩
  · rw [hx] at hxs
    cases hxs
    go_wp2
    go_ret
    exact ⟨_, rfl, hr, hg⟩
  · rw [hx] at hxs; cases hxs

theorem row_grew {w w' : World} {base : Nat} {e : TypeId} {size n : Nat} {v : Value} {xs : List Value} (h : w.ownsRow base e size v n xs) (hg : Grew w w') : w'.ownsRow base e size v n xs := by
  refine ⟨h.1, ?_⟩
  rcases h.2 with h1 | ⟨g, cap, cur, rfl, hb, hgg, rest⟩
  · exact .inl h1
  · exact .inr ⟨g, cap, cur, rfl, hb, (Below.block hg g (Array.getElem?_eq_some_iff.1 hgg).1).trans hgg, rest⟩
theorem ords_len {s : ByteArray} {xs : List Int} (h : ords (bl s) = some xs) : xs.length ≤ maxLen := by
  rw [ords_parts] at h
  split at h
  · cases h
    have := partsOf_length s
    simp
    unfold maxLen
    omega
  · cases h

/-- The elements of a slice of numbers can be read. -/
theorem row_read {w : World} {base : Nat} {v : Value} {xs : List Int} (h : w.ownsRow base 3 1 v xs.length (xs.map (Value.int .i64))) :
    ∃ a c, v = .slice a xs.length c ∧ ∀ i (hi : i < xs.length), ∃ b, a = some ⟨b, 0, none⟩ ∧ w.cell? ⟨b, i, none⟩ = some (.int .i64 xs[i]) := by
  rcases h.2 with ⟨rfl, h0⟩ | ⟨g, cap, cur, rfl, _⟩
  · exact ⟨none, 0, by rw [h0], fun i hi => by omega⟩
  · refine ⟨_, cap, rfl, fun i hi => ⟨g, rfl, ?_⟩⟩
    have := h.cellAt i (by omega)
    rw [this]
    simp [hi]

theorem compareInts_any {xs ys : List Int} {v u : Value} {n1 n2 : Nat} (w : World) (hv : w.ownsRow n1 3 1 v xs.length (xs.map (Value.int .i64))) (hu : w.ownsRow n2 3 1 u ys.length (ys.map (Value.int .i64))) (hx : xs.length ≤ maxLen) (hy : ys.length ≤ maxLen) :
    Calls Tryz.prog 218 #[v, u] w fun e w' => e = .returned (.int .i64 (listCmp Lib.compareInt xs ys)) ∧ w = w' := by
  unfold maxLen at hx hy
  obtain ⟨a, c, rfl, hra⟩ := row_read hv
  obtain ⟨b, d, rfl, hrb⟩ := row_read hu
  go_enter Tryz.func218, Tryz.ntmps218
  go_wp2
  go_loop [11] (fun i => ∃ k : Nat, k ≤ xs.length ∧ i = .int .i64 k ∧ Hid (k ≤ ys.length ∧ listCmp Lib.compareInt xs ys = listCmp Lib.compareInt (xs.drop k) (ys.drop k))) (fun i => xs.length - (intOf i).toNat)
  case atStart => exact ⟨0, by omega, rfl, Lib.hid ⟨Nat.zero_le _, rfl⟩⟩
  case round =>
    obtain ⟨k, hk, rfl, hh⟩ := hrel
    by_cases hkx : k < xs.length
    · obtain ⟨b1, rfl, hc1⟩ := hra k hkx
      by_cases hky : k < ys.length
      · obtain ⟨b2, rfl, hc2⟩ := hrb k hky
        go_wp2_with fail
        refine (Tryz.cmp_Compare_int _ _ _).mono ?_
        rintro e w' ⟨rfl, rfl⟩
        by_cases hz : Lib.compareInt xs[k] ys[k] = 0
        · have hzb : (Lib.compareInt xs[k] ys[k] != 0) = false := by simp [hz]
          go_wp2
          go_round
          case rel =>
            refine ⟨k + 1, by omega, by simp, Lib.hid ⟨by omega, ?_⟩⟩
            rw [hh.out.2, List.drop_eq_getElem_cons hkx, List.drop_eq_getElem_cons hky]
            simp only [listCmp]
            rw [if_neg (by simp [hz])]
          case measure => simp [intOf]; omega
        · have hzb : (Lib.compareInt xs[k] ys[k] != 0) = true := by simp [hz]
          go_wp2
          go_ret
          refine ⟨?_, rfl⟩
          rw [hh.out.2, List.drop_eq_getElem_cons hkx, List.drop_eq_getElem_cons hky]
          simp only [listCmp]
          rw [if_pos hz]
          rfl
      · have hkl := hh.out.1
        go_wp2
        go_ret
        refine ⟨?_, rfl⟩
        rw [hh.out.2, List.drop_eq_getElem_cons hkx, List.drop_of_length_le (l := ys) (by omega)]
        rfl
    · have hkl := hh.out.1
      have he := hh.out.2
      have hhe := Lib.hid he
      clear he
      by_cases hl : xs.length < ys.length
      · go_wp2
        go_ret
        refine ⟨?_, rfl⟩
        rw [hhe.out, List.drop_of_length_le (by omega), List.drop_eq_getElem_cons (show k < ys.length by omega)]
        rfl
      · go_wp2
        go_ret
        refine ⟨?_, rfl⟩
        rw [hhe.out, List.drop_of_length_le (by omega), List.drop_of_length_le (by omega)]
        rfl

/-- The first number that is not 0. -/
def orL : List Int → Int
  | [] => 0
  | x :: l => if x ≠ 0 then x else orL l
def SLI (xs : List Int) : Phi := fun v W => ∃ b c, v = .slice (some ⟨b, 0, none⟩) xs.length c ∧ ∀ i (hi : i < xs.length), W.cell? ⟨b, i, none⟩ = some (.int .i64 xs[i])
theorem SLI.stable {xs : List Int} : Stable (SLI xs) := fun _ _ _ ⟨b, c, hv, h⟩ hg => ⟨b, c, hv, fun i hi => hg.cell (h i hi)⟩
theorem SLI.five (a b c d e : Int) (W : World) : SLI [a, b, c, d, e] (.slice (some ⟨W.heap.size, 0, none⟩) 5 5) (W.alloc (.cells #[.int .i64 a, .int .i64 b, .int .i64 c, .int .i64 d, .int .i64 e] 3)) := by
  refine ⟨_, _, rfl, fun i hi => ?_⟩
  have : i = 0 ∨ i = 1 ∨ i = 2 ∨ i = 3 ∨ i = 4 := by simp at hi; omega
  rcases this with rfl | rfl | rfl | rfl | rfl <;> simp [go_sem]

theorem or_any {xs : List Int} {b c : Nat} (w : World) (hx : xs.length ≤ 1000) (h : ∀ i (hi : i < xs.length), w.cell? ⟨b, i, none⟩ = some (.int .i64 xs[i])) :
    Calls Tryz.prog 142 #[.slice (some ⟨b, 0, none⟩) xs.length c] w fun e w' => e = .returned (.int .i64 (orL xs)) ∧ w = w' := by
  go_enter Tryz.func142, Tryz.ntmps142
  go_wp2
  go_loop [8] (fun i => ∃ k : Nat, k ≤ xs.length ∧ i = .int .i64 k ∧ Hid (orL xs = orL (xs.drop k))) (fun i => xs.length - (intOf i).toNat)
  case atStart => exact ⟨0, by omega, rfl, Lib.hid rfl⟩
  case round =>
    obtain ⟨k, hk, rfl, hh⟩ := hrel
    by_cases hkx : k < xs.length
    · have hc := h k hkx
      by_cases hz : xs[k] = 0
      · have hzb : (xs[k] != 0) = false := by simp [hz]
        have hz' := Lib.hid hz
        clear hz
        go_wp2
        go_round
        case rel =>
          refine ⟨k + 1, by omega, by simp, Lib.hid ?_⟩
          rw [hh.out, List.drop_eq_getElem_cons hkx]
          simp only [orL]
          rw [if_neg (by simp [hz'.out])]
        case measure => simp [intOf]; omega
      · have hzb : (xs[k] != 0) = true := by simp [hz]
        have hz' := Lib.hid hz
        clear hz
        go_wp2
        go_ret
        refine ⟨?_, rfl⟩
        rw [hh.out, List.drop_eq_getElem_cons hkx]
        simp only [orL]
        rw [if_pos hz'.out]
        rfl
    · go_wp2
      go_ret
      refine ⟨?_, rfl⟩
      rw [hh.out, List.drop_of_length_le (by omega)]
      rfl

theorem linCompare_any (a b : ByteArray) (ha : a.size ≤ maxLen) (hb : b.size ≤ maxLen) (w : World) :
    Calls Tryz.prog 164 #[.string a, .string b] w fun e w' => e = .returned (.int .i64 (linCmp (bl a) (bl b))) ∧ Grew w w' := by
  go_enter Tryz.func164, Tryz.ntmps164
  go_wp2_with fail
  refine (valid_any a ha _).mono ?_
  rintro e w1 ⟨rfl, hg1⟩
  go_wp2_with fail
  refine (valid_any b hb _).mono ?_
  rintro e w2 ⟨rfl, hg2⟩
  have hg := hg1.trans hg2
  clear hg1 hg2
  cases hoa : ords (bl a) with
  | none =>
    cases hob : ords (bl b) with
    | none =>
      have hlc : linCmp (bl a) (bl b) = Lib.compareBytes (bl a) (bl b) := by unfold linCmp; rw [hoa, hob]
      simp only [Option.isSome]
      go_wp2_with fail
      refine (Tryz.strings_Compare _ _ _).mono ?_
      rintro e w' ⟨rfl, rfl⟩
      go_wp2
      go_ret
      exact ⟨by rw [hlc]; rfl, hg⟩
    | some ys =>
      have hlc : linCmp (bl a) (bl b) = 1 := by unfold linCmp; rw [hoa, hob]
      simp only [Option.isSome]
      go_wp2
      go_ret
      exact ⟨by rw [hlc]; rfl, hg⟩
  | some xs =>
    cases hob : ords (bl b) with
    | none =>
      have hlc : linCmp (bl a) (bl b) = -1 := by unfold linCmp; rw [hoa, hob]
      simp only [Option.isSome]
      go_wp2
      go_ret
      exact ⟨by rw [hlc]; rfl, hg⟩
    | some ys =>
      have hlc : linCmp (bl a) (bl b) = listCmp Lib.compareInt xs ys := by unfold linCmp; rw [hoa, hob]
      simp only [Option.isSome]
      go_wp2_with fail
      refine (ordinals_any a ha hoa _).mono ?_
      rintro e w3 ⟨v, rfl, hv, hg3⟩
      go_wp2_with fail
      refine (ordinals_any b hb hob _).mono ?_
      rintro e w4 ⟨u, rfl, hu, hg4⟩
      go_wp2_with fail
      refine (compareInts_any _ (row_grew hv hg4) hu (ords_len hoa) (ords_len hob)).mono ?_
      rintro e w' ⟨rfl, rfl⟩
      go_wp2
      go_ret
      exact ⟨by rw [hlc]; rfl, (hg.trans hg3).trans hg4⟩
end Go.Proofs.YtkiojenkpbkjpaaGreatDoor
