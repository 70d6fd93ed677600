/- Walk: slices.SortFunc of changes, by the shelf's contract. -/
import Derived.Test.YtkiojenkpbkjpaaGreatDoorCollB
import Derived.Test.YtkiojenkpbkjpaaGreatDoorViewS
import Derived.Test.YtkiojenkpbkjpaaGreatDoorDrawn
import Derived.Test.YtkiojenkpbkjpaaGreatDoorLast
import Derived.Test.YtkiojenkpbkjpaaGreatDoorSortL
set_option linter.unusedVariables false
set_option linter.unusedSimpArgs false
namespace Go.Proofs.YtkiojenkpbkjpaaGreatDoor
open Go Go.RowKit RV Go.Sort Go.Shelf Go.Lib Go.Proofs
set_option maxHeartbeats 2000000

theorem grow_of {w w' : World} (hg : Grew w w') (hd : w.drawn ≤ w'.drawn) : ∃ q os, w' = grow (w.drewN q) os := by
  refine ⟨w'.drawn - w.drawn, w'.heap.extract w.heap.size w'.heap.size, ?_⟩
  have h1 : w'.heap = w.heap ++ w'.heap.extract w.heap.size w'.heap.size := by
    apply Array.ext_getElem?
    intro k
    by_cases hk : k < w.heap.size
    · rw [Array.getElem?_append_left hk, Below.block hg k hk]
    · have hs := hg.size
      rw [Array.getElem?_append_right (by omega), Array.getElem?_extract]
      split
      · congr 1; omega
      · rw [Array.getElem?_eq_none (by omega)]
  have h2 := hg.os
  have h3 := hg.tape
  have h4 := hg.output
  cases w with
  | mk heap tape drawn os output =>
    cases w' with
    | mk heap' tape' drawn' os' output' =>
      simp only at h1 h2 h3 h4 hd
      subst h2; subst h3; subst h4
      simp only [grow, World.drewN, World.mk.injEq, true_and, and_true]
      exact ⟨h1, by omega⟩

/-- A change whose name's owner is no longer than any machine's memory. -/
abbrev FCh := { c : Ch // c.name.owner.size ≤ maxLen }
instance : Inhabited FCh := ⟨⟨zCh, by decide⟩⟩
def encF (c : FCh) : List Value := chCells c.1
def cfF (a b : FCh) : Int := nameCmp a.1.name b.1.name
theorem ltF (a b : FCh) : ltOf cfF a b = decide (nameCmp a.1.name b.1.name < 0) := rfl
theorem swoF : SWO (ltOf cfF) where
  irrefl x := by rw [ltF, nameCmp_lin.refl]; rfl
  trans x y z h1 h2 := by
    rw [ltF, decide_eq_true_eq] at *
    exact nameCmp_lin.trans_le (by omega) h2
  ntrans x y z h1 h2 := by
    rw [ltF, decide_eq_false_iff_not] at *
    intro h
    rw [nameCmp_lin.anti y.1.name x.1.name] at h1
    rw [nameCmp_lin.anti z.1.name y.1.name] at h2
    exact h2 (by have := nameCmp_lin.trans_le (a := y.1.name) (b := x.1.name) (d := z.1.name) (by omega) h; rw [nameCmp_lin.anti z.1.name y.1.name] at this; omega)

theorem cmpLaysF (blk off size : Nat) (w : World) : CmpLays Tryz.prog 154 #[] encF 7 cfF blk off size w := by
  intro m os dk _ x y
  refine (calls_drawn (cmpCh_any x.1 y.1 x.2 y.2 _) ?_).mono ?_
  · rintro e w' ⟨rfl, -⟩; exact ⟨_, rfl⟩
  · rintro e w' ⟨⟨rfl, hg⟩, hd⟩
    exact ⟨rfl, grow_of hg hd⟩

theorem flat_get {α : Type} [Inhabited α] (enc : α → List Value) (k : Nat) (hk : ∀ x, (enc x).length = k) : ∀ (l : List α) (t : Nat), t < l.length * k → (l.flatMap enc)[t]? = some (enc l[t / k]!)[t % k]!
  | [], t, h => by simp at h
  | a :: l, t, h => by
    have k0 : 0 < k := by
      rcases Nat.eq_zero_or_pos k with e | e
      · subst e; simp at h
      · exact e
    rw [List.flatMap_cons]
    by_cases ht : t < k
    · rw [List.getElem?_append_left (by rw [hk]; exact ht), Nat.div_eq_of_lt ht, Nat.mod_eq_of_lt ht]
      have hl : t < (enc a).length := by rw [hk]; exact ht
      simp [List.getElem?_eq_getElem hl, getElem!_pos (enc a) t hl]
    · have ih := flat_get enc k hk l (t - k) (by simp only [List.length_cons, Nat.add_mul, Nat.one_mul] at h; omega)
      rw [List.getElem?_append_right (by rw [hk]; omega), hk, ih]
      have e1 : t / k = (t - k) / k + 1 := by
        have := Nat.add_div_right (t - k) k0
        rw [Nat.sub_add_cancel (by omega)] at this
        exact this
      have e2 : t % k = (t - k) % k := by
        have := Nat.add_mod_right (t - k) k
        rw [Nat.sub_add_cancel (by omega)] at this
        exact this
      rw [e1, e2]
      rfl
theorem flat_length_k {α : Type} (enc : α → List Value) (k : Nat) (hk : ∀ x, (enc x).length = k) : ∀ l : List α, (l.flatMap enc).length = l.length * k
  | [] => by simp
  | a :: l => by rw [List.flatMap_cons, List.length_append, hk, flat_length_k enc k hk l, List.length_cons, Nat.add_mul, Nat.one_mul, Nat.add_comm]
theorem flatK_list {α : Type} [Inhabited α] (enc : α → List Value) (k : Nat) (hk : ∀ x, (enc x).length = k) (d : Array α) : (flatK enc k d).toList = d.toList.flatMap enc := by
  apply List.ext_getElem?
  intro t
  by_cases h : t < d.size * k
  · have hs : t < (flatK enc k d).size := by rw [size_flatK]; exact h
    have h1 := get_flatK enc k d t h
    rw [getElem!_pos _ t hs] at h1
    have hq : t / k < d.size := Nat.div_lt_of_lt_mul (by rw [Nat.mul_comm]; exact h)
    rw [Array.getElem?_toList, Array.getElem?_eq_getElem hs, h1, flat_get enc k hk d.toList t (by simpa using h), getElem!_pos d _ hq, getElem!_pos d.toList _ (by simpa using hq), Array.getElem_toList]
  · rw [List.getElem?_eq_none (by simp; omega), List.getElem?_eq_none (by rw [flat_length_k enc k hk]; simp; omega)]

theorem heap_sortW {w : World} {g n : Nat} {os : Array Obj} {cur : Array Value} {e : TypeId} {fr : Nat × Nat} (F : Array Value) (hb : w.heap[g]? = some (.cells cur e fr)) :
    (grow (putRow id (Sort.ahead w n) g 0 F) os).heap[g]? = some (.cells (putCells id 0 F cur) e fr) := by
  have hg : g < w.heap.size := (Array.getElem?_eq_some_iff.1 hb).1
  rw [heap_grow_old _ _ (by simpa using hg)]
  simp [putRow, mapBlock, Sort.ahead, Array.getElem?_modify, hb, onCells]
theorem but_sortW {w : World} {g n : Nat} {os : Array Obj} (F : Array Value) : But [g] w (grow (putRow id (Sort.ahead w n) g 0 F) os) := by
  refine ⟨rfl, rfl, rfl, by simp, fun k hk hne => ?_⟩
  rw [heap_grow_old _ _ (by simpa using hk)]
  have : g ≠ k := fun e => hne (by simp [e])
  simp [putRow, mapBlock, Sort.ahead, Array.getElem?_modify, this]
theorem take_putW (cur F : Array Value) (h : F.size ≤ cur.size) : (putCells id 0 F cur).toList.take F.size = F.toList := by
  apply List.ext_getElem?
  intro j
  by_cases hj : j < F.size
  · rw [List.getElem?_take_of_lt hj, Array.getElem?_toList]
    simp [putCells, hj, show j < cur.size by omega]
  · rw [List.getElem?_take_eq_none (by omega), List.getElem?_eq_none (by simp; omega)]
theorem holds_row {w : World} {g : Nat} {cur F : Array Value} {e : TypeId} (hb : w.heap[g]? = some (.cells cur e (0, 0))) (ht : cur.toList.take F.size = F.toList) : Holds id w g 0 F := by
  intro j hj
  refine ⟨?_, by simp [World.frozen?, hb]⟩
  have h1 : (cur.toList.take F.size)[j]? = F.toList[j]? := by rw [ht]
  rw [List.getElem?_take_of_lt hj] at h1
  simp only [World.cell?, hb, Nat.zero_add]
  simp only [Option.isSome_none, Bool.false_eq_true, if_false]
  rw [← Array.getElem?_toList, h1]
  simp [hj]

theorem sortFunc_any {base : Nat} {v : Value} {ys : List Ch} (w : World) (h : IsLO base w v ys) (hb : base ≤ w.heap.size) (hl : ys.length ≤ 100000) (hn : ∀ c ∈ ys, c.name.owner.size ≤ maxLen) (hd : ys.Pairwise fun a b => a.name ≠ b.name) :
    Calls Tryz.prog 208 #[v, .func (.func 154) #[] #[]] w fun e w' => e = .returned (.tuple #[]) ∧ ∃ zs, zs.Perm ys ∧ Srt zs ∧ IsLO base w' v zs ∧ Below base w w' := by
  obtain ⟨h1, h2⟩ := h
  rcases h2 with ⟨rfl, h0⟩ | ⟨g, cap, cur, rfl, hg, hh, hc1, hc2, hc3, hc4⟩
  · have : ys = [] := List.eq_nil_of_length_eq_zero h0
    subst this
    refine (AnyF.slices_SortFunc_none (P := Tryz.prog) Tryz.laysSF none 0 _ w).mono ?_
    rintro e w' ⟨rfl, rfl⟩
    exact ⟨rfl, [], List.Perm.refl _, List.Pairwise.nil, ⟨h1, .inl ⟨rfl, rfl⟩⟩, Below.refl _ _⟩
  · obtain ⟨ds, rfl⟩ : ∃ ds : List FCh, ds.map (·.1) = ys := ⟨ys.pmap Subtype.mk hn, by rw [List.map_pmap]; simp⟩
    have hk : ∀ x : FCh, (encF x).length = 7 := fun _ => rfl
    have hfl : ∀ xs : List FCh, (xs.map (·.1)).flatMap chCells = xs.flatMap encF := fun xs => by rw [List.flatMap_map]; rfl
    rw [hfl] at h1 hc4
    rw [List.length_map] at h1 hc1 hc4 hl ⊢
    have hF : (flatK encF 7 ds.toArray).toList = ds.flatMap encF := by rw [flatK_list encF 7 hk]
    have hsz : (flatK encF 7 ds.toArray).size = ds.length * 7 := by simp
    have hH : HoldsK encF 7 w g 0 ds.toArray := holds_row hh (by rw [hsz, hF, hc4])
    have hcon := AnyQ.slices_SortFunc Tryz.laysSF 7 Tryz.isAgg66 Tryz.sizeOf66 encF hk (fun x u hu => by
      simp only [encF, List.mem_cons, List.not_mem_nil, or_false] at hu
      rcases hu with rfl | rfl | rfl | rfl | rfl | rfl | rfl <;> rfl) cfF swoF 154 #[] g 0 cap ds.toArray w (enters_of Tryz.func154 (by kernel_rfl) rfl) (cmpLaysF g 0 _ w) hH (Array.getElem?_eq_some_iff.1 hh).1 (by simp; omega)
    change Calls Tryz.prog 208 #[.slice (some ⟨g, 0, none⟩) ds.length cap, .func (.func 154) #[] #[]] w _ at hcon
    refine hcon.mono ?_
    rintro e w' ⟨rfl, d', n, os, ⟨hs, -, hp⟩, hso, rfl⟩
    have hs' : d'.size = ds.length := by simpa using hs
    have hp' : d'.toList.Perm ds := by
      have h3 : (List.take ds.length d'.toList).Perm ds := by simpa using hp
      rwa [List.take_of_length_le (by simp [hs'])] at h3
    have hlen : (d'.toList.map (·.1)).length = ds.length := by simpa using hs'
    have hperm : (d'.toList.map (·.1)).Perm (ds.map (·.1)) := hp'.map _
    refine ⟨rfl, d'.toList.map (·.1), hperm, ?_, ⟨?_, .inr ⟨g, cap, _, by rw [hlen], hg, heap_sortW _ hh, by rw [hlen]; exact hc1, hc2, by simp [putCells, hc3], ?_⟩⟩, (but_sortW _).below hb (by simpa using hg)⟩
    · have hd' : (d'.toList.map (·.1)).Pairwise fun a b : Ch => a.name ≠ b.name := hperm.symm.pairwise hd fun h e => h e.symm
      rw [List.pairwise_map] at hd'
      unfold Srt
      rw [List.pairwise_map, List.pairwise_iff_getElem]
      intro i j hi hj hij
      have hi' : i < d'.size := by simpa using hi
      have hj' : j < d'.size := by simpa using hj
      have hne := List.pairwise_iff_getElem.1 hd' i j hi hj hij
      have hle := hso i j (Nat.zero_le _) hij (by rw [← hs]; exact hj')
      rw [ltF, decide_eq_false_iff_not, getElem!_pos d' i hi', getElem!_pos d' j hj'] at hle
      simp only [Array.getElem_toList] at hne ⊢
      rcases nameCmp_lin.lt_or (d'[i]).1.name (d'[j]).1.name with h | h | h
      · exact h
      · exact (hne h).elim
      · exact (hle h).elim
    · rw [hfl, flat_length_k encF 7 hk, hlen]; simp [hs']
    · rw [hfl, hlen, ← flatK_list encF 7 hk, ← hs']
      have := take_putW cur (flatK encF 7 d') (by rw [size_flatK, hs', hc3]; exact Nat.mul_le_mul_right 7 hc1)
      rwa [size_flatK] at this
end Go.Proofs.YtkiojenkpbkjpaaGreatDoor
