/- Plain: the maps of a view and the lists of the reference say the same. -/
import Derived.Test.YtkiojenkpbkjpaaGreatDoorViewS
set_option linter.unusedVariables false
set_option linter.unusedSimpArgs false
namespace Go.Proofs.YtkiojenkpbkjpaaGreatDoor
open Go Go.RowKit RV

/-- The last call for a name. -/
def lastC (n : Nm) (l : List Ch) : Option Ch := l.reverse.find? fun c => decide (n = c.name)
theorem lastC_nil (n : Nm) : lastC n [] = none := rfl
theorem lastC_snoc (n : Nm) (l : List Ch) (c : Ch) : lastC n (l ++ [c]) = if n = c.name then some c else lastC n l := by
  unfold lastC
  rw [List.reverse_append]
  by_cases h : n = c.name <;> simp [h]
theorem getM_putM (n : Nm) (c : Ch) : ∀ m : List Ch, getM n (putM c m) = if n = c.name then some c else getM n m
  | [] => by
    unfold getM putM
    by_cases h : n = c.name <;> simp [h]
  | d :: m => by
    have ih := getM_putM n c m
    unfold putM
    by_cases hd : c.name = d.name
    · rw [if_pos hd]
      unfold getM
      by_cases h : n = c.name
      · simp [h]
      · have h' : n ≠ d.name := fun e => h (e.trans hd.symm)
        simp [h, h']
    · rw [if_neg hd]
      unfold getM at ih ⊢
      rw [List.find?_cons, List.find?_cons]
      by_cases h : n = d.name
      · have h' : n ≠ c.name := fun e => hd (e.symm.trans h)
        simp only [h, decide_true]
        rw [if_neg (by rw [← h]; exact h')]
      · simp only [h, decide_false]
        exact ih
theorem setAll_snoc (l : List Ch) (c : Ch) (m : List Ch) : setAll (l ++ [c]) m = putM c (setAll l m) := by unfold setAll; rw [List.foldl_append]; rfl
theorem snoc_ind {α : Type} {p : List α → Prop} (h0 : p []) (hs : ∀ l a, p l → p (l ++ [a])) (l : List α) : p l := by
  have h : ∀ r : List α, p r.reverse := by
    intro r
    induction r with
    | nil => exact h0
    | cons a r ih => rw [List.reverse_cons]; exact hs _ _ ih
  have := h l.reverse
  rwa [List.reverse_reverse] at this
theorem get_setAll (n : Nm) (l : List Ch) : getM n (setAll l []) = lastC n l := by
  induction l using snoc_ind with
  | h0 => rfl
  | hs l c ih => rw [setAll_snoc, getM_putM, lastC_snoc, ih]
theorem setAll_names (l : List Ch) : (setAll l []).Pairwise fun a b => a.name ≠ b.name := by
  induction l using snoc_ind with
  | h0 => exact List.Pairwise.nil
  | hs l c ih => rw [setAll_snoc]; exact putM_names ih
theorem mem_getM {x : Ch} : ∀ {m : List Ch}, m.Pairwise (fun a b => a.name ≠ b.name) → (x ∈ m ↔ getM x.name m = some x)
  | [], _ => by simp [getM]
  | d :: m, h => by
    have h' := List.pairwise_cons.1 h
    have ih := mem_getM (x := x) h'.2
    unfold getM at ih ⊢
    rw [List.find?_cons]
    by_cases hx : x.name = d.name
    · simp only [hx, decide_true, Option.some.injEq]
      constructor
      · intro hm
        rcases List.mem_cons.1 hm with e | hm
        · exact e.symm
        · exact (h'.1 x hm hx.symm).elim
      · intro e; rw [e]; simp
    · simp only [hx, decide_false]
      rw [← ih, List.mem_cons]
      exact ⟨fun hm => hm.elim (fun e => (hx (by rw [e])).elim) id, .inr⟩
theorem lastC_name {n : Nm} {l : List Ch} {c : Ch} (h : lastC n l = some c) : c.name = n ∧ c ∈ l := by
  unfold lastC at h
  have h1 := List.find?_some h
  have h2 := List.mem_of_find?_eq_some h
  exact ⟨(by simpa using h1 : n = c.name).symm, by simpa using h2⟩
theorem lastC_some {n : Nm} {l : List Ch} (h : n ∈ l.map (·.name)) : ∃ c, lastC n l = some c := by
  cases hl : lastC n l with
  | some c => exact ⟨c, rfl⟩
  | none =>
    exfalso
    unfold lastC at hl
    rw [List.find?_eq_none] at hl
    obtain ⟨c, hc, hn⟩ := List.mem_map.1 h
    exact hl c (by simpa using hc) (by simp [hn])

/-- The names of a list, each once, in order. -/
def SrtN (l : List Nm) : Prop := l.Pairwise fun a b => nameCmp a b < 0
def insN (n : Nm) : List Nm → List Nm
  | [] => [n]
  | d :: l => if nameCmp d n < 0 then d :: insN n l else if d = n then d :: l else n :: d :: l
def sortN (l : List Nm) : List Nm := l.foldl (fun o n => insN n o) []
theorem mem_insN {n x : Nm} : ∀ {l : List Nm}, x ∈ insN n l ↔ x = n ∨ x ∈ l
  | [] => by simp [insN]
  | d :: l => by
    have ih := mem_insN (n := n) (x := x) (l := l)
    unfold insN
    split
    · rw [List.mem_cons, ih, List.mem_cons]
      exact ⟨fun h => h.elim (fun e => .inr (.inl e)) fun h => h.elim .inl fun h => .inr (.inr h), fun h => h.elim (fun e => .inr (.inl e)) fun h => h.elim .inl fun h => .inr (.inr h)⟩
    · split
      · rename_i e
        subst e
        rw [List.mem_cons]
        exact ⟨fun h => .inr h, fun h => h.elim .inl id⟩
      · rw [List.mem_cons]
theorem insN_srt {n : Nm} : ∀ {l : List Nm}, SrtN l → SrtN (insN n l)
  | [], _ => List.pairwise_singleton _ _
  | d :: l, h => by
    have h' := List.pairwise_cons.1 h
    unfold insN
    split
    · rename_i hc
      refine List.pairwise_cons.2 ⟨fun x hx => ?_, insN_srt h'.2⟩
      rcases mem_insN.1 hx with rfl | hx
      · exact hc
      · exact h'.1 x hx
    · split
      · exact h
      · rename_i hc he
        have hlt : nameCmp n d < 0 := by
          rcases nameCmp_lin.lt_or n d with g | g | g
          · exact g
          · exact (he g.symm).elim
          · exact (hc g).elim
        refine List.pairwise_cons.2 ⟨fun x hx => ?_, h⟩
        rcases List.mem_cons.1 hx with rfl | hx
        · exact hlt
        · exact nameCmp_lin.trans_le (by omega) (h'.1 x hx)
theorem sortN_snoc (l : List Nm) (n : Nm) : sortN (l ++ [n]) = insN n (sortN l) := by unfold sortN; rw [List.foldl_append]; rfl
theorem sortN_srt (l : List Nm) : SrtN (sortN l) := by
  induction l using snoc_ind with
  | h0 => exact List.Pairwise.nil
  | hs l c ih => rw [sortN_snoc]; exact insN_srt ih
theorem mem_sortN {x : Nm} (l : List Nm) : x ∈ sortN l ↔ x ∈ l := by
  induction l using snoc_ind with
  | h0 => exact Iff.rfl
  | hs l c ih => rw [sortN_snoc, mem_insN, ih]; simp [or_comm]

theorem srt_ext : ∀ {a b : List Ch}, Srt a → Srt b → (∀ x, x ∈ a ↔ x ∈ b) → a = b
  | [], [], _, _, _ => rfl
  | [], y :: b, _, _, h => by have := (h y).2 (by simp); simp at this
  | x :: a, [], _, _, h => by have := (h x).1 (by simp); simp at this
  | x :: a, y :: b, ha, hb, h => by
    have ha' := List.pairwise_cons.1 ha
    have hb' := List.pairwise_cons.1 hb
    have hxy : x = y := by
      rcases List.mem_cons.1 ((h x).1 (by simp)) with e | h1
      · exact e
      rcases List.mem_cons.1 ((h y).2 (by simp)) with e | h2
      · exact e.symm
      exact (nameCmp_lin.asymm (hb'.1 x h1) (ha'.1 y h2)).elim
    subst hxy
    rw [srt_ext ha'.2 hb'.2 fun z => ?_]
    have hz := h z
    rw [List.mem_cons, List.mem_cons] at hz
    constructor
    · intro hm
      rcases hz.1 (.inr hm) with e | h1
      · subst e; exact (nameCmp_lin.ne_of_lt (ha'.1 z hm) rfl).elim
      · exact h1
    · intro hm
      rcases hz.2 (.inr hm) with e | h1
      · subst e; exact (nameCmp_lin.ne_of_lt (hb'.1 z hm) rfl).elim
      · exact h1

/-- What a map that was filled call by call holds, in order: the last call for each name. -/
theorem sort_setAll (l : List Ch) : sortM (setAll l []) = (sortN (l.map (·.name))).map fun n => (lastC n l).getD zCh := by
  refine srt_ext (sortM_srt (setAll_names l)) ?_ fun x => ?_
  · unfold Srt
    rw [List.pairwise_map]
    have h0 : (sortN (l.map fun c : Ch => c.name)).Pairwise fun a b => nameCmp a b < 0 := sortN_srt _
    refine h0.imp_of_mem ?_
    intro a b ha hb hab
    obtain ⟨c, hc⟩ := lastC_some ((mem_sortN _).1 ha)
    obtain ⟨d, hd⟩ := lastC_some ((mem_sortN _).1 hb)
    rw [hc, hd]
    show nameCmp c.name d.name < 0
    rw [(lastC_name hc).1, (lastC_name hd).1]
    exact hab
  · rw [(sortM_perm _).mem_iff, mem_getM (setAll_names l), get_setAll, List.mem_map]
    constructor
    · intro h
      have hm := (lastC_name h).2
      exact ⟨x.name, (mem_sortN _).2 (List.mem_map.2 ⟨x, hm, rfl⟩), by rw [h]; rfl⟩
    · rintro ⟨n, hn, rfl⟩
      obtain ⟨c, hc⟩ := lastC_some ((mem_sortN _).1 hn)
      rw [hc]
      show lastC c.name l = some c
      rw [(lastC_name hc).1, hc]
end Go.Proofs.YtkiojenkpbkjpaaGreatDoor
