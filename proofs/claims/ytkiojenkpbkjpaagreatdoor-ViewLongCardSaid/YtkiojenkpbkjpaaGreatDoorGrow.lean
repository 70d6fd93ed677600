/- Drawn regions in a world that only grows. -/
import Derived.Test.YtkiojenkpbkjpaaGreatDoorVal
import Derived.Test.YtkiojenkpbkjpaaGreatDoorHeap
set_option linter.unusedVariables false
set_option linter.unusedSimpArgs false
namespace Go.Proofs.YtkiojenkpbkjpaaGreatDoor
open Go Go.RowKit RV

abbrev Phi := Value → World → Prop
/-- This very value. -/
def Fx (e : Value) : Phi := fun v _ => v = e
/-- Whatever. -/
def Any : Phi := fun _ _ => True
def Stable (φ : Phi) : Prop := ∀ v W W', φ v W → Grew W W' → φ v W'
theorem Fx.stable (e : Value) : Stable (Fx e) := fun _ _ _ h _ => h
theorem Any.stable : Stable Any := fun _ _ _ h _ => h

def phiOf (l : List Phi) (i : Nat) : Phi := (l[i]?).getD Any
def AllStable : List Phi → Prop
  | [] => True
  | φ :: l => Stable φ ∧ AllStable l
theorem AllStable.get : ∀ {l : List Phi}, AllStable l → ∀ i, Stable (phiOf l i)
  | [], _, i => by simpa [phiOf] using Any.stable
  | φ :: l, h, 0 => by simpa [phiOf] using h.1
  | φ :: l, h, i + 1 => by simpa [phiOf] using AllStable.get h.2 i

def StepG (P : Program) (ops : Array Oper) (a : Act) (w : World) (φs : List Phi) (i : Nat) (o : Oper) : Prop :=
  ∀ (a' : Act) (W : World), Grew w W → a'.defers = a.defers →
    (∀ j t, dstB ops j t = true → reachB ops ops.size i j = true → ∃ v, a'.tmps[t]? = some v ∧ phiOf φs j v W) →
    (∀ t, freeB ops i t = true → a'.tmps[t]? = a.tmps[t]?) →
    ∀ K : Act → World → Prop, (∀ v W', Grew W W' → phiOf φs i v W' → K (a'.put o.dst v) W') →
    if Region.wanted o (yielded ops a'.tmps) then o.wp P a' W K (fun _ _ _ => False) else K (a'.put o.dst undef) W

def StepsG (P : Program) (ops : Array Oper) (a : Act) (w : World) (φs : List Phi) : Nat → List Oper → Prop
  | _, [] => True
  | i, o :: rest => StepG P ops a w φs i o ∧ StepsG P ops a w φs (i + 1) rest

theorem StepsG.to {P : Program} {ops : Array Oper} {a : Act} {w : World} {φs : List Phi} : ∀ (l : List Oper) (k : Nat), StepsG P ops a w φs k l →
    StepsFrom P ops a (fun _ W => Grew w W) Grew (phiOf φs) k l
  | [], _, _ => trivial
  | o :: l, k, h => ⟨fun L a' W hI _ _ _ hd hΦ h0 K hK => h.1 a' W hI hd hΦ h0 K fun v W' hg hφ => hK v W' (Grew.trans hI hg) hg hφ, StepsG.to l (k + 1) h.2⟩

/-- What follows: for whatever values that fit. -/
def FinG (Q : Exit → Act → World → Prop) : List Oper → List Phi → Act → World → Prop
  | [], _, a, W => Q .normal a W
  | o :: os, φ :: φs, a, W => ∀ v, φ v W → FinG Q os φs (a.put o.dst v) W
  | o :: os, [], a, W => ∀ v, FinG Q os [] (a.put o.dst v) W

def putAll : List Oper → List Value → Act → Act
  | o :: os, v :: vs, a => putAll os vs (a.put o.dst v)
  | _, _, a => a

theorem FinG.of {Q : Exit → Act → World → Prop} {W : World} : ∀ (l : List Oper) (φs : List Phi) (vs : List Value) (a : Act), FinG Q l φs a W → vs.length = l.length → (∀ j v, vs[j]? = some v → phiOf φs j v W) → Q .normal (putAll l vs a) W
  | [], _, vs, a, h, hl, _ => by
    have : vs = [] := List.eq_nil_of_length_eq_zero (by simpa using hl)
    subst this; exact h
  | o :: os, φs, [], a, h, hl, _ => by simp at hl
  | o :: os, φ :: φs, v :: vs, a, h, hl, hv => FinG.of os φs vs _ (h v (by simpa [phiOf] using hv 0 v rfl)) (by simpa using hl) (fun j u hj => by simpa [phiOf] using hv (j + 1) u (by simpa using hj))
  | o :: os, [], v :: vs, a, h, hl, hv => FinG.of os [] vs _ (h v) (by simpa using hl) (fun j u hj => by simpa [phiOf] using hv (j + 1) u (by simpa using hj))

theorem putAll_defers : ∀ (l : List Oper) (vs : List Value) (a : Act), (putAll l vs a).defers = a.defers
  | [], vs, a => by cases vs <;> rfl
  | o :: os, [], a => rfl
  | o :: os, v :: vs, a => by rw [putAll, putAll_defers]; cases o.dst <;> rfl
theorem putAll_size : ∀ (l : List Oper) (vs : List Value) (a : Act), (putAll l vs a).tmps.size = a.tmps.size
  | [], vs, a => by cases vs <;> rfl
  | o :: os, [], a => rfl
  | o :: os, v :: vs, a => by rw [putAll, putAll_size]; cases o.dst <;> simp [Act.put]
theorem put_get (a : Act) (d : Option Tmp) (v : Value) (t : Nat) : (a.put d v).tmps[t]? = if d = some t ∧ t < a.tmps.size then some v else a.tmps[t]? := by
  cases d with
  | none => simp [Act.put]
  | some d =>
    simp only [Act.put, Array.getElem?_setIfInBounds, Option.some.injEq]
    by_cases h : d = t
    · subst h
      by_cases hs : d < a.tmps.size
      · simp [hs]
      · simp [hs]
    · simp [h]
theorem putAll_none : ∀ (l : List Oper) (vs : List Value) (a : Act) (t : Nat), (∀ o ∈ l, o.dst ≠ some t) → (putAll l vs a).tmps[t]? = a.tmps[t]?
  | [], vs, a, t, _ => by cases vs <;> rfl
  | o :: os, [], a, t, _ => rfl
  | o :: os, v :: vs, a, t, h => by
    rw [putAll, putAll_none os vs _ t (fun o ho => h o (by simp [ho])), put_get, if_neg fun e => h o (by simp) e.1]
theorem putAll_some : ∀ (l : List Oper) (vs : List Value) (a : Act) (t j : Nat) (o : Oper), vs.length = l.length → l[j]? = some o → o.dst = some t → (∀ i o', l[i]? = some o' → o'.dst = some t → i = j) → t < a.tmps.size → (putAll l vs a).tmps[t]? = vs[j]?
  | [], _, _, _, _, _, _, h, _, _, _ => by simp at h
  | x :: os, [], a, t, j, o, hl, _, _, _, _ => by simp at hl
  | x :: os, v :: vs, a, t, 0, o, hl, ho, hd, hu, hs => by
    simp at ho; subst ho
    rw [putAll, putAll_none, put_get, if_pos ⟨hd, hs⟩]; rfl
    intro o' ho' hd'
    obtain ⟨i, hi, he⟩ := List.getElem_of_mem ho'
    have := hu (i + 1) o' (by simp [← he]) hd'
    omega
  | x :: os, v :: vs, a, t, j + 1, o, hl, ho, hd, hu, hs => by
    rw [putAll]
    rw [putAll_some os vs _ t j o (by simpa using hl) (by simpa using ho) hd (fun i o' hi hd' => by have := hu (i + 1) o' (by simpa using hi) hd'; omega) (by cases x.dst <;> simpa [Act.put] using hs)]
    rfl

theorem choose_list {p : Nat → Value → Prop} : ∀ n, (∀ j, j < n → ∃ v, p j v) → ∃ vs : List Value, vs.length = n ∧ ∀ j v, vs[j]? = some v → p j v
  | 0, _ => ⟨[], rfl, by simp⟩
  | n + 1, h => by
    obtain ⟨vs, hl, hv⟩ := choose_list n fun j hj => h j (by omega)
    obtain ⟨v, hp⟩ := h n (by omega)
    refine ⟨vs ++ [v], by simp [hl], fun j u hj => ?_⟩
    rw [List.getElem?_append] at hj
    split at hj
    · exact hv j u hj
    · rename_i hge
      have : j = n := by
        have := (List.getElem?_eq_some_iff.1 hj).1
        simp at this; omega
      subst this
      simp [hl] at hj
      exact hj ▸ hp

theorem wp_region_grow {P : Program} {rid : Nat} {Q : Exit → Act → World → Prop} {a : Act} {w : World} {l : List Oper} (φs : List Phi)
    (hm : P.follows .mixedOrders = true) (hchk : (distinctB l.toArray && backB l.toArray && boundB l.toArray a.tmps.size) = true)
    (hstab : AllStable φs) (steps : StepsG P l.toArray a w φs 0 l) (fin : ∀ W, Grew w W → FinG Q l φs a W) : (Code.region rid l.toArray true).wp P Q a w := by
  simp only [Bool.and_eq_true] at hchk
  obtain ⟨⟨hd, hbk⟩, hbd⟩ := hchk
  refine wp_region_val (fun _ W => Grew w W) Grew (phiOf φs) hm hd hbk hbd (Grew.drew w) Grew.refl (fun i v W W' h hg => hstab.get i v W W' h hg) (StepsG.to l 0 steps) ?_
  intro L a' W _ hI hdf hsz hhas hfree
  obtain ⟨vs, hvl, hvs⟩ := choose_list (p := fun j v => phiOf φs j v W ∧ ∀ t, dstB l.toArray j t = true → a'.tmps[t]? = some v) l.length (by
    intro j hj
    obtain ⟨h1, u, hu⟩ := hhas j hj
    cases hdst : (l[j]'hj).dst with
    | none =>
      refine ⟨u, hu, fun t ht => ?_⟩
      simp [dstB, hj, hdst] at ht
    | some d =>
      obtain ⟨v, hv1, hv2⟩ := h1 d (by simp [dstB, hj, hdst])
      refine ⟨v, hv2, fun t ht => ?_⟩
      have : d = t := by simpa [dstB, hj, hdst] using ht
      exact this ▸ hv1)
  have ha : a' = putAll l vs a := by
    have ht : a'.tmps = (putAll l vs a).tmps := by
      apply Array.ext_getElem?
      intro t
      by_cases hex : ∃ (j : Nat) (o : Oper), l[j]? = some o ∧ o.dst = some t
      · obtain ⟨j, o, ho, hdst⟩ := hex
        have hjl : j < l.length := (List.getElem?_eq_some_iff.1 ho).1
        have hdt : dstB l.toArray j t = true := by simp [dstB, ho, hdst]
        have hjv : j < vs.length := by omega
        have h1 := (hvs j vs[j] (by simp [hjv])).2 t hdt
        have hts : t < a.tmps.size := by
          have := (Array.all_eq_true' ..).1 hbd o (by simpa using List.mem_of_getElem? ho)
          rw [hdst] at this; simpa using this
        rw [h1, putAll_some l vs a t j o hvl ho hdst (fun i o' hi hd' => distinct_spec hd (by simp [dstB, hi, hd']) hdt) hts]
        simp [hjv]
      · have hn : ∀ (j : Nat), dstB l.toArray j t = false := fun j => by
          cases hb : dstB l.toArray j t with
          | false => rfl
          | true =>
            exfalso
            unfold dstB at hb
            split at hb
            · cases hb
            · rename_i o ho
              exact hex ⟨j, o, by simpa using ho, by simpa using hb⟩
        have hm : ∀ o ∈ l, o.dst ≠ some t := fun o ho hdst => by
          obtain ⟨i, hi, he⟩ := List.getElem_of_mem ho
          exact hex ⟨i, o, by simp [← he], hdst⟩
        rw [hfree t hn, putAll_none l vs a t hm]
    cases a' with
    | mk t d =>
      have h2 := putAll_defers l vs a
      simp only at hdf ht
      rw [hdf, ht, ← h2]
  rw [ha]
  exact FinG.of l φs vs a (fin W hI) hvl fun j v hj => (hvs j v hj).1

theorem fx {a' : Act} {t : Nat} {e : Value} {W : World} (h : ∃ v, a'.tmps[t]? = some v ∧ Fx e v W) : a'.tmps[t]? = some e := by obtain ⟨_, h, rfl⟩ := h; exact h
theorem i64w {x : Int} (h1 : -9223372036854775808 ≤ x) (h2 : x ≤ 9223372036854775807) : IntKind.i64.wrap x = x := IntWalk.i64_in x ⟨h1, h2⟩

/-- A pointer to a tree. -/
def PT (t : T) : Phi := fun v W => ∃ p, v = .pointer p ∧ IsT W p t
theorem PT.stable (t : T) : Stable (PT t) := fun _ _ _ ⟨p, hp, ht⟩ hg => ⟨p, hp, ht.grew hg⟩

theorem isT_alloc {W : World} {pl pr : Option Addr} {l r : T} {n : Nm} {v : ByteArray} (hl : IsT W pl l) (hr : IsT W pr r) :
    IsT (W.alloc (.cells #[.int .i64 n.kind, .string n.owner, .int .i64 n.number, .int .i64 n.index, .string n.text, .string v, .pointer pl, .pointer pr, .int .i64 (1 + max (l.tall : Int) r.tall), .int .i64 (1 + (l.many : Int) + r.many), .int .i64 ((v.size : Int) + l.total + r.total)] 211))
      (some ⟨W.heap.size, 0, none⟩) (.node l n v r) := by
  have e1 : ((T.node l n v r).tall : Int) = 1 + max (l.tall : Int) r.tall := by simp only [T.tall]; omega
  have e2 : ((T.node l n v r).many : Int) = 1 + (l.many : Int) + r.many := by simp only [T.many]; omega
  have e3 : ((T.node l n v r).total : Int) = (v.size : Int) + l.total + r.total := by simp only [T.total]; omega
  refine ⟨W.heap.size, pl, pr, rfl, ?_, ?_, ?_, ?_, ?_, ?_, ?_, ?_, ?_, ?_, ?_, hl.grew (Grew.alloc _ _), hr.grew (Grew.alloc _ _)⟩
  all_goals (try rw [e1]); (try rw [e2]); (try rw [e3])
  all_goals simp [go_sem]
end Go.Proofs.YtkiojenkpbkjpaaGreatDoor
