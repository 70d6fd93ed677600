/- Drawn regions whose last operation turns a block that lay before. -/
import Derived.Test.YtkiojenkpbkjpaaGreatDoorGrow
set_option linter.unusedVariables false
set_option linter.unusedSimpArgs false
namespace Go.Proofs.YtkiojenkpbkjpaaGreatDoor
open Go Go.RowKit RV

section
variable {P : Program} {ops : Array Oper}
/-- What operation number i owes, where what is known of a value depends on what is done. -/
def StepOkL (P : Program) (ops : Array Oper) (a : Act) (I : (Nat → Bool) → World → Prop) (Φ : (Nat → Bool) → Nat → Value → World → Prop) (i : Nat) (o : Oper) : Prop :=
  ∀ (L : Nat → Bool) (a' : Act) (W : World), I L W → L i = false → (∀ j, reachB ops ops.size i j = true → L j = true) → (∀ j, reachB ops ops.size j i = true → L j = false) → a'.defers = a.defers →
    (∀ j t, dstB ops j t = true → reachB ops ops.size i j = true → ∃ v, a'.tmps[t]? = some v ∧ Φ L j v W) →
    (∀ t, freeB ops i t = true → a'.tmps[t]? = a.tmps[t]?) →
    ∀ K : Act → World → Prop, (∀ v W', I (fun j => j == i || L j) W' → (∀ j u, L j = true → Φ L j u W → Φ (fun j => j == i || L j) j u W') → Φ (fun j => j == i || L j) i v W' → K (a'.put o.dst v) W') →
    if Region.wanted o (yielded ops a'.tmps) then o.wp P a' W K (fun _ _ _ => False) else K (a'.put o.dst undef) W

structure ValInvL (ops : Array Oper) (a : Act) (I : (Nat → Bool) → World → Prop) (Φ : (Nat → Bool) → Nat → Value → World → Prop) (listed : Array Bool) (a' : Act) (W : World) : Prop where
  size : listed.size = ops.size
  closed : Closed ops (fun j => listed.getD j false)
  inv : I (fun j => listed.getD j false) W
  defers : a'.defers = a.defers
  tsize : a'.tmps.size = a.tmps.size
  has : ∀ j, listed.getD j false = true → (∀ t, dstB ops j t = true → ∃ v, a'.tmps[t]? = some v ∧ Φ (fun j => listed.getD j false) j v W) ∧ ∃ v, Φ (fun j => listed.getD j false) j v W
  free : ∀ t, (∀ j, dstB ops j t = true → listed.getD j false = false) → a'.tmps[t]? = a.tmps[t]?

theorem wpAny_valL {Q : Exit → Act → World → Prop} {a : Act} {I : (Nat → Bool) → World → Prop} {Φ : (Nat → Bool) → Nat → Value → World → Prop}
    (hd : distinctB ops = true) (hbk : backB ops = true) (hbd : boundB ops a.tmps.size = true)
    (steps : ∀ i o, ops[i]? = some o → StepOkL P ops a I Φ i o)
    (fin : ∀ (L : Nat → Bool) a' W, (∀ i, i < ops.size → L i = true) → I L W → a'.defers = a.defers → a'.tmps.size = a.tmps.size → (∀ j, j < ops.size → (∀ t, dstB ops j t = true → ∃ v, a'.tmps[t]? = some v ∧ Φ L j v W) ∧ ∃ v, Φ L j v W) →
      (∀ t, (∀ j, dstB ops j t = false) → a'.tmps[t]? = a.tmps[t]?) → Q .normal a' W) :
    ∀ (fuel : Nat) (listed : Array Bool) (a' : Act) (W : World), fuel + listed.toList.countP id = ops.size → ValInvL ops a I Φ listed a' W → wpAny P .any ops Q fuel listed a' W := by
  have hdone : ∀ (listed : Array Bool) (a' : Act) (W : World), ValInvL ops a I Φ listed a' W → Region.ready .any ops listed = [] → Q .normal a' W := by
    intro listed a' W inv hr
    have hall : ∀ i, i < ops.size → listed.getD i false = true := by
      intro i
      induction i using Nat.strongRecOn with
      | _ i ih =>
        intro hi
        cases hb : listed.getD i false with
        | true => rfl
        | false =>
          exfalso
          have hm : i ∈ Region.ready .any ops listed := by
            rw [mem_ready]
            refine ⟨?_, ops[i], by simp [hi], fun e he hbe => ?_⟩
            · have : i < listed.size := by rw [inv.size]; exact hi
              simp [this] at hb ⊢; exact hb
            · have h1 := List.all_eq_true.1 hbk i (List.mem_range.2 hi)
              simp only [Array.getElem?_eq_getElem hi] at h1
              rw [Array.all_eq_true'] at h1
              have h2 := h1 e he
              simp only [Bool.or_eq_true, Bool.not_eq_true', decide_eq_true_eq, hbe] at h2
              have h3 : e.on < i := by simpa using h2
              exact ih e.on h3 (by omega)
          rw [hr] at hm; cases hm
    refine fin _ a' W hall inv.inv inv.defers inv.tsize (fun j hj => inv.has j (hall j hj)) (fun t ht => inv.free t fun j hj => ?_)
    rw [ht j] at hj; cases hj
  intro fuel
  induction fuel with
  | zero =>
    intro listed a' W hc inv
    have hr : Region.ready .any ops listed = [] := by
      rw [Nat.zero_add] at hc
      have hlen : listed.toList.length = ops.size := by simpa using inv.size
      have hall := List.countP_eq_length.1 (hc.trans hlen.symm)
      cases hrr : Region.ready .any ops listed with
      | nil => rfl
      | cons x xs =>
        exfalso
        have hm : x ∈ Region.ready .any ops listed := by rw [hrr]; simp
        obtain ⟨h0, o, ho, _⟩ := mem_ready.1 hm
        have hx : x < listed.size := by rw [inv.size]; exact (Array.getElem?_eq_some_iff.1 ho).1
        have := hall (listed[x]) (by simp)
        simp [hx] at h0 this
        rw [h0] at this; cases this
    exact ⟨hr, hdone _ _ _ inv hr⟩
  | succ fuel ih =>
    intro listed a' W hc inv
    refine ⟨hdone _ _ _ inv, fun i hi => ?_⟩
    obtain ⟨h0, o, ho, hall⟩ := mem_ready.1 hi
    have hio : i < ops.size := (Array.getElem?_eq_some_iff.1 ho).1
    have hil : i < listed.size := by rw [inv.size]; exact hio
    have h0' : listed.getD i false = false := by simp [hil] at h0 ⊢; exact h0
    have hstep := steps i o ho (fun j => listed.getD j false) a' W inv.inv h0' (fun j hj => reach_ready inv.closed ho hall _ j hj)
      (fun j hj => by
        cases hb : listed.getD j false with
        | false => rfl
        | true => have := reach_listed inv.closed _ j i hj hb; rw [h0'] at this; cases this)
      inv.defers (fun j t hj hr => (inv.has j (reach_ready inv.closed ho hall _ j hr)).1 t hj)
      (fun t ht => inv.free t fun j hj => by
        cases hb : listed.getD j false with
        | false => rfl
        | true =>
          have hjs : j < ops.size := by
            unfold dstB at hj
            split at hj
            · cases hj
            · rename_i oj hoj; exact (Array.getElem?_eq_some_iff.1 hoj).1
          have h1 := List.all_eq_true.1 ht j (List.mem_range.2 hjs)
          simp only [hj, Bool.not_true, Bool.false_or, Bool.or_eq_true, beq_iff_eq] at h1
          rcases h1 with h1 | h1
          · have := reach_listed inv.closed _ j i h1 hb; rw [h0'] at this; cases this
          · subst h1; rw [h0'] at hb; cases hb)
      (wpAny P .any ops Q fuel (listed.setIfInBounds i true))
    have hL : (fun j => (listed.setIfInBounds i true).getD j false) = (fun j => j == i || listed.getD j false) := by funext j; exact getD_setB listed i j hil
    have next : ∀ v W', I (fun j => j == i || listed.getD j false) W' → (∀ j u, listed.getD j false = true → Φ (fun j => listed.getD j false) j u W → Φ (fun j => j == i || listed.getD j false) j u W') → Φ (fun j => j == i || listed.getD j false) i v W' → wpAny P .any ops Q fuel (listed.setIfInBounds i true) (a'.put o.dst v) W' := by
      intro v W' hI hG hΦ
      refine ih _ _ _ ?_ ?_
      · have : (listed.setIfInBounds i true).toList.countP id = listed.toList.countP id + 1 := by
          rw [Array.toList_setIfInBounds]
          have hlt : i < listed.toList.length := by simpa using hil
          rw [List.countP_set hlt]
          have hf : listed[i] = false := by simpa [hil] using h0
          simp [hf]
        omega
      · have hput : ∀ t, o.dst ≠ some t → (a'.put o.dst v).tmps[t]? = a'.tmps[t]? := by
          intro t ht
          cases hdst : o.dst with
          | none => rfl
          | some d =>
            have : d ≠ t := fun e => ht (by rw [hdst, e])
            simp [Act.put, Array.getElem?_setIfInBounds, this]
        have hdo : ∀ t, dstB ops i t = true ↔ o.dst = some t := by intro t; simp [dstB, ho]
        refine ⟨by simp [inv.size], ⟨?_⟩, by rw [hL]; exact hI, ?_, ?_, ?_, ?_⟩
        · intro j oj hj hl e he hbe
          simp only [getD_setB listed i _ hil] at hl ⊢
          rw [Bool.or_eq_true] at hl ⊢
          rcases hl with hl | hl
          · have : j = i := by simpa using hl
            subst this
            have : oj = o := Option.some.inj (hj.symm.trans ho)
            subst this
            exact .inr (hall e he hbe)
          · exact .inr (inv.closed.up j oj hj hl e he hbe)
        · rw [← inv.defers]; cases o.dst <;> rfl
        · rw [← inv.tsize]; cases o.dst <;> simp [Act.put]
        · intro j hl
          rw [hL]
          have hl0 := hl
          rw [getD_setB listed i _ hil, Bool.or_eq_true] at hl
          rcases hl with hl | hl
          · have : j = i := by simpa using hl
            subst this
            refine ⟨fun t ht => ?_, v, hΦ⟩
            have hdt := (hdo t).1 ht
            have hb : t < a'.tmps.size := by
              have := (Array.all_eq_true' ..).1 hbd o (Array.mem_of_getElem? ho)
              rw [hdt] at this
              rw [inv.tsize]; simpa using this
            exact ⟨v, by simp [hdt, Act.put, Array.getElem?_setIfInBounds, hb], hΦ⟩
          · obtain ⟨h1, u, hu⟩ := inv.has j hl
            refine ⟨fun t ht => ?_, u, hG _ _ hl hu⟩
            obtain ⟨x, hx1, hx2⟩ := h1 t ht
            refine ⟨x, ?_, hG _ _ hl hx2⟩
            rw [hput t fun e => ?_]
            · exact hx1
            · have := distinct_spec hd ht ((hdo t).2 e)
              subst this; rw [h0'] at hl; cases hl
        · intro t ht
          rw [hput t fun e => ?_]
          · refine inv.free t fun j hj => ?_
            have := ht j hj
            rw [getD_setB listed i _ hil, Bool.or_eq_false_iff] at this
            exact this.2
          · have := ht i ((hdo t).2 e)
            rw [getD_setB listed i _ hil] at this
            simp at this
    have hstep := hstep next
    unfold wpOp
    simp only [ho]
    split
    · rename_i hw; rw [if_pos hw] at hstep; exact .inl (wp_False_imp hstep)
    · rename_i hw; rw [if_neg hw] at hstep; exact hstep


theorem wp_region_valL {rid : Nat} {Q : Exit → Act → World → Prop} {a : Act} {w : World} {l : List Oper} (I : (Nat → Bool) → World → Prop) (Φ : (Nat → Bool) → Nat → Value → World → Prop)
    (hm : P.follows .mixedOrders = true) (hd : distinctB l.toArray = true) (hbk : backB l.toArray = true) (hbd : boundB l.toArray a.tmps.size = true)
    (hI : I (fun _ => false) w.drew) (steps : ∀ i o, l[i]? = some o → StepOkL P l.toArray a I Φ i o)
    (fin : ∀ (L : Nat → Bool) a' W, (∀ i, i < l.length → L i = true) → I L W → a'.defers = a.defers → a'.tmps.size = a.tmps.size → (∀ j, j < l.length → (∀ t, dstB l.toArray j t = true → ∃ v, a'.tmps[t]? = some v ∧ Φ L j v W) ∧ ∃ v, Φ L j v W) →
      (∀ t, (∀ j, dstB l.toArray j t = false) → a'.tmps[t]? = a.tmps[t]?) → Q .normal a' W) :
    (Code.region rid l.toArray true).wp P Q a w := by
  refine wp_region_any hm ?_
  refine wpAny_valL (I := I) (Φ := Φ) (a := a) hd hbk hbd (fun i o ho => steps i o (by simpa using ho)) (by simpa using fin) _ _ _ _ ?_ ?_
  · have : (Array.replicate l.toArray.size false).toList.countP id = 0 := by
      rw [List.countP_eq_zero]; intro x hx; simp at hx; simp [hx]
    omega
  · have hf : ∀ j, (Array.replicate l.toArray.size false).getD j false = false := fun j => by
      by_cases h : j < l.length
      · simp [h]
      · simp [h]
    refine ⟨by simp, ⟨fun i o _ h => (by rw [hf] at h; cases h)⟩, ?_, rfl, rfl, fun j h => (by rw [hf] at h; cases h), fun _ _ => rfl⟩
    have : (fun j => (Array.replicate l.toArray.size false).getD j false) = (fun _ => false) := by funext j; exact hf j
    rw [this]; exact hI
end

theorem fin_of {Q : Exit → Act → World → Prop} {a a' : Act} {W : World} {l : List Oper} (φs : List Phi) (hd : distinctB l.toArray = true) (hbd : boundB l.toArray a.tmps.size = true)
    (hdf : a'.defers = a.defers) (hhas : ∀ j, j < l.length → (∀ t, dstB l.toArray j t = true → ∃ v, a'.tmps[t]? = some v ∧ phiOf φs j v W) ∧ ∃ v, phiOf φs j v W)
    (hfree : ∀ t, (∀ j, dstB l.toArray j t = false) → a'.tmps[t]? = a.tmps[t]?) (fin : FinG Q l φs a W) : Q .normal a' W := by
  obtain ⟨vs, hvl, hvs⟩ := choose_list (p := fun j v => phiOf φs j v W ∧ ∀ t, dstB l.toArray j t = true → a'.tmps[t]? = some v) l.length (by
    intro j hj
    obtain ⟨h1, u, hu⟩ := hhas j hj
    cases hdst : (l[j]'hj).dst with
    | none =>
      refine ⟨u, hu, fun t ht => ?_⟩
      simp [dstB, hj, hdst] at ht
    | some d =>
      obtain ⟨v, hv1, hv2⟩ := h1 d (by simp [dstB, hj, hdst])
      refine ⟨v, hv2, fun t ht => ?_⟩
      have : d = t := by simpa [dstB, hj, hdst] using ht
      exact this ▸ hv1)
  have ha : a' = putAll l vs a := by
    have ht : a'.tmps = (putAll l vs a).tmps := by
      apply Array.ext_getElem?
      intro t
      by_cases hex : ∃ (j : Nat) (o : Oper), l[j]? = some o ∧ o.dst = some t
      · obtain ⟨j, o, ho, hdst⟩ := hex
        have hjl : j < l.length := (List.getElem?_eq_some_iff.1 ho).1
        have hdt : dstB l.toArray j t = true := by simp [dstB, ho, hdst]
        have hjv : j < vs.length := by omega
        have h1 := (hvs j vs[j] (by simp [hjv])).2 t hdt
        have hts : t < a.tmps.size := by
          have := (Array.all_eq_true' ..).1 hbd o (by simpa using List.mem_of_getElem? ho)
          rw [hdst] at this; simpa using this
        rw [h1, putAll_some l vs a t j o hvl ho hdst (fun i o' hi hd' => distinct_spec hd (by simp [dstB, hi, hd']) hdt) hts]
        simp [hjv]
      · have hn : ∀ (j : Nat), dstB l.toArray j t = false := fun j => by
          cases hb : dstB l.toArray j t with
          | false => rfl
          | true =>
            exfalso
            unfold dstB at hb
            split at hb
            · cases hb
            · rename_i o ho
              exact hex ⟨j, o, by simpa using ho, by simpa using hb⟩
        have hm : ∀ o ∈ l, o.dst ≠ some t := fun o ho hdst => by
          obtain ⟨i, hi, he⟩ := List.getElem_of_mem ho
          exact hex ⟨i, o, by simp [← he], hdst⟩
        rw [hfree t hn, putAll_none l vs a t hm]
    cases a' with
    | mk t d =>
      have h2 := putAll_defers l vs a
      simp only at hdf ht
      rw [hdf, ht, ← h2]
  rw [ha]
  exact FinG.of l φs vs a fin hvl fun j v hj => (hvs j v hj).1


def soft (φ : Phi) : Phi := fun v _ => ∃ W0, φ v W0
theorem phi_soft {φs : List Phi} {i : Nat} {v : Value} {W : World} (h : ∃ W0, phiOf φs i v W0) : phiOf (φs.map soft) i v W := by
  unfold phiOf at h ⊢
  rw [List.getElem?_map]
  cases hi : φs[i]? with
  | none => trivial
  | some φ => rw [hi] at h; exact h

/-- What the world is like behind the chain's operation number q. -/
def nF (Fs : List (World → Prop)) (q : Nat) : World → Prop := (Fs[q]?).getD fun _ => False
/-- A light operation: it leaves the world alone and reads nothing of it. -/
def StepT (P : Program) (ops : Array Oper) (a : Act) (φs : List Phi) (i : Nat) (o : Oper) : Prop :=
  ∀ (a' : Act) (W : World), a'.defers = a.defers →
    (∀ j t, dstB ops j t = true → reachB ops ops.size i j = true → ∃ v, a'.tmps[t]? = some v ∧ ∃ W0, phiOf φs j v W0) →
    (∀ t, freeB ops i t = true → a'.tmps[t]? = a.tmps[t]?) →
    ∀ K : Act → World → Prop, (∀ v, (∀ W', phiOf φs i v W') → K (a'.put o.dst v) W) →
    if Region.wanted o (yielded ops a'.tmps) then o.wp P a' W K (fun _ _ _ => False) else K (a'.put o.dst undef) W
/-- The chain's first operation: all others before it but the light ones are done, in a world that has only grown. -/
def StepF (P : Program) (ops : Array Oper) (a : Act) (w : World) (F : World → Prop) (φs : List Phi) (i : Nat) (o : Oper) : Prop :=
  ∀ (a' : Act) (W : World), Grew w W → a'.defers = a.defers →
    (∀ j t, dstB ops j t = true → reachB ops ops.size i j = true → ∃ v, a'.tmps[t]? = some v ∧ phiOf φs j v W) →
    (∀ t, freeB ops i t = true → a'.tmps[t]? = a.tmps[t]?) →
    ∀ K : Act → World → Prop, (∀ v W', F W' → phiOf φs i v W' → K (a'.put o.dst v) W') →
    if Region.wanted o (yielded ops a'.tmps) then o.wp P a' W K (fun _ _ _ => False) else K (a'.put o.dst undef) W
/-- All operations from number x on, below number y, are still ones. -/
def stillB (st : List Nat) (x y : Nat) : Bool := (List.range y).all fun i => decide (i < x) || st.contains i
/-- A later one: of the values that were made since the last turn all is known, of the others what they were when they were made. -/
def StepN (P : Program) (ops : Array Oper) (a : Act) (F F' : World → Prop) (φs : List Phi) (st : List Nat) (m i : Nat) (o : Oper) : Prop :=
  ∀ (a' : Act) (W : World), F W → a'.defers = a.defers →
    (∀ j t, dstB ops j t = true → reachB ops ops.size i j = true → ∃ v, a'.tmps[t]? = some v ∧ ∃ W0, phiOf φs j v W0) →
    (∀ j t, m ≤ j → j < i → stillB st (j + 1) i = true → dstB ops j t = true → ∃ v, a'.tmps[t]? = some v ∧ phiOf φs j v W) →
    (∀ t, freeB ops i t = true → a'.tmps[t]? = a.tmps[t]?) →
    ∀ K : Act → World → Prop, (∀ v W', F' W' → phiOf φs i v W' → K (a'.put o.dst v) W') →
    if Region.wanted o (yielded ops a'.tmps) then o.wp P a' W K (fun _ _ _ => False) else K (a'.put o.dst undef) W
/-- A still one leaves the world alone. -/
def StepS (P : Program) (ops : Array Oper) (a : Act) (F F' : World → Prop) (φs : List Phi) (st : List Nat) (m i : Nat) (o : Oper) : Prop :=
  ∀ (a' : Act) (W : World), F W → a'.defers = a.defers →
    (∀ j t, dstB ops j t = true → reachB ops ops.size i j = true → ∃ v, a'.tmps[t]? = some v ∧ ∃ W0, phiOf φs j v W0) →
    (∀ j t, m ≤ j → j < i → stillB st (j + 1) i = true → dstB ops j t = true → ∃ v, a'.tmps[t]? = some v ∧ phiOf φs j v W) →
    (∀ t, freeB ops i t = true → a'.tmps[t]? = a.tmps[t]?) →
    ∀ K : Act → World → Prop, (∀ v, F' W → phiOf φs i v W → K (a'.put o.dst v) W) →
    if Region.wanted o (yielded ops a'.tmps) then o.wp P a' W K (fun _ _ _ => False) else K (a'.put o.dst undef) W
def StepsC (P : Program) (ops : Array Oper) (a : Act) (φs : List Phi) (Fs : List (World → Prop)) (st : List Nat) (m : Nat) : Nat → Nat → List Oper → Prop
  | _, _, [] => True
  | q, i, o :: rest => (cond (st.contains i) (StepS P ops a (nF Fs (q - 1)) (nF Fs q) φs st m i o) (StepN P ops a (nF Fs (q - 1)) (nF Fs q) φs st m i o)) ∧ StepsC P ops a φs Fs st m (q + 1) (i + 1) rest
def StepsX (P : Program) (ops : Array Oper) (a : Act) (w : World) (φs : List Phi) (Fs : List (World → Prop)) (lt st : List Nat) (m : Nat) : Nat → Nat → List Oper → Prop
  | _, _, [] => True
  | k + 1, i, o :: rest => (cond (lt.contains i) (StepT P ops a φs i o) (StepG P ops a w φs i o)) ∧ StepsX P ops a w φs Fs lt st m k (i + 1) rest
  | 0, i, o :: rest => StepF P ops a w (nF Fs 0) φs i o ∧ StepsC P ops a φs Fs st m 1 (i + 1) rest

theorem StepsC.get {P : Program} {ops : Array Oper} {a : Act} {φs : List Phi} {Fs : List (World → Prop)} {st : List Nat} {m : Nat} : ∀ (l : List Oper) (q i : Nat), StepsC P ops a φs Fs st m q i l → ∀ j o, l[j]? = some o → cond (st.contains (i + j)) (StepS P ops a (nF Fs (q + j - 1)) (nF Fs (q + j)) φs st m (i + j) o) (StepN P ops a (nF Fs (q + j - 1)) (nF Fs (q + j)) φs st m (i + j) o)
  | [], _, _, _, j, o, h => by simp at h
  | x :: l, q, i, hs, 0, o, h => by simp at h; subst h; exact hs.1
  | x :: l, q, i, hs, j + 1, o, h => by
    have := StepsC.get l (q + 1) (i + 1) hs.2 j o (by simpa using h)
    rwa [show q + 1 + j = q + (j + 1) by omega, show i + 1 + j = i + (j + 1) by omega] at this
theorem StepsX.get {P : Program} {ops : Array Oper} {a : Act} {w : World} {φs : List Phi} {Fs : List (World → Prop)} {lt st : List Nat} {m : Nat} : ∀ (l : List Oper) (k i : Nat), StepsX P ops a w φs Fs lt st m k i l → ∀ j o, l[j]? = some o →
    (j < k → cond (lt.contains (i + j)) (StepT P ops a φs (i + j) o) (StepG P ops a w φs (i + j) o)) ∧ (j = k → StepF P ops a w (nF Fs 0) φs (i + j) o) ∧ (k < j → cond (st.contains (i + j)) (StepS P ops a (nF Fs (j - k - 1)) (nF Fs (j - k)) φs st m (i + j) o) (StepN P ops a (nF Fs (j - k - 1)) (nF Fs (j - k)) φs st m (i + j) o))
  | [], _, _, _, j, o, h => by simp at h
  | x :: l, k + 1, i, hs, 0, o, h => by
    simp at h; subst h
    exact ⟨fun _ => hs.1, fun e => by omega, fun e => by omega⟩
  | x :: l, k + 1, i, hs, j + 1, o, h => by
    have := StepsX.get l k (i + 1) hs.2 j o (by simpa using h)
    rw [show i + 1 + j = i + (j + 1) by omega] at this
    refine ⟨fun e => this.1 (by omega), fun e => this.2.1 (by omega), fun e => ?_⟩
    have h2 := this.2.2 (by omega)
    rwa [show j + 1 - (k + 1) = j - k by omega]
  | x :: l, 0, i, hs, 0, o, h => by
    simp at h; subst h
    exact ⟨fun e => by omega, fun _ => hs.1, fun e => by omega⟩
  | x :: l, 0, i, hs, j + 1, o, h => by
    refine ⟨fun e => by omega, fun e => by omega, fun _ => ?_⟩
    have := StepsC.get l 1 (i + 1) hs.2 j o (by simpa using h)
    rw [show i + 1 + j = i + (j + 1) by omega, show 1 + j - 1 = j by omega, show 1 + j = j + 1 by omega] at this
    exact this

def IC (w : World) (Fs : List (World → Prop)) (m n : Nat) (L : Nat → Bool) (W : World) : Prop :=
  (L m = false → Grew w W) ∧ ∀ q, m ≤ q → q < n → L q = true → (q + 1 = n ∨ L (q + 1) = false) → nF Fs (q - m) W
def PC (φs : List Phi) (st : List Nat) (m n : Nat) (L : Nat → Bool) (j : Nat) (v : Value) (W : World) : Prop :=
  ((L m = false ∨ (m ≤ j ∧ j < n ∧ ∀ i, j < i → i < n → L i = true → st.contains i = true)) → phiOf φs j v W) ∧ ∃ W0, phiOf φs j v W0

def chainB (ops : Array Oper) (lt : List Nat) (m n : Nat) : Bool := (List.range n).all fun i => decide (i < m) || (List.range i).all fun j => reachB ops ops.size i j || (lt.contains j && decide (j < m))

theorem wp_region_chain {P : Program} {rid : Nat} {Q : Exit → Act → World → Prop} {a : Act} {w : World} {l : List Oper} (m : Nat) (lt st : List Nat) (Fs : List (World → Prop)) (φs : List Phi)
    (hm : P.follows .mixedOrders = true) (hchk : (distinctB l.toArray && backB l.toArray && boundB l.toArray a.tmps.size && chainB l.toArray lt m l.length && decide (m < l.length)) = true)
    (hstab : AllStable φs) (steps : StepsX P l.toArray a w φs Fs lt st m m 0 l) (fin : ∀ W, nF Fs (l.length - 1 - m) W → FinG Q l (φs.map soft) a W) : (Code.region rid l.toArray true).wp P Q a w := by
  simp only [Bool.and_eq_true, decide_eq_true_eq] at hchk
  obtain ⟨⟨⟨⟨hd, hbk⟩, hbd⟩, hla⟩, hpos⟩ := hchk
  have hl0 : ∀ i, m ≤ i → i < l.length → ∀ j, j < i → reachB l.toArray l.toArray.size i j = true ∨ (lt.contains j = true ∧ j < m) := fun i hi hn j hj => by
    have := List.all_eq_true.1 hla i (List.mem_range.2 hn)
    simp only [Bool.or_eq_true, decide_eq_true_eq] at this
    rcases this with h | h
    · omega
    · have h2 := List.all_eq_true.1 h j (List.mem_range.2 hj)
      simpa only [Bool.or_eq_true, Bool.and_eq_true, decide_eq_true_eq] using h2
  have hl : ∀ i, m ≤ i → i < l.length → ∀ j, j < i → m ≤ j → reachB l.toArray l.toArray.size i j = true := fun i hi hn j hj hmj => by
    rcases hl0 i hi hn j hj with h | h
    · exact h
    · omega
  refine wp_region_valL (IC w Fs m l.length) (PC φs st m l.length) hm hd hbk hbd ⟨fun _ => Grew.drew w, fun q _ _ e => by cases e⟩ (fun i o ho => ?_) ?_
  · have hin : i < l.length := (List.getElem?_eq_some_iff.1 ho).1
    have hst := StepsX.get l m 0 steps i o ho
    rw [Nat.zero_add] at hst
    intro L a' W hI hLi hready hnot hdf hΦ h0 K hK
    rcases Nat.lt_trichotomy i m with him | him | him
    · have hst1 := hst.1 him
      cases hlt : lt.contains i with
      | true =>
        rw [hlt] at hst1
        refine hst1 a' W hdf (fun j t hj hr => ?_) h0 K fun v hφ => hK v W ⟨fun e => hI.1 ?_, fun q hq hqn e h => hI.2 q hq hqn ?_ ?_⟩ (fun j u _ hp => ⟨fun hc => hp.1 ?_, hp.2⟩) ⟨fun _ => hφ W, W, hφ W⟩
        · obtain ⟨v, h1, h2⟩ := hΦ j t hj hr
          exact ⟨v, h1, h2.2⟩
        · have e' : (m == i || L m) = false := e
          rw [Bool.or_eq_false_iff] at e'
          exact e'.2
        · have e' : (q == i || L q) = true := e
          have : (q == i) = false := by simp; omega
          rwa [this, Bool.false_or] at e'
        · rcases h with h | h
          · exact .inl h
          · have h' : (q + 1 == i || L (q + 1)) = false := h
            rw [Bool.or_eq_false_iff] at h'
            exact .inr h'.2
        · rcases hc with h | ⟨h1, h2, h3⟩
          · have e' : (m == i || L m) = false := h
            rw [Bool.or_eq_false_iff] at e'
            exact .inl e'.2
          · exact .inr ⟨h1, h2, fun i' a1 a2 a3 => h3 i' a1 a2 (show (i' == i || L i') = true by rw [a3]; simp)⟩
      | false =>
        rw [hlt] at hst1
        have hre : ∀ q, m ≤ q → q < l.length → reachB l.toArray l.toArray.size q i = true := fun q hq hqn => by
          rcases hl0 q hq hqn i (by omega) with h | h
          · exact h
          · rw [hlt] at h; cases h.1
        have hLm := hnot m (hre m (Nat.le_refl _) hpos)
        have hg := hI.1 hLm
        refine hst1 a' W hg hdf (fun j t hj hr => ?_) h0 K fun v W' hg' hφ => hK v W' ⟨fun _ => hg.trans hg', fun q hq hqn e _ => ?_⟩ (fun j u _ hp => ?_) ⟨fun _ => hφ, W', hφ⟩
        · obtain ⟨v, h1, h2⟩ := hΦ j t hj hr
          exact ⟨v, h1, h2.1 (.inl hLm)⟩
        · exfalso
          have hLq := hnot q (hre q hq hqn)
          replace e : (q == i || L q) = true := e
          rw [hLq] at e
          simp at e
          omega
        · have h1 := hstab.get j u W W' (hp.1 (.inl hLm)) hg'
          exact ⟨fun _ => h1, W', h1⟩
    · subst him
      have hg := hI.1 hLi
      refine hst.2.1 rfl a' W hg hdf (fun j t hj hr => ?_) h0 K fun v W' hF hφ => hK v W' ⟨fun e => by simp at e, fun q hq hqn e _ => ?_⟩ (fun j u hLj hp => ⟨fun hc => ?_, hp.2⟩) ⟨fun _ => hφ, W', hφ⟩
      · obtain ⟨v, h1, h2⟩ := hΦ j t hj hr
        exact ⟨v, h1, h2.1 (.inl hLi)⟩
      · rcases Nat.lt_or_ge i q with g | g
        · exfalso
          replace e : (q == i || L q) = true := e
          rw [hnot q (hl q hq hqn i g (by omega))] at e
          simp at e
          omega
        · have : q = i := by omega
          subst this
          rw [Nat.sub_self]; exact hF
      · exfalso
        rcases hc with hc | ⟨h1, h2, -⟩
        · simp at hc
        · rcases Nat.lt_or_ge i j with g | g
          · rw [hnot j (hl j h1 h2 i g (by omega))] at hLj; cases hLj
          · have : j = i := by omega
            subst this
            rw [hLi] at hLj; cases hLj
    · have hLm := hready m (hl i (by omega) hin m him (Nat.le_refl _))
      have hLp := hready (i - 1) (hl i (by omega) hin (i - 1) (by omega) (by omega))
      have hF := hI.2 (i - 1) (by omega) (by omega) hLp (.inr (by rw [show i - 1 + 1 = i by omega]; exact hLi))
      rw [show i - 1 - m = i - m - 1 by omega] at hF
      have hno : ∀ q, m ≤ q → q < l.length → L q = true → (q + 1 = l.length ∨ (q + 1 == i || L (q + 1)) = false) → False := by
        intro q hq hqn e h
        have hqi : q < i := by
          rcases Nat.lt_trichotomy q i with g | g | g
          · exact g
          · subst g; rw [hLi] at e; cases e
          · rw [hnot q (hl q hq hqn i g (by omega))] at e; cases e
        rcases h with h | h
        · omega
        · rw [Bool.or_eq_false_iff] at h
          have h1 : q + 1 ≠ i := by simpa using h.1
          rw [hready (q + 1) (hl i (by omega) hin (q + 1) (by omega) (by omega))] at h
          simp at h
      have hsoft : ∀ j t, dstB l.toArray j t = true → reachB l.toArray l.toArray.size i j = true → ∃ v, a'.tmps[t]? = some v ∧ ∃ W0, phiOf φs j v W0 := fun j t hj hr => by
        obtain ⟨v, h1, h2⟩ := hΦ j t hj hr
        exact ⟨v, h1, h2.2⟩
      have hhard : ∀ j t, m ≤ j → j < i → stillB st (j + 1) i = true → dstB l.toArray j t = true → ∃ v, a'.tmps[t]? = some v ∧ phiOf φs j v W := fun j t hmj hji hs hj => by
        obtain ⟨v, h1, h2⟩ := hΦ j t hj (hl i (by omega) hin j hji hmj)
        refine ⟨v, h1, h2.1 (.inr ⟨hmj, by omega, fun i' a1 a2 a3 => ?_⟩)⟩
        have hii : i' < i := by
          rcases Nat.lt_trichotomy i' i with g | g | g
          · exact g
          · subst g; rw [hLi] at a3; cases a3
          · rw [hnot i' (hl i' (by omega) a2 i g (by omega))] at a3; cases a3
        have := List.all_eq_true.1 hs i' (List.mem_range.2 hii)
        simp only [Bool.or_eq_true, decide_eq_true_eq] at this
        rcases this with h | h
        · omega
        · exact h
      have hIC : ∀ W', nF Fs (i - m) W' → IC w Fs m l.length (fun j => j == i || L j) W' := fun W' hF' => ⟨fun e => by
        replace e : (m == i || L m) = false := e
        rw [hLm] at e; simp at e, fun q hq hqn e h => by
        by_cases hqi : q = i
        · subst hqi; exact hF'
        · exfalso
          have hLq : L q = true := by simpa [hqi] using e
          exact hno q hq hqn hLq h⟩
      have hst2 := hst.2.2 him
      cases hstill : st.contains i with
      | true =>
        rw [hstill] at hst2
        refine hst2 a' W hF hdf hsoft hhard h0 K fun v hF' hφ => hK v W (hIC W hF') (fun j u hLj hp => ⟨fun hc => hp.1 ?_, hp.2⟩) ⟨fun _ => hφ, W, hφ⟩
        rcases hc with hc | ⟨h1, h2, h3⟩
        · replace hc : (m == i || L m) = false := hc
          rw [hLm] at hc; simp at hc
        · exact .inr ⟨h1, h2, fun i' a1 a2 a3 => h3 i' a1 a2 (show (i' == i || L i') = true by rw [a3]; simp)⟩
      | false =>
        rw [hstill] at hst2
        refine hst2 a' W hF hdf hsoft hhard h0 K fun v W' hF' hφ => hK v W' (hIC W' hF') (fun j u hLj hp => ⟨fun hc => ?_, hp.2⟩) ⟨fun _ => hφ, W', hφ⟩
        exfalso
        rcases hc with hc | ⟨h1, h2, h3⟩
        · replace hc : (m == i || L m) = false := hc
          rw [hLm] at hc; simp at hc
        · rcases Nat.lt_trichotomy j i with g | g | g
          · have := h3 i g hin (show (i == i || L i) = true by simp)
            rw [hstill] at this; cases this
          · subst g; rw [hLi] at hLj; cases hLj
          · rw [hnot j (hl j h1 h2 i g (by omega))] at hLj; cases hLj
  · intro L a' W hall hI hdf hsz hhas hfree
    have hF := hI.2 (l.length - 1) (by omega) (by omega) (hall _ (by omega)) (.inl (by omega))
    refine fin_of (φs.map soft) hd hbd hdf (fun j hj => ?_) hfree (fin W hF)
    obtain ⟨h1, u, hu⟩ := hhas j hj
    refine ⟨fun t ht => ?_, u, phi_soft hu.2⟩
    obtain ⟨v, hv1, hv2⟩ := h1 t ht
    exact ⟨v, hv1, phi_soft hv2.2⟩

/-- Nothing turns but the blocks of the list. -/
structure But (S : List Nat) (w w' : World) : Prop where
  os : w'.os = w.os
  tape : w'.tape = w.tape
  output : w'.output = w.output
  size : w.heap.size ≤ w'.heap.size
  block : ∀ k, k < w.heap.size → k ∉ S → w'.heap[k]? = w.heap[k]?
theorem Grew.but {w w' : World} (h : Grew w w') (S : List Nat) : But S w w' := ⟨h.os, h.tape, h.output, h.size, fun k hk _ => Below.block h k hk⟩
theorem But.refl (S : List Nat) (w : World) : But S w w := (Grew.refl w).but S
theorem But.trans {S : List Nat} {a b c : World} (h : But S a b) (k : But S b c) : But S a c :=
  ⟨k.os.trans h.os, k.tape.trans h.tape, k.output.trans h.output, Nat.le_trans h.size k.size, fun i hi hn => (k.block i (Nat.lt_of_lt_of_le hi h.size) hn).trans (h.block i hi hn)⟩
theorem But.mono {S S' : List Nat} {a b : World} (h : But S a b) (hs : ∀ k ∈ S, k ∈ S') : But S' a b := ⟨h.os, h.tape, h.output, h.size, fun i hi hn => h.block i hi fun e => hn (hs i e)⟩
theorem But.below {S : List Nat} {a b : World} {B : Nat} (h : But S a b) (hB : B ≤ a.heap.size) (hs : ∀ k ∈ S, B ≤ k) : Below B a b :=
  ⟨h.os, h.tape, h.output, h.size, fun k hk => h.block k (Nat.lt_of_lt_of_le hk hB) fun e => by have := hs k e; omega⟩
theorem But.grown {w w' : World} {row : Option Nat} (h : w.grownBy w' row) (S : List Nat) (hs : ∀ k, row = some k → k ∈ S) : But S w w' :=
  ⟨h.os, h.tape, h.output, h.size, fun k hk hn => h.block k hk fun e => hn (hs k e.symm)⟩
theorem But.setCell {w : World} {b : Nat} (o : Nat) (u : Value) : But [b] w (w.setCell ⟨b, o, none⟩ u) :=
  ⟨rfl, rfl, rfl, by simp [World.setCell], fun k _ hn => Below.heap_setCell _ _ _ _ (by simpa using hn)⟩
theorem But.row {S : List Nat} {w w' : World} (h : But S w w') {base : Nat} {e : TypeId} {size : Nat} {v : Value} {n : Nat} {xs : List Value} (hr : w.ownsRow base e size v n xs)
    (hn : ∀ g ∈ S, ∀ c, w.heap[g]? ≠ some (.cells c e (0, 0))) : w'.ownsRow base e size v n xs := by
  obtain ⟨h1, h2⟩ := hr
  refine ⟨h1, ?_⟩
  rcases h2 with h2 | ⟨g, cap, cur, hv, hg, hh, r⟩
  · exact .inl h2
  · refine .inr ⟨g, cap, cur, hv, hg, ?_, r⟩
    rw [h.block g (Array.getElem?_eq_some_iff.1 hh).1 fun e => hn g e _ hh]; exact hh
end Go.Proofs.YtkiojenkpbkjpaaGreatDoor
