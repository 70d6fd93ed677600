/- A region that draws its order, told by what each operation leaves: whatever the order, each operation finds what it waits for. -/
import Derived.Orders
import Derived.Tactics
set_option linter.unusedVariables false
set_option linter.unusedSimpArgs false
namespace Go.Proofs.YtkiojenkpbkjpaaGreatDoor
open Go

/-- Operation i waits, through edges, for operation j. -/
def reachB (ops : Array Oper) : Nat → Nat → Nat → Bool
  | 0, _, _ => false
  | n + 1, i, j => match ops[i]? with
    | none => false
    | some o => o.after.any (fun e => Region.binds .any e && e.on == j) || o.after.any (fun e => Region.binds .any e && reachB ops n e.on j)

def dstB (ops : Array Oper) (j t : Nat) : Bool := match ops[j]? with
  | none => false
  | some o => o.dst == some t

/-- No operation that i could find done writes t: either nobody writes it, or whoever does waits for i. -/
def freeB (ops : Array Oper) (i t : Nat) : Bool := (List.range ops.size).all fun j => !dstB ops j t || reachB ops ops.size j i || j == i

def distinctB (ops : Array Oper) : Bool := (List.range ops.size).all fun i => (List.range i).all fun j => match (ops[i]?).bind (·.dst), (ops[j]?).bind (·.dst) with
  | some t, some u => t != u
  | _, _ => true
def backB (ops : Array Oper) : Bool := (List.range ops.size).all fun i => match ops[i]? with
  | none => true
  | some o => o.after.all fun e => !Region.binds .any e || decide (e.on < i)
def boundB (ops : Array Oper) (n : Nat) : Bool := ops.all fun o => match o.dst with
  | none => true
  | some t => decide (t < n)

section
variable {P : Program} {ops : Array Oper}

structure Closed (ops : Array Oper) (L : Nat → Bool) : Prop where
  up : ∀ i o, ops[i]? = some o → L i = true → ∀ e ∈ o.after, Region.binds .any e = true → L e.on = true

theorem reach_listed {L : Nat → Bool} (hc : Closed ops L) : ∀ (n i j : Nat), reachB ops n i j = true → L i = true → L j = true
  | 0, _, _, h, _ => by simp [reachB] at h
  | n + 1, i, j, h, hl => by
    unfold reachB at h
    split at h
    · simp at h
    · rename_i o ho
      simp only [Bool.or_eq_true] at h
      rcases h with h | h
      · obtain ⟨e, he, hb⟩ := Array.any_eq_true'.1 h
        simp only [Bool.and_eq_true, beq_iff_eq] at hb
        exact hb.2 ▸ hc.up i o ho hl e he hb.1
      · obtain ⟨e, he, hb⟩ := Array.any_eq_true'.1 h
        simp only [Bool.and_eq_true] at hb
        exact reach_listed hc n e.on j hb.2 (hc.up i o ho hl e he hb.1)

theorem reach_ready {L : Nat → Bool} (hc : Closed ops L) {i : Nat} {o : Oper} (ho : ops[i]? = some o) (hr : ∀ e ∈ o.after, Region.binds .any e = true → L e.on = true) : ∀ (n j : Nat), reachB ops n i j = true → L j = true
  | 0, _, h => by simp [reachB] at h
  | n + 1, j, h => by
    unfold reachB at h
    rw [ho] at h
    simp only [Bool.or_eq_true] at h
    rcases h with h | h
    · obtain ⟨e, he, hb⟩ := Array.any_eq_true'.1 h
      simp only [Bool.and_eq_true, beq_iff_eq] at hb
      exact hb.2 ▸ hr e he hb.1
    · obtain ⟨e, he, hb⟩ := Array.any_eq_true'.1 h
      simp only [Bool.and_eq_true] at hb
      exact reach_listed hc n e.on j hb.2 (hr e he hb.1)

/-- What operation number i owes: it is carried out once all that it waits for is done; K is what follows. -/
def StepOk (P : Program) (ops : Array Oper) (a : Act) (I : (Nat → Bool) → World → Prop) (G : World → World → Prop) (Φ : Nat → Value → World → Prop) (i : Nat) (o : Oper) : Prop :=
  ∀ (L : Nat → Bool) (a' : Act) (W : World), I L W → L i = false → (∀ j, reachB ops ops.size i j = true → L j = true) → (∀ j, reachB ops ops.size j i = true → L j = false) → a'.defers = a.defers →
    (∀ j t, dstB ops j t = true → reachB ops ops.size i j = true → ∃ v, a'.tmps[t]? = some v ∧ Φ j v W) →
    (∀ t, freeB ops i t = true → a'.tmps[t]? = a.tmps[t]?) →
    ∀ K : Act → World → Prop, (∀ v W', I (fun j => j == i || L j) W' → G W W' → Φ i v W' → K (a'.put o.dst v) W') →
    if Region.wanted o (yielded ops a'.tmps) then o.wp P a' W K (fun _ _ _ => False) else K (a'.put o.dst undef) W

def StepsFrom (P : Program) (ops : Array Oper) (a : Act) (I : (Nat → Bool) → World → Prop) (G : World → World → Prop) (Φ : Nat → Value → World → Prop) : Nat → List Oper → Prop
  | _, [] => True
  | i, o :: rest => StepOk P ops a I G Φ i o ∧ StepsFrom P ops a I G Φ (i + 1) rest

theorem StepsFrom.get {a : Act} {I : (Nat → Bool) → World → Prop} {G : World → World → Prop} {Φ : Nat → Value → World → Prop} : ∀ (l : List Oper) (k : Nat), StepsFrom P ops a I G Φ k l → ∀ i o, l[i]? = some o → StepOk P ops a I G Φ (k + i) o
  | [], _, _, i, o, hi => by simp at hi
  | x :: l, k, h, i, o, hi => by
    cases i with
    | zero => simp at hi; subst hi; exact h.1
    | succ i =>
      have := StepsFrom.get l (k + 1) h.2 i o (by simpa using hi)
      rwa [Nat.add_assoc, Nat.add_comm 1 i] at this

theorem wp_False_imp {o : Oper} {a : Act} {w : World} {K : Act → World → Prop} {Q : Exit → Act → World → Prop} (h : o.wp P a w K (fun _ _ _ => False)) : o.wp P a w K Q := by
  unfold Oper.wp at *
  generalize (execOp a.eval o).run P w = r at *
  cases r with
  | ok n w' =>
    cases n <;> simp only [Oper.upon] at h ⊢ <;> try exact h
    exact Calls.mono h fun e w'' he => by
      cases e with
      | returned u => exact he
      | panicked c => exact he.elim
      | outgrown => obtain ⟨_, _, hq⟩ := he; exact hq.elim
  | halt x w' => cases x <;> simp only [Oper.upon] at h ⊢

theorem distinct_spec (h : distinctB ops = true) {i j t : Nat} (hi : dstB ops i t = true) (hj : dstB ops j t = true) : i = j := by
  have key : ∀ i j, j < i → dstB ops i t = true → dstB ops j t = true → False := by
    intro i j hlt hi hj
    unfold dstB at hi hj
    split at hi
    · cases hi
    · rename_i o ho
      split at hj
      · cases hj
      · rename_i o' ho'
        have hlti : i < ops.size := (Array.getElem?_eq_some_iff.1 ho).1
        have h1 := List.all_eq_true.1 h i (List.mem_range.2 hlti)
        have h2 := List.all_eq_true.1 h1 j (List.mem_range.2 hlt)
        simp only [ho, ho', Option.bind_some, beq_iff_eq] at h2 hi hj
        rw [hi, hj] at h2
        simp at h2
  rcases Nat.lt_trichotomy i j with g | g | g
  · exact (key j i g hj hi).elim
  · exact g
  · exact (key i j g hi hj).elim

structure ValInv (ops : Array Oper) (a : Act) (I : (Nat → Bool) → World → Prop) (Φ : Nat → Value → World → Prop) (listed : Array Bool) (a' : Act) (W : World) : Prop where
  size : listed.size = ops.size
  closed : Closed ops (fun j => listed.getD j false)
  inv : I (fun j => listed.getD j false) W
  defers : a'.defers = a.defers
  tsize : a'.tmps.size = a.tmps.size
  has : ∀ j, listed.getD j false = true → (∀ t, dstB ops j t = true → ∃ v, a'.tmps[t]? = some v ∧ Φ j v W) ∧ ∃ v, Φ j v W
  free : ∀ t, (∀ j, dstB ops j t = true → listed.getD j false = false) → a'.tmps[t]? = a.tmps[t]?

theorem getD_setB (listed : Array Bool) (i j : Nat) (hi : i < listed.size) : (listed.setIfInBounds i true).getD j false = (j == i || listed.getD j false) := by
  by_cases h : j = i
  · subst h; simp [hi]
  · have : i ≠ j := fun e => h e.symm
    rw [getD_set_ne false this]; simp [h]

theorem wpAny_val {Q : Exit → Act → World → Prop} {a : Act} {I : (Nat → Bool) → World → Prop} {G : World → World → Prop} {Φ : Nat → Value → World → Prop}
    (hd : distinctB ops = true) (hbk : backB ops = true) (hbd : boundB ops a.tmps.size = true) (hstab : ∀ i v W W', Φ i v W → G W W' → Φ i v W') (hrefl : ∀ W, G W W)
    (steps : ∀ i o, ops[i]? = some o → StepOk P ops a I G Φ i o)
    (fin : ∀ (L : Nat → Bool) a' W, (∀ i, i < ops.size → L i = true) → I L W → a'.defers = a.defers → a'.tmps.size = a.tmps.size → (∀ j, j < ops.size → (∀ t, dstB ops j t = true → ∃ v, a'.tmps[t]? = some v ∧ Φ j v W) ∧ ∃ v, Φ j v W) →
      (∀ t, (∀ j, dstB ops j t = false) → a'.tmps[t]? = a.tmps[t]?) → Q .normal a' W) :
    ∀ (fuel : Nat) (listed : Array Bool) (a' : Act) (W : World), fuel + listed.toList.countP id = ops.size → ValInv ops a I Φ listed a' W → wpAny P .any ops Q fuel listed a' W := by
  have hdone : ∀ (listed : Array Bool) (a' : Act) (W : World), ValInv ops a I Φ listed a' W → Region.ready .any ops listed = [] → Q .normal a' W := by
    intro listed a' W inv hr
    have hall : ∀ i, i < ops.size → listed.getD i false = true := by
      intro i
      induction i using Nat.strongRecOn with
      | _ i ih =>
        intro hi
        cases hb : listed.getD i false with
        | true => rfl
        | false =>
          exfalso
          have hm : i ∈ Region.ready .any ops listed := by
            rw [mem_ready]
            refine ⟨?_, ops[i], by simp [hi], fun e he hbe => ?_⟩
            · have : i < listed.size := by rw [inv.size]; exact hi
              simp [this] at hb ⊢; exact hb
            · have h1 := List.all_eq_true.1 hbk i (List.mem_range.2 hi)
              simp only [Array.getElem?_eq_getElem hi] at h1
              rw [Array.all_eq_true'] at h1
              have h2 := h1 e he
              simp only [Bool.or_eq_true, Bool.not_eq_true', decide_eq_true_eq, hbe] at h2
              have h3 : e.on < i := by simpa using h2
              exact ih e.on h3 (by omega)
          rw [hr] at hm; cases hm
    refine fin _ a' W hall inv.inv inv.defers inv.tsize (fun j hj => inv.has j (hall j hj)) (fun t ht => inv.free t fun j hj => ?_)
    rw [ht j] at hj; cases hj
  intro fuel
  induction fuel with
  | zero =>
    intro listed a' W hc inv
    have hr : Region.ready .any ops listed = [] := by
      rw [Nat.zero_add] at hc
      have hlen : listed.toList.length = ops.size := by simpa using inv.size
      have hall := List.countP_eq_length.1 (hc.trans hlen.symm)
      cases hrr : Region.ready .any ops listed with
      | nil => rfl
      | cons x xs =>
        exfalso
        have hm : x ∈ Region.ready .any ops listed := by rw [hrr]; simp
        obtain ⟨h0, o, ho, _⟩ := mem_ready.1 hm
        have hx : x < listed.size := by rw [inv.size]; exact (Array.getElem?_eq_some_iff.1 ho).1
        have := hall (listed[x]) (by simp)
        simp [hx] at h0 this
        rw [h0] at this; cases this
    exact ⟨hr, hdone _ _ _ inv hr⟩
  | succ fuel ih =>
    intro listed a' W hc inv
    refine ⟨hdone _ _ _ inv, fun i hi => ?_⟩
    obtain ⟨h0, o, ho, hall⟩ := mem_ready.1 hi
    have hio : i < ops.size := (Array.getElem?_eq_some_iff.1 ho).1
    have hil : i < listed.size := by rw [inv.size]; exact hio
    have h0' : listed.getD i false = false := by simp [hil] at h0 ⊢; exact h0
    have hstep := steps i o ho (fun j => listed.getD j false) a' W inv.inv h0' (fun j hj => reach_ready inv.closed ho hall _ j hj)
      (fun j hj => by
        cases hb : listed.getD j false with
        | false => rfl
        | true => have := reach_listed inv.closed _ j i hj hb; rw [h0'] at this; cases this)
      inv.defers (fun j t hj hr => (inv.has j (reach_ready inv.closed ho hall _ j hr)).1 t hj)
      (fun t ht => inv.free t fun j hj => by
        cases hb : listed.getD j false with
        | false => rfl
        | true =>
          have hjs : j < ops.size := by
            unfold dstB at hj
            split at hj
            · cases hj
            · rename_i oj hoj; exact (Array.getElem?_eq_some_iff.1 hoj).1
          have h1 := List.all_eq_true.1 ht j (List.mem_range.2 hjs)
          simp only [hj, Bool.not_true, Bool.false_or, Bool.or_eq_true, beq_iff_eq] at h1
          rcases h1 with h1 | h1
          · have := reach_listed inv.closed _ j i h1 hb; rw [h0'] at this; cases this
          · subst h1; rw [h0'] at hb; cases hb)
      (wpAny P .any ops Q fuel (listed.setIfInBounds i true))
    have hL : (fun j => (listed.setIfInBounds i true).getD j false) = (fun j => j == i || listed.getD j false) := by funext j; exact getD_setB listed i j hil
    have next : ∀ v W', I (fun j => j == i || listed.getD j false) W' → G W W' → Φ i v W' → wpAny P .any ops Q fuel (listed.setIfInBounds i true) (a'.put o.dst v) W' := by
      intro v W' hI hG hΦ
      refine ih _ _ _ ?_ ?_
      · have : (listed.setIfInBounds i true).toList.countP id = listed.toList.countP id + 1 := by
          rw [Array.toList_setIfInBounds]
          have hlt : i < listed.toList.length := by simpa using hil
          rw [List.countP_set hlt]
          have hf : listed[i] = false := by simpa [hil] using h0
          simp [hf]
        omega
      · have hput : ∀ t, o.dst ≠ some t → (a'.put o.dst v).tmps[t]? = a'.tmps[t]? := by
          intro t ht
          cases hdst : o.dst with
          | none => rfl
          | some d =>
            have : d ≠ t := fun e => ht (by rw [hdst, e])
            simp [Act.put, Array.getElem?_setIfInBounds, this]
        have hdo : ∀ t, dstB ops i t = true ↔ o.dst = some t := by intro t; simp [dstB, ho]
        refine ⟨by simp [inv.size], ⟨?_⟩, by rw [hL]; exact hI, ?_, ?_, ?_, ?_⟩
        · intro j oj hj hl e he hbe
          simp only [getD_setB listed i _ hil] at hl ⊢
          rw [Bool.or_eq_true] at hl ⊢
          rcases hl with hl | hl
          · have : j = i := by simpa using hl
            subst this
            have : oj = o := Option.some.inj (hj.symm.trans ho)
            subst this
            exact .inr (hall e he hbe)
          · exact .inr (inv.closed.up j oj hj hl e he hbe)
        · rw [← inv.defers]; cases o.dst <;> rfl
        · rw [← inv.tsize]; cases o.dst <;> simp [Act.put]
        · intro j hl
          rw [getD_setB listed i _ hil, Bool.or_eq_true] at hl
          rcases hl with hl | hl
          · have : j = i := by simpa using hl
            subst this
            refine ⟨fun t ht => ?_, v, hΦ⟩
            have hdt := (hdo t).1 ht
            have hb : t < a'.tmps.size := by
              have := (Array.all_eq_true' ..).1 hbd o (Array.mem_of_getElem? ho)
              rw [hdt] at this
              rw [inv.tsize]; simpa using this
            exact ⟨v, by simp [hdt, Act.put, Array.getElem?_setIfInBounds, hb], hΦ⟩
          · obtain ⟨h1, u, hu⟩ := inv.has j hl
            refine ⟨fun t ht => ?_, u, hstab _ _ _ _ hu hG⟩
            obtain ⟨x, hx1, hx2⟩ := h1 t ht
            refine ⟨x, ?_, hstab _ _ _ _ hx2 hG⟩
            rw [hput t fun e => ?_]
            · exact hx1
            · have := distinct_spec hd ht ((hdo t).2 e)
              subst this; rw [h0'] at hl; cases hl
        · intro t ht
          rw [hput t fun e => ?_]
          · refine inv.free t fun j hj => ?_
            have := ht j hj
            rw [getD_setB listed i _ hil, Bool.or_eq_false_iff] at this
            exact this.2
          · have := ht i ((hdo t).2 e)
            rw [getD_setB listed i _ hil] at this
            simp at this
    have hstep := hstep next
    unfold wpOp
    simp only [ho]
    split
    · rename_i hw; rw [if_pos hw] at hstep; exact .inl (wp_False_imp hstep)
    · rename_i hw; rw [if_neg hw] at hstep; exact hstep

theorem wp_region_val {rid : Nat} {Q : Exit → Act → World → Prop} {a : Act} {w : World} {l : List Oper} (I : (Nat → Bool) → World → Prop) (G : World → World → Prop) (Φ : Nat → Value → World → Prop)
    (hm : P.follows .mixedOrders = true) (hd : distinctB l.toArray = true) (hbk : backB l.toArray = true) (hbd : boundB l.toArray a.tmps.size = true)
    (hI : I (fun _ => false) w.drew) (hrefl : ∀ W, G W W) (hstab : ∀ i v W W', Φ i v W → G W W' → Φ i v W')
    (steps : StepsFrom P l.toArray a I G Φ 0 l)
    (fin : ∀ (L : Nat → Bool) a' W, (∀ i, i < l.length → L i = true) → I L W → a'.defers = a.defers → a'.tmps.size = a.tmps.size → (∀ j, j < l.length → (∀ t, dstB l.toArray j t = true → ∃ v, a'.tmps[t]? = some v ∧ Φ j v W) ∧ ∃ v, Φ j v W) →
      (∀ t, (∀ j, dstB l.toArray j t = false) → a'.tmps[t]? = a.tmps[t]?) → Q .normal a' W) :
    (Code.region rid l.toArray true).wp P Q a w := by
  refine wp_region_any hm ?_
  refine wpAny_val (I := I) (G := G) (Φ := Φ) (a := a) hd hbk hbd hstab hrefl (fun i o ho => ?_) (by simpa using fin) _ _ _ _ ?_ ?_
  · have := StepsFrom.get l 0 steps i o (by simpa using ho)
    rwa [Nat.zero_add] at this
  · have : (Array.replicate l.toArray.size false).toList.countP id = 0 := by
      rw [List.countP_eq_zero]; intro x hx; simp at hx; simp [hx]
    omega
  · have hf : ∀ j, (Array.replicate l.toArray.size false).getD j false = false := fun j => by
      by_cases h : j < l.length
      · simp [h]
      · simp [h]
    refine ⟨by simp, ⟨fun i o _ h => (by rw [hf] at h; cases h)⟩, ?_, rfl, rfl, fun j h => (by rw [hf] at h; cases h), fun _ _ => rfl⟩
    have : (fun j => (Array.replicate l.toArray.size false).getD j false) = (fun _ => false) := by funext j; exact hf j
    rw [this]; exact hI
end
end Go.Proofs.YtkiojenkpbkjpaaGreatDoor
