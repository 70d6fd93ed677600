import Derived.Test.YtkiojenkpbkjpaaGreatDoorLin
set_option linter.unusedVariables false
set_option linter.unusedSimpArgs false
/-! The names of objects and their order; the search tree of a state. Plain Lean, no program. -/
namespace RV
open Go

structure Nm where
  kind : Int
  owner : ByteArray
  number : Int
  index : Int
  text : ByteArray
  deriving DecidableEq, Inhabited

abbrev bl (s : ByteArray) : List UInt8 := s.data.toList

theorem bl_inj {a b : ByteArray} (h : bl a = bl b) : a = b := by
  cases a; cases b; simp [bl] at h; simp [h]

/-- The first of two numbers that is not 0. -/
def or2 (a b : Int) : Int := if a ≠ 0 then a else b

def nameCmp (a b : Nm) : Int :=
  or2 (Lib.compareInt a.kind b.kind) (or2 (linCmp (bl a.owner) (bl b.owner)) (or2 (Lib.compareInt a.number b.number) (or2 (Lib.compareInt a.index b.index) (Lib.compareBytes (bl a.text) (bl b.text)))))

def Nm.tup (a : Nm) : Int × (List UInt8 × (Int × (Int × List UInt8))) := (a.kind, bl a.owner, a.number, a.index, bl a.text)

theorem nameCmp_lin : LinCmp nameCmp := by
  have h := (icmp_lin.lex (linCmp_lin.lex (icmp_lin.lex (icmp_lin.lex compareBytes_lin)))).comap Nm.tup (by
    intro x y h
    cases x; cases y
    simp only [Nm.tup, Prod.mk.injEq] at h
    obtain ⟨h1, h2, h3, h4, h5⟩ := h
    subst h1 h3 h4
    rw [bl_inj h2, bl_inj h5])
  exact h

abbrev Ent := Nm × ByteArray

/-- The objects after one was given a value. -/
def insL (n : Nm) (v : ByteArray) : List Ent → List Ent
  | [] => [(n, v)]
  | (m, u) :: t => if nameCmp n m < 0 then (n, v) :: (m, u) :: t else if nameCmp n m = 0 then (n, v) :: t else (m, u) :: insL n v t

/-- The objects without one. -/
def delL (n : Nm) : List Ent → List Ent
  | [] => []
  | (m, u) :: t => if m = n then t else (m, u) :: delL n t

def getL (n : Nm) : List Ent → Option ByteArray
  | [] => none
  | (m, u) :: t => if m = n then some u else getL n t

/-- Strictly ascending names. -/
abbrev Asc (l : List Ent) : Prop := l.Pairwise fun a b => nameCmp a.1 b.1 < 0

theorem getL_none_of_lt {n : Nm} : ∀ {l : List Ent}, (∀ e ∈ l, nameCmp n e.1 < 0) → getL n l = none
  | [], _ => rfl
  | (m, u) :: t, h => by
    have h0 := nameCmp_lin.ne_of_lt (h (m, u) (by simp))
    simp only [getL]; rw [if_neg (fun e => h0 e.symm)]
    exact getL_none_of_lt fun e he => h e (by simp [he])

theorem getL_append_left {n : Nm} : ∀ {a b : List Ent}, (∀ e ∈ b, nameCmp n e.1 < 0) → getL n (a ++ b) = getL n a
  | [], b, h => getL_none_of_lt h
  | (m, u) :: t, b, h => by
    simp only [List.cons_append, getL]; split
    · rfl
    · exact getL_append_left h

theorem getL_append_right {n : Nm} : ∀ {a b : List Ent}, (∀ e ∈ a, nameCmp e.1 n < 0) → getL n (a ++ b) = getL n b
  | [], b, _ => rfl
  | (m, u) :: t, b, h => by
    have h0 := nameCmp_lin.ne_of_lt (h (m, u) (by simp))
    simp only [List.cons_append, getL]; rw [if_neg h0]
    exact getL_append_right fun e he => h e (by simp [he])

theorem insL_left {n : Nm} {v : ByteArray} {m : Nm} {u : ByteArray} (hlt : nameCmp n m < 0) (b : List Ent) : ∀ a : List Ent, insL n v (a ++ (m, u) :: b) = insL n v a ++ (m, u) :: b
  | [] => by simp [insL, hlt]
  | (k, x) :: t => by
    simp only [List.cons_append, insL]
    split
    · rfl
    · split
      · rfl
      · rw [insL_left hlt b t]; rfl

theorem insL_right {n : Nm} {v : ByteArray} (b : List Ent) : ∀ a : List Ent, (∀ e ∈ a, nameCmp e.1 n < 0) → insL n v (a ++ b) = a ++ insL n v b
  | [], _ => rfl
  | (k, x) :: t, h => by
    have h0 := h (k, x) (by simp)
    have h1 : 0 < nameCmp n k := nameCmp_lin.gt_iff.2 h0
    simp only [List.cons_append, insL]
    rw [if_neg (by omega), if_neg (by omega), insL_right b t fun e he => h e (by simp [he])]

theorem delL_left {n : Nm} {b : List Ent} (h : ∀ e ∈ b, nameCmp n e.1 < 0) : ∀ a : List Ent, delL n (a ++ b) = delL n a ++ b
  | [] => by
    simp only [List.nil_append, delL]
    induction b with
    | nil => rfl
    | cons e b ih =>
      obtain ⟨m, u⟩ := e
      have h0 := nameCmp_lin.ne_of_lt (h (m, u) (by simp))
      simp only [delL]; rw [if_neg (fun e => h0 e.symm), ih fun e he => h e (by simp [he])]
  | (k, x) :: t => by
    simp only [List.cons_append, delL]; split
    · rfl
    · rw [delL_left h t]; rfl

theorem delL_right {n : Nm} (b : List Ent) : ∀ a : List Ent, (∀ e ∈ a, nameCmp e.1 n < 0) → delL n (a ++ b) = a ++ delL n b
  | [], _ => rfl
  | (k, x) :: t, h => by
    have h0 := nameCmp_lin.ne_of_lt (h (k, x) (by simp))
    simp only [List.cons_append, delL]
    rw [if_neg h0, delL_right b t fun e he => h e (by simp [he])]

/-! ### The tree -/
inductive T where
  | nil
  | node (l : T) (n : Nm) (v : ByteArray) (r : T)
  deriving Inhabited

namespace T
def tall : T → Nat
  | nil => 0
  | node l _ _ r => 1 + max l.tall r.tall
def many : T → Nat
  | nil => 0
  | node l _ _ r => 1 + l.many + r.many
def total : T → Nat
  | nil => 0
  | node l _ v r => v.size + l.total + r.total
def list : T → List Ent
  | nil => []
  | node l n v r => l.list ++ (n, v) :: r.list

def bal (l : T) (n : Nm) (v : ByteArray) (r : T) : T :=
  if r.tall + 1 < l.tall then
    match l with
    | node ll ln lv lr =>
      if lr.tall ≤ ll.tall then node ll ln lv (node lr n v r)
      else match lr with
        | node ml mn mv mr => node (node ll ln lv ml) mn mv (node mr n v r)
        | nil => node l n v r
    | nil => node l n v r
  else if l.tall + 1 < r.tall then
    match r with
    | node rl rn rv rr =>
      if rl.tall ≤ rr.tall then node (node l n v rl) rn rv rr
      else match rl with
        | node ml mn mv mr => node (node l n v ml) mn mv (node mr rn rv rr)
        | nil => node l n v r
    | nil => node l n v r
  else node l n v r

@[simp] theorem list_bal (l : T) (n : Nm) (v : ByteArray) (r : T) : (bal l n v r).list = l.list ++ (n, v) :: r.list := by
  unfold bal
  repeat' split
  all_goals simp [list]

def put (n : Nm) (v : ByteArray) : T → T
  | nil => node nil n v nil
  | node l m u r =>
    if nameCmp n m < 0 then bal (put n v l) m u r
    else if 0 < nameCmp n m then bal l m u (put n v r)
    else node l n v r

def get (n : Nm) : T → Option ByteArray
  | nil => none
  | node l m u r => if nameCmp n m < 0 then get n l else if 0 < nameCmp n m then get n r else some u

/-- The first object of a tree that is not empty, and the tree without it. -/
def first : T → Nm → ByteArray → T → Nm × ByteArray
  | nil, n, v, _ => (n, v)
  | node ll ln lv lr, _, _, _ => first ll ln lv lr
def rest : T → Nm → ByteArray → T → T
  | nil, _, _, r => r
  | node ll ln lv lr, n, v, r => bal (rest ll ln lv lr) n v r

def del (n : Nm) : T → T
  | nil => nil
  | node l m u r =>
    if nameCmp n m < 0 then bal (del n l) m u r
    else if 0 < nameCmp n m then bal l m u (del n r)
    else match r with
      | nil => l
      | node rl rn rv rr => bal l (first rl rn rv rr).1 (first rl rn rv rr).2 (rest rl rn rv rr)

theorem first_rest (l : T) : ∀ (n : Nm) (v : ByteArray) (r : T), (first l n v r) :: (rest l n v r).list = (node l n v r).list := by
  induction l with
  | nil => intro n v r; simp [first, rest, list]
  | node ll ln lv lr ihl _ =>
    intro n v r
    simp only [first, rest, list_bal, list]
    have := ihl ln lv lr
    simp only [list] at this
    rw [← List.cons_append, this]

abbrev Ok (t : T) : Prop := Asc t.list

theorem Ok.parts {l : T} {n : Nm} {v : ByteArray} {r : T} (h : (node l n v r).Ok) : l.Ok ∧ r.Ok ∧ (∀ e ∈ l.list, nameCmp e.1 n < 0) ∧ (∀ e ∈ r.list, nameCmp n e.1 < 0) := by
  simp only [Ok, Asc, list, List.pairwise_append, List.pairwise_cons] at h
  exact ⟨h.1, h.2.1.2, fun e he => h.2.2 e he (n, v) (by simp), fun e he => h.2.1.1 e he⟩

theorem get_list {t : T} (h : t.Ok) (n : Nm) : t.get n = getL n t.list := by
  induction t with
  | nil => rfl
  | node l m u r ihl ihr =>
    obtain ⟨hl, hr, hlt, hgt⟩ := h.parts
    simp only [get, list]
    by_cases h1 : nameCmp n m < 0
    · rw [if_pos h1, ihl hl, getL_append_left]
      intro e he
      simp only [List.mem_cons] at he
      rcases he with rfl | he
      · exact h1
      · exact nameCmp_lin.trans _ _ _ h1 (hgt e he)
    · rw [if_neg h1]
      by_cases h2 : 0 < nameCmp n m
      · rw [if_pos h2, ihr hr]
        have h2' := nameCmp_lin.gt_iff.1 h2
        rw [getL_append_right fun e he => nameCmp_lin.trans _ _ _ (hlt e he) h2']
        simp only [getL]; rw [if_neg (nameCmp_lin.ne_of_lt h2')]
      · rw [if_neg h2]
        have h3 := nameCmp_lin.eq _ _ (show nameCmp n m = 0 by omega)
        subst h3
        rw [getL_append_right hlt]
        simp [getL]

theorem list_put {t : T} (h : t.Ok) (n : Nm) (v : ByteArray) : (t.put n v).list = insL n v t.list := by
  induction t with
  | nil => simp [put, list, insL]
  | node l m u r ihl ihr =>
    obtain ⟨hl, hr, hlt, hgt⟩ := h.parts
    simp only [put, list]
    by_cases h1 : nameCmp n m < 0
    · rw [if_pos h1, list_bal, ihl hl, insL_left h1]
    · rw [if_neg h1]
      by_cases h2 : 0 < nameCmp n m
      · have h2' := nameCmp_lin.gt_iff.1 h2
        rw [if_pos h2, list_bal, ihr hr, insL_right _ _ fun e he => nameCmp_lin.trans _ _ _ (hlt e he) h2']
        simp only [insL]; rw [if_neg h1, if_neg (by omega)]
      · rw [if_neg h2]
        have h3 := nameCmp_lin.eq _ _ (show nameCmp n m = 0 by omega)
        subst h3
        rw [insL_right _ _ hlt]
        simp [insL, list, nameCmp_lin.refl]

theorem list_del {t : T} (h : t.Ok) (n : Nm) : (t.del n).list = delL n t.list := by
  induction t with
  | nil => rfl
  | node l m u r ihl ihr =>
    obtain ⟨hl, hr, hlt, hgt⟩ := h.parts
    simp only [del, list]
    by_cases h1 : nameCmp n m < 0
    · rw [if_pos h1, list_bal, ihl hl, delL_left]
      intro e he
      simp only [List.mem_cons] at he
      rcases he with rfl | he
      · exact h1
      · exact nameCmp_lin.trans _ _ _ h1 (hgt e he)
    · rw [if_neg h1]
      by_cases h2 : 0 < nameCmp n m
      · have h2' := nameCmp_lin.gt_iff.1 h2
        rw [if_pos h2, list_bal, ihr hr, delL_right _ _ fun e he => nameCmp_lin.trans _ _ _ (hlt e he) h2']
        simp only [delL]; rw [if_neg (nameCmp_lin.ne_of_lt h2')]
      · rw [if_neg h2]
        have h3 := nameCmp_lin.eq _ _ (show nameCmp n m = 0 by omega)
        subst h3
        rw [delL_right _ _ hlt]
        simp only [delL, if_true]
        cases r with
        | nil => simp [list]
        | node rl rn rv rr =>
          simp only [list_bal]
          rw [← first_rest rl rn rv rr]

end T

theorem mem_insL {n : Nm} {v : ByteArray} {e : Ent} : ∀ {l : List Ent}, e ∈ insL n v l → e = (n, v) ∨ e ∈ l
  | [], h => by simp [insL] at h; exact .inl h
  | (m, u) :: t, h => by
    simp only [insL] at h
    split at h
    · simpa using h
    · split at h
      · simp at h; rcases h with h | h
        · exact .inl h
        · exact .inr (by simp [h])
      · simp only [List.mem_cons] at h
        rcases h with h | h
        · exact .inr (by simp [h])
        · rcases mem_insL h with h | h
          · exact .inl h
          · exact .inr (by simp [h])

theorem asc_insL {n : Nm} {v : ByteArray} : ∀ {l : List Ent}, Asc l → Asc (insL n v l)
  | [], _ => by simp [insL, Asc]
  | (m, u) :: t, h => by
    have h' := h
    simp only [Asc, List.pairwise_cons] at h
    simp only [insL]
    split
    · rename_i hlt
      refine List.pairwise_cons.2 ⟨fun e he => ?_, h'⟩
      simp only [List.mem_cons] at he
      rcases he with rfl | he
      · exact hlt
      · exact nameCmp_lin.trans _ _ _ hlt (h.1 e he)
    · split
      · rename_i _ h0
        have := nameCmp_lin.eq _ _ h0
        subst this
        exact List.pairwise_cons.2 ⟨h.1, h.2⟩
      · rename_i h1 h2
        refine List.pairwise_cons.2 ⟨fun e he => ?_, asc_insL h.2⟩
        rcases mem_insL he with rfl | he
        · have h3 : 0 < nameCmp n m := by omega
          exact nameCmp_lin.gt_iff.1 h3
        · exact h.1 e he

theorem delL_sublist (n : Nm) : ∀ l : List Ent, (delL n l).Sublist l
  | [] => List.Sublist.slnil
  | (m, u) :: t => by
    simp only [delL]; split
    · exact List.sublist_cons_self _ _
    · exact (delL_sublist n t).cons_cons _

theorem asc_delL {n : Nm} {l : List Ent} (h : Asc l) : Asc (delL n l) := h.sublist (delL_sublist n l)

theorem T.many_list (t : T) : t.many = t.list.length := by
  induction t with
  | nil => rfl
  | node l n v r ihl ihr => simp [T.many, T.list, ihl, ihr]; omega

theorem T.Ok.put {t : T} (h : t.Ok) (n : Nm) (v : ByteArray) : (t.put n v).Ok := by
  show Asc _; rw [T.list_put h]; exact asc_insL h
theorem T.Ok.del {t : T} (h : t.Ok) (n : Nm) : (t.del n).Ok := by
  show Asc _; rw [T.list_del h]; exact asc_delL h
theorem T.tall_le_many (t : T) : t.tall ≤ t.many := by
  induction t with
  | nil => exact Nat.le_refl _
  | node l n v r ihl ihr => simp only [T.tall, T.many]; omega
end RV
