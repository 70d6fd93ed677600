import Derived.Test.YtkiojenkpbkjpaaGreatDoorOrd
set_option linter.unusedVariables false
set_option linter.unusedSimpArgs false
/-! The names of processes: their ordinals, their order. Plain Lean, no program. -/
namespace RV
open Go

def isDig (c : UInt8) : Bool := decide (48 ≤ c.toNat) && decide (c.toNat ≤ 57)
def numVal (l : List UInt8) : Nat := l.foldl (fun n c => 10 * n + (c.toNat - 48)) 0

theorem numVal_snoc (l : List UInt8) (c : UInt8) : numVal (l ++ [c]) = 10 * numVal l + (c.toNat - 48) := by simp [numVal]

/-- The ordinals of what is left of a text, when at most k more are permitted. -/
def ordsFrom : Nat → List UInt8 → Option (List Int)
  | 0, _ => none
  | k + 1, l =>
    if l = [] then none
    else if l.takeWhile isDig = [] then none
    else if l.head? = some 48 then none
    else if 6 < (l.takeWhile isDig).length then none
    else match l.dropWhile isDig with
      | [] => some [(numVal (l.takeWhile isDig) : Int)]
      | c :: r => if c = 46 then (ordsFrom k r).map ((numVal (l.takeWhile isDig) : Int) :: ·) else none

def ords (l : List UInt8) : Option (List Int) := if l = [] then some [] else ordsFrom 8 l

theorem numVal_lt (l : List UInt8) (h : ∀ c ∈ l, isDig c = true) : numVal l < 10 ^ l.length := by
  have H : ∀ (n : Nat) (l : List UInt8), l.length = n → (∀ c ∈ l, isDig c = true) → numVal l < 10 ^ n := by
    intro n
    induction n with
    | zero => intro l hl _; obtain rfl := List.eq_nil_of_length_eq_zero hl; simp [numVal]
    | succ n ih =>
      intro l hl hd
      have hne : l ≠ [] := by intro e; simp [e] at hl
      obtain ⟨m, c, rfl⟩ : ∃ m c, l = m ++ [c] := ⟨l.dropLast, l.getLast hne, (List.dropLast_concat_getLast hne).symm⟩
      rw [numVal_snoc]
      have := ih m (by simpa using hl) (fun c hc => hd c (by simp [hc]))
      have hc := hd c (by simp)
      simp [isDig] at hc
      rw [Nat.pow_succ]; omega
  exact H _ l rfl h

theorem numVal_ge (c : UInt8) (l : List UInt8) (hc : isDig c = true) (h0 : c ≠ 48) : 10 ^ l.length ≤ numVal (c :: l) := by
  have H : ∀ (n : Nat) (l : List UInt8), l.length = n → 10 ^ n ≤ numVal (c :: l) := by
    intro n
    induction n with
    | zero =>
      intro l hl; obtain rfl := List.eq_nil_of_length_eq_zero hl
      simp [isDig] at hc
      have : c.toNat ≠ 48 := fun e => h0 (UInt8.toNat_inj.1 e)
      simp [numVal]; omega
    | succ n ih =>
      intro l hl
      have hne : l ≠ [] := by intro e; simp [e] at hl
      obtain ⟨m, d, rfl⟩ : ∃ m c, l = m ++ [c] := ⟨l.dropLast, l.getLast hne, (List.dropLast_concat_getLast hne).symm⟩
      rw [← List.cons_append, numVal_snoc, Nat.pow_succ]
      have := ih m (by simpa using hl)
      omega
  exact H _ l rfl

theorem numVal_inj_len (n : Nat) : ∀ (a b : List UInt8), a.length = n → b.length = n → (∀ c ∈ a, isDig c = true) → (∀ c ∈ b, isDig c = true) → numVal a = numVal b → a = b := by
  induction n with
  | zero => intro a b ha hb _ _ _; rw [List.eq_nil_of_length_eq_zero ha, List.eq_nil_of_length_eq_zero hb]
  | succ n ih =>
    intro a b ha hb hda hdb h
    have hna : a ≠ [] := by intro e; simp [e] at ha
    have hnb : b ≠ [] := by intro e; simp [e] at hb
    obtain ⟨x, c, rfl⟩ : ∃ m c, a = m ++ [c] := ⟨a.dropLast, a.getLast hna, (List.dropLast_concat_getLast hna).symm⟩
    obtain ⟨y, d, rfl⟩ : ∃ m c, b = m ++ [c] := ⟨b.dropLast, b.getLast hnb, (List.dropLast_concat_getLast hnb).symm⟩
    rw [numVal_snoc, numVal_snoc] at h
    have hc := hda c (by simp)
    have hd := hdb d (by simp)
    simp [isDig] at hc hd
    have e1 : numVal x = numVal y := by omega
    have e2 : c = d := UInt8.toNat_inj.1 (by omega)
    rw [ih x y (by simpa using ha) (by simpa using hb) (fun c hc => hda c (by simp [hc])) (fun c hc => hdb c (by simp [hc])) e1, e2]

/-- Digits that begin with no zero are told apart by their numbers. -/
theorem numVal_inj (a b : List UInt8) (ha : a ≠ []) (hb : b ≠ []) (h0a : a.head? ≠ some 48) (h0b : b.head? ≠ some 48) (hda : ∀ c ∈ a, isDig c = true) (hdb : ∀ c ∈ b, isDig c = true) (h : numVal a = numVal b) : a = b := by
  have la := numVal_lt a hda
  have lb := numVal_lt b hdb
  obtain ⟨c, x, rfl⟩ := List.exists_cons_of_ne_nil ha
  obtain ⟨d, y, rfl⟩ := List.exists_cons_of_ne_nil hb
  have ga := numVal_ge c x (hda c (by simp)) (by simpa using h0a)
  have gb := numVal_ge d y (hdb d (by simp)) (by simpa using h0b)
  have hlen : x.length = y.length := by
    simp only [List.length_cons] at la lb
    rcases Nat.lt_trichotomy x.length y.length with g | g | g
    · have := Nat.pow_le_pow_right (n := 10) (by omega) g
      simp only [Nat.succ_eq_add_one] at this; omega
    · exact g
    · have := Nat.pow_le_pow_right (n := 10) (by omega) g
      simp only [Nat.succ_eq_add_one] at this; omega
  exact numVal_inj_len _ _ _ rfl (by simp [hlen]) hda hdb h

theorem ordsFrom_ne_nil (k : Nat) (l : List UInt8) : ordsFrom k l ≠ some [] := by
  cases k with
  | zero => simp [ordsFrom]
  | succ k =>
    simp only [ordsFrom]
    repeat' split
    all_goals (try simp)

theorem ordsFrom_parts {k : Nat} {l : List UInt8} {x : Int} {xs : List Int} (h : ordsFrom k l = some (x :: xs)) :
    ∃ ds r j, l = ds ++ r ∧ ds ≠ [] ∧ ds.head? ≠ some 48 ∧ (∀ c ∈ ds, isDig c = true) ∧ x = (numVal ds : Int) ∧ ((xs = [] ∧ r = []) ∨ ∃ t, r = 46 :: t ∧ ordsFrom j t = some xs) := by
  cases k with
  | zero => simp [ordsFrom] at h
  | succ k =>
    simp only [ordsFrom] at h
    split at h
    · cases h
    · split at h
      · cases h
      · split at h
        · cases h
        · split at h
          · cases h
          · rename_i h0 h1 h2 h3
            have hl : l = l.takeWhile isDig ++ l.dropWhile isDig := List.takeWhile_append_dropWhile.symm
            have hh : (l.takeWhile isDig).head? ≠ some 48 := by
              cases l with
              | nil => simp at h0
              | cons c t =>
                intro e; apply h2
                simp only [List.takeWhile_cons] at e h1 ⊢
                split at e
                · simpa using e
                · simp at e
            have hd : ∀ c ∈ l.takeWhile isDig, isDig c = true := fun c hc => by
              have := List.all_takeWhile (p := isDig) (l := l); rw [List.all_eq_true] at this; exact this c hc
            split at h
            · rename_i hr
              simp only [Option.some.injEq, List.cons.injEq] at h
              exact ⟨_, _, 0, hl, h1, hh, hd, h.1.symm, .inl ⟨h.2.symm, hr⟩⟩
            · rename_i c t hr
              split at h
              · rename_i hc
                subst hc
                rw [Option.map_eq_some_iff] at h
                obtain ⟨ys, hy, he⟩ := h
                simp only [List.cons.injEq] at he
                exact ⟨_, _, k, hl, h1, hh, hd, he.1.symm, .inr ⟨t, hr, he.2 ▸ hy⟩⟩
              · cases h

theorem ordsFrom_inj (xs : List Int) : ∀ (k j : Nat) (a b : List UInt8), ordsFrom k a = some xs → ordsFrom j b = some xs → a = b := by
  induction xs with
  | nil => intro k _ a _ h; exact absurd h (ordsFrom_ne_nil k a)
  | cons x xs ih =>
    intro k j a b ha hb
    obtain ⟨ds, r, i, rfl, n1, z1, d1, e1, p1⟩ := ordsFrom_parts ha
    obtain ⟨es, s, i', rfl, n2, z2, d2, e2, p2⟩ := ordsFrom_parts hb
    have he : ds = es := numVal_inj ds es n1 n2 z1 z2 d1 d2 (by omega)
    subst he
    rcases p1 with ⟨f1, rfl⟩ | ⟨t, rfl, g1⟩ <;> rcases p2 with ⟨f2, rfl⟩ | ⟨t2, rfl, g2⟩
    · rfl
    · subst f1; exact absurd g2 (ordsFrom_ne_nil _ _)
    · subst f2; exact absurd g1 (ordsFrom_ne_nil _ _)
    · rw [ih _ _ _ _ g1 g2]

theorem ords_inj {a b : List UInt8} {xs : List Int} (ha : ords a = some xs) (hb : ords b = some xs) : a = b := by
  unfold ords at ha hb
  split at ha <;> split at hb
  · simp_all
  · simp only [Option.some.injEq] at ha; subst ha; exact absurd hb (ordsFrom_ne_nil _ _)
  · simp only [Option.some.injEq] at hb; subst hb; exact absurd ha (ordsFrom_ne_nil _ _)
  · exact ordsFrom_inj _ _ _ _ _ ha hb

/-- The order of the texts of processes. -/
def linCmp (a b : List UInt8) : Int :=
  match ords a, ords b with
  | some x, some y => listCmp Lib.compareInt x y
  | some _, none => -1
  | none, some _ => 1
  | none, none => Lib.compareBytes a b

theorem linCmp_lin : LinCmp linCmp where
  rng a b := by
    unfold linCmp
    split
    · exact (listCmp_lin icmp_lin).rng _ _
    · simp
    · simp
    · exact compareBytes_lin.rng _ _
  refl a := by
    unfold linCmp
    split <;> simp_all
    · exact (listCmp_lin icmp_lin).refl _
    · exact compareBytes_lin.refl _
  eq a b h := by
    unfold linCmp at h
    split at h
    · rename_i x y hx hy
      have := (listCmp_lin icmp_lin).eq _ _ h
      subst this; exact ords_inj hx hy
    · simp at h
    · simp at h
    · exact compareBytes_lin.eq _ _ h
  anti a b := by
    unfold linCmp
    cases ords a <;> cases ords b <;> simp
    · exact compareBytes_lin.anti _ _
    · exact (listCmp_lin icmp_lin).anti _ _
  trans a b d h1 h2 := by
    unfold linCmp at *
    cases ha : ords a <;> cases hb : ords b <;> cases hd : ords d <;> simp only [ha, hb, hd] at * <;> (try simp at h1) <;> (try simp at h2) <;> (try simp)
    · exact compareBytes_lin.trans _ _ _ h1 h2
    · exact (listCmp_lin icmp_lin).trans _ _ _ h1 h2
end RV
