import Derived.Lib.Bytealg
import Derived.Lib.Small
set_option linter.unusedVariables false
set_option linter.unusedSimpArgs false
/-! Linear comparators: plain Lean, no program. -/
namespace RV
open Go

/-- A comparator that answers -1, 0, 1 and is a linear order. -/
structure LinCmp {α : Type} (c : α → α → Int) : Prop where
  rng : ∀ a b, c a b = -1 ∨ c a b = 0 ∨ c a b = 1
  refl : ∀ a, c a a = 0
  eq : ∀ a b, c a b = 0 → a = b
  anti : ∀ a b, c b a = - c a b
  trans : ∀ a b d, c a b < 0 → c b d < 0 → c a d < 0

theorem icmp_lin : LinCmp Lib.compareInt where
  rng a b := by unfold Lib.compareInt; split <;> (try split) <;> simp
  refl a := by unfold Lib.compareInt; simp
  eq a b h := by unfold Lib.compareInt at h; split at h <;> (try split at h) <;> (try simp at h) <;> omega
  anti a b := by unfold Lib.compareInt; split <;> split <;> (try split) <;> (try simp) <;> omega
  trans a b d := by
    unfold Lib.compareInt; intro h1 h2
    have e1 : a < b := by
      by_cases h : a < b
      · exact h
      · rw [if_neg h] at h1; split at h1 <;> simp at h1
    have e2 : b < d := by
      by_cases h : b < d
      · exact h
      · rw [if_neg h] at h2; split at h2 <;> simp at h2
    rw [if_pos (by omega)]; simp

/-- The lexicographic join of two comparators on parts. -/
def lex2 {α β : Type} (c : α → α → Int) (d : β → β → Int) (a b : α × β) : Int := if c a.1 b.1 ≠ 0 then c a.1 b.1 else d a.2 b.2

theorem LinCmp.lex {α β : Type} {c : α → α → Int} {d : β → β → Int} (hc : LinCmp c) (hd : LinCmp d) : LinCmp (lex2 c d) where
  rng a b := by
    unfold lex2; split
    · exact hc.rng _ _
    · exact hd.rng _ _
  refl a := by unfold lex2; rw [if_neg (by simp [hc.refl])]; exact hd.refl _
  eq a b h := by
    unfold lex2 at h
    split at h
    · contradiction
    · rename_i h0; exact Prod.ext (hc.eq _ _ (by simpa using h0)) (hd.eq _ _ h)
  anti a b := by
    unfold lex2
    rw [hc.anti a.1 b.1]
    by_cases h : c a.1 b.1 = 0
    · rw [if_neg (by simp [h]), if_neg (by simp [h])]; exact hd.anti _ _
    · rw [if_pos (by omega), if_pos h]
  trans a b e := by
    unfold lex2
    intro h1 h2
    by_cases p : c a.1 b.1 = 0
    · rw [if_neg (by simp [p])] at h1
      have pe := hc.eq _ _ p
      by_cases q : c b.1 e.1 = 0
      · rw [if_neg (by simp [q])] at h2
        rw [pe, if_neg (by simp [q])]; exact hd.trans _ _ _ h1 h2
      · rw [if_pos q] at h2; rw [pe, if_pos q]; exact h2
    · rw [if_pos p] at h1
      by_cases q : c b.1 e.1 = 0
      · rw [← hc.eq _ _ q, if_pos p]; exact h1
      · rw [if_pos q] at h2
        have := hc.trans _ _ _ h1 h2
        rw [if_pos (by omega)]; exact this

/-- A comparator through a map that tells its arguments apart. -/
theorem LinCmp.comap {α β : Type} {c : α → α → Int} (hc : LinCmp c) (f : β → α) (hf : ∀ x y, f x = f y → x = y) : LinCmp (fun x y => c (f x) (f y)) where
  rng _ _ := hc.rng _ _
  refl _ := hc.refl _
  eq _ _ h := hf _ _ (hc.eq _ _ h)
  anti _ _ := hc.anti _ _
  trans _ _ _ h1 h2 := hc.trans _ _ _ h1 h2

/-- Lists, compared element by element, the shorter one first. -/
def listCmp {α : Type} (c : α → α → Int) : List α → List α → Int
  | [], [] => 0
  | [], _ :: _ => -1
  | _ :: _, [] => 1
  | a :: x, b :: y => if c a b ≠ 0 then c a b else listCmp c x y

theorem listCmp_lin {α : Type} {c : α → α → Int} (hc : LinCmp c) : LinCmp (listCmp c) where
  rng a := by
    induction a with
    | nil => intro b; cases b <;> simp [listCmp]
    | cons x a ih => intro b; cases b with
      | nil => simp [listCmp]
      | cons y b =>
        simp only [listCmp]; split
        · exact hc.rng _ _
        · exact ih _
  refl a := by
    induction a with
    | nil => rfl
    | cons x a ih => simp only [listCmp]; rw [if_neg (by simp [hc.refl])]; exact ih
  eq a := by
    induction a with
    | nil => intro b h; cases b with
      | nil => rfl
      | cons y b => simp [listCmp] at h
    | cons x a ih => intro b h; cases b with
      | nil => simp [listCmp] at h
      | cons y b =>
        simp only [listCmp] at h
        split at h
        · contradiction
        · rename_i h0; rw [hc.eq x y (by simpa using h0), ih b h]
  anti a := by
    induction a with
    | nil => intro b; cases b <;> simp [listCmp]
    | cons x a ih => intro b; cases b with
      | nil => simp [listCmp]
      | cons y b =>
        simp only [listCmp]
        rw [hc.anti x y]
        by_cases h : c x y = 0
        · rw [if_neg (by simp [h]), if_neg (by simp [h])]; exact ih b
        · rw [if_pos (by omega), if_pos h]
  trans a := by
    induction a with
    | nil => intro b d h1 h2
             cases d with
             | nil => cases b with
               | nil => simp [listCmp] at h1
               | cons => simp [listCmp] at h2
             | cons => simp [listCmp]
    | cons x a ih =>
      intro b d h1 h2
      cases b with
      | nil => simp [listCmp] at h1
      | cons y b =>
        cases d with
        | nil => simp [listCmp] at h2
        | cons z d =>
          simp only [listCmp] at h1 h2 ⊢
          by_cases p : c x y = 0
          · rw [if_neg (by simp [p])] at h1
            have pe := hc.eq _ _ p
            by_cases q : c y z = 0
            · rw [if_neg (by simp [q])] at h2
              rw [pe, if_neg (by simp [q])]; exact ih _ _ h1 h2
            · rw [if_pos q] at h2; rw [pe, if_pos q]; exact h2
          · rw [if_pos p] at h1
            by_cases q : c y z = 0
            · rw [← hc.eq _ _ q, if_pos p]; exact h1
            · rw [if_pos q] at h2
              have := hc.trans _ _ _ h1 h2
              rw [if_pos (by omega)]; exact this

def u8cmp (a b : UInt8) : Int := if a < b then -1 else if b < a then 1 else 0
theorem u8cmp_eq (a b : UInt8) : u8cmp a b = Lib.compareInt (a.toNat : Int) (b.toNat : Int) := by
  unfold u8cmp Lib.compareInt
  simp only [UInt8.lt_iff_toNat_lt, gt_iff_lt, Int.ofNat_lt]
theorem u8cmp_lin : LinCmp u8cmp := by
  have : u8cmp = fun a b => Lib.compareInt (a.toNat : Int) (b.toNat : Int) := by funext a b; exact u8cmp_eq a b
  rw [this]
  exact icmp_lin.comap (fun a : UInt8 => (a.toNat : Int)) (fun x y h => UInt8.toNat_inj.1 (Int.ofNat.inj h))
theorem compareBytes_eq (a : List UInt8) : ∀ b, Lib.compareBytes a b = listCmp u8cmp a b := by
  induction a with
  | nil => intro b; cases b <;> simp [Lib.compareBytes, listCmp]
  | cons x a ih => intro b; cases b with
    | nil => simp [Lib.compareBytes, listCmp]
    | cons y b =>
      simp only [Lib.compareBytes, listCmp, u8cmp]
      by_cases h : x < y
      · simp [h]
      · by_cases h' : y < x
        · simp [h, h']
        · simp [h, h', ih]
theorem compareBytes_lin : LinCmp Lib.compareBytes := by
  have : Lib.compareBytes = listCmp u8cmp := by funext a b; exact compareBytes_eq a b
  rw [this]; exact listCmp_lin u8cmp_lin

section facts
variable {α : Type} {c : α → α → Int} (h : LinCmp c)
include h
theorem LinCmp.zero_iff {a b : α} : c a b = 0 ↔ a = b := ⟨h.eq a b, fun e => e ▸ h.refl a⟩
theorem LinCmp.lt_or (a b : α) : c a b < 0 ∨ a = b ∨ c b a < 0 := by
  rcases h.rng a b with e | e | e
  · left; omega
  · exact .inr (.inl (h.eq _ _ e))
  · right; right; rw [h.anti a b]; omega
theorem LinCmp.gt_iff {a b : α} : 0 < c a b ↔ c b a < 0 := by rw [h.anti a b]; omega
theorem LinCmp.trans_le {a b d : α} (h1 : c a b ≤ 0) (h2 : c b d < 0) : c a d < 0 := by
  rcases h.lt_or a b with e | e | e
  · exact h.trans _ _ _ e h2
  · exact e ▸ h2
  · rw [h.anti a b] at e; omega
theorem LinCmp.asymm {a b : α} (h1 : c a b < 0) (h2 : c b a < 0) : False := by rw [h.anti a b] at h2; omega
theorem LinCmp.ne_of_lt {a b : α} (h1 : c a b < 0) : a ≠ b := fun e => by subst e; rw [h.refl] at h1; omega
end facts
end RV
