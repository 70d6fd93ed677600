/- strconv.Atoi at digits. -/
import Derived.Test.YtkiojenkpbkjpaaGreatDoorLinV
import Derived.Test.YtkiojenkpbkjpaaGreatDoorShelf
import Derived.Lib.SmallJoins
import Derived.Lib.ConvBytes
import Derived.Shelf.Abstract
import Derived.RangeFuncBox
set_option linter.unusedVariables false
set_option linter.unusedSimpArgs false
namespace Go.Proofs.YtkiojenkpbkjpaaGreatDoor
open Go Go.RowKit RV

theorem atoi_digits {l : List UInt8} (h : ∀ c ∈ l, isDig c = true) (hne : l ≠ []) : Lib.atoi l = some (numVal l : Int) := by
  have H : ∀ (l : List UInt8) (acc : Nat), (∀ c ∈ l, isDig c = true) → Lib.decFrom acc l = some (l.foldl (fun n c => 10 * n + (c.toNat - 48)) acc) := by
    intro l
    induction l with
    | nil => intro acc _; rfl
    | cons c l ih =>
      intro acc hc
      have h0 := hc c (by simp)
      simp [isDig] at h0
      simp only [Lib.decFrom, Lib.digitVal]
      rw [if_pos ⟨h0.1, h0.2⟩]
      simp only [List.foldl_cons]
      rw [ih _ fun x hx => hc x (by simp [hx]), Nat.mul_comm]
  cases l with
  | nil => exact absurd rfl hne
  | cons c l =>
    have h0 := h c (by simp)
    simp [isDig] at h0
    have n1 : (c == 45) = false := by rw [beq_eq_false_iff_ne]; intro e; subst e; simp at h0
    have n2 : (c == 43) = false := by rw [beq_eq_false_iff_ne]; intro e; subst e; simp at h0
    simp only [Lib.atoi, n1, n2]
    simp only [Lib.decNat, List.isEmpty_cons, Bool.false_eq_true, if_false, H _ 0 h]
    rfl

theorem takeWhile_eq_extract (s : ByteArray) (p : Nat) : (s.extract p (p + dg s p)).data.toList = ((bl s).drop p).takeWhile isDig := by
  have h : ∀ l : List UInt8, l.takeWhile isDig = l.take (l.takeWhile isDig).length := by
    intro l
    induction l with
    | nil => rfl
    | cons a l ih =>
      by_cases ha : isDig a = true
      · simp only [List.takeWhile_cons, ha, if_true, List.length_cons, List.take_succ_cons]; rw [← ih]
      · simp [List.takeWhile_cons, ha]
  rw [h]
  have e : (((bl s).drop p).takeWhile isDig).length = dg s p := rfl
  rw [e]
  simp [bl, ByteArray.data_extract, List.take_drop]

theorem atoi_in (s : ByteArray) (p : Nat) (h0 : dg s p ≠ 0) (h6 : ¬ 6 < dg s p) (w : World) :
    Calls Tryz.prog 290 #[.string (s.extract p (p + dg s p))] w fun e w' => e = .returned (.tuple #[.int .i64 (numVal (((bl s).drop p).takeWhile isDig) : Nat), .nilIface]) ∧ Below w.heap.size w w' := by
  have hsz : (s.extract p (p + dg s p)).size ≤ 18 := by
    simp only [ByteArray.size_extract]; omega
  refine (Tryz.strconv_Atoi _ _ hsz (by rw [takeWhile_eq_extract]; exact atoi_digits (fun c hc => by
    have := List.all_takeWhile (p := isDig) (l := (bl s).drop p); rw [List.all_eq_true] at this; exact this c hc) (dg_ne h0)) w).mono ?_
  rintro e w' ⟨rfl, t, rfl⟩
  exact ⟨rfl, Joins.below_bytesWorld _ _ _ _ (Nat.le_refl _)⟩

end Go.Proofs.YtkiojenkpbkjpaaGreatDoor
