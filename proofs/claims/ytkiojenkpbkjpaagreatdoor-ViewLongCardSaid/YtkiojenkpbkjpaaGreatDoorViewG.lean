/- Walks: Set, Delete of a view. -/
import Derived.Test.YtkiojenkpbkjpaaGreatDoorViewD
set_option linter.unusedVariables false
set_option linter.unusedSimpArgs false
namespace Go.Proofs.YtkiojenkpbkjpaaGreatDoor
open Go Go.RowKit RV
set_option maxHeartbeats 2000000
theorem set_any {base : Nat} {vp : Option Addr} {t : T} {m1 cl m2 : List Ch} (n : Nm) (v : ByteArray) (hn : n.owner.size ≤ maxLen) (htx : n.text.size ≤ maxLen) (hcv : v.size ≤ maxLen) (w : World) (h : IsW base w vp t m1 cl m2) (hlen : cl.length ≤ 100000) :
    Calls Tryz.prog 21 #[.pointer vp, nmV n, .string v] w fun e w' => e = .returned (.int .i64 (callE ⟨n, v, false⟩)) ∧ IsW base w' vp t m1 (callL ⟨n, v, false⟩ cl) (callM ⟨n, v, false⟩ m2) ∧ Below base w w' := by
  have b4 : base ≤ w.heap.size := by obtain ⟨b, sp, r1, r2, cv, w0, rfl, b1, b2, b3, b4, _⟩ := h; exact b4
  have hc := fun W (hg : Grew w W) => call_any ⟨n, v, false⟩ hn htx hcv W (h.grew hg) hlen
  clear h
  go_enter Tryz.func21, Tryz.ntmps21
  go_wp2_with fail
  refine (hc _ (Grew.alloc _ _)).mono ?_
  clear hc
  rintro e w' ⟨rfl, h', hb⟩
  replace h' := Lib.hid h'
  go_wp2
  go_ret
  exact ⟨rfl, h'.out, (Below.mono (Grew.alloc _ _) b4).trans hb⟩
theorem delete_any {base : Nat} {vp : Option Addr} {t : T} {m1 cl m2 : List Ch} (n : Nm) (hn : n.owner.size ≤ maxLen) (htx : n.text.size ≤ maxLen) (w : World) (h : IsW base w vp t m1 cl m2) (hlen : cl.length ≤ 100000) :
    Calls Tryz.prog 33 #[.pointer vp, nmV n] w fun e w' => e = .returned (.int .i64 (callE ⟨n, ⟨#[]⟩, true⟩)) ∧ IsW base w' vp t m1 (callL ⟨n, ⟨#[]⟩, true⟩ cl) (callM ⟨n, ⟨#[]⟩, true⟩ m2) ∧ Below base w w' := by
  have b4 : base ≤ w.heap.size := by obtain ⟨b, sp, r1, r2, cv, w0, rfl, b1, b2, b3, b4, _⟩ := h; exact b4
  have hc := fun W (hg : Grew w W) => call_any ⟨n, ⟨#[]⟩, true⟩ hn htx (Nat.zero_le maxLen) W (h.grew hg) hlen
  clear h
  go_enter Tryz.func33, Tryz.ntmps33
  go_wp2_with fail
  refine (hc _ (Grew.alloc _ _)).mono ?_
  clear hc
  rintro e w' ⟨rfl, h', hb⟩
  replace h' := Lib.hid h'
  go_wp2
  go_ret
  exact ⟨rfl, h'.out, (Below.mono (Grew.alloc _ _) b4).trans hb⟩
end Go.Proofs.YtkiojenkpbkjpaaGreatDoor
