/- ViewLong: for every input the law returns true and its arguments read as they did; the listed package-level variables are tied to the program's text (no other condition). The row and the tied card. -/
import Derived.Test.YtkiojenkpbkjpaaGreatDoorCardK
import Derived.Test.YtkiojenkpbkjpaaGreatDoorLongR
import Derived.Test.YtkiojenkpbkjpaaGreatDoorLongF
set_option linter.unusedVariables false
set_option linter.unusedSimpArgs false
namespace Go.Proofs.YtkiojenkpbkjpaaGreatDoor
open Go.ChangeShapes Go.WideShapes Go.ChangeAt Go.RowKit
set_option maxRecDepth 100000
set_option maxHeartbeats 100000000
theorem viewLong_named : Tryz.prog.funcNamed "replevin/replevinlaw24.ViewLong" = some 3 := by kernel_rfl
theorem viewLong_inst : Tryz.f3.isInstance Tryz.prog Rows.viewLongRow.origin Rows.viewLongRow.targs := of_decide_eq_true (by kernel_rfl)
theorem viewLong_wrap : Tryz.f3.isWrapper Tryz.prog Rows.viewLongRow.wrapper Rows.viewLongRow.mainSum := by
  unfold Func.isWrapper
  first | (rw [if_pos (by decide +kernel)]; kernel_rfl) | (rw [if_neg (by decide +kernel)]; exact ⟨rfl, rfl⟩)
theorem viewLong_wf : Rows.viewLongRow.wfByText (OpenSpec.ofChange Rows.viewLongSpec) = true := by kernel_rfl
theorem viewLong_goes : false = Rows.viewLongRow.goesBy Tryz.prog := by kernel_rfl
theorem viewLong_plain : ([4, 5].all fun u => !Tryz.prog.wantsStandIn u) = true := by kernel_rfl
theorem viewLong_holds : Rows.ViewLongSaid :=
  OpenClaim.holds_of_wide 3 Tryz.f3 rfl rfl rfl rfl rfl rfl rfl ⟨rfl, rfl, rfl, rfl, rfl⟩ rfl rfl rfl rfl rfl viewLong_named Tryz.func3 viewLong_facts
    viewLong_inst viewLong_wrap
    (fun os started H enc _ => viewLong_lifted os started H enc)
theorem viewLong_card_holds : Rows.ViewLongCardSaid :=
  Claim7.holds_tied_plain_at .later [] [.data, .data, .data, .sentinel, .sentinel] true (true, "097ddc23ed3c0a1f79d545db1f5f0140b361eafbf70d0b2fe4a5f9d604414c98") true
    viewLong_holds (fun _ h => by cases h) viewLong_wf (fun _ h => by cases h) viewLong_row_tie rfl ⟨rfl, rfl⟩ tryz_main rfl
    (fun f fn hf hfn => by
      obtain rfl : f = 3 := Option.some.inj (viewLong_named.symm.trans hf) |>.symm
      obtain rfl : fn = Tryz.f3 := (Option.some.inj (Tryz.func3.symm.trans hfn)).symm
      exact ⟨tryz_looks, fun j t ht => by
        rw [Tryz.params3] at ht
        have hm : t ∈ [4, 5] := by simpa using Array.mem_of_getElem? ht
        exact (show Tryz.prog.wantsStandIn t = false by simpa using List.all_eq_true.1 viewLong_plain t hm)⟩)
    viewLong_goes
#print axioms viewLong_card_holds
end Go.Proofs.YtkiojenkpbkjpaaGreatDoor
