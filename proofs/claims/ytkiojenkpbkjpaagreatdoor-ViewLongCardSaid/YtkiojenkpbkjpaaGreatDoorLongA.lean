/- Walk: the statement ViewLong, up to the view. -/
import Derived.Test.YtkiojenkpbkjpaaGreatDoorKnown
import Derived.Deep.OwnRows
import Derived.Laws.BytesString
set_option linter.unusedVariables false
set_option linter.unusedSimpArgs false
namespace Go.Proofs.YtkiojenkpbkjpaaGreatDoor
open Go Go.RowKit RV
set_option maxHeartbeats 2000000
/-- The string of n bytes c. -/
def bstr (n : Nat) (c : Int) : ByteArray := (List.replicate n c).foldl (fun r n => r.push (UInt8.ofNat n.toNat)) ByteArray.empty
theorem bstr_size (n : Nat) (c : Int) : (bstr n c).size = n := by
  have h : ∀ (l : List Int) (s : ByteArray), (l.foldl (fun r n => r.push (UInt8.ofNat n.toNat)) s).size = s.size + l.length := by
    intro l
    induction l with
    | nil => intro s; rfl
    | cons x l ih => intro s; rw [List.foldl_cons, ih, ByteArray.size_push, List.length_cons]; omega
  unfold bstr
  rw [h]
  simp [ByteArray.size_empty]
theorem info5 : (Tryz.prog.info? 5).map (fun i => (i.zero, i.size, i.bytes)) = some (some (.int .u8 0), 1, 1) := by kernel_rfl
theorem conv_run {W : World} {g n : Nat} {c : Int} (h : W.rowIs g 5 n (fun _ => .int .u8 c)) : (convert 23 9 (.slice (some ⟨g, 0, none⟩) n n)).run Tryz.prog W = .ok (.string (bstr n c)) W := by
  rw [run_convert_bytes_string W 23 9 5 _ _ _ Tryz.underlying23 Tryz.underlying5 Tryz.underlying9]
  refine run_bytesToString W _ n n (List.replicate n c) ?_
  have := run_loadCells_list (P := Tryz.prog) (w := W) ⟨g, 0, none⟩ ((List.replicate n c).map (Value.int .u8)) (fun j v hj => by
    have hjn : j < n := by have := (List.getElem?_eq_some_iff.1 hj).1; simpa using this
    have h2 := h.cell hjn
    simp [hjn] at hj
    subst hj
    cases j <;> simpa [Addr.add] using h2)
  simpa using this
theorem make_run (n : Nat) (hn : n ≤ 100000) (W : World) : (Instr.makeSlice 23 (.int .i64 (n : Int)) (.int .i64 (n : Int))).run Tryz.prog W = .ok (.slice (some ⟨W.heap.size, 0, none⟩) n n) (W.alloc (.cells (madeCells #[.int .u8 0] n) 5)) :=
  run_make_row' 23 5 (.int .u8 0) 1 Tryz.underlying23 info5 rfl .i64 .i64 n (by omega) (by omega) W
theorem k_v5 (S : ByteArray) : vval clockN .nil [⟨clockN, S, false⟩] = (S, true) := by rfl
theorem k_r5 (S : ByteArray) : vread clockN .nil [] [⟨clockN, S, false⟩] = [] := by rfl
theorem k_v6 : vval clockN .nil [] = (⟨#[]⟩, false) := by kernel_rfl
theorem k_ch : checkN clockN = 0 := by kernel_rfl
end Go.Proofs.YtkiojenkpbkjpaaGreatDoor
