/- Plain: what a view answers; sorted lists of changes. -/
import Derived.Test.YtkiojenkpbkjpaaGreatDoorViewB
import Derived.Test.YtkiojenkpbkjpaaGreatDoorOf
set_option linter.unusedVariables false
set_option linter.unusedSimpArgs false
namespace Go.Proofs.YtkiojenkpbkjpaaGreatDoor
open Go Go.RowKit RV

/-- In the order of names, no name twice. -/
def Srt (l : List Ch) : Prop := l.Pairwise fun a b => nameCmp a.name b.name < 0

theorem srt_unique : ∀ {a b : List Ch}, a.Perm b → Srt a → Srt b → a = b
  | [], b, h, _, _ => by rw [List.nil_perm.1 h]
  | x :: a, [], h, _, _ => by simp at h
  | x :: a, y :: b, h, ha, hb => by
    have ha' := List.pairwise_cons.1 ha
    have hb' := List.pairwise_cons.1 hb
    have hxy : x = y := by
      have h1 : x ∈ y :: b := h.subset (by simp)
      have h2 : y ∈ x :: a := h.symm.subset (by simp)
      rcases List.mem_cons.1 h1 with e | h1
      · exact e
      rcases List.mem_cons.1 h2 with e | h2
      · exact e.symm
      exact (nameCmp_lin.asymm (hb'.1 x h1) (ha'.1 y h2)).elim
    subst hxy
    rw [srt_unique (List.Perm.cons_inv h) ha'.2 hb'.2]

def insM (c : Ch) : List Ch → List Ch
  | [] => [c]
  | d :: l => if nameCmp c.name d.name < 0 then c :: d :: l else d :: insM c l
def sortM : List Ch → List Ch
  | [] => []
  | c :: l => insM c (sortM l)
theorem insM_perm (c : Ch) : ∀ l : List Ch, (insM c l).Perm (c :: l)
  | [] => List.Perm.refl _
  | d :: l => by
    unfold insM
    split
    · exact List.Perm.refl _
    · exact ((insM_perm c l).cons d).trans (List.Perm.swap c d l)
theorem sortM_perm : ∀ l : List Ch, (sortM l).Perm l
  | [] => List.Perm.refl _
  | c :: l => (insM_perm c (sortM l)).trans ((sortM_perm l).cons c)
theorem insM_srt {c : Ch} : ∀ {l : List Ch}, Srt l → (∀ d ∈ l, d.name ≠ c.name) → Srt (insM c l)
  | [], _, _ => List.pairwise_singleton _ _
  | d :: l, h, hn => by
    have h' := List.pairwise_cons.1 h
    unfold insM
    split
    · rename_i hc
      refine List.pairwise_cons.2 ⟨fun x hx => ?_, h⟩
      rcases List.mem_cons.1 hx with rfl | hx
      · exact hc
      · exact nameCmp_lin.trans_le (by omega) (h'.1 x hx)
    · rename_i hc
      refine List.pairwise_cons.2 ⟨fun x hx => ?_, insM_srt h'.2 fun e he => hn e (by simp [he])⟩
      rcases List.mem_cons.1 ((insM_perm c l).subset hx) with rfl | hx
      · rcases nameCmp_lin.lt_or d.name x.name with g | g | g
        · exact g
        · exact (hn d (by simp) g).elim
        · exact (hc g).elim
      · exact h'.1 x hx
theorem sortM_srt : ∀ {l : List Ch}, l.Pairwise (fun a b => a.name ≠ b.name) → Srt (sortM l)
  | [], _ => List.Pairwise.nil
  | c :: l, h => by
    have h' := List.pairwise_cons.1 h
    exact insM_srt (sortM_srt h'.2) fun d hd => fun e => h'.1 d ((sortM_perm l).subset hd) e.symm
theorem sort_eq {m ys : List Ch} (hp : ys.Perm m) (hs : Srt ys) (hd : m.Pairwise fun a b => a.name ≠ b.name) : ys = sortM m :=
  srt_unique (hp.trans (sortM_perm m).symm) hs (sortM_srt hd)

/-- What Get answers: the value, whether there is one; what it has read. -/
def vval (n : Nm) (t : T) (m2 : List Ch) : ByteArray × Bool := if checkN n ≠ 0 then (⟨#[]⟩, false) else match getM n m2 with
  | some c => (c.value, !c.absent)
  | none => ((t.get n).getD ⟨#[]⟩, (t.get n).isSome)
def vread (n : Nm) (t : T) (m1 m2 : List Ch) : List Ch := if checkN n ≠ 0 then m1 else match getM n m2 with
  | some _ => m1
  | none => putM ⟨n, (t.get n).getD ⟨#[]⟩, !(t.get n).isSome⟩ m1
/-- The error of a call; the calls and what they have set behind it. -/
def callE (c : Ch) : Int := if checkN c.name ≠ 0 then 12 else if 65536 < c.value.size then 5 else 0
def callL (c : Ch) (cl : List Ch) : List Ch := if callE c = 0 then cl ++ [c] else cl
def callM (c : Ch) (m : List Ch) : List Ch := if callE c = 0 then putM c m else m
def backE (k : Int) (cl : List Ch) : Int := if k < 0 ∨ (cl.length : Int) < k then 2 else 0
def backL (k : Int) (cl : List Ch) : List Ch := if backE k cl = 0 then cl.take k.toNat else cl
def setAll (l : List Ch) (m : List Ch) : List Ch := l.foldl (fun m c => putM c m) m
def backM (k : Int) (cl m : List Ch) : List Ch := if backE k cl = 0 then setAll (cl.take k.toNat) [] else m

/-- A view behind a pointer, in blocks that are base or above; its state is older than base. -/
def IsW (base : Nat) (w : World) (vp : Option Addr) (t : T) (m1 cl m2 : List Ch) : Prop := ∃ b sp r1 r2 cv w0, vp = some ⟨b, 0, none⟩ ∧ base ≤ b ∧ base ≤ r1 ∧ base ≤ r2 ∧ base ≤ w.heap.size ∧
  w.heap[b]? = some (.cells #[.pointer sp, .map (some r1), cv, .map (some r2)] 162 (0, 0)) ∧ w0.heap.size ≤ base ∧ Grew w0 w ∧ IsS w0 sp t ∧ IsM w r1 m1 ∧ IsL w cv cl ∧ IsM w r2 m2 ∧ r1 ≠ r2
theorem IsW.grew {base : Nat} {w w' : World} (hg : Grew w w') {vp : Option Addr} {t : T} {m1 cl m2 : List Ch} (h : IsW base w vp t m1 cl m2) : IsW base w' vp t m1 cl m2 := by
  obtain ⟨b, sp, r1, r2, cv, w0, rfl, b1, b2, b3, b4, hb, hw0, hg0, hs, h1, hl, h2, hne⟩ := h
  exact ⟨b, sp, r1, r2, cv, w0, rfl, b1, b2, b3, Nat.le_trans b4 hg.size, (Below.block hg b (Array.getElem?_eq_some_iff.1 hb).1).trans hb, hw0, hg0.trans hg, hs, h1.grew hg, hl.grew hg, h2.grew hg, hne⟩
theorem IsW.isV {base : Nat} {w : World} {vp : Option Addr} {t : T} {m1 cl m2 : List Ch} (h : IsW base w vp t m1 cl m2) : IsV w vp t m1 cl m2 := by
  obtain ⟨b, sp, r1, r2, cv, w0, rfl, b1, b2, b3, b4, hb, hw0, hg0, hs, h1, hl, h2, hne⟩ := h
  exact ⟨b, sp, r1, r2, cv, rfl, hb, hs.grew hg0, h1, hl, h2, hne⟩
end Go.Proofs.YtkiojenkpbkjpaaGreatDoor
