/- Draws only grow: whatever a program does, the count of draws does not sink. -/
import Derived.Calls
import Derived.StepT
set_option linter.unusedVariables false
set_option linter.unusedSimpArgs false
namespace Go.Proofs.YtkiojenkpbkjpaaGreatDoor
open Go

def resD {α : Type} : Result α → Nat
  | .ok _ w => w.drawn
  | .halt _ w => w.drawn

theorem ask_up {α : Type} (a : Ask α) : ∀ w : World, w.drawn ≤ (w.ask a).2.drawn := by
  induction a with
  | done a => intro w; exact Nat.le_refl _
  | ask what range k ih =>
    intro w
    unfold World.ask
    dsimp only
    split
    · exact ih 0 w
    · exact Nat.le_trans (Nat.le_succ _) (ih _ { w with drawn := w.drawn + 1 })

theorem sys_up (w : World) (c : Sys) : w.drawn ≤ (w.sys c).2.drawn := by
  have h := ask_up (Kernel.perform c w.os) w
  unfold World.sys
  generalize w.ask (Kernel.perform c w.os) = y at h
  obtain ⟨⟨r, os⟩, w'⟩ := y
  cases r <;> first | exact Nat.le_refl _ | exact h

theorem view_up {p : Program} {w : World} {a : Addr} {u : TypeId} {k : Addr} {v : Value} {m : Bool} {r : World × List Addr} (h : w.viewStore p a u k v m = .ok r) : r.1.drawn = w.drawn := by
  unfold World.viewStore at h
  simp only [bind, Except.bind, pure, Except.pure, throw, throwThe, MonadExceptOf.throw] at h
  repeat' (split at h)
  all_goals first
    | (cases h; rfl)
    | (simp at h; done)

theorem far_up {p : Program} {w : World} {a : Addr} {v : Value} {m : Bool} {r : World × List Addr} (h : w.farStore p a v m = .ok r) : r.1.drawn = w.drawn := by
  unfold World.farStore at h
  split at h
  · split at h
    · rename_i hv
      cases h
      exact view_up hv
    · cases h
  · cases h

theorem freeze_up (w : World) (a : Addr) (n : Nat) : (w.freeze a n).drawn = w.drawn := by
  unfold World.freeze
  split <;> rfl

theorem run_up {α : Type} (p : Program) (s : Sem α) : ∀ w : World, w.drawn ≤ resD (s.run p w) := by
  induction s with
  | pure a => intro w; exact Nat.le_refl _
  | load m a k ih =>
    intro w
    rw [Sem.run]
    repeat' split
    all_goals first | exact ih _ _ | exact Nat.le_refl _
  | store m a v k ih =>
    intro w
    have h : ∀ w' : World, w'.drawn = w.drawn → w.drawn ≤ resD (k.run p w') := fun w' e => by rw [← e]; exact ih w'
    cases v <;> rw [Sem.run] <;> (try (repeat' split)) <;> first | exact Nat.le_refl _ | exact h _ rfl | (rename_i hf; exact h _ (far_up hf)) | (intros; simp_all; done)
  | new o k ih => intro w; rw [Sem.run]; exact ih _ { w with heap := w.heap.push o }
  | shape r k ih => intro w; rw [Sem.run]; exact ih _ _
  | freeze a n k ih => intro w; rw [Sem.run]; exact Nat.le_trans (Nat.le_of_eq (freeze_up w a n).symm) (ih _)
  | frozen a k ih => intro w; rw [Sem.run]; exact ih _ _
  | getObj r k ih =>
    intro w
    rw [Sem.run]
    repeat' split
    all_goals first | exact ih _ _ | exact Nat.le_refl _
  | setObj r o k ih =>
    intro w
    rw [Sem.run]
    repeat' split
    all_goals first | exact ih { w with heap := w.heap.setIfInBounds r o } | exact Nat.le_refl _
  | choose q k ih =>
    intro w
    rw [Sem.run]
    split
    · exact ih _ _
    · exact Nat.le_trans (Nat.le_succ _) (ih _ { w with drawn := w.drawn + 1 })
  | sys c k ih => intro w; rw [Sem.run]; exact Nat.le_trans (sys_up w c) (ih _ _)
  | program k ih => intro w; rw [Sem.run]; exact ih _ _
  | mark m k ih => intro w; rw [Sem.run]; exact ih _
  | halt h => intro w; exact Nat.le_refl _

theorem up_run {α : Type} {p : Program} {s : Sem α} {w w' : World} {v : α} (h : s.run p w = .ok v w') : w.drawn ≤ w'.drawn := by
  have := run_up p s w
  rw [h] at this
  exact this
theorem up_halt {α : Type} {p : Program} {s : Sem α} {w w' : World} {x : Halt} (h : s.run p w = .halt x w') : w.drawn ≤ w'.drawn := by
  have := run_up p s w
  rw [h] at this
  exact this
theorem up_runT {α : Type} {p : Program} {s : Sem α} {w w' : World} {v : α} {es es' : Array Event} (h : s.runT p w es = (.ok v w', es')) : w.drawn ≤ w'.drawn := by
  rw [Sem.runT_eq] at h
  exact up_run (congrArg Prod.fst h)
theorem up_haltT {α : Type} {p : Program} {s : Sem α} {w w' : World} {x : Halt} {es es' : Array Event} (h : s.runT p w es = (.halt x w', es')) : w.drawn ≤ w'.drawn := by
  rw [Sem.runT_eq] at h
  exact up_halt (congrArg Prod.fst h)

theorem up_to {α : Type} {p : Program} {s : Sem α} {w w' : World} {v : α} {d : Nat} (h : s.run p w = .ok v w') (hd : d ≤ w.drawn) : d ≤ w'.drawn := Nat.le_trans hd (up_run h)
theorem up_fst {α : Type} {p : Program} {s : Sem α} {w w' : World} {v : α} {es : Array Event} (h : (s.runT p w es).1 = .ok v w') : w.drawn ≤ w'.drawn := by
  rw [Sem.runT_eq] at h
  exact up_run h
theorem up_hfst {α : Type} {p : Program} {s : Sem α} {w w' : World} {x : Halt} {es : Array Event} (h : (s.runT p w es).1 = .halt x w') : w.drawn ≤ w'.drawn := by
  rw [Sem.runT_eq] at h
  exact up_halt h

/-- A goroutine's step does not sink the draws. -/
def Up (d : Nat) : GStep → Prop
  | .go _ w _ => d ≤ w.drawn
  | .comm _ _ _ _ w _ => d ≤ w.drawn
  | .spawn _ _ w _ => d ≤ w.drawn
  | .count _ w _ => d ≤ w.drawn
  | .timer _ _ w _ => d ≤ w.drawn
  | .alone _ _ w _ => d ≤ w.drawn
  | .newcoro _ _ _ w _ => d ≤ w.drawn
  | .coroswitch _ _ _ w _ => d ≤ w.drawn
  | .collect _ w _ => d ≤ w.drawn
  | .watch _ w _ => d ≤ w.drawn
  | .ended _ _ _ => True

theorem Up.after {d : Nat} {es : Array Event} {g : GStep} (h : Up d g) : Up d (GStep.after es g) := by cases g <;> exact h
theorem Up.mono {d d' : Nat} {g : GStep} (hd : d ≤ d') (h : Up d' g) : Up d g := by
  cases g <;> first | trivial | exact Nat.le_trans hd h

theorem dieOf_up (fr : Frame) (l : List ByteArray) (m : String) (b : Bool) (w : World) : Up w.drawn (dieOf fr l m b w) := Nat.le_refl _
theorem endThrow_up (fr : Frame) (m : String) (w : World) : Up w.drawn (endThrow fr m w) := Nat.le_refl _
theorem endWith_up (d : Nat) (w : World) (fd : Nat) (t : ByteArray) (o : Outcome) : Up d (endWith w fd t o) := by
  unfold endWith
  dsimp only
  repeat' split
  all_goals trivial
theorem endPrinting_up (p : Program) (fr : Frame) (v : Value) (w : World) : Up w.drawn (endPrinting p fr v w) := by
  unfold endPrinting
  dsimp only
  repeat' split
  all_goals first | trivial | exact endThrow_up _ _ _
theorem endFatal_up (p : Program) (fr : Frame) (cs : List Frame) (dy : Option Dying) (m : String) (w : World) : Up w.drawn (endFatal p fr cs dy m w) := by
  unfold endFatal
  dsimp only
  split
  · rename_i h
    exact (dieOf_up _ _ _ _ _).mono (up_run h)
  · trivial
  · trivial
theorem writeOn_up (p : Program) (fr : Frame) (d : Dying) (f : Fatal) (w : World) : Up w.drawn (writeOn p fr d f w) := by
  unfold writeOn
  dsimp only
  split
  · trivial
  · split
    · rename_i h
      exact up_runT h
    · rename_i h
      exact up_haltT h
    · trivial
    · trivial

theorem doReturn_up (p : Program) (main : Bool) (fr : Frame) (cs : List Frame) (dy : Option Dying) (v : Value) (w : World) : Up w.drawn (doReturn p main fr cs dy v w) := by
  unfold doReturn
  dsimp only
  repeat' split
  all_goals first | trivial | exact Nat.le_refl _

theorem die_up (p : Program) (fr : Frame) (d : Dying) (w : World) : Up w.drawn (die p fr d w) := by
  unfold die
  split
  · exact writeOn_up _ _ _ _ _
  · split
    · split
      · exact Nat.le_refl _
      · exact endWith_up _ _ _ _ _
    · dsimp only
      split
      · exact Nat.le_refl _
      · split
        · rename_i h
          exact up_run h
        · trivial
      · rename_i t recv name _
        rcases hr : (invoke (.fn (.method name) #[]) #[.iface t recv]).runT p w #[] with ⟨r, es⟩
        dsimp only
        refine Up.after ?_
        split
        all_goals first | trivial | exact up_runT hr | exact (endPrinting_up _ _ _ _).mono (up_haltT hr)
      · trivial

theorem callDeferred_up (p : Program) (fr : Frame) (cs : List Frame) (dy : Option Dying) (d : Deferred) (w : World) : Up w.drawn (callDeferred p fr cs dy d w) := by
  unfold callDeferred
  dsimp only
  repeat' split
  all_goals first
    | trivial
    | exact Up.after trivial
    | exact Up.after (up_fst (by assumption))
    | exact Up.after (up_hfst (by assumption))
    | exact Up.after ((endFatal_up _ _ _ _ _ _).mono (up_hfst (by assumption)))
    | exact Up.after ((endThrow_up _ _ _).mono (up_hfst (by assumption)))

theorem unwind_up (p : Program) (main : Bool) (fr : Frame) (cs : List Frame) (dy : Option Dying) (w : World) : Up w.drawn (unwind p main fr cs dy w) := by
  unfold unwind
  split
  · rename_i block args ds _
    rcases hr : (Instr.takeDeferred block).runT p w #[] with ⟨r, es⟩
    dsimp only
    refine Up.after ?_
    split
    · exact up_runT hr
    · trivial
  · exact callDeferred_up _ _ _ _ _ _
  · split
    · trivial
    · repeat' split
      all_goals first | trivial | exact Nat.le_refl _ | exact endPrinting_up _ _ _ _ | exact up_run (by assumption)
    · split
      · exact doReturn_up _ _ _ _ _ _ _
      · rename_i fn _
        rcases hr : (results fn fr.tmps).runT p w #[] with ⟨r, es⟩
        dsimp only
        refine Up.after ?_
        split
        · exact (doReturn_up _ _ _ _ _ _ _).mono (up_runT hr)
        · trivial
        · trivial

theorem early_up (p : Program) (fr : Frame) (cs : List Frame) (dy : Option Dying) (g : Nat) (w : World) : Up w.drawn (early p fr cs dy g w) := by
  unfold early
  dsimp only
  repeat' split
  all_goals try dsimp only [Up]
  all_goals first | trivial | exact Nat.le_refl _ | exact up_run (by assumption)

theorem apply_up (p : Program) (listen : Bool) (fr : Frame) (cs : List Frame) (dy : Option Dying) (s : Sem Next) (w : World) : Up w.drawn (stepG.apply p listen fr cs dy s w) := by
  unfold stepG.apply
  dsimp only
  have key : ∃ r es, (if listen = true then s.runT p w #[] else (s.run p w, #[])) = (r, es) ∧ s.run p w = r := by
    split
    · exact ⟨_, _, Sem.runT_eq _ _ _ _, rfl⟩
    · exact ⟨_, _, rfl, rfl⟩
  obtain ⟨r, es, h1, hr⟩ := key
  rw [h1]
  dsimp only
  refine Up.after ?_
  repeat' split
  all_goals first
    | trivial
    | exact up_run (by assumption)
    | exact up_halt (by assumption)
    | exact (endFatal_up _ _ _ _ _ _).mono (up_halt (by assumption))
    | exact (endThrow_up _ _ _).mono (up_halt (by assumption))
    | exact (endThrow_up _ _ _).mono (up_run (by assumption))
    | exact (early_up _ _ _ _ _ _).mono (up_halt (by assumption))

theorem oper_up (p : Program) (listen : Bool) (fr : Frame) (cs : List Frame) (dy : Option Dying) (w : World) : Up w.drawn (stepG.oper p listen fr cs dy w) := by
  unfold stepG.oper
  repeat' split
  all_goals first | trivial | exact apply_up _ _ _ _ _ _ _

theorem exec_up (p : Program) (main listen : Bool) (fr : Frame) (cs : List Frame) (dy : Option Dying) (w : World) : Up w.drawn (stepG.exec p main listen fr cs dy w) := by
  unfold stepG.exec Option.elim
  dsimp only
  repeat' split
  all_goals first
    | trivial
    | exact Nat.le_refl _
    | exact apply_up _ _ _ _ _ _ _
    | exact oper_up _ _ _ _ _ _
    | exact Up.after trivial
    | exact Up.after ((doReturn_up _ _ _ _ _ _ _).mono (up_fst (by assumption)))
    | exact Up.after ((apply_up _ _ _ _ _ _ _).mono (up_fst (by assumption)))
    | exact Up.after (up_fst (by assumption))
    | exact Up.after (up_hfst (by assumption))
    | exact up_run (by assumption)

theorem stepG_up (p : Program) (main : Bool) (g : Goroutine) (w : World) (listen : Bool) : Up w.drawn (stepG p main g w listen) := by
  obtain ⟨fr, cs, st, dy, off⟩ := g
  unfold stepG
  dsimp only
  split
  · exact die_up _ _ _ _
  · exact exec_up _ _ _ _ _ _ _
  · exact unwind_up _ _ _ _ _ _

/-- A machine's step does not sink the draws. -/
def UpS (d : Nat) : Stepped → Prop
  | .next m => d ≤ m.world.drawn
  | .ended _ _ => True
theorem UpS.mono {d d' : Nat} {s : Stepped} (hd : d ≤ d') (h : UpS d' s) : UpS d s := by
  cases s <;> first | trivial | exact Nat.le_trans hd h

theorem waiting_up {rest : Rest} {cases_ : Array CommCase} {w w' : World} (h : waitingAt rest cases_ w = some w') : w'.drawn = w.drawn := by
  unfold waitingAt at h
  repeat' (split at h)
  all_goals first | (cases h; rfl) | (cases h; done)

theorem communicate_up (p : Program) (rest : Rest) (gs : Array Goroutine) (i : Nat) (g : Goroutine) (cs : Array CommCase) (b : Bool) (sh : CommShape) (w : World) :
    UpS w.drawn (communicate p rest gs i g cs b sh w).1 := by
  unfold communicate
  dsimp only
  repeat' split
  all_goals try dsimp only [UpS]
  all_goals first
    | trivial
    | exact Nat.le_refl _
    | exact Nat.le_of_eq (waiting_up (by assumption)).symm
    | exact up_run (w := w) (by assumption)
    | exact Nat.le_trans (up_run (w := w) (by assumption)) (up_run (by assumption))
    | exact Nat.le_trans (up_run (w := w) (by assumption)) (up_halt (by assumption))

theorem look_up (p : Program) (gs : Array Goroutine) (rest : Rest) (w : World) : UpS w.drawn (look p gs rest w) := by
  unfold look
  dsimp only
  split
  · split
    · trivial
    · split
      · trivial
      · split
        · dsimp only [UpS]; exact up_run (by assumption)
        · trivial
        · trivial
  · trivial

theorem drain_up (w : World) (c : Nat) : (drain w c).2.drawn = w.drawn := by
  unfold drain
  split <;> rfl
theorem retime_up (m : Machine) (k : Nat) (t : Timer) (a b : Nat) : (retime m k t a b).2.world.drawn = m.world.drawn := by
  unfold retime
  dsimp only
  cases t.chan with
  | none => rfl
  | some c => exact drain_up _ _
theorem opened_up {m m' : Machine} {a : Addr} (h : timerOp.opened m a = some m') : m'.world.drawn = m.world.drawn := by
  unfold timerOp.opened at h
  repeat' (split at h)
  all_goals first | (cases h; rfl) | (cases h; done)
theorem named_up {m : Machine} {a : Addr} {f : Nat → Timer → Value × Machine} {r : Value × Machine} {d : Nat} (hf : ∀ k t, (f k t).2.world.drawn = d) (h : timerOp.named m a f = .ok r) : r.2.world.drawn = d := by
  unfold timerOp.named at h
  split at h
  · cases h; exact hf _ _
  · cases h
theorem timerOp_up {m : Machine} {op : TimerOp} {r : Value × Machine} (h : timerOp m op = .ok r) : r.2.world.drawn = m.world.drawn := by
  cases op with
  | new t =>
    simp only [timerOp] at h
    repeat' (split at h)
    all_goals first | (cases h; rfl) | (cases h; done)
  | stop a => exact named_up (fun k t => retime_up m k t _ _) h
  | reset a x y =>
    simp only [timerOp] at h
    split at h
    · rename_i m' hm
      rw [← opened_up hm]
      exact named_up (fun k t => retime_up m' k t _ _) h
    · cases h
  | deadline c r w n => simp only [timerOp] at h; cases h; rfl

theorem serve_up (p : Program) (m : Machine) (k : Nat) : UpS m.world.drawn (serve p m k) := by
  unfold serve
  dsimp only
  repeat' split
  all_goals first | trivial | exact Nat.le_refl _

theorem runT_up (p : Program) (m : Machine) (i : Nat) (listen : Bool) : UpS m.world.drawn (runT p m i listen).1 := by
  unfold runT
  dsimp only
  generalize Array.swapAt! m.gs i _ = y
  obtain ⟨g, gs⟩ := y
  dsimp only
  have hs := stepG_up p (i == 0) g m.world listen
  revert hs
  generalize stepG p (i == 0) g m.world listen = s
  intro hs
  cases s with
  | go g w es => exact hs
  | comm g cs b sh w es => exact (communicate_up _ _ _ _ _ _ _ _ _).mono hs
  | spawn g c w es => exact hs
  | count g w es => dsimp only; split <;> first | trivial | exact hs
  | timer g op w es =>
    dsimp only
    split
    · rename_i h
      exact Nat.le_trans hs (Nat.le_of_eq (timerOp_up h).symm)
    · exact hs
    · trivial
    · trivial
  | alone g on w es => exact hs
  | newcoro g c d w es => exact hs
  | coroswitch g c e w es =>
    dsimp only
    repeat' split
    all_goals first | trivial | exact hs | (rename_i h; simp only [endThrow, dieOf, GStep.go.injEq] at h; rw [← h.2.1]; exact hs) | (rename_i h; cases h; exact hs)
  | collect g w es => exact (look_up _ _ _ _).mono hs
  | watch g w es => exact hs
  | ended o w es => trivial

def UpM (d : Nat) : Move → Prop
  | .goroutine m _ => d ≤ m.world.drawn
  | .machine s _ => UpS d s
theorem UpM.mono {d d' : Nat} {s : Move} (hd : d ≤ d') (h : UpM d' s) : UpM d s := by
  cases s with
  | goroutine m i => exact Nat.le_trans hd h
  | machine s ops => exact UpS.mono hd h

theorem askOn_up (p : Program) (m : Machine) : UpM m.world.drawn (askOn p m) := by
  unfold askOn
  dsimp only [Machine.advanceTo]
  repeat' split
  all_goals try dsimp only [UpM, UpS, Machine.advanceTo]
  all_goals first
    | trivial
    | exact (serve_up _ _ _).mono (up_run (w := m.world) (by assumption))
    | (repeat (first | exact Nat.le_refl _ | (refine up_to (by assumption) ?_; try dsimp only)))

theorem ask_m_up (p : Program) (m : Machine) : UpM m.world.drawn (ask p m) := by
  unfold ask
  split
  · split
    · trivial
    · rename_i world hr
      split
      · rename_i m' hl
        have h1 := look_up p m.gs m.rest world
        rw [hl] at h1
        exact (askOn_up p m').mono (Nat.le_trans (up_run hr) h1)
      · rename_i e hne
        exact (look_up p m.gs m.rest world).mono (up_run hr)
    · rename_i world _ hr
      exact (askOn_up p { m with world }).mono (up_run hr)
  · exact askOn_up p m

theorem move_up (p : Program) (m : Machine) : UpM m.world.drawn (move p m) := by
  unfold move
  repeat' split
  all_goals first | trivial | exact Nat.le_refl _ | exact ask_m_up p m | exact ask_m_up p { m with rest := { m.rest with slice := none } }

theorem step_up {p : Program} {m m' : Machine} (h : step p m = .next m') : m.world.drawn ≤ m'.world.drawn := by
  unfold step stepT at h
  have hm := move_up p m
  split at h
  · rename_i m1 i hmv
    rw [hmv] at hm
    have hr := runT_up p m1 i true
    rw [h] at hr
    exact Nat.le_trans hm hr
  · rename_i s ops hmv
    rw [hmv] at hm
    dsimp only at h
    subst h
    exact hm

theorem steps_up {p : Program} {m m' : Machine} (h : Steps p m m') : m.world.drawn ≤ m'.world.drawn := by
  obtain ⟨n, hn⟩ := h
  induction n generalizing m with
  | zero => simp only [runN] at hn; cases hn; exact Nat.le_refl _
  | succ n ih =>
    simp only [runN] at hn
    cases hs : step p m with
    | next m1 => rw [hs] at hn; exact Nat.le_trans (step_up hs) (ih hn)
    | ended o w => rw [hs] at hn; cases hn

/-- A call that comes back has drawn no less. -/
theorem calls_drawn {P : Program} {f : FuncId} {args : Array Value} {w : World} {R : Ending → World → Prop} (h : Calls P f args w R) (hr : ∀ e w', R e w' → ∃ v, e = .returned v) :
    Calls P f args w fun e w' => R e w' ∧ w.drawn ≤ w'.drawn := by
  intro cs
  obtain ⟨e, w', fr, hR, hC, hf, hl⟩ := h cs
  refine ⟨e, w', fr, ⟨hR, ?_⟩, hC, hf, hl⟩
  obtain ⟨v, rfl⟩ := hr e w' hR
  exact steps_up hC
end Go.Proofs.YtkiojenkpbkjpaaGreatDoor
