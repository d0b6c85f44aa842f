/- Numbers of triples, sorted along a way: printed by gen_XF.py. -/
import Derived.Lone
import Derived.Calls
import Derived.Below
import Derived.Sort.Grow
import Derived.Deep.Draws
import Derived.Test.YtefhfadjajcmkaaGreatDoorKA
import Derived.Test.YtefhfadjajcmkaaGreatDoorGS
import Derived.Test.YtefhfadjajcmkaaGreatDoorKB
set_option linter.unusedVariables false
set_option linter.unusedSimpArgs false
set_option maxRecDepth 100000
set_option maxHeartbeats 8000000
namespace Go.Proofs.YtefhfadjajcmkaaGreatDoor.Dn
open Go Go.RowKit
open Go.Lib (hid cell_of_heap)
def resW {α : Type}:Result α → World
 | .ok _ w=>w
 | .halt _ w=>w
theorem ask_drawn {α : Type} (x:Ask α):∀w:World,w.drawn≤(w.ask x).2.drawn:=by
 induction x with
 | done a=>intro w;exact Nat.le_refl _
 | ask what range k ih=>
  intro w
  unfold World.ask
  simp only[]
  split
  ·exact ih _ _
  ·exact Nat.le_trans (Nat.le_succ _) (ih _ { w with drawn:=w.drawn+1 })
theorem sys_drawn (w:World) (c:Sys):w.drawn≤(w.sys c).2.drawn:=by
 unfold World.sys
 have h:=ask_drawn (Kernel.perform c w.os) w
 split
 ·exact Nat.le_refl _
 ·rename_i heq;rw[heq]at h;exact h
theorem far_drawn {p:Program} {w w':World} {a:Addr} {v:Value} {b:Bool} {l:List Addr} (h:w.farStore p a v b = .ok (w',l)):w'.drawn=w.drawn:=by
 unfold World.farStore at h
 split at h
 ·rename_i at_ u _
  cases hv:w.viewStore p at_ u a v b with
  | error e=>rw[hv]at h;cases h
  | ok r=>
   rw[hv]at h
   injection h with h
   subst h
   unfold World.viewStore at hv
   simp only[bind,Except.bind,pure,Except.pure]at hv
   repeat' first
    | (cases hv;done)
    | (injection hv with hv;injection hv with hv _;subst hv;rfl)
    | split at hv
 ·cases h
theorem run_drawn {α : Type} (p:Program) (e:Sem α):∀w:World,w.drawn≤(resW (e.run p w)).drawn:=by
 induction e with
 | pure a=>intro w;exact Nat.le_refl _
 | load m a k ih=>
  intro w
  simp only[Sem.run]
  split
  ·exact ih _ _
  ·split
   ·exact ih _ _
   ·exact Nat.le_refl _
 | store m a v k ih=>
  intro w
  cases v<;>simp only[Sem.run]<;>first
   | exact Nat.le_refl _
   | (split
      ·split
       ·exact Nat.le_refl _
       ·exact ih (w.setCell a _)
      ·split
       ·rename_i heq
        have:=ih ‹World›
        rw[far_drawn heq]at this
        exact this
       ·exact Nat.le_refl _)
 | new o k ih=>intro w;exact ih _ { w with heap:=w.heap.push o }
 | shape r k ih=>intro w;exact ih _ w
 | freeze a n k ih=>
  intro w
  have h:=ih (w.freeze a n)
  have:(w.freeze a n).drawn=w.drawn:=by unfold World.freeze;split<;>rfl
  rw[this]at h
  exact h
 | frozen a k ih=>intro w;exact ih _ w
 | getObj r k ih=>
  intro w
  simp only[Sem.run]
  split
  ·exact Nat.le_refl _
  ·exact ih _ _
  ·exact Nat.le_refl _
 | setObj r o k ih=>
  intro w
  simp only[Sem.run]
  split
  ·exact Nat.le_refl _
  ·exact ih { w with heap:=w.heap.setIfInBounds r o }
  ·exact Nat.le_refl _
 | choose q k ih=>
  intro w
  simp only[Sem.run]
  split
  ·exact ih _ w
  ·exact Nat.le_trans (Nat.le_succ _) (ih _ { w with drawn:=w.drawn+1 })
 | sys c k ih=>intro w;exact Nat.le_trans (sys_drawn w c) (ih _ _)
 | program k ih=>intro w;exact ih _ w
 | mark m k ih=>intro w;exact ih w
 | halt h=>intro w;exact Nat.le_refl _
theorem run_ok {α : Type} {p:Program} {e:Sem α} {w w':World} {a:α} (h:e.run p w = .ok a w'):w.drawn≤w'.drawn:=by
 have:=run_drawn p e w;rw[h]at this;exact this
theorem run_halt {α : Type} {p:Program} {e:Sem α} {w w':World} {a:Halt} (h:e.run p w = .halt a w'):w.drawn≤w'.drawn:=by
 have:=run_drawn p e w;rw[h]at this;exact this
theorem runT_drawn (α : Type) (p:Program) (e:Sem α) (w:World) (es:Array Event):w.drawn≤(resW (e.runT p w es).1).drawn:=by
 rw[Sem.runT_fst];exact run_drawn p e w
def gsW:GStep→World
 | .go _ w _=>w
 | .comm _ _ _ _ w _=>w
 | .spawn _ _ w _=>w
 | .count _ w _=>w
 | .timer _ _ w _=>w
 | .alone _ _ w _=>w
 | .newcoro _ _ _ w _=>w
 | .coroswitch _ _ _ w _=>w
 | .collect _ w _=>w
 | .watch _ w _=>w
 | .ended _ w _=>w
theorem gsW_after (es:Array Event) (s:GStep):gsW (GStep.after es s)=gsW s:=by cases s<;>rfl
theorem gs_ite {c:Prop} [Decidable c] {a b:GStep} {n:Nat} (ha:n≤(gsW a).drawn) (hb:n≤(gsW b).drawn):n≤(gsW (if c then a else b)).drawn:=by split<;>assumption
theorem endWith_d (w:World) (fd:Nat) (t:ByteArray) (o:Outcome):w.drawn≤(gsW (endWith w fd t o)).drawn:=by
 unfold endWith
 have h:=sys_drawn w (.write fd t)
 simp only[]
 split<;>rename_i heq<;>rw[heq]at h
 ·split<;>exact h
 ·exact h
 ·exact h
theorem endThrow_d (fr:Frame) (m:String) (w:World):gsW (endThrow fr m w)=w:=rfl
theorem endPrinting_d (p:Program) (fr:Frame) (v:Value) (w:World):gsW (endPrinting p fr v w)=w:=by
 unfold endPrinting
 simp only[]
 split<;>rfl
theorem endFatal_d (p:Program) (fr:Frame) (cs:List Frame) (d:Option Dying) (m:String) (w:World):w.drawn≤(gsW (endFatal p fr cs d m w)).drawn:=by
 unfold endFatal
 simp only[]
 split<;>rename_i heq
 ·exact run_ok heq
 ·exact run_halt heq
 ·exact run_halt heq
theorem writeOn_d (p:Program) (fr:Frame) (d:Dying) (f:Fatal) (w:World):w.drawn≤(gsW (writeOn p fr d f w)).drawn:=by
 unfold writeOn
 simp only[]
 split
 ·exact Nat.le_refl _
 ·split<;>rename_i heq
  all_goals
   have h:=congrArg Prod.fst heq
   rw[Sem.runT_fst]at h
   first | exact run_ok h | exact run_halt h
theorem die_d (p:Program) (fr:Frame) (d:Dying) (w:World):w.drawn≤(gsW (die p fr d w)).drawn:=by
 unfold die
 split
 ·exact writeOn_d ..
 ·split
  ·split
   ·exact Nat.le_refl _
   ·exact endWith_d ..
  ·simp only[]
   split
   ·exact Nat.le_refl _
   ·split<;>rename_i heq
    ·exact run_ok heq
    ·exact run_halt heq
   ·rename_i t recv name _
    rw[gsW_after]
    have h:=runT_drawn _ p (invoke (.fn (.method name) #[]) #[.iface t recv]) w #[]
    generalize (Sem.runT p (invoke (.fn (.method name) #[]) #[.iface t recv]) w #[])=r at h ⊢
    obtain⟨r,es⟩:=r
    simp only[]at h ⊢
    split
    ·exact h
    ·exact h
    ·exact h
    ·rw[endPrinting_d];exact h
    ·exact Nat.le_refl _
   ·exact Nat.le_refl _
theorem doReturn_d (p:Program) (main:Bool) (fr:Frame) (cs:List Frame) (d:Option Dying) (v:Value) (w:World):gsW (doReturn p main fr cs d v w)=w:=by
 unfold doReturn
 repeat' split
 all_goals rfl
theorem callDeferred_d (p:Program) (fr:Frame) (cs:List Frame) (dy:Option Dying) (d:Deferred) (w:World):w.drawn≤(gsW (callDeferred p fr cs dy d w)).drawn:=by
 unfold callDeferred
 refine gs_ite (Nat.le_refl _) ?_
 ·have h:=runT_drawn _ p (invoke d.target d.args) w #[]
  generalize (Sem.runT p (invoke d.target d.args) w #[])=r at h ⊢
  obtain⟨r,es⟩:=r
  simp only[gsW_after]at h ⊢
  split
  all_goals first
   | exact h
   | (split<;>exact h)
   | exact Nat.le_trans h (endFatal_d ..)
theorem unwind_d (p:Program) (main:Bool) (fr:Frame) (cs:List Frame) (dy:Option Dying) (w:World):w.drawn≤(gsW (unwind p main fr cs dy w)).drawn:=by
 unfold unwind
 split
 ·rename_i block _ ds _
  have h:=runT_drawn _ p (Instr.takeDeferred block) w #[]
  generalize (Sem.runT p (Instr.takeDeferred block) w #[])=r at h ⊢
  obtain⟨r,es⟩:=r
  simp only[gsW_after]at h ⊢
  split<;>exact h
 ·exact callDeferred_d ..
 ·split
  ·exact Nat.le_refl _
  ·split
   ·exact Nat.le_refl _
   ·split
    ·exact Nat.le_refl _
    ·split
     ·split
      ·exact Nat.le_refl _
      ·split<;>rename_i heq
       ·exact run_ok heq
       ·exact run_halt heq
       ·exact run_halt heq
     ·split
      ·rw[endPrinting_d];exact Nat.le_refl _
      ·exact Nat.le_refl _
  ·split
   ·rw[doReturn_d];exact Nat.le_refl _
   ·rename_i fn _
    have h:=runT_drawn _ p (results fn fr.tmps) w #[]
    generalize (Sem.runT p (results fn fr.tmps) w #[])=r at h ⊢
    obtain⟨r,es⟩:=r
    simp only[gsW_after]at h ⊢
    split
    ·rw[doReturn_d];exact h
    ·exact h
    ·exact h
theorem early_d (p:Program) (fr:Frame) (cs:List Frame) (dy:Option Dying) (g:Nat) (w:World):w.drawn≤(gsW (early p fr cs dy g w)).drawn:=by
 unfold early
 simp only[]
 repeat' split
 all_goals first
  | exact Nat.le_refl _
  | (rename_i heq;first | exact run_ok heq | exact run_halt heq)
  | (rename_i heq _;first | exact run_ok heq | exact run_halt heq)
  | (rename_i heq _ _;first | exact run_ok heq | exact run_halt heq)
  | (rename_i heq _ _ _;first | exact run_ok heq | exact run_halt heq)
  | (rename_i heq _ _ _ _;first | exact run_ok heq | exact run_halt heq)
  | (rename_i heq _ _ _ _ _;first | exact run_ok heq | exact run_halt heq)
  | (rename_i heq _ _ _ _;have h9:=run_ok heq;exact h9)
  | (rename_i w9 heq _ _ _ _;have h9:w.drawn≤w9.drawn:=run_ok heq;show w.drawn≤w9.drawn;exact h9)
theorem apply_d (p:Program) (listen:Bool) (fr:Frame) (cs:List Frame) (dy:Option Dying) (s:Sem Next) (w:World):w.drawn≤(gsW (stepG.apply p listen fr cs dy s w)).drawn:=by
 unfold stepG.apply
 simp only[]
 have h:w.drawn≤(resW (if listen=true then s.runT p w #[] else (s.run p w,#[])).1).drawn:=by
  split
  ·exact runT_drawn _ p s w #[]
  ·exact run_drawn p s w
 generalize (if listen=true then s.runT p w #[] else (s.run p w,#[]))=r at h ⊢
 obtain⟨r,es⟩:=r
 simp only[gsW_after]at h ⊢
 split
 all_goals first
  | exact h
  | (split<;>exact h)
  | (split<;>(try split)<;>exact h)
  | exact Nat.le_trans h (endFatal_d ..)
  | exact Nat.le_trans h (early_d ..)
theorem oper_d (p:Program) (listen:Bool) (fr:Frame) (cs:List Frame) (dy:Option Dying) (w:World):w.drawn≤(gsW (stepG.oper p listen fr cs dy w)).drawn:=by
 unfold stepG.oper
 split
 ·exact Nat.le_refl _
 ·split<;>exact apply_d ..
theorem exec_d (p:Program) (main listen:Bool) (fr:Frame) (cs:List Frame) (dy:Option Dying) (w:World):w.drawn≤(gsW (stepG.exec p main listen fr cs dy w)).drawn:=by
 obtain⟨fn,tmps,todo,defers,mode,kind,roundOf⟩:=fr
 unfold stepG.exec
 simp only[]
 cases todo with
 | nil=>
  simp only[]
  cases roundOf with
  | none=>first | exact Nat.le_refl _ | (split<;>exact Nat.le_refl _)
  | some l=>
   simp only[]
   have h:=runT_drawn _ p (Instr.endRound l none) w #[]
   generalize (Sem.runT p (Instr.endRound l none) w #[])=r at h ⊢
   obtain⟨r,es⟩:=r
   simp only[gsW_after]at h ⊢
   cases r with
   | ok v w'=>simp only[doReturn_d];exact h
   | halt v w'=>exact h
 | cons it k=>
  cases it with
  | code c=>
   cases c with
   | ret=>
    simp only[]
    cases roundOf with
    | none=>first | exact Nat.le_refl _ | (split<;>exact Nat.le_refl _)
    | some l=>
     simp only[]
     have h:=runT_drawn _ p (Instr.endRound l (some .ret)) w #[]
     generalize (Sem.runT p (Instr.endRound l (some .ret)) w #[])=r at h ⊢
     obtain⟨r,es⟩:=r
     simp only[gsW_after]at h ⊢
     cases r with
     | ok v w'=>simp only[doReturn_d];exact h
     | halt v w'=>exact h
   | exit id=>
    simp only[]
    cases he:exitTo id k with
    | some l=>exact Nat.le_refl _
    | none=>
     simp only[Option.elim_none]
     cases roundOf with
     | none=>first | exact Nat.le_refl _ | (split<;>exact Nat.le_refl _)
     | some l=>
      simp only[]
      have h:=runT_drawn _ p (Instr.endRound l (some (.exit id))) w #[]
      generalize (Sem.runT p (Instr.endRound l (some (.exit id))) w #[])=r at h ⊢
      obtain⟨r,es⟩:=r
      simp only[gsW_after]at h ⊢
      cases r with
      | ok v w'=>simp only[doReturn_d];exact h
      | halt v w'=>exact h
   | goto l0=>
    simp only[]
    cases he:gotoIn l0 k with
    | some l=>exact Nat.le_refl _
    | none=>
     simp only[Option.elim_none]
     cases roundOf with
     | none=>first | exact Nat.le_refl _ | (split<;>exact Nat.le_refl _)
     | some l=>
      simp only[]
      have h:=runT_drawn _ p (Instr.endRound l (some (.goto l0))) w #[]
      generalize (Sem.runT p (Instr.endRound l (some (.goto l0))) w #[])=r at h ⊢
      obtain⟨r,es⟩:=r
      simp only[gsW_after]at h ⊢
      cases r with
      | ok v w'=>simp only[doReturn_d];exact h
      | halt v w'=>exact h
   | cond c a b=>
    simp only[]
    split<;>exact Nat.le_refl _
   | rangeFunc f params assign body=>
    simp only[]
    have h:=runT_drawn _ p (Instr.enterLoop fn tmps params assign body roundOf) w #[]
    generalize (Sem.runT p (Instr.enterLoop fn tmps params assign body roundOf) w #[])=r at h ⊢
    obtain⟨r,es⟩:=r
    simp only[gsW_after]at h ⊢
    cases r with
    | ok v w'=>exact Nat.le_trans h (apply_d ..)
    | halt v w'=>exact h
   | region id ops draw=>
    simp only[]
    refine gs_ite (Nat.le_refl _) ?_
    cases hr:Sem.run p (choose (.order fn id)) w with
    | ok t w'=>exact run_ok hr
    | halt t w'=>exact run_halt hr
   | _=>exact Nat.le_refl _
  | inRegion ops todo=>
   cases todo with
   | nil=>exact Nat.le_refl _
   | cons i r=>
    simp only[]
    exact gs_ite (oper_d ..) (Nat.le_refl _)
  | beginRound=>simp only[];exact apply_d ..
  | endRangeFunc l=>
   simp only[]
   have h:=runT_drawn _ p (Instr.endLoop l) w #[]
   generalize (Sem.runT p (Instr.endLoop l) w #[])=r at h ⊢
   obtain⟨r,es⟩:=r
   simp only[gsW_after]at h ⊢
   cases r with
   | ok v w'=>exact h
   | halt v w'=>cases v<;>exact h
  | call d b s v=>simp only[];exact apply_d ..
  | extern row args=>
   simp only[]
   cases he:Extern.next row with
   | none=>exact Nat.le_refl _
   | some e=>simp only[Option.elim_some];exact apply_d ..
  | _=>exact Nat.le_refl _
theorem stepG_d (p:Program) (main:Bool) (g:Goroutine) (w:World) (listen:Bool):w.drawn≤(gsW (stepG p main g w listen)).drawn:=by
 obtain⟨fr,cs,st,dying,off⟩:=g
 unfold stepG
 simp only[]
 cases dying with
 | none=>
  cases hm:fr.mode with
  | run=>exact exec_d ..
  | _=>exact unwind_d ..
 | some d=>
  obtain⟨a,b,calling,e,f,g,h⟩:=d
  cases calling with
  | false=>exact die_d ..
  | true=>
   cases hm:fr.mode with
   | run=>exact exec_d ..
   | _=>exact unwind_d ..
theorem withPoller_ok (rest:Rest) (cases:Array CommCase) (w w':World) (h:waitingAt rest cases w=some w'):w'.drawn=w.drawn:=by
 unfold waitingAt at h
 split at h
 ·split at h
  ·injection h with h;rw[←h]
  ·cases h
 ·injection h with h;rw[←h]
theorem communicate_d (p:Program) (rest:Rest) (gs:Array Goroutine) (i:Nat) (g:Goroutine) (cases:Array CommCase) (blocking:Bool)
    (shape:CommShape) (w:World) (m':Machine) (h:(communicate p rest gs i g cases blocking shape w).1 = .next m'):w.drawn≤m'.world.drawn:=by
 unfold communicate at h
 simp only[]at h
 split at h
 ·simp at h
 ·split at h
  ·split at h
   ·split at h
    ·rename_i w1 heq
     simp only[Stepped.next.injEq]at h
     subst h
     exact Nat.le_of_eq (withPoller_ok _ _ _ _ heq).symm
    ·simp at h
   ·simp only[Stepped.next.injEq]at h
    subst h
    exact Nat.le_refl _
  ·split at h
   ·simp at h
   ·rename_i k c way w1 heq
    have h1:=run_ok heq
    clear heq
    repeat' first
     | (simp at h;done)
     | (simp only[Stepped.next.injEq]at h;subst h;first
         | exact h1
         | (have h8:=run_halt (by assumption);exact Nat.le_trans h1 h8)
         | (have h8:=run_ok (by assumption);exact Nat.le_trans h1 h8))
     | split at h
theorem look_d (p:Program) (gs:Array Goroutine) (rest:Rest) (w:World) (m':Machine)
    (h:look p gs rest w = .next m'):w.drawn≤m'.world.drawn:=by
 unfold look at h
 simp only[]at h
 repeat' first
  | (simp at h;done)
  | (simp only[Stepped.next.injEq]at h;subst h;have h8:=run_ok (by assumption);exact h8)
  | split at h
theorem drain_d (w:World) (c:Nat):(drain w c).2.drawn=w.drawn:=by
 unfold drain
 split<;>rfl
theorem retime_d (m:Machine) (k:Nat) (t:Timer) (a b:Nat):(retime m k t a b).2.world.drawn=m.world.drawn:=by
 unfold retime
 simp only[]
 split
 ·exact drain_d _ _
 ·rfl
theorem named_d (m:Machine) (var:Addr) (f:Nat→Timer→Value×Machine) (d:Nat) (hf:∀k t,(f k t).2.world.drawn=d) (v:Value) (m':Machine) (h:timerOp.named m var f = .ok (v,m')):m'.world.drawn=d:=by
 unfold timerOp.named at h
 split at h
 ·injection h with h
  rw[←congrArg (λx=>x.2.world.drawn) h]
  exact hf _ _
 ·cases h
theorem timerOp_d (m:Machine) (op:TimerOp) (v:Value) (m':Machine) (h:timerOp m op = .ok (v,m')):m'.world.drawn=m.world.drawn:=by
 unfold timerOp at h
 cases op with
 | new t=>
  simp only[]at h
  repeat' first
   | (cases h;done)
   | (injection h with h;injection h with _ h;subst h;rfl)
   | split at h
 | stop var=>exact named_d _ _ _ _ (λk t=>retime_d ..) _ _ h
 | reset var when period=>
  simp only[]at h
  split at h
  ·rename_i m2 heq
   have h2:m2.world.drawn=m.world.drawn:=by
    unfold timerOp.opened at heq
    split at heq
    ·split at heq
     ·injection heq with heq;rw[←heq]
     ·cases heq
    ·injection heq with heq;rw[←heq]
   exact (named_d _ _ _ _ (λk t=>retime_d ..) _ _ h).trans h2
  ·cases h
 | deadline ctx r w t=>
  injection h with h
  injection h with _ h
  rw[←h]
  rfl
theorem runT_d (p:Program) (m m':Machine) (i:Nat) (b:Bool) (h:(runT p m i b).1 = .next m'):m.world.drawn≤m'.world.drawn:=by
 simp only[runT]at h
 revert h
 generalize m.gs.swapAt! _ _=gg
 have hd:=stepG_d p (i==0) gg.1 m.world b
 revert hd
 generalize stepG p _ gg.1 m.world b=s
 intro hd h
 cases s<;>simp only[gsW]at h hd
 all_goals first
  | (simp at h;done)
  | (simp only[Stepped.next.injEq]at h;subst h;exact hd)
  | (have h2:=communicate_d _ _ _ _ _ _ _ _ _ _ h;exact Nat.le_trans hd h2)
  | (have h2:=look_d _ _ _ _ _ h;exact Nat.le_trans hd h2)
  | (repeat' first
      | (simp at h;done)
      | (simp only[Stepped.next.injEq]at h;subst h;first
          | exact hd
          | (rename_i heq;have h2:=timerOp_d _ _ _ _ heq;simp only[]at h2 ⊢;omega)
          | (rename_i heq;have h3:=congrArg gsW heq;rw[endThrow_d]at h3;have h4:=congrArg World.drawn h3;exact Nat.le_trans hd (Nat.le_of_eq h4)))
      | split at h)
theorem serve_d (p:Program) (m m':Machine) (k:Nat) (h:serve p m k = .next m'):m.world.drawn≤m'.world.drawn:=by
 unfold serve at h
 simp only[]at h
 repeat' first
  | (simp at h;done)
  | (simp only[Stepped.next.injEq]at h;subst h;exact Nat.le_refl _)
  | split at h
theorem askOn_g (p:Program) (m m':Machine) (i:Nat) (h:askOn p m = .goroutine m' i):m.world.drawn≤m'.world.drawn:=by
 unfold askOn at h
 simp only[]at h
 repeat' first
  | (simp at h;done)
  | (simp only [Move.goroutine.injEq] at h; obtain ⟨hm, hi⟩ := h; rw [← hm]; simp only [Machine.advanceTo] at *; omega)
  | (split at h<;>(try (rename_i hh;have hh2:=run_ok hh;clear hh)))
theorem askOn_m (p:Program) (m m':Machine) (ops:Array MemOp) (h:askOn p m = .machine (.next m') ops):m.world.drawn≤m'.world.drawn:=by
 unfold askOn at h
 simp only[]at h
 repeat' first
  | (simp at h;done)
  | (simp only[Move.machine.injEq]at h;have h8:=serve_d _ _ _ _ h.1;simp only[]at h8;omega)
  | (simp only [Move.machine.injEq, Stepped.next.injEq] at h; obtain ⟨hm, _⟩ := h; rw [← hm]; simp only [Machine.advanceTo] at *; omega)
  | (split at h<;>(try (rename_i hh;have hh2:=run_ok hh;clear hh)))
theorem ask_d (p:Program) (m:Machine):(∃m₂,m.world.drawn≤m₂.world.drawn∧ask p m=askOn p m₂)∨(∃o w,ask p m = .machine (.ended o w) #[]):=by
 unfold ask
 by_cases hw:m.rest.watch=true
 ·rw[if_pos hw]
  cases hr : (choose (.extern "collector.look" 2)).run p m.world with
  | halt h w=>exact .inr ⟨_,_,rfl⟩
  | ok k world=>
   have hd:=run_ok hr
   rcases k with _ | _ | k
   ·exact .inl ⟨{ m with world },hd,rfl⟩
   ·show (∃m₂,m.world.drawn≤m₂.world.drawn∧(match look p m.gs m.rest world with | .next m=>askOn p m | e=>Move.machine e)=askOn p m₂) ∨
      (∃o w,(match look p m.gs m.rest world with | .next m=>askOn p m | e=>Move.machine e) = .machine (.ended o w) #[])
    cases hl:look p m.gs m.rest world with
    | next m₂=>exact .inl ⟨m₂,Nat.le_trans hd (look_d _ _ _ _ _ hl),rfl⟩
    | ended o w=>exact .inr ⟨o,w,rfl⟩
   ·exact .inl ⟨{ m with world },hd,rfl⟩
 ·simp only[hw,Bool.false_eq_true,if_false]
  exact .inl ⟨m,Nat.le_refl _,rfl⟩
theorem move_g (p:Program) (m m':Machine) (i:Nat) (h:move p m = .goroutine m' i):m.world.drawn≤m'.world.drawn:=by
 have key:∀m1:Machine,m1.world=m.world→ask p m1 = .goroutine m' i→m.world.drawn≤m'.world.drawn:=λm1 h1 h2=>by
  rcases ask_d p m1 with⟨m2,hd,he⟩ | ⟨o,w,he⟩
  ·rw[he]at h2
   have:=askOn_g _ _ _ _ h2
   rw[h1]at hd
   omega
  ·rw[he]at h2;cases h2
 unfold move at h
 split at h
 ·split at h
  ·simp only[Move.goroutine.injEq]at h
   rw[←h.1]
   exact Nat.le_refl _
  ·cases h
 ·split at h
  ·split at h
   ·simp only[Move.goroutine.injEq]at h
    rw[←h.1]
    exact Nat.le_refl _
   ·exact key { m with rest:={ m.rest with slice:=none } } rfl h
  ·exact key m rfl h
theorem move_m (p:Program) (m m':Machine) (ops:Array MemOp) (h:move p m = .machine (.next m') ops):m.world.drawn≤m'.world.drawn:=by
 have key:∀m1:Machine,m1.world=m.world→ask p m1 = .machine (.next m') ops→m.world.drawn≤m'.world.drawn:=λm1 h1 h2=>by
  rcases ask_d p m1 with⟨m2,hd,he⟩ | ⟨o,w,he⟩
  ·rw[he]at h2
   have:=askOn_m _ _ _ _ h2
   rw[h1]at hd
   omega
  ·rw[he]at h2;simp at h2
 unfold move at h
 split at h
 ·split at h
  ·cases h
  ·simp at h
 ·split at h
  ·split at h
   ·cases h
   ·exact key { m with rest:={ m.rest with slice:=none } } rfl h
  ·exact key m rfl h
theorem step_d (p:Program) (m m':Machine) (h:step p m = .next m'):m.world.drawn≤m'.world.drawn:=by
 unfold step stepT at h
 cases hm:move p m with
 | goroutine m1 i=>
  rw[hm]at h
  exact Nat.le_trans (move_g _ _ _ _ hm) (runT_d _ _ _ _ _ h)
 | machine s ops=>
  rw[hm]at h
  simp only[]at h
  subst h
  exact move_m _ _ _ _ hm
theorem runN_d (p:Program) (n:Nat):∀(m m':Machine),runN p n m = .next m'→m.world.drawn≤m'.world.drawn:=by
 induction n with
 | zero=>
  intro m m' h
  unfold runN at h
  injection h with h
  rw[h]
  exact Nat.le_refl _
 | succ n ih=>
  intro m m' h
  unfold runN at h
  cases hs:step p m with
  | next m1=>rw[hs]at h;exact Nat.le_trans (step_d _ _ _ hs) (ih _ _ h)
  | ended o w=>rw[hs]at h;cases h
theorem calls_drawn {P:Program} {f:FuncId} {args:Array Value} {w:World} {R:Ending→World→Prop} (h:Calls P f args w R) :
    Calls P f args w λe w'=>R e w'∧(e ≠ .outgrown→w.drawn≤w'.drawn):=λcs=>by
 obtain⟨e,w',fr,hR,hc,hrest⟩:=h cs
 refine⟨e,w',fr,⟨hR,λhe=>?_⟩,hc,hrest⟩
 cases e with
 | returned v=>obtain⟨n,hn⟩:=hc;exact runN_d _ _ _ _ hn
 | panicked c=>obtain⟨n,hn⟩:=hc;exact runN_d _ _ _ _ hn
 | outgrown=>exact absurd rfl he
theorem grow_of_below {w w':World} (h:Below w.heap.size w w') (hd:w.drawn≤w'.drawn):∃q os,w'=Sort.grow (w.drewN q) os:=by
 refine⟨w'.drawn-w.drawn,w'.heap.extract w.heap.size w'.heap.size,?_⟩
 obtain⟨heap,tape,drawn,os,output⟩:=w'
 have h1:os=w.os:=h.os
 have h2:tape=w.tape:=h.tape
 have h3:output=w.output:=h.output
 have h4:heap=w.heap++heap.extract w.heap.size heap.size:=by
  apply Array.ext_getElem?
  intro i
  rcases Nat.lt_or_ge i w.heap.size with hi | hi
  ·rw[Array.getElem?_append_left hi]
   exact h.block i hi
  ·rw[Array.getElem?_append_right hi,Array.getElem?_extract]
   have hsz:w.heap.size≤heap.size:=h.size
   split
   ·congr 1;omega
   ·rw[Array.getElem?_eq_none (by omega)]
 have hd':w.drawn≤drawn:=hd
 unfold Sort.grow World.drewN
 rw[h1,h2,h3]
 show World.mk heap _ _ _ _=World.mk (w.heap++heap.extract w.heap.size heap.size) _ _ _ _
 rw[←h4]
 congr 1
 show drawn=w.drawn+(drawn-w.drawn)
 omega
end Go.Proofs.YtefhfadjajcmkaaGreatDoor.Dn
namespace Go.Proofs.YtefhfadjajcmkaaGreatDoor
open Go Go.RowKit Go.Shelf Go.Lib Go.Sort Go.Proofs
open Go.Lib (hid cell_of_heap)
def TrS:Lies Trip:=λ_ _ t c=>ScalT t∧(∀n,FitV (t.get n))∧∃ss:Nat→Value,(∀n,n<3→∃A cap,ss n = .slice A 0 cap)∧c=cellsT t ss
theorem TrS.good:TrS.Good:=⟨λh _=>h,λh _=>h⟩
structure ItT where
 t:Trip
 ss:Nat→Value
 sc:ScalT t
 fit:∀n,FitV (t.get n)
 sl:∀n,n<3→∃A cap,ss n = .slice A 0 cap
def valB:Val:=.mk 1 true 0 ⟨#[]⟩ ⟨#[]⟩ []
theorem valB_scal:ScalV valB:=by
 refine⟨?_,.inl rfl,by decide,by decide⟩
 unfold valB mayV
 simp[cmpB]
theorem valB_fit:FitV valB:=⟨by decide,by decide,by decide⟩
def tripB:Trip:=⟨valB,valB,valB⟩
theorem tripB_get (n:Nat):tripB.get n=valB:=by unfold Trip.get tripB;(repeat' split)<;>rfl
instance:Inhabited ItT:=⟨⟨tripB,λ_=>.slice none 0 0,⟨valB_scal,valB_scal,valB_scal⟩,λn=>by rw[tripB_get];exact valB_fit,λ_ _=>⟨none,0,rfl⟩⟩⟩
def encT (x:ItT):List Value:=(cellsT x.t x.ss).toList
theorem encT_len (x:ItT):(encT x).length=18:=rfl
theorem encT_arr (x:ItT):(encT x).toArray=cellsT x.t x.ss:=by unfold encT;rw[Array.toArray_toList]
theorem cellsT_one (t:Trip) (ss:Nat→Value) (h:∀n,n<3→∃A l cap,ss n = .slice A l cap):∀v∈(cellsT t ss).toList,v.oneCell'=true:=by
 obtain⟨A0,l0,c0,h0⟩:=h 0 (by omega)
 obtain⟨A1,l1,c1,h1⟩:=h 1 (by omega)
 obtain⟨A2,l2,c2,h2⟩:=h 2 (by omega)
 intro v hv
 unfold cellsT cellsV at hv
 rw[h0,h1,h2]at hv
 simp only[Array.toList_append,List.mem_append,List.mem_cons,List.not_mem_nil,or_false]at hv
 rcases hv with ((rfl | rfl | rfl | rfl | rfl | rfl) | (rfl | rfl | rfl | rfl | rfl | rfl)) | (rfl | rfl | rfl | rfl | rfl | rfl)<;>rfl
theorem encT_one (x:ItT):∀v∈encT x,v.oneCell'=true:=cellsT_one x.t x.ss λn hn=>by
 obtain⟨A,cap,e⟩:=x.sl n hn
 exact⟨A,0,cap,e⟩
theorem below_turn {w0 w w':World} {S:Nat→Prop} (hb:Below w0.heap.size w0 w) (ht:Turn S w w') (hS:∀b,S b→w0.heap.size≤b):Below w0.heap.size w0 w':=
 hb.trans ⟨ht.os,ht.tape,ht.output,ht.size,λk hk=>ht.block k (Nat.lt_of_lt_of_le hk hb.size) (λh=>by have:=hS k h;omega)⟩
theorem swo_pre {α I:Type} {o:α → α → Int} (h:PreC o) (κ : I → α):SWO (ltOf λx y:I=>o (κ x) (κ y)) where
 irrefl x:=by
  show decide (o (κ x) (κ x)<0)=false
  rw[h.refl];rfl
 trans x y z h1 h2:=by
  unfold ltOf at *
  simp only [decide_eq_true_eq] at *
  exact h.lt_trans h1 (by omega)
 ntrans x y z h1 h2:=by
  unfold ltOf at *
  simp only [decide_eq_false_iff_not] at *
  intro h3
  have a1:=h.anti (κ x) (κ y)
  have a2:=h.anti (κ y) (κ z)
  have a3:=h.anti (κ x) (κ z)
  have:=h.trans (κ z) (κ y) (κ x) (by omega) (by omega)
  omega
theorem row_put {α : Type} [Inhabited α] (enc:α → Value) {w:World} {b m n sz cap:Nat} {e:TypeId} {cur:Array Value} {d:Array α} {os:Array Obj} (h:w.heap[b]?=some (.cells cur e (0,0))) (h1:n≤cap) (h2:cap≤maxLen) (h3:cur.size=cap*sz) (hd:d.size=n*sz) :
    (grow (putRow enc (Sort.ahead w m) b 0 d) os).ownsRow 0 e sz (.slice (some ⟨b,0,none⟩) n cap) n (d.toList.map enc):=by
 have hlt:=blk_lt h
 have hb:(grow (putRow enc (Sort.ahead w m) b 0 d) os).heap[b]?=some (.cells (putCells enc 0 d cur) e (0,0)):=by
  rw[heap_grow_old _ _ (by simpa using hlt)]
  simp[putRow,mapBlock,Sort.ahead,Array.getElem?_modify,h,onCells]
 have hle:n*sz≤cap*sz:=Nat.mul_le_mul_right sz h1
 refine⟨by simp[hd],.inr ⟨b,cap,_,rfl,Nat.zero_le _,hb,h1,h2,by simp[putCells,h3],?_⟩⟩
 apply List.ext_getElem?
 intro j
 by_cases hj:j<n*sz
 ·rw[List.getElem?_take_of_lt hj,Array.getElem?_toList]
  simp[putCells,hd,hj,show j<cur.size by omega]
 ·rw[List.getElem?_take_eq_none (by omega),List.getElem?_eq_none (by simp[hd];omega)]
theorem flatK_flatC {I:Type} [Inhabited I] (enc:I→List Value) (k:Nat) (hk:∀x,(enc x).length=k) (d:Array I):(flatK enc k d).toList.map id=flatC (λi=>(enc d[i]!).toArray) d.size:=by
 rw[List.map_id]
 apply List.ext_getElem?
 intro t
 have hsz:∀i,i<d.size→((λi=>(enc d[i]!).toArray) i).size=k:=λi _=>by simp[hk]
 by_cases h:t<d.size*k
 ·have k0:0<k:=by
    rcases Nat.eq_zero_or_pos k with h0 | h0
    ·rw[h0,Nat.mul_zero]at h;omega
    ·exact h0
  have hi:t / k<d.size:=Nat.div_lt_of_lt_mul (by rw[Nat.mul_comm];exact h)
  have hr:t % k<k:=Nat.mod_lt _ k0
  have he:t / k*k+t % k=t:=by rw[Nat.mul_comm];exact Nat.div_add_mod t k
  have h2:=flatC_at hsz hi hr
  rw[he]at h2
  rw[h2,Array.getElem?_toList]
  have h3:=get_flatK enc k d t h
  rw[getElem!_pos _ t (by simpa using h)]at h3
  rw[Array.getElem?_eq_getElem (by simpa using h),h3]
  simp[hk,hr]
 ·rw[List.getElem?_eq_none (by simp;omega),List.getElem?_eq_none (by rw[flatC_length hsz];omega)]
section
variable {P:Program} {ρ : Ren} {α I:Type} [Inhabited I] {R:Lies α} {w:World} {F:Nat→Prop} {l:List α} {s:Value} {sz:Nat}
theorem sort_own2 (L:SlLaysF0.n6 P ρ) (hR:R.Good) (hsz:0<sz) (aE:∀w,(isAgg (ρ.t 24)).run P w = .ok true w) (zE:∀w,(Go.sizeOf (ρ.t 24)).run P w = .ok sz w) (enc:I→List Value) (val:I → α)
    (hk:∀x,(enc x).length=sz) (h1:∀x,∀v∈enc x,v.oneCell'=true) (hit:∀{w:World} {F:Nat→Prop} {x:α} {c:Array Value},R w F x c→∃it,enc it=c.toList∧val it=x)
    (cv:α → α → Int) (hO:SWO (ltOf λx y:I=>cv (val x) (val y))) (g:Nat) (cb:Array Value) (eg:∀args w,(callFunc g args).run P w = .ok (.enter g args) w)
    (hcl:∀(x y:I) (W:World),Turn (λb=>s.ownBlock=some b) w W→Calls P g (#[.agg (enc x).toArray,.agg (enc y).toArray]++cb) W λe w'=>e = .returned (.int .i64 (cv (val x) (val y)))∧Below W.heap.size W w')
    (h:SOwn (ρ.t 24) sz R w F l s) (hlen:l.length≤100000000) (hF:∀b,F b→b<w.heap.size) :
    Calls P (ρ.f 6) #[s,.func (.func g) #[] cb] w λe w'=>e = .returned (.tuple #[])∧∃l':List α,l'.Perm l∧l'.Pairwise (λa b=>¬cv b a<0)∧SOwn (ρ.t 24) sz R w' F l' s∧Turn (λb=>s.ownBlock=some b) w w':=by
 obtain⟨cs,hrow,h6,hFw,hr⟩:=h
 rcases hrow.2 with⟨hs,h0⟩ | ⟨b,cap,cur,hs,_,hb,hcap,hmax,hcc,htake⟩
 ·subst hs
  have hl0:l=[]:=List.eq_nil_of_length_eq_zero h0
  subst hl0
  refine (AnyF.slices_SortFunc_none L none 0 _ w).mono λe w' ⟨he,hw⟩=>⟨he,[],List.Perm.refl _,List.Pairwise.nil,?_,?_⟩
  ·rw[hw];exact SOwn.nil ..
  ·rw[hw];exact Turn.refl _ _
 ·subst hs
  have hblt:=blk_lt hb
  have hex:∀i,∃it:I,∀x,l[i]?=some x→enc it=(cs i).toList∧val it=x:=λi=>by
   cases hx:l[i]? with
   | none=>exact⟨default,λx h=>by cases h⟩
   | some x=>
    obtain⟨it,e1,e2⟩:=hit (hr i x hx)
    exact⟨it,λy hy=>by injection hy with hy;subst hy;exact⟨e1,e2⟩⟩
  obtain⟨it,hi⟩:∃it:Nat→I,∀i x,l[i]?=some x→enc (it i)=(cs i).toList∧val (it i)=x:=⟨λi=>(hex i).choose,λi=>(hex i).choose_spec⟩
  clear hex
  obtain⟨d,hd⟩:∃d:Array I,d=((List.range l.length).map it).toArray:=⟨_,rfl⟩
  have hds:d.size=l.length:=by rw[hd];simp
  have hda:∀i,i<l.length→d[i]! = it i:=λi hi=>by rw[getElem!_pos _ i (by rw[hds];exact hi)];simp[hd]
  have hH:HoldsK enc sz w b 0 d:=by
   intro j hj
   rw[size_flatK,hds]at hj
   have hi1:j / sz<l.length:=Nat.div_lt_of_lt_mul (by rw[Nat.mul_comm];exact hj)
   have hr1:j % sz<sz:=Nat.mod_lt _ hsz
   have he:j / sz*sz+j % sz=j:=by rw[Nat.mul_comm];exact Nat.div_add_mod j sz
   refine⟨?_,by simp[World.frozen?,hb]⟩
   rw[get_flatK _ _ _ _ (by rw[hds];exact hj),hda _ hi1,(hi _ _ (List.getElem?_eq_getElem hi1)).1]
   have h2:=hrow.cellAt j hj
   have h3:=flatC_at h6 hi1 hr1
   rw[he]at h3
   rw[h3]at h2
   rw[show (0+j)=j by omega,h2]
   rw[getElem!_pos (cs (j / sz)).toList (j % sz) (by rw[Array.length_toList,h6 _ hi1];exact hr1)]
   simp[h6 _ hi1,hr1]
  have hlen2:d.size<4611686018427387904:=by rw[hds];omega
  have hcmp:CmpLays P g cb enc sz (λx y=>cv (val x) (val y)) b 0 d.size w:=λm os dk _ x y=>by
   have ht:Turn (λi=>(Value.slice (some ⟨b,0,none⟩) l.length cap).ownBlock=some i) w (sortWorldK enc sz w b 0 m dk os):=sorted_turn.mono λi _ hi=>by rw[hi];rfl
   refine (Dn.calls_drawn (hcl x y _ ht)).mono λe w' ⟨⟨he,hbw⟩,hdr⟩=>⟨he,?_⟩
   exact Dn.grow_of_below hbw (hdr (by rw[he];exact λh=>by cases h))
  have hcon:=AnyQ.slices_SortFunc L sz aE zE enc hk h1 (λx y=>cv (val x) (val y)) hO g cb b 0 cap d w eg hcmp hH hblt hlen2
  rw[hds]at hcon
  refine hcon.mono λe w' ⟨he,d',n,os,hp,hsd,hw⟩=>⟨he,d'.toList.map val,?_,?_,?_,?_⟩
  ·have hp2:=hp.2.2
   have e1:(d'.extract 0 l.length).toList=d'.toList:=by rw[show l.length=d'.size by rw[hp.1,hds]];simp
   have e2:(d.extract 0 l.length).toList=d.toList:=by rw[show l.length=d.size by rw[hds]];simp
   rw[e1,e2]at hp2
   refine (hp2.map val).trans (List.Perm.of_eq ?_)
   rw[hd]
   apply List.ext_getElem?
   intro i
   simp only[List.map_map,List.getElem?_map]
   rcases Nat.lt_or_ge i l.length with h | h
   ·rw[List.getElem?_range h,List.getElem?_eq_getElem h]
    simp[(hi i _ (List.getElem?_eq_getElem h)).2]
   ·rw[List.getElem?_eq_none (by simpa using h),List.getElem?_eq_none h];rfl
  ·rw[List.pairwise_iff_getElem]
   intro i j hi1 hj1 hij
   simp only[List.length_map,Array.length_toList]at hi1 hj1
   have h2:=hsd i j (Nat.zero_le _) hij (by rw[←hds,←hp.1];exact hj1)
   rw[getElem!_pos _ i hi1,getElem!_pos _ j hj1]at h2
   unfold ltOf at h2
   simpa using h2
  ·have hds':d'.size=l.length:=by rw[hp.1,hds]
   have hlm:(d'.toList.map val).length=l.length:=by simp[hds']
   have ht:Turn (λi=>i=b) w w':=by rw[hw];exact sorted_turn
   have hrow':w'.ownsRow 0 (ρ.t 24) sz (.slice (some ⟨b,0,none⟩) l.length cap) l.length (flatC (λi=>(enc d'[i]!).toArray) l.length):=by
    rw[hw]
    have:=row_put (e:=ρ.t 24) (m:=n) (os:=os) id (d:=flatK enc sz d') hb hcap hmax hcc (by rw[size_flatK,hds'])
    rw[flatK_flatC enc sz hk d',hds']at this
    exact this
   refine⟨λi=>(enc d'[i]!).toArray,by rw[hlm];exact hrow',λi _=>by simp[hk],hFw,λi x hx=>?_⟩
   have hil:=idx_lt hx
   rw[List.length_map,Array.length_toList]at hil
   rw[List.getElem?_map]at hx
   have hx':x=val d'[i]!:=by
    rw[List.getElem?_eq_getElem (by simpa using hil)]at hx
    injection hx with hx
    rw[getElem!_pos _ i hil,←hx];rfl
   have hmem:d'[i]! ∈ d.toList:=by
    have hp2:=hp.2.2
    have e1:(d'.extract 0 l.length).toList=d'.toList:=by rw[←hds'];simp
    have e2:(d.extract 0 l.length).toList=d.toList:=by rw[←hds];simp
    rw[e1,e2]at hp2
    refine hp2.mem_iff.1 ?_
    rw[getElem!_pos _ i hil]
    simp
   rw[hd]at hmem
   simp only[List.mem_map,List.mem_range]at hmem
   obtain⟨q,hq,hqe⟩:=hmem
   obtain⟨e1,e2⟩:=hi q _ (List.getElem?_eq_getElem hq)
   have hRq:=hr q _ (List.getElem?_eq_getElem hq)
   show R w' _ x (enc d'[i]!).toArray
   rw[hx',←hqe,e1,e2]
   exact hR.keep hRq (w':=w') λp hp=>ht.cell (hF _ hp.1) λe=>hp.2 (by rw[e];rfl)
  ·rw[hw]
   exact sorted_turn.mono λi _ hi=>by rw[hi];rfl
end
theorem itT {w:World} {F:Nat→Prop} {x:Trip} {c:Array Value} (h:TrS w F x c):∃it:ItT,encT it=c.toList∧it.t=x:=by
 obtain⟨h1,h2,ss,h3,rfl⟩:=h
 exact⟨⟨x,ss,h1,h2,h3⟩,rfl,rfl⟩
theorem sortT_any (W:Way) (hW:W.Ok) (g:Nat) (w0:World) {w:World} {F:Nat→Prop} {l:List Trip} {s:Value} (h:SOwn 99 18 TrS w F l s) (hlen:l.length≤100000000) (hF:∀b,F b→b<w.heap.size)
    (hb:Below w0.heap.size w0 w) (hF0:∀b,s.ownBlock=some b→w0.heap.size≤b) (hgb:GlobB w0) (hgt:GlobT w0) (hp:w.heap[g]?=some (.cells (wayC W) 101 (0,0))) :
    Calls Tryz.prog 49 #[s,.func (.func 50) #[] #[.pointer (some ⟨g,0,none⟩)]] w λe w'=>e = .returned (.tuple #[])∧∃l':List Trip,l'.Perm l∧l'.Pairwise (λa b=>¬along W b a<0)∧SOwn 99 18 TrS w' F l' s∧Turn (λb=>s.ownBlock=some b) w w':=by
 have hne:s.ownBlock≠some g:=by
  obtain⟨cs,hrow,_⟩:=h
  exact own_ne hrow hp (by decide)
 refine sort_own2 Tryz.sortP TrS.good (by decide) Tryz.isAgg99 Tryz.sizeOf99 encT ItT.t encT_len encT_one itT (along W) (swo_pre (along_pre W) ItT.t) 50 #[.pointer (some ⟨g,0,none⟩)] (enters_of Tryz.func50 (by kernel_rfl) rfl) (λx y V ht=>?_) h hlen hF
 rw[encT_arr,encT_arr]
 have hbv:=below_turn hb ht hF0
 exact clos2_any W hW x.t y.t x.ss y.ss g V (ht.heap hp hne) (λn=>⟨(x.sc.get n).2.1,x.fit n⟩) y.fit (glob_under hgb hbv) (globT_under hgt hbv)
theorem idx_row (r n cap a:Nat) (ha:a<n) (w:World):(Instr.indexAt 93 (.slice (some ⟨r,0,none⟩) n cap) (.int .i64 (a:Nat))).run Tryz.prog w = .ok (.pointer (some ⟨r,a*18,none⟩)) w:=by
 have e1:(0:Int)≤a:=by omega
 have e2:(a:Int)<n:=by omega
 have hadd:(⟨r,0,none⟩:Addr).add (a*18)=⟨r,a*18,none⟩:=by unfold Addr.add;split<;>simp_all
 go_simp
structure StC (h c r n cap g:Nat) (W:Way) (cs:Nat→Array Value) (w:World):Prop where
 ph:w.cell? ⟨h,0,none⟩=some (.pointer (some ⟨c,0,none⟩))
 ps:w.cell? ⟨c,0,none⟩=some (.slice (some ⟨r,0,none⟩) n cap)
 row:∀a,a<n→∀j,j<18→w.cell? ⟨r,a*18+j,none⟩=(cs a)[j]?
 way:w.heap[g]?=some (.cells (wayC W) 101 (0,0))
theorem StC.on {h c r n cap g:Nat} {W:Way} {cs:Nat→Array Value} {w w':World} (hs:StC h c r n cap g W cs w) (h1:h<w.heap.size) (h2:c<w.heap.size) (h3:r<w.heap.size) (hb:Below w.heap.size w w'):StC h c r n cap g W cs w':=
 ⟨(hb.cell (p:=⟨h,0,none⟩) h1).trans hs.ph,(hb.cell (p:=⟨c,0,none⟩) h2).trans hs.ps,λa ha j hj=>(hb.cell (p:=⟨r,a*18+j,none⟩) h3).trans (hs.row a ha j hj),(hb.block g (blk_lt hs.way)).trans hs.way⟩
theorem StC.drew {h c r n cap g:Nat} {W:Way} {cs:Nat→Array Value} {w:World} (hs:StC h c r n cap g W cs w):StC h c r n cap g W cs w.drew:=⟨hs.ph,hs.ps,hs.row,hs.way⟩
theorem cell_blk {w:World} {p:Addr} {v:Value} (h:w.cell? p=some v):p.block<w.heap.size:=World.block_lt_of_cell? _ _ h
theorem range_at {w:World} {r o:Nat} {c:Array Value} (h:∀j,j<18→w.cell? ⟨r,o+j,none⟩=c[j]?) (hc:c.size=18):w.rangeAt r o c.toList:=λj v hv=>by
 have hj:j<c.toList.length:=(List.getElem?_eq_some_iff.1 hv).1
 rw[Array.length_toList,hc]at hj
 rw[h j hj,←Array.getElem?_toList]
 exact hv
theorem clos4_any (W:Way) (hW:W.Ok) (h c r n cap g a b:Nat) (cs:Nat→Array Value) (x y:Trip) (sx sy:Nat→Value) (w:World) (ha:a<n) (hb:b<n) (hx:cs a=cellsT x sx) (hy:cs b=cellsT y sy) (hs:StC h c r n cap g W cs w)
    (kx:∀n,KindT (x.get n)) (fy:∀n,FitV (y.get n)) (hgb:GlobB w) (hgt:GlobT w) :
    Calls Tryz.prog 55 #[.int .i64 (a:Nat),.int .i64 (b:Nat),.pointer (some ⟨h,0,none⟩),.pointer (some ⟨g,0,none⟩)] w (AlIs W x y w):=by
 have hal:=hid (λ(W':World) (hb:Below w.heap.size w W')=>along_any W hW x y sx sy W' kx fy (glob_under hgb hb) (globT_under hgt hb))
 clear kx fy hgb hgt hW
 unfold AlIs at hal ⊢
 obtain⟨v,Hv⟩:=name_itV (along W x y)
 rw[Hv.out]at hal ⊢
 clear Hv
 obtain⟨c1,Hc1⟩:=name18 x sx
 obtain⟨c2,Hc2⟩:=name18 y sy
 rw[Hc1.out]at hal hx
 rw[Hc2.out]at hal hy
 have Z1:=hid Hc1.size
 have Z2:=hid Hc2.size
 have HS:=hid hs
 have HA:=hid ha
 have HB:=hid hb
 have HX:=hid hx
 have HY:=hid hy
 have Q1:=hid (infoPt.trans (congrArg some Hc1.size.symm))
 have Q2:=hid (infoPt.trans (congrArg some Hc2.size.symm))
 clear hs ha hb hx hy Hc1 Hc2
 have hwc:wayC W=#[.int .i64 (W.i:Nat),.int .i64 (W.j:Nat),.int .i64 (W.k:Nat)]:=rfl
 rw[←hwc]at hal
 obtain⟨wc,Hwc⟩:=name_itV (wayC W)
 have ZW:=hid (show wc.size=3 from by rw[←Hwc.out];rfl)
 rw[Hwc.out]at hal
 have HWY:=hid (λ(W':World) (h:StC h c r n cap g W cs W')=>(show W'.heap[g]?=some (.cells wc 101 (0,0)) from by rw[←Hwc.out];exact h.way))
 clear hwc Hwc
 go_enter Tryz.func55,Tryz.ntmps55
 go_upto_region 1 with fail
 refine wp_region_held_drew (S:=λW'=>StC h c r n cap g W cs W') (by kernel_rfl) HS.out.drew (λhHeld=>?_)
 refine Boxed.out ?_
 refine tkW 0 7 (.pointer (some ⟨c,0,none⟩)) hHeld (λw hSw=>?_) (λhHeld=>?_)
 ·have p:=hSw.ph
  unfold runsTo
  go_simp
 try simp only[Act.put,aT,aZ,aS]
 refine tkV 1 8 (.pointer (some ⟨c,0,none⟩)) hHeld (λhHeld=>?_)
 try simp only[Act.put,aT,aZ,aS]
 refine tkV 2 9 (.pointer (some ⟨c,0,none⟩)) hHeld (λhHeld=>?_)
 try simp only[Act.put,aT,aZ,aS]
 refine tkW 3 10 (.slice (some ⟨r,0,none⟩) n cap) hHeld (λw hSw=>?_) (λhHeld=>?_)
 ·have p:=hSw.ps
  unfold runsTo
  go_simp
 try simp only[Act.put,aT,aZ,aS]
 refine tkV 4 11 (.int .i64 (a:Nat)) hHeld (λhHeld=>?_)
 try simp only[Act.put,aT,aZ,aS]
 refine tkW 5 12 (.pointer (some ⟨r,a*18,none⟩)) hHeld (λw hSw=>?_) (λhHeld=>?_)
 ·exact val_of (idx_row r n cap a HA.out w)
 try simp only[Act.put,aT,aZ,aS]
 refine tkW 6 13 (.agg c1) hHeld (λw hSw=>?_) (λhHeld=>?_)
 ·have p:=range_at (hSw.row a HA.out) (show (cs a).size=18 from by rw[HX.out];exact Z1.out)
  rw[HX.out]at p
  have q:=run_loadAt_mid (P:=Tryz.prog) w r (a*18) 99 c1.toList _ p Tryz.underlying99 rfl (by rw[Array.length_toList];exact Q1.out)
  rw[Array.toArray_toList]at q
  exact val_of q
 try simp only[Act.put,aT,aZ,aS]
 refine tkW 7 14 (.pointer (some ⟨c,0,none⟩)) hHeld (λw hSw=>?_) (λhHeld=>?_)
 ·have p:=hSw.ph
  unfold runsTo
  go_simp
 try simp only[Act.put,aT,aZ,aS]
 refine tkV 8 15 (.pointer (some ⟨c,0,none⟩)) hHeld (λhHeld=>?_)
 try simp only[Act.put,aT,aZ,aS]
 refine tkV 9 16 (.pointer (some ⟨c,0,none⟩)) hHeld (λhHeld=>?_)
 try simp only[Act.put,aT,aZ,aS]
 refine tkW 10 17 (.slice (some ⟨r,0,none⟩) n cap) hHeld (λw hSw=>?_) (λhHeld=>?_)
 ·have p:=hSw.ps
  unfold runsTo
  go_simp
 try simp only[Act.put,aT,aZ,aS]
 refine tkV 11 18 (.int .i64 (b:Nat)) hHeld (λhHeld=>?_)
 try simp only[Act.put,aT,aZ,aS]
 refine tkW 12 19 (.pointer (some ⟨r,b*18,none⟩)) hHeld (λw hSw=>?_) (λhHeld=>?_)
 ·exact val_of (idx_row r n cap b HB.out w)
 try simp only[Act.put,aT,aZ,aS]
 refine tkW 13 20 (.agg c2) hHeld (λw hSw=>?_) (λhHeld=>?_)
 ·have p:=range_at (hSw.row b HB.out) (show (cs b).size=18 from by rw[HY.out];exact Z2.out)
  rw[HY.out]at p
  have q:=run_loadAt_mid (P:=Tryz.prog) w r (b*18) 99 c2.toList _ p Tryz.underlying99 rfl (by rw[Array.length_toList];exact Q2.out)
  rw[Array.toArray_toList]at q
  exact val_of q
 try simp only[Act.put,aT,aZ,aS]
 refine tkW 14 21 (.agg wc) hHeld (λw hSw=>?_) (λhHeld=>?_)
 ·exact val_of (ld_run (HWY.out w hSw) 101 _ Tryz.underlying101 rfl (by rw[ZW.out];kernel_rfl))
 try simp only[Act.put,aT,aZ,aS]
 refine tkC 15 (λK hK=>?_)
 change Oper.wp _ ⟨some 22,_,_,_,_,_⟩ _ _ _ _
 go_simp
 refine (hal.out w.drew (Below.refl _ _).drew).mono ?_
 rintro e w2 ⟨rfl,hb2⟩
 have HB2:=hid (show Below w.heap.size w w2 from below_of_dr hb2)
 have HS2:=hid (HS.out.on (cell_blk HS.out.ph) (cell_blk HS.out.ps) (by have:=HS.out.row a HA.out 0 (by omega);exact cell_blk (p:=⟨r,a*18+0,none⟩) (this.trans (by rw[HX.out];exact Array.getElem?_eq_getElem (by rw[Z1.out];omega)))) HB2.out)
 clear hb2
 dsimp only
 refine hK.out _ _ HS2.out (λhHeld=>?_)
 clear hK K
 try simp only[Act.put,aT,aZ,aS]
 refine tkV 16 6 (.int .i64 v) hHeld (λhHeld=>?_)
 try simp only[Act.put,aT,aZ,aS]
 refine⟨wpAnyH_done (by kernel_rfl) ?_ _⟩
 clear hHeld
 go_wp2_with fail
 go_ret
 exact⟨rfl,HB2.out⟩
def ixC (ix:List Nat):List Value:=ix.map λk=>Value.int .i64 (k:Nat)
theorem sortedI_turn {I:Type} [Inhabited I] {enc:I→Value} {w:World} {g n:Nat} {d:Array I} {os:Array Obj}:Turn (λb=>b=g) w (sortWorld enc w g 0 n d os):=by
 refine⟨rfl,rfl,rfl,by unfold sortWorld;rw[Go.Sort.size_grow,size_putRow];show w.heap.size≤w.heap.size+_;omega,λi hi hne=>?_⟩
 unfold sortWorld
 rw[Go.Sort.heap_grow_old _ _ (by rw[size_putRow];exact hi)]
 have:g≠i:=λe=>hne e.symm
 simp[putRow,mapBlock,Sort.ahead,Array.getElem?_modify,this]
theorem sortIx_any (W:Way) (hW:W.Ok) (T:List Trip) (h c r n cap g:Nat) (cs:Nat→Array Value) (w0:World) {w:World} {ix:List Nat} {s:Value} (hT:T.length=n)
    (hcs:∀a t,T[a]?=some t→ScalT t∧(∀n,FitV (t.get n))∧∃ss,cs a=cellsT t ss) (hrow:w.ownsRow 0 3 1 s ix.length (ixC ix)) (hix:∀k,k∈ix→k<n) (hlen:ix.length≤100000000) (hn:0<n∨s = .slice none 0 0)
    (hs:StC h c r n cap g W cs w) (hb:Below w0.heap.size w0 w) (hF0:∀b,s.ownBlock=some b→w0.heap.size≤b) (hsep:∀b,s.ownBlock=some b→b≠h∧b≠c∧b≠r∧b≠g) (hgb:GlobB w0) (hgt:GlobT w0) :
    Calls Tryz.prog 54 #[s,.func (.func 55) #[] #[.pointer (some ⟨h,0,none⟩),.pointer (some ⟨g,0,none⟩)]] w λe w'=>e = .returned (.tuple #[])∧∃ix':List Nat,ix'.Perm ix ∧
     ix'.Pairwise (λa b=>∀s t,T[a]?=some s→T[b]?=some t→¬along W t s<0)∧w'.ownsRow 0 3 1 s ix'.length (ixC ix')∧Turn (λb=>s.ownBlock=some b) w w':=by
 rcases hrow.2 with⟨he,h0⟩ | ⟨b,bcap,cur,he,_,hbk,hcap,hmax,hcc,htake⟩
 ·subst he
  have hl0:ix=[]:=List.eq_nil_of_length_eq_zero h0
  subst hl0
  refine (AnyF.slices_SortFunc_none { Tryz.sortI with } none 0 _ w).mono λe w' ⟨he,hw⟩=>⟨he,[],List.Perm.refl _,List.Pairwise.nil,?_,?_⟩
  ·rw[hw];exact hrow
  ·rw[hw];exact Turn.refl _ _
 ·subst he
  have hn0:0<n:=by
   rcases hn with hn | hn
   ·exact hn
   ·cases hn
  have:Inhabited {k:Nat // k<n}:=⟨⟨0,hn0⟩⟩
  have hblt:=blk_lt hbk
  obtain⟨d,hd⟩:∃d:Array {k:Nat // k<n},d.toList=ix.pmap (λk hk=>⟨k,hk⟩) hix:=⟨(ix.pmap (λk hk=>⟨k,hk⟩) hix).toArray,by simp⟩
  have hds:d.size=ix.length:=by rw[←Array.length_toList,hd];simp
  have hdv:d.toList.map (·.1)=ix:=by rw[hd];simp[List.map_pmap]
  have hH:Holds (λx:{k:Nat // k<n}=>Value.int .i64 ((x.1:Nat):Int)) w b 0 d:=by
   intro j hj
   refine⟨?_,by simp[World.frozen?,hbk]⟩
   have h2:=hrow.cellAt j (by rw[hds]at hj;omega)
   rw[Nat.zero_add,h2,getElem!_pos d j hj]
   unfold ixC
   have h3:ix[j]?=some (d[j].1):=by
    rw[←hdv,List.getElem?_map]
    simp[hj]
   rw[List.getElem?_map,h3]
   rfl
  have hlen2:d.size<4611686018427387904:=by rw[hds];omega
  have hcmp:CmpLays1 Tryz.prog 55 #[.pointer (some ⟨h,0,none⟩),.pointer (some ⟨g,0,none⟩)] (λx:{k:Nat // k<n}=>Value.int .i64 ((x.1:Nat):Int)) (λx y=>along W (T[x.1]'(by rw[hT];exact x.2)) (T[y.1]'(by rw[hT];exact y.2))) b 0 d.size w:=λm os dk _ x y=>by
   have ht:Turn (λi=>(Value.slice (some ⟨b,0,none⟩) ix.length bcap).ownBlock=some i) w (sortWorld (λx:{k:Nat // k<n}=>Value.int .i64 ((x.1:Nat):Int)) w b 0 m dk os):=sortedI_turn.mono λi _ hi=>by rw[hi];rfl
   have hbv:=below_turn hb ht hF0
   have hse:=hsep b rfl
   obtain⟨sc1,f1,s1,e1⟩:=hcs x.1 _ (List.getElem?_eq_getElem (by rw[hT];exact x.2))
   obtain⟨sc2,f2,s2,e2⟩:=hcs y.1 _ (List.getElem?_eq_getElem (by rw[hT];exact y.2))
   have hr:r<w.heap.size:=cell_blk (p:=⟨r,x.1*18+0,none⟩) ((hs.row x.1 x.2 0 (by omega)).trans (by rw[e1];exact Array.getElem?_eq_getElem (by rw[cellsT_size];omega)))
   have hne:∀q,q≠b→¬(Value.slice (some ⟨b,0,none⟩) ix.length bcap).ownBlock=some q:=λq hq e=>by injection e with e;exact hq e.symm
   have hst:StC h c r n cap g W cs (sortWorld (λx:{k:Nat // k<n}=>Value.int .i64 ((x.1:Nat):Int)) w b 0 m dk os):=
    ⟨(ht.cell (p:=⟨h,0,none⟩) (cell_blk hs.ph) (hne h (λe=>hse.1 e.symm))).trans hs.ph,(ht.cell (p:=⟨c,0,none⟩) (cell_blk hs.ps) (hne c (λe=>hse.2.1 e.symm))).trans hs.ps,
     λa ha j hj=>(ht.cell (p:=⟨r,a*18+j,none⟩) hr (hne r (λe=>hse.2.2.1 e.symm))).trans (hs.row a ha j hj),ht.heap hs.way (hne g (λe=>hse.2.2.2 e.symm))⟩
   refine (Dn.calls_drawn (clos4_any W hW h c r n cap g x.1 y.1 cs _ _ s1 s2 _ x.2 y.2 e1 e2 hst (λq=>⟨(sc1.get q).2.1,f1 q⟩) f2 (glob_under hgb hbv) (globT_under hgt hbv))).mono λe w' ⟨⟨he,hbw⟩,hdr⟩=>⟨he,?_⟩
   exact Dn.grow_of_below hbw (hdr (by rw[he];exact λh=>by cases h))
  have hcon:=Any.slices_SortFunc Tryz.sortI (λx:{k:Nat // k<n}=>Value.int .i64 ((x.1:Nat):Int)) (λ_=>rfl) (λx y=>along W (T[x.1]'(by rw[hT];exact x.2)) (T[y.1]'(by rw[hT];exact y.2))) (swo_pre (along_pre W) λx:{k:Nat // k<n}=>T[x.1]'(by rw[hT];exact x.2)) 55 _ b 0 bcap d w (enters_of Tryz.func55 (by kernel_rfl) rfl) hcmp hH hblt hlen2
  rw[hds]at hcon
  refine hcon.mono λe w' ⟨he,d',m,os,hp,hsd,hw⟩=>⟨he,d'.toList.map (·.1),?_,?_,?_,?_⟩
  ·have hp2:=hp.2.2
   have e1:(d'.extract 0 ix.length).toList=d'.toList:=by rw[show ix.length=d'.size by rw[hp.1,hds]];simp
   have e2:(d.extract 0 ix.length).toList=d.toList:=by rw[show ix.length=d.size by rw[hds]];simp
   rw[e1,e2]at hp2
   have:=hp2.map (·.1)
   rwa [hdv]at this
  ·rw[List.pairwise_iff_getElem]
   intro i j hi1 hj1 hij s t hs1 ht1
   simp only[List.length_map,Array.length_toList]at hi1 hj1
   have h2:=hsd i j (Nat.zero_le _) hij (by rw[←hds,←hp.1];exact hj1)
   rw[getElem!_pos _ i hi1,getElem!_pos _ j hj1]at h2
   unfold ltOf at h2
   simp only[List.getElem_map,Array.getElem_toList]at hs1 ht1
   rw[List.getElem?_eq_getElem (by rw[hT];exact (d'[i]).2)]at hs1
   rw[List.getElem?_eq_getElem (by rw[hT];exact (d'[j]).2)]at ht1
   injection hs1 with hs1
   injection ht1 with ht1
   rw[←hs1,←ht1]
   simpa using h2
  ·have hds':d'.size=ix.length:=by rw[hp.1,hds]
   have hl:(d'.toList.map (·.1)).length=ix.length:=by rw[List.length_map,Array.length_toList,hds']
   rw[hl,hw]
   have:=row_put (e:=3) (m:=m) (os:=os) (sz:=1) (λx:{k:Nat // k<n}=>Value.int .i64 ((x.1:Nat):Int)) (d:=d') hbk hcap hmax hcc (by rw[hds',Nat.mul_one])
   unfold ixC
   rw[List.map_map]
   exact this
  ·rw[hw]
   exact sortedI_turn.mono λi _ hi=>by rw[hi];rfl
end Go.Proofs.YtefhfadjajcmkaaGreatDoor
