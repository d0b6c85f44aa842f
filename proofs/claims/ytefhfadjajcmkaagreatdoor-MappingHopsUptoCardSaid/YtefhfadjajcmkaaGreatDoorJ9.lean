/- Rows of one element, cells of a struct: what mapping's node is made of. -/
import Derived.Lone
import Derived.Calls
import Derived.Below
import Derived.Sort.Grow
import Derived.Deep.Draws
import Derived.Test.YtefhfadjajcmkaaGreatDoorJ7
import Derived.Test.YtefhfadjajcmkaaGreatDoorGS
import Derived.Test.YtefhfadjajcmkaaGreatDoorJ8
set_option linter.unusedVariables false
set_option linter.unusedSimpArgs false
set_option maxRecDepth 100000
set_option maxHeartbeats 64000000
namespace Go.Proofs.YtefhfadjajcmkaaGreatDoor.Dn
open Go Go.RowKit
def Kw_ {α : Type}:Result α -> World
 | .ok _ w=>w
 | .halt _ w=>w
theorem A4_ {α : Type} (x:Ask α):∀w:World,w.drawn<=(w.ask x).2.drawn:=by
 induction x with
 | done a=>intro w;exact Nat.le_refl _
 | ask d c k b=>
  intro w;unfold World.ask;simp only[];split
  ·exact b _ _
  ·exact Nat.le_trans (Nat.le_succ _) (b _ { w with drawn:=w.drawn+1 })
theorem rb_ (w:World) (c:Sys):w.drawn<=(w.sys c).2.drawn:=by
 unfold World.sys;have h:=A4_ (Kernel.perform c w.os) w;split
 ·exact Nat.le_refl _
 ·rename_i a;rw[a]at h;exact h
theorem A5_ {p:Program} {w w':World} {a:Addr} {v:Value} {b:Bool} {l:List Addr} (h:w.farStore p a v b = .ok (w',l)):w'.drawn=w.drawn:=by
 unfold World.farStore at h;split at h
 ·rename_i at_ u _
  cases hv:w.viewStore p at_ u a v b with
  | error e=>rw[hv]at h;cases h
  | ok r=>
   rw[hv]at h;injection h with h;subst h;unfold World.viewStore at hv;simp only[bind,Except.bind,pure,Except.pure]at hv
   repeat' first
    | (cases hv;done)
    | (injection hv with hv;injection hv with hv _;subst hv;rfl)
    | split at hv
 ·cases h
theorem h3_ {α : Type} (p:Program) (e:Sem α):∀w:World,w.drawn<=(Kw_ (e.run p w)).drawn:=by
 induction e with
 | pure a=>intro w;exact Nat.le_refl _
 | load m a k b=>
  intro w;simp only[Sem.run];split
  ·exact b _ _
  ·split
   ·exact b _ _
   ·exact Nat.le_refl _
 | store m a v k b=>
  intro w
  cases v<;>simp only[Sem.run]<;>first
   | exact Nat.le_refl _
   | (split
      ·split
       ·exact Nat.le_refl _
       ·exact b (w.setCell a _)
      ·split
       ·rename_i d;have:=b ‹World›;rw[A5_ d]at this;exact this
       ·exact Nat.le_refl _)
 | new o k b=>intro w;exact b _ { w with heap:=w.heap.push o }
 | shape r k b=>intro w;exact b _ w
 | freeze a n k b=>
  intro w;have h:=b (w.freeze a n);have:(w.freeze a n).drawn=w.drawn:=by unfold World.freeze;split<;>rfl
  rw[this]at h;exact h
 | frozen a k b=>intro w;exact b _ w
 | getObj r k b=>
  intro w;simp only[Sem.run];split
  ·exact Nat.le_refl _
  ·exact b _ _
  ·exact Nat.le_refl _
 | setObj r o k b=>
  intro w;simp only[Sem.run];split
  ·exact Nat.le_refl _
  ·exact b { w with heap:=w.heap.setIfInBounds r o }
  ·exact Nat.le_refl _
 | choose q k b=>
  intro w;simp only[Sem.run];split
  ·exact b _ w
  ·exact Nat.le_trans (Nat.le_succ _) (b _ { w with drawn:=w.drawn+1 })
 | sys c k b=>intro w;exact Nat.le_trans (rb_ w c) (b _ _)
 | program k b=>intro w;exact b _ w
 | mark m k b=>intro w;exact b w
 | halt h=>intro w;exact Nat.le_refl _
theorem bz_ {α : Type} {p:Program} {e:Sem α} {w w':World} {a:α} (h:e.run p w = .ok a w'):w.drawn<=w'.drawn:=by have:=h3_ p e w;rw[h]at this;exact this
theorem bl_ {α : Type} {p:Program} {e:Sem α} {w w':World} {a:Halt} (h:e.run p w = .halt a w'):w.drawn<=w'.drawn:=by have:=h3_ p e w;rw[h]at this;exact this
theorem bc_ (α : Type) (p:Program) (e:Sem α) (w:World) (a:Array Event):w.drawn<=(Kw_ (e.runT p w a).1).drawn:=by rw[Sem.runT_fst];exact h3_ p e w
def gsW:GStep->World
 | .go _ w _=>w
 | .comm _ _ _ _ w _=>w
 | .spawn _ _ w _=>w
 | .count _ w _=>w
 | .timer _ _ w _=>w
 | .alone _ _ w _=>w
 | .newcoro _ _ _ w _=>w
 | .coroswitch _ _ _ w _=>w
 | .collect _ w _=>w
 | .watch _ w _=>w
 | .ended _ w _=>w
theorem bv_ (a:Array Event) (s:GStep):gsW (GStep.after a s)=gsW s:=by cases s<;>rfl
theorem xl_ {c:Prop} [Decidable c] {a b:GStep} {n:Nat} (d:n<=(gsW a).drawn) (hb:n<=(gsW b).drawn):n<=(gsW (if c then a else b)).drawn:=by split<;>assumption
theorem A6_ (w:World) (a:Nat) (t:ByteArray) (o:Outcome):w.drawn<=(gsW (endWith w a t o)).drawn:=by
 unfold endWith;have h:=rb_ w (.write a t);simp only[];split<;>rename_i b<;>rw[b]at h
 ·split<;>exact h
 ·exact h
 ·exact h
theorem xm_ (a:Frame) (m:String) (w:World):gsW (endThrow a m w)=w:=rfl
theorem io_ (p:Program) (a:Frame) (v:Value) (w:World):gsW (endPrinting p a v w)=w:=by unfold endPrinting;simp only[];split<;>rfl
theorem o2_ (p:Program) (b:Frame) (cs:List Frame) (d:Option Dying) (m:String) (w:World):w.drawn<=(gsW (endFatal p b cs d m w)).drawn:=by
 unfold endFatal;simp only[];split<;>rename_i a
 ·exact bz_ a
 ·exact bl_ a
 ·exact bl_ a
theorem A7_ (p:Program) (b:Frame) (d:Dying) (f:Fatal) (w:World):w.drawn<=(gsW (writeOn p b d f w)).drawn:=by
 unfold writeOn;simp only[];split
 ·exact Nat.le_refl _
 ·split<;>rename_i a
  all_goals
   have h:=congrArg Prod.fst a;rw[Sem.runT_fst]at h
   first | exact bz_ h | exact bl_ h
theorem Lz_ (p:Program) (e:Frame) (d:Dying) (w:World):w.drawn<=(gsW (die p e d w)).drawn:=by
 unfold die;split
 ·exact A7_ ..
 ·split
  ·split
   ·exact Nat.le_refl _
   ·exact A6_ ..
  ·simp only[];split
   ·exact Nat.le_refl _
   ·split<;>rename_i c
    ·exact bz_ c
    ·exact bl_ c
   ·rename_i t a b _;rw[bv_];have h:=bc_ _ p (invoke (.fn (.method b) #[]) #[.iface t a]) w #[];generalize (Sem.runT p (invoke (.fn (.method b) #[]) #[.iface t a]) w #[])=r at h ⊢;obtain⟨r,f⟩:=r;simp only[]at h ⊢;split
    ·exact h
    ·exact h
    ·exact h
    ·rw[io_];exact h
    ·exact Nat.le_refl _
   ·exact Nat.le_refl _
theorem dt_ (p:Program) (a:Bool) (b:Frame) (cs:List Frame) (d:Option Dying) (v:Value) (w:World):gsW (doReturn p a b cs d v w)=w:=by
 unfold doReturn;repeat' split
 all_goals rfl
theorem o3_ (p:Program) (a:Frame) (cs:List Frame) (b:Option Dying) (d:Deferred) (w:World):w.drawn<=(gsW (callDeferred p a cs b d w)).drawn:=by
 unfold callDeferred;refine xl_ (Nat.le_refl _) ?_
 ·have h:=bc_ _ p (invoke d.target d.args) w #[];generalize (Sem.runT p (invoke d.target d.args) w #[])=r at h ⊢;obtain⟨r,c⟩:=r;simp only[bv_]at h ⊢;split
  all_goals first
   | exact h
   | (split<;>exact h)
   | exact Nat.le_trans h (o2_ ..)
theorem u1_ (p:Program) (d:Bool) (c:Frame) (cs:List Frame) (g:Option Dying) (w:World):w.drawn<=(gsW (unwind p d c cs g w)).drawn:=by
 unfold unwind;split
 ·rename_i a _ ds _;have h:=bc_ _ p (Instr.takeDeferred a) w #[];generalize (Sem.runT p (Instr.takeDeferred a) w #[])=r at h ⊢;obtain⟨r,f⟩:=r;simp only[bv_]at h ⊢;split<;>exact h
 ·exact o3_ ..
 ·split
  ·exact Nat.le_refl _
  ·split
   ·exact Nat.le_refl _
   ·split
    ·exact Nat.le_refl _
    ·split
     ·split
      ·exact Nat.le_refl _
      ·split<;>rename_i b
       ·exact bz_ b
       ·exact bl_ b
       ·exact bl_ b
     ·split
      ·rw[io_];exact Nat.le_refl _
      ·exact Nat.le_refl _
  ·split
   ·rw[dt_];exact Nat.le_refl _
   ·rename_i e _;have h:=bc_ _ p (results e c.tmps) w #[];generalize (Sem.runT p (results e c.tmps) w #[])=r at h ⊢;obtain⟨r,f⟩:=r;simp only[bv_]at h ⊢;split
    ·rw[dt_];exact h
    ·exact h
    ·exact h
theorem In_ (p:Program) (d:Frame) (cs:List Frame) (e:Option Dying) (g:Nat) (w:World):w.drawn<=(gsW (early p d cs e g w)).drawn:=by
 unfold early;simp only[];repeat' split
 all_goals first
  | exact Nat.le_refl _
  | (rename_i a;first | exact bz_ a | exact bl_ a)
  | (rename_i a _;first | exact bz_ a | exact bl_ a)
  | (rename_i a _ _;first | exact bz_ a | exact bl_ a)
  | (rename_i a _ _ _;first | exact bz_ a | exact bl_ a)
  | (rename_i a _ _ _ _;first | exact bz_ a | exact bl_ a)
  | (rename_i a _ _ _ _ _;first | exact bz_ a | exact bl_ a)
  | (rename_i a _ _ _ _;have b:=bz_ a;exact b)
  | (rename_i c a _ _ _ _;have b:w.drawn<=c.drawn:=bz_ a;show w.drawn<=c.drawn;exact b)
theorem j8_ (p:Program) (a:Bool) (b:Frame) (cs:List Frame) (c:Option Dying) (s:Sem Next) (w:World):w.drawn<=(gsW (stepG.apply p a b cs c s w)).drawn:=by
 unfold stepG.apply;simp only[]
 have h:w.drawn<=(Kw_ (if a=true then s.runT p w #[] else (s.run p w,#[])).1).drawn:=by
  split
  ·exact bc_ _ p s w #[]
  ·exact h3_ p s w
 generalize (if a=true then s.runT p w #[] else (s.run p w,#[]))=r at h ⊢
 obtain⟨r,d⟩:=r;simp only[bv_]at h ⊢;split
 all_goals first
  | exact h
  | (split<;>exact h)
  | (split<;>(try split)<;>exact h)
  | exact Nat.le_trans h (o2_ ..)
  | exact Nat.le_trans h (In_ ..)
theorem Kx_ (p:Program) (a:Bool) (b:Frame) (cs:List Frame) (c:Option Dying) (w:World):w.drawn<=(gsW (stepG.oper p a b cs c w)).drawn:=by
 unfold stepG.oper;split
 ·exact Nat.le_refl _
 ·split<;>exact j8_ ..
theorem E8_ (p:Program) (B o:Bool) (C:Frame) (cs:List Frame) (J:Option Dying) (w:World):w.drawn<=(gsW (stepG.exec p B o C cs J w)).drawn:=by
 obtain⟨z,u,n,E,L,kind,g⟩:=C;unfold stepG.exec;simp only[]
 cases n with
 | nil=>
  simp only[]
  cases g with
  | none=>first | exact Nat.le_refl _ | (split<;>exact Nat.le_refl _)
  | some l=>
   simp only[];have h:=bc_ _ p (Instr.endRound l none) w #[];generalize (Sem.runT p (Instr.endRound l none) w #[])=r at h ⊢;obtain⟨r,q⟩:=r;simp only[bv_]at h ⊢
   cases r with
   | ok v w'=>simp only[dt_];exact h
   | halt v w'=>exact h
 | cons N k=>
  cases N with
  | code c=>
   cases c with
   | ret=>
    simp only[]
    cases g with
    | none=>first | exact Nat.le_refl _ | (split<;>exact Nat.le_refl _)
    | some l=>
     simp only[];have h:=bc_ _ p (Instr.endRound l (some .ret)) w #[];generalize (Sem.runT p (Instr.endRound l (some .ret)) w #[])=r at h ⊢;obtain⟨r,q⟩:=r;simp only[bv_]at h ⊢
     cases r with
     | ok v w'=>simp only[dt_];exact h
     | halt v w'=>exact h
   | exit x=>
    simp only[]
    cases he:exitTo x k with
    | some l=>exact Nat.le_refl _
    | none=>
     simp only[Option.elim_none]
     cases g with
     | none=>first | exact Nat.le_refl _ | (split<;>exact Nat.le_refl _)
     | some l=>
      simp only[];have h:=bc_ _ p (Instr.endRound l (some (.exit x))) w #[];generalize (Sem.runT p (Instr.endRound l (some (.exit x))) w #[])=r at h ⊢;obtain⟨r,q⟩:=r;simp only[bv_]at h ⊢
      cases r with
      | ok v w'=>simp only[dt_];exact h
      | halt v w'=>exact h
   | goto A=>
    simp only[]
    cases he:gotoIn A k with
    | some l=>exact Nat.le_refl _
    | none=>
     simp only[Option.elim_none]
     cases g with
     | none=>first | exact Nat.le_refl _ | (split<;>exact Nat.le_refl _)
     | some l=>
      simp only[];have h:=bc_ _ p (Instr.endRound l (some (.goto A))) w #[];generalize (Sem.runT p (Instr.endRound l (some (.goto A))) w #[])=r at h ⊢;obtain⟨r,q⟩:=r;simp only[bv_]at h ⊢
      cases r with
      | ok v w'=>simp only[dt_];exact h
      | halt v w'=>exact h
   | cond c a b=>
    simp only[];split<;>exact Nat.le_refl _
   | rangeFunc f m j y=>
    simp only[];have h:=bc_ _ p (Instr.enterLoop z u m j y g) w #[];generalize (Sem.runT p (Instr.enterLoop z u m j y g) w #[])=r at h ⊢;obtain⟨r,q⟩:=r;simp only[bv_]at h ⊢
    cases r with
    | ok v w'=>exact Nat.le_trans h (j8_ ..)
    | halt v w'=>exact h
   | region x D M=>
    simp only[];refine xl_ (Nat.le_refl _) ?_
    cases hr:Sem.run p (choose (.order z x)) w with
    | ok t w'=>exact bz_ hr
    | halt t w'=>exact bl_ hr
   | _=>exact Nat.le_refl _
  | inRegion D n=>
   cases n with
   | nil=>exact Nat.le_refl _
   | cons i r=>
    simp only[];exact xl_ (Kx_ ..) (Nat.le_refl _)
  | beginRound=>simp only[];exact j8_ ..
  | endRangeFunc l=>
   simp only[];have h:=bc_ _ p (Instr.endLoop l) w #[];generalize (Sem.runT p (Instr.endLoop l) w #[])=r at h ⊢;obtain⟨r,q⟩:=r;simp only[bv_]at h ⊢
   cases r with
   | ok v w'=>exact h
   | halt v w'=>cases v<;>exact h
  | call d b s v=>simp only[];exact j8_ ..
  | extern G args=>
   simp only[]
   cases he:Extern.next G with
   | none=>exact Nat.le_refl _
   | some e=>simp only[Option.elim_some];exact j8_ ..
  | _=>exact Nat.le_refl _
theorem Io_ (p:Program) (k:Bool) (g:Goroutine) (w:World) (i:Bool):w.drawn<=(gsW (stepG p k g w i)).drawn:=by
 obtain⟨m,cs,o,j,n⟩:=g;unfold stepG;simp only[]
 cases j with
 | none=>
  cases hm:m.mode with
  | run=>exact E8_ ..
  | _=>exact u1_ ..
 | some d=>
  obtain⟨a,b,c,e,f,g,h⟩:=d
  cases c with
  | false=>exact Lz_ ..
  | true=>
   cases hm:m.mode with
   | run=>exact E8_ ..
   | _=>exact u1_ ..
theorem qf_ (rest:Rest) (cases:Array CommCase) (w w':World) (h:waitingAt rest cases w=some w'):w'.drawn=w.drawn:=by
 unfold waitingAt at h;split at h
 ·split at h
  ·injection h with h;rw[<-h]
  ·cases h
 ·injection h with h;rw[<-h]
theorem qg_ (p:Program) (rest:Rest) (j:Array Goroutine) (i:Nat) (g:Goroutine) (cases:Array CommCase) (a:Bool)
    (d:CommShape) (w:World) (f:Machine) (h:(communicate p rest j i g cases a d w).1 = .next f):w.drawn<=f.world.drawn:=by
 unfold communicate at h;simp only[]at h;split at h
 ·simp at h
 ·split at h
  ·split at h
   ·split at h
    ·rename_i m b;simp only[Stepped.next.injEq]at h;subst h;exact Nat.le_of_eq (qf_ _ _ _ _ b).symm
    ·simp at h
   ·simp only[Stepped.next.injEq]at h;subst h;exact Nat.le_refl _
  ·split at h
   ·simp at h
   ·rename_i k c n m b;have h1:=bz_ b;clear b
    repeat' first
     | (simp at h;done)
     | (simp only[Stepped.next.injEq]at h;subst h;first
         | exact h1
         | (have e:=bl_ (by assumption);exact Nat.le_trans h1 e)
         | (have e:=bz_ (by assumption);exact Nat.le_trans h1 e))
     | split at h
theorem E9_ (p:Program) (b:Array Goroutine) (rest:Rest) (w:World) (a:Machine)
    (h:look p b rest w = .next a):w.drawn<=a.world.drawn:=by
 unfold look at h;simp only[]at h
 repeat' first
  | (simp at h;done)
  | (simp only[Stepped.next.injEq]at h;subst h;have c:=bz_ (by assumption);exact c)
  | split at h
theorem Ip_ (w:World) (c:Nat):(drain w c).2.drawn=w.drawn:=by unfold drain;split<;>rfl
theorem u2_ (m:Machine) (k:Nat) (t:Timer) (a b:Nat):(retime m k t a b).2.world.drawn=m.world.drawn:=by
 unfold retime;simp only[];split
 ·exact Ip_ _ _
 ·rfl
theorem y8_ (m:Machine) (a:Addr) (f:Nat->Timer->Value×Machine) (d:Nat) (c:∀k t,(f k t).2.world.drawn=d) (v:Value) (b:Machine) (h:timerOp.named m a f = .ok (v,b)):b.world.drawn=d:=by
 unfold timerOp.named at h;split at h
 ·injection h with h;rw[<-congrArg (λx=>x.2.world.drawn) h];exact c _ _
 ·cases h
theorem A8_ (m:Machine) (op:TimerOp) (v:Value) (c:Machine) (h:timerOp m op = .ok (v,c)):c.world.drawn=m.world.drawn:=by
 unfold timerOp at h
 cases op with
 | new t=>
  simp only[]at h
  repeat' first
   | (cases h;done)
   | (injection h with h;injection h with _ h;subst h;rfl)
   | split at h
 | stop d=>exact y8_ _ _ _ _ (λk t=>u2_ ..) _ _ h
 | reset d f b=>
  simp only[]at h;split at h
  ·rename_i e a
   have h2:e.world.drawn=m.world.drawn:=by
    unfold timerOp.opened at a;split at a
    ·split at a
     ·injection a with a;rw[<-a]
     ·cases a
    ·injection a with a;rw[<-a]
   exact (y8_ _ _ _ _ (λk t=>u2_ ..) _ _ h).trans h2
  ·cases h
 | deadline g r w t=>
  injection h with h;injection h with _ h;rw[<-h];rfl
theorem Ky_ (p:Program) (m e:Machine) (i:Nat) (b:Bool) (h:(runT p m i b).1 = .next e):m.world.drawn<=e.world.drawn:=by
 simp only[runT]at h;revert h
 generalize m.gs.swapAt! _ _=gg;have a:=Io_ p (i==0) gg.1 m.world b;revert a
 generalize stepG p _ gg.1 m.world b=s;intro a h
 cases s<;>simp only[gsW]at h a
 all_goals first
  | (simp at h;done)
  | (simp only[Stepped.next.injEq]at h;subst h;exact a)
  | (have h2:=qg_ _ _ _ _ _ _ _ _ _ _ h;exact Nat.le_trans a h2)
  | (have h2:=E9_ _ _ _ _ _ h;exact Nat.le_trans a h2)
  | (repeat' first
      | (simp at h;done)
      | (simp only[Stepped.next.injEq]at h;subst h;first
          | exact a
          | (rename_i c;have h2:=A8_ _ _ _ _ c;simp only[]at h2 ⊢;omega)
          | (rename_i c;have d:=congrArg gsW c;rw[xm_]at d;have f:=congrArg World.drawn d;exact Nat.le_trans a (Nat.le_of_eq f)))
      | split at h)
theorem Iq_ (p:Program) (m a:Machine) (k:Nat) (h:serve p m k = .next a):m.world.drawn<=a.world.drawn:=by
 unfold serve at h;simp only[]at h
 repeat' first
  | (simp at h;done)
  | (simp only[Stepped.next.injEq]at h;subst h;exact Nat.le_refl _)
  | split at h
theorem Ir_ (p:Program) (m b:Machine) (i:Nat) (h:askOn p m = .goroutine b i):m.world.drawn<=b.world.drawn:=by
 unfold askOn at h;simp only[]at h
 repeat' first
  | (simp at h;done)
  | (simp only [Move.goroutine.injEq] at h; obtain ⟨c, hi⟩ := h; rw [<- c]; simp only [Machine.advanceTo] at *; omega)
  | (split at h<;>(try (rename_i a;have d:=bz_ a;clear a)))
theorem Is_ (p:Program) (m b:Machine) (c:Array MemOp) (h:askOn p m = .machine (.next b) c):m.world.drawn<=b.world.drawn:=by
 unfold askOn at h;simp only[]at h
 repeat' first
  | (simp at h;done)
  | (simp only[Move.machine.injEq]at h;have e:=Iq_ _ _ _ _ h.1;simp only[]at e;omega)
  | (simp only [Move.machine.injEq, Stepped.next.injEq] at h; obtain ⟨d, _⟩ := h; rw [<- d]; simp only [Machine.advanceTo] at *; omega)
  | (split at h<;>(try (rename_i a;have f:=bz_ a;clear a)))
theorem Ka_ (p:Program) (m:Machine):(∃m₂,m.world.drawn<=m₂.world.drawn/\ask p m=askOn p m₂)\/(∃o w,ask p m = .machine (.ended o w) #[]):=by
 unfold ask
 by_cases hw:m.rest.watch=true
 ·rw[if_pos hw]
  cases hr : (choose (.extern "collector.look" 2)).run p m.world with
  | halt h w=>exact .inr ⟨_,_,rfl⟩
  | ok k world=>
   have hd:=bz_ hr
   rcases k with _ | _ | k
   ·exact .inl ⟨{ m with world },hd,rfl⟩
   ·show (∃m₂,m.world.drawn<=m₂.world.drawn/\(match look p m.gs m.rest world with | .next m=>askOn p m | e=>Move.machine e)=askOn p m₂) \/
      (∃o w,(match look p m.gs m.rest world with | .next m=>askOn p m | e=>Move.machine e) = .machine (.ended o w) #[])
    cases hl:look p m.gs m.rest world with
    | next m₂=>exact .inl ⟨m₂,Nat.le_trans hd (E9_ _ _ _ _ _ hl),rfl⟩
    | ended o w=>exact .inr ⟨o,w,rfl⟩
   ·exact .inl ⟨{ m with world },hd,rfl⟩
 ·simp only[hw,Bool.false_eq_true,if_false]
  exact .inl ⟨m,Nat.le_refl _,rfl⟩
theorem Kz_ (p:Program) (m a:Machine) (i:Nat) (h:move p m = .goroutine a i):m.world.drawn<=a.world.drawn:=by
 have key:∀b:Machine,b.world=m.world->ask p b = .goroutine a i->m.world.drawn<=a.world.drawn:=λb h1 h2=>by
  rcases Ka_ p b with⟨e,d,c⟩ | ⟨o,w,c⟩
  ·rw[c]at h2;have:=Ir_ _ _ _ _ h2;rw[h1]at d;omega
  ·rw[c]at h2;cases h2
 unfold move at h;split at h
 ·split at h
  ·simp only[Move.goroutine.injEq]at h;rw[<-h.1];exact Nat.le_refl _
  ·cases h
 ·split at h
  ·split at h
   ·simp only[Move.goroutine.injEq]at h;rw[<-h.1];exact Nat.le_refl _
   ·exact key { m with rest:={ m.rest with slice:=none } } rfl h
  ·exact key m rfl h
theorem K0_ (p:Program) (m a:Machine) (c:Array MemOp) (h:move p m = .machine (.next a) c):m.world.drawn<=a.world.drawn:=by
 have key:∀b:Machine,b.world=m.world->ask p b = .machine (.next a) c->m.world.drawn<=a.world.drawn:=λb h1 h2=>by
  rcases Ka_ p b with⟨f,e,d⟩ | ⟨o,w,d⟩
  ·rw[d]at h2;have:=Is_ _ _ _ _ h2;rw[h1]at e;omega
  ·rw[d]at h2;simp at h2
 unfold move at h;split at h
 ·split at h
  ·cases h
  ·simp at h
 ·split at h
  ·split at h
   ·cases h
   ·exact key { m with rest:={ m.rest with slice:=none } } rfl h
  ·exact key m rfl h
theorem K1_ (p:Program) (m a:Machine) (h:step p m = .next a):m.world.drawn<=a.world.drawn:=by
 unfold step stepT at h
 cases hm:move p m with
 | goroutine c i=>
  rw[hm]at h;exact Nat.le_trans (Kz_ _ _ _ _ hm) (Ky_ _ _ _ _ _ h)
 | machine s b=>
  rw[hm]at h;simp only[]at h;subst h;exact K0_ _ _ _ _ hm
theorem Fa_ (p:Program) (n:Nat):∀(m a:Machine),runN p n m = .next a->m.world.drawn<=a.world.drawn:=by
 induction n with
 | zero=>
  intro m a h;unfold runN at h;injection h with h;rw[h];exact Nat.le_refl _
 | succ n b=>
  intro m a h;unfold runN at h
  cases hs:step p m with
  | next c=>rw[hs]at h;exact Nat.le_trans (K1_ _ _ _ hs) (b _ _ h)
  | ended o w=>rw[hs]at h;cases h
theorem calls_drawn {P:Program} {f:FuncId} {args:Array Value} {w:World} {R:Ending->World->Prop} (h:Calls P f args w R) :
    Calls P f args w λe w'=>R e w'/\(e ≠ .outgrown->w.drawn<=w'.drawn):=λcs=>by
 obtain⟨e,w',j,g,d,a⟩:=h cs;refine⟨e,w',j,⟨g,λi=>?_⟩,d,a⟩
 cases e with
 | returned v=>obtain⟨n,b⟩:=d;exact Fa_ _ _ _ _ b
 | panicked c=>obtain⟨n,b⟩:=d;exact Fa_ _ _ _ _ b
 | outgrown=>exact absurd rfl i
theorem grow_of_below {w w':World} (h:Below w.heap.size w w') (b:w.drawn<=w'.drawn):∃q os,w'=Sort.grow (w.drewN q) os:=by
 refine⟨w'.drawn-w.drawn,w'.heap.extract w.heap.size w'.heap.size,?_⟩;obtain⟨heap,tape,drawn,os,output⟩:=w';have h1:os=w.os:=h.os;have h2:tape=w.tape:=h.tape;have a:output=w.output:=h.output
 have c:heap=w.heap++heap.extract w.heap.size heap.size:=by
  apply Array.ext_getElem?;intro i;rcases Nat.lt_or_ge i w.heap.size with hi | hi
  ·rw[Array.getElem?_append_left hi];exact h.block i hi
  ·rw[Array.getElem?_append_right hi,Array.getElem?_extract];have d:w.heap.size<=heap.size:=h.size;split
   ·congr 1;omega
   ·rw[Array.getElem?_eq_none (by omega)]
 have e:w.drawn<=drawn:=b;unfold Sort.grow World.drewN;rw[h1,h2,a];show World.mk heap _ _ _ _=World.mk (w.heap++heap.extract w.heap.size heap.size) _ _ _ _;rw[<-c];congr 1
 show drawn=w.drawn+(drawn-w.drawn);omega
end Go.Proofs.YtefhfadjajcmkaaGreatDoor.Dn
namespace Go.Proofs.YtefhfadjajcmkaaGreatDoor
open Go.Lib (cell_of_heap)
section
open Go Go.RowKit Go.Shelf Go.Lib Go.Sort Go.Proofs
def TrS:bj_ d_:=λ_ _ t c=>bn_ t/\(∀n,ag_ (t.get n))/\∃ss:Nat->Value,(∀n,n<3->∃A a,ss n = .slice A 0 a)/\c=s_ t ss
theorem TrS.good:TrS.Good:=⟨λh _=>h,λh _=>h⟩
structure ItT where
 t:d_
 ss:Nat->Value
 sc:bn_ t
 fit:∀n,ag_ (t.get n)
 sl:∀n,n<3->∃A cap,ss n = .slice A 0 cap
def u3_:h_:=.mk 1 true 0 ⟨#[]⟩ ⟨#[]⟩ []
theorem h4_:X_ u3_:=by refine⟨?_,.inl rfl,by decide,by decide⟩;unfold u3_ I_;simp[a9_]
theorem u4_:ag_ u3_:=⟨by decide,by decide,by decide⟩
def mg_:d_:=⟨u3_,u3_,u3_⟩
theorem A9_ (n:Nat):mg_.get n=u3_:=by unfold d_.get mg_;(repeat' split)<;>rfl
instance:Inhabited ItT:=⟨⟨mg_,λ_=>.slice none 0 0,⟨h4_,h4_,h4_⟩,λn=>by rw[A9_];exact u4_,λ_ _=>⟨none,0,rfl⟩⟩⟩
def Ba_ (x:ItT):List Value:=(s_ x.t x.ss).toList
theorem Fb_ (x:ItT):(Ba_ x).length=18:=rfl
theorem u5_ (x:ItT):(Ba_ x).toArray=s_ x.t x.ss:=by unfold Ba_;rw[Array.toArray_toList]
theorem b0_ (t:d_) (ss:Nat->Value) (h:∀n,n<3->∃A l b,ss n = .slice A l b):∀v∈(s_ t ss).toList,v.oneCell'=true:=by obtain⟨m,f,e,h0⟩:=h 0 (by omega);obtain⟨k,i,g,h1⟩:=h 1 (by omega);obtain⟨c,j,d,h2⟩:=h 2 (by omega);intro v a;unfold s_ c_ at a;rw[h0,h1,h2]at a;simp only[Array.toList_append,List.mem_append,List.mem_cons,List.not_mem_nil,or_false]at a;rcases a with ((rfl | rfl | rfl | rfl | rfl | rfl) | (rfl | rfl | rfl | rfl | rfl | rfl)) | (rfl | rfl | rfl | rfl | rfl | rfl)<;>rfl
theorem Fc_ (x:ItT):∀v∈Ba_ x,v.oneCell'=true:=b0_ x.t x.ss λn b=>by
 obtain⟨A,a,e⟩:=x.sl n b;exact⟨A,0,a,e⟩
theorem j_ {a w w':World} {S:Nat->Prop} (hb:Below a.heap.size a w) (ht:Turn S w w') (d:∀b,S b->a.heap.size<=b):Below a.heap.size a w':=
 hb.trans ⟨ht.os,ht.tape,ht.output,ht.size,λk c=>ht.block k (Nat.lt_of_lt_of_le c hb.size) (λh=>by have:=d k h;omega)⟩
theorem sw_ {α I:Type} {o:α -> α -> Int} (h:fz_ o) (a : I -> α):SWO (ltOf λx y:I=>o (a x) (a y)) where
 irrefl x:=by show decide (o (a x) (a x)<0)=false;rw[h.refl];rfl
 trans x y z h1 h2:=by unfold ltOf at *;simp only [decide_eq_true_eq] at *;exact h.lt_trans h1 (by omega)
 ntrans x y z h1 h2:=by unfold ltOf at *;simp only [decide_eq_false_iff_not] at *;intro b;have c:=h.anti (a x) (a y);have e:=h.anti (a y) (a z);have d:=h.anti (a x) (a z);have:=h.trans (a z) (a y) (a x) (by omega) (by omega);omega
theorem sx_ {α : Type} [Inhabited α] (enc:α -> Value) {w:World} {b m n sz a:Nat} {e:TypeId} {c:Array Value} {d:Array α} {os:Array Obj} (h:w.heap[b]?=some (.cells c e (0,0))) (h1:n<=a) (h2:a<=maxLen) (k:c.size=a*sz) (f:d.size=n*sz) :
    (grow (putRow enc (Sort.ahead w m) b 0 d) os).ownsRow 0 e sz (.slice (some ⟨b,0,none⟩) n a) n (d.toList.map enc):=by
 have g:=b_ h;have hb:(grow (putRow enc (Sort.ahead w m) b 0 d) os).heap[b]?=some (.cells (putCells enc 0 d c) e (0,0)):=by rw[heap_grow_old _ _ (by simpa using g)];simp[putRow,mapBlock,Sort.ahead,Array.getElem?_modify,h,onCells]
 have o:n*sz<=a*sz:=Nat.mul_le_mul_right sz h1;refine⟨by simp[f],.inr ⟨b,a,_,rfl,Nat.zero_le _,hb,h1,h2,by simp[putCells,k],?_⟩⟩;apply List.ext_getElem?;intro j;by_cases i:j<n*sz
 ·rw[List.getElem?_take_of_lt i,Array.getElem?_toList];simp[putCells,f,i,show j<c.size by omega]
 ·rw[List.getElem?_take_eq_none (by omega),List.getElem?_eq_none (by simp[f];omega)]
theorem u6_ {I:Type} [Inhabited I] (enc:I->List Value) (k:Nat) (b:∀x,(enc x).length=k) (d:Array I):(flatK enc k d).toList.map id=N_ (λi=>(enc d[i]!).toArray) d.size:=by
 rw[List.map_id];apply List.ext_getElem?;intro t;have a:∀i,i<d.size->((λi=>(enc d[i]!).toArray) i).size=k:=λi _=>by simp[b]
 by_cases h:t<d.size*k
 ·have g:0<k:=by
    rcases Nat.eq_zero_or_pos k with h0 | h0
    ·rw[h0,Nat.mul_zero]at h;omega
    ·exact h0
  have hi:t / k<d.size:=Nat.div_lt_of_lt_mul (by rw[Nat.mul_comm];exact h);have e:t % k<k:=Nat.mod_lt _ g;have f:t / k*k+t % k=t:=by rw[Nat.mul_comm];exact Nat.div_add_mod t k
  have h2:=bt_ a hi e;rw[f]at h2;rw[h2,Array.getElem?_toList];have c:=get_flatK enc k d t h;rw[getElem!_pos _ t (by simpa using h)]at c;rw[Array.getElem?_eq_getElem (by simpa using h),c];simp[b,e]
 ·rw[List.getElem?_eq_none (by simp;omega),List.getElem?_eq_none (by rw[ad_ a];omega)]
section
variable {P:Program} {ρ : Ren} {α I:Type} [Inhabited I] {R:bj_ α} {w:World} {F:Nat->Prop} {l:List α} {s:Value} {sz:Nat}
theorem rc_ (L:SlLaysF0.n6 P ρ) (hR:R.Good) (ag:0<sz) (aE:∀w,(isAgg (ρ.t 24)).run P w = .ok true w) (zE:∀w,(Go.sizeOf (ρ.t 24)).run P w = .ok sz w) (enc:I->List Value) (val:I -> α)
    (hk:∀x,(enc x).length=sz) (h1:∀x,∀v∈enc x,v.oneCell'=true) (a9:∀{w:World} {F:Nat->Prop} {x:α} {c:Array Value},R w F x c->∃r,enc r=c.toList/\val r=x)
    (U:α -> α -> Int) (hO:SWO (ltOf λx y:I=>U (val x) (val y))) (g:Nat) (cb:Array Value) (eg:∀args w,(callFunc g args).run P w = .ok (.enter g args) w)
    (aa:∀(x y:I) (W:World),Turn (λb=>s.ownBlock=some b) w W->Calls P g (#[.agg (enc x).toArray,.agg (enc y).toArray]++cb) W λe w'=>e = .returned (.int .i64 (U (val x) (val y)))/\Below W.heap.size W w')
    (h:B_ (ρ.t 24) sz R w F l s) (ao:l.length<=100000000) (hF:∀b,F b->b<w.heap.size) :
    Calls P (ρ.f 6) #[s,.func (.func g) #[] cb] w λe w'=>e = .returned (.tuple #[])/\∃l':List α,l'.Perm l/\l'.Pairwise (λa b=>¬U b a<0)/\B_ (ρ.t 24) sz R w' F l' s/\Turn (λb=>s.ownBlock=some b) w w':=by
 obtain⟨cs,O,h6,aj,hr⟩:=h;rcases O.2 with⟨hs,h0⟩ | ⟨b,Y,ap,hs,_,hb,a4,a2,a8,am⟩
 ·subst hs;have ai:l=[]:=List.eq_nil_of_length_eq_zero h0;subst ai;refine (AnyF.slices_SortFunc_none L none 0 _ w).mono λe w' ⟨A,N⟩=>⟨A,[],List.Perm.refl _,List.Pairwise.nil,?_,?_⟩
  ·rw[N];exact B_.nil ..
  ·rw[N];exact Turn.refl _ _
 ·subst hs;have a5:=b_ hb
  have S:∀i,∃r:I,∀x,l[i]?=some x->enc r=(cs i).toList/\val r=x:=λi=>by
   cases B:l[i]? with
   | none=>exact⟨default,λx h=>by cases h⟩
   | some x=>
    obtain⟨r,J,G⟩:=a9 (hr i x B);exact⟨r,λy hy=>by injection hy with hy;subst hy;exact⟨J,G⟩⟩
  obtain⟨r,hi⟩:∃r:Nat->I,∀i x,l[i]?=some x->enc (r i)=(cs i).toList/\val (r i)=x:=⟨λi=>(S i).choose,λi=>(S i).choose_spec⟩;clear S;obtain⟨d,hd⟩:∃d:Array I,d=((List.range l.length).map r).toArray:=⟨_,rfl⟩;have k:d.size=l.length:=by rw[hd];simp
  have a7:∀i,i<l.length->d[i]! = r i:=λi hi=>by rw[getElem!_pos _ i (by rw[k];exact hi)];simp[hd]
  have hH:HoldsK enc sz w b 0 d:=by
   intro j Z;rw[size_flatK,k]at Z;have u:j / sz<l.length:=Nat.div_lt_of_lt_mul (by rw[Nat.mul_comm];exact Z);have V:j % sz<sz:=Nat.mod_lt _ ag;have A:j / sz*sz+j % sz=j:=by rw[Nat.mul_comm];exact Nat.div_add_mod j sz
   refine⟨?_,by simp[World.frozen?,hb]⟩;rw[get_flatK _ _ _ _ (by rw[k];exact Z),a7 _ u,(hi _ _ (List.getElem?_eq_getElem u)).1];have h2:=O.cellAt j Z;have h3:=bt_ h6 u V;rw[A]at h3;rw[h3]at h2;rw[show (0+j)=j by omega,h2];rw[getElem!_pos (cs (j / sz)).toList (j % sz) (by rw[Array.length_toList,h6 _ u];exact V)];simp[h6 _ u,V]
  have a1:d.size<4611686018427387904:=by rw[k];omega
  have a3:CmpLays P g cb enc sz (λx y=>U (val x) (val y)) b 0 d.size w:=λm os dk _ x y=>by
   have ht:Turn (λi=>(Value.slice (some ⟨b,0,none⟩) l.length Y).ownBlock=some i) w (sortWorldK enc sz w b 0 m dk os):=d5_.mono λi _ hi=>by rw[hi];rfl
   refine (Dn.calls_drawn (aa x y _ ht)).mono λe w' ⟨⟨A,ae⟩,af⟩=>⟨A,?_⟩;exact Dn.grow_of_below ae (af (by rw[A];exact λh=>by cases h))
  have X:=AnyQ.slices_SortFunc L sz aE zE enc hk h1 (λx y=>U (val x) (val y)) hO g cb b 0 Y d w eg a3 hH a5 a1;rw[k]at X;refine X.mono λe w' ⟨A,o,n,os,D,ab,N⟩=>⟨A,o.toList.map val,?_,?_,?_,?_⟩
  ·have C:=D.2.2;have J:(o.extract 0 l.length).toList=o.toList:=by rw[show l.length=o.size by rw[D.1,k]];simp
   have G:(d.extract 0 l.length).toList=d.toList:=by rw[show l.length=d.size by rw[k]];simp
   rw[J,G]at C;refine (C.map val).trans (List.Perm.of_eq ?_);rw[hd];apply List.ext_getElem?;intro i;simp only[List.map_map,List.getElem?_map];rcases Nat.lt_or_ge i l.length with h | h
   ·rw[List.getElem?_range h,List.getElem?_eq_getElem h];simp[(hi i _ (List.getElem?_eq_getElem h)).2]
   ·rw[List.getElem?_eq_none (by simpa using h),List.getElem?_eq_none h];rfl
  ·rw[List.pairwise_iff_getElem];intro i j u T ad;simp only[List.length_map,Array.length_toList]at u T;have h2:=ab i j (Nat.zero_le _) ad (by rw[<-k,<-D.1];exact T);rw[getElem!_pos _ i u,getElem!_pos _ j T]at h2;unfold ltOf at h2;simpa using h2
  ·have z:o.size=l.length:=by rw[D.1,k]
   have ah:(o.toList.map val).length=l.length:=by simp[z]
   have ht:Turn (λi=>i=b) w w':=by rw[N];exact d5_
   have a0:w'.ownsRow 0 (ρ.t 24) sz (.slice (some ⟨b,0,none⟩) l.length Y) l.length (N_ (λi=>(enc o[i]!).toArray) l.length):=by rw[N];have:=sx_ (e:=ρ.t 24) (m:=n) (os:=os) id (d:=flatK enc sz o) hb a4 a2 a8 (by rw[size_flatK,z]);rw[u6_ enc sz hk o,z]at this;exact this
   refine⟨λi=>(enc o[i]!).toArray,by rw[ah];exact a0,λi _=>by simp[hk],aj,λi x B=>?_⟩;have M:=by_ B;rw[List.length_map,Array.length_toList]at M;rw[List.getElem?_map]at B;have ak:x=val o[i]!:=by rw[List.getElem?_eq_getElem (by simpa using M)]at B;injection B with B;rw[getElem!_pos _ i M,<-B];rfl
   have E:o[i]! ∈ d.toList:=by
    have C:=D.2.2;have J:(o.extract 0 l.length).toList=o.toList:=by rw[<-z];simp
    have G:(d.extract 0 l.length).toList=d.toList:=by rw[<-k];simp
    rw[J,G]at C;refine C.mem_iff.1 ?_;rw[getElem!_pos _ i M];simp
   rw[hd]at E;simp only[List.mem_map,List.mem_range]at E;obtain⟨q,hq,a6⟩:=E;obtain⟨J,G⟩:=hi q _ (List.getElem?_eq_getElem hq);have ac:=hr q _ (List.getElem?_eq_getElem hq);show R w' _ x (enc o[i]!).toArray;rw[ak,<-a6,J,G];exact hR.keep ac (w':=w') λp D=>ht.cell (hF _ D.1) λe=>D.2 (by rw[e];rfl)
  ·rw[N];exact d5_.mono λi _ hi=>by rw[hi];rfl
end
theorem itT {w:World} {F:Nat->Prop} {x:d_} {c:Array Value} (h:TrS w F x c):∃a:ItT,Ba_ a=c.toList/\a.t=x:=by obtain⟨h1,h2,ss,b,rfl⟩:=h;exact⟨⟨x,ss,h1,h2,b⟩,rfl,rfl⟩
theorem Bb_ (W:Way) (u:W.Ok) (g:Nat) (c:World) {w:World} {F:Nat->Prop} {l:List d_} {s:Value} (h:B_ 99 18 TrS w F l s) (f:l.length<=100000000) (r:∀b,F b->b<w.heap.size)
    (hb:Below c.heap.size c w) (p:∀b,s.ownBlock=some b->c.heap.size<=b) (q:F_ c) (k:as_ c) (o:w.heap[g]?=some (.cells (e3_ W) 101 (0,0))) :
    Calls Tryz.prog 49 #[s,.func (.func 50) #[] #[.pointer (some ⟨g,0,none⟩)]] w λe w'=>e = .returned (.tuple #[])/\∃i:List d_,i.Perm l/\i.Pairwise (λa b=>¬w_ W b a<0)/\B_ 99 18 TrS w' F i s/\Turn (λb=>s.ownBlock=some b) w w':=by
 have m:s.ownBlock≠some g:=by obtain⟨cs,j,_⟩:=h;exact c8_ j o (by decide)
 refine rc_ Tryz.sortP TrS.good (by decide) Tryz.isAgg99 Tryz.sizeOf99 Ba_ ItT.t Fb_ Fc_ itT (w_ W) (sw_ (a7_ W) ItT.t) 50 #[.pointer (some ⟨g,0,none⟩)] (enters_of Tryz.func50 (by kernel_rfl) rfl) (λx y V ht=>?_) h f r;rw[u5_,u5_];have d:=j_ hb ht p;exact A2_ W u x.t y.t x.ss y.ss g V (ht.heap o m) (λn=>⟨(x.sc.get n).2.1,x.fit n⟩) y.fit (f_ q d) (n_ k d)
end
section
open Go Go.RowKit Go.Maps
def irV (s:ByteArray):h_:=.mk 8 false 0 s ⟨#[]⟩ []
theorem Bc_ (t:ByteArray) (W:World):(Instr.build 39 #[(0,.int .i64 4),(3,.string t)]).run Tryz.prog W = .ok (.agg (c_ (txV t) (.slice none 0 0))) W:=by kernel_rfl
theorem Bd_ (t:ByteArray) (W:World):(Instr.build 39 #[(0,.int .i64 8),(3,.string t)]).run Tryz.prog W = .ok (.agg (c_ (irV t) (.slice none 0 0))) W:=by kernel_rfl
def fj_ (t:ByteArray) (w:World) (e:Ending) (w':World):Prop:=e = .returned (.agg (c_ (txV t) (.slice none 0 0)))/\Below w.heap.size w w'
theorem er_ (t:ByteArray) (w:World):Calls Tryz.prog 137 #[.string t] w (fj_ t w):=by
 obtain⟨u,c⟩:=H_ (txV t) (.slice none 0 0);have r:=q_ (show u.size=(#[.int .i64 0,.bool false,.int .i64 0,.string ⟨#[]⟩,.string ⟨#[]⟩,.slice none 0 0]:Array Value).size from by rw[c.size];rfl);have j:=q_ (show (Tryz.prog.info? 39).map (·.size)=some u.size from b5_.trans (congrArg some c.size.symm));have q:=q_ (show u.all (·.oneCell')=true from by rw[<-c.o];kernel_rfl);have e:=q_ (λW:World=>(show (Instr.build 39 #[(0,.int .i64 4),(3,.string t)]).run Tryz.prog W = .ok (.agg u) W from by rw[<-c.o];exact Bc_ t W));obtain⟨z,d⟩:=a_ w.heap.size;obtain⟨k,a⟩:=a_ (w.alloc (.cells #[.int .i64 0,.bool false,.int .i64 0,.string ⟨#[]⟩,.string ⟨#[]⟩,.slice none 0 0] 39));have n:=q_ (show Below w.heap.size w k from by rw[<-a.o];exact (Below.refl _ _).alloc (Nat.le_refl _) _);have i:=q_ (show k.heap[z]?=some (.cells #[.int .i64 0,.bool false,.int .i64 0,.string ⟨#[]⟩,.string ⟨#[]⟩,.slice none 0 0] 39 (0,0)) from by rw[<-a.o,<-d.o];exact heap_alloc_new w _);have p:=q_ (λ(w':World) (hb:Below w.heap.size w w')=>(show fj_ t w (.returned (.agg u)) w' from ⟨by rw[<-c.o],hb⟩));clear c;go_enter Tryz.func137,Tryz.ntmps137
 go_upto_region 1 with fail;rw[a.o,d.o];clear a
 go_wp2_with (first
  | ((with_reducible refine e_ (some 4) ?_);refine O_ rfl 39 _ rfl #[(0,.int .i64 4),(3,.string t)] (by kernel_rfl) (.agg u) (e.o _) ?_)
  | ((with_reducible refine z_ 2 ?_);refine r_ rfl 39 _ _ rfl z (#[.int .i64 0,.bool false,.int .i64 0,.string ⟨#[]⟩,.string ⟨#[]⟩,.slice none 0 0]) u 39 rfl rfl i.o r.o j.o q.o ?_;intro w2 m f))
 have h:=q_ (show Below w.heap.size w w2 from j_ n.o f (λb hb=>by have hb:b=z:=hb;have h2:w.heap.size=z:=d.o;omega));refine bodyPost_ret (v:=.agg u) (cg_ Tryz.results137 (g:=z) rfl m _ Tryz.underlying39 rfl j.o) rfl (p.o _ h.o)
def sy_ (t:ByteArray) (w:World) (e:Ending) (w':World):Prop:=e = .returned (.agg (c_ (irV t) (.slice none 0 0)))/\Below w.heap.size w w'
theorem u7_ (t:ByteArray) (w:World):Calls Tryz.prog 65 #[.string t] w (sy_ t w):=by
 obtain⟨u,c⟩:=H_ (irV t) (.slice none 0 0);have r:=q_ (show u.size=(#[.int .i64 0,.bool false,.int .i64 0,.string ⟨#[]⟩,.string ⟨#[]⟩,.slice none 0 0]:Array Value).size from by rw[c.size];rfl);have j:=q_ (show (Tryz.prog.info? 39).map (·.size)=some u.size from b5_.trans (congrArg some c.size.symm));have q:=q_ (show u.all (·.oneCell')=true from by rw[<-c.o];kernel_rfl);have e:=q_ (λW:World=>(show (Instr.build 39 #[(0,.int .i64 8),(3,.string t)]).run Tryz.prog W = .ok (.agg u) W from by rw[<-c.o];exact Bd_ t W));obtain⟨z,d⟩:=a_ w.heap.size;obtain⟨k,a⟩:=a_ (w.alloc (.cells #[.int .i64 0,.bool false,.int .i64 0,.string ⟨#[]⟩,.string ⟨#[]⟩,.slice none 0 0] 39));have n:=q_ (show Below w.heap.size w k from by rw[<-a.o];exact (Below.refl _ _).alloc (Nat.le_refl _) _);have i:=q_ (show k.heap[z]?=some (.cells #[.int .i64 0,.bool false,.int .i64 0,.string ⟨#[]⟩,.string ⟨#[]⟩,.slice none 0 0] 39 (0,0)) from by rw[<-a.o,<-d.o];exact heap_alloc_new w _);have p:=q_ (λ(w':World) (hb:Below w.heap.size w w')=>(show sy_ t w (.returned (.agg u)) w' from ⟨by rw[<-c.o],hb⟩));clear c;go_enter Tryz.func65,Tryz.ntmps65
 go_upto_region 1 with fail;rw[a.o,d.o];clear a
 go_wp2_with (first
  | ((with_reducible refine e_ (some 4) ?_);refine O_ rfl 39 _ rfl #[(0,.int .i64 8),(3,.string t)] (by kernel_rfl) (.agg u) (e.o _) ?_)
  | ((with_reducible refine z_ 2 ?_);refine r_ rfl 39 _ _ rfl z (#[.int .i64 0,.bool false,.int .i64 0,.string ⟨#[]⟩,.string ⟨#[]⟩,.slice none 0 0]) u 39 rfl rfl i.o r.o j.o q.o ?_;intro w2 m f))
 have h:=q_ (show Below w.heap.size w w2 from j_ n.o f (λb hb=>by have hb:b=z:=hb;have h2:w.heap.size=z:=d.o;omega));refine bodyPost_ret (v:=.agg u) (cg_ Tryz.results65 (g:=z) rfl m _ Tryz.underlying39 rfl j.o) rfl (p.o _ h.o)
theorem gk_ {P:Program} {c:Array Oper} {rest:List Oper} {op:Oper} {a:Act} {w:World} {Q:Exit->Act->World->Prop} (d:op.guard=none) (ty:TypeId) (n:Nat) (b:Array (Nat×Operand)) (g:op.op = .buildSlice ty n b) (ps:Array (Nat×Value)) (f:(b.map λ(i,x)=>(i,a.eval x))=ps) (v:Value) (w':World) (k:(Instr.buildSlice ty n ps).run P w = .ok v w') (h:wpList P c Q rest (a.put op.dst v) w'):wpList P c Q (op::rest) a w:=
 wpList_plain d λ_ j=>by
  unfold Oper.wp execOp;simp only[g];have e:(Instr.buildSlice ty n (b.map λ(i,x)=>(i,a.eval x))).run P w = .ok v w':=by rw[f];exact k
  simp only[Sem.run_bind,Sem.run_pure,e,Result.andThen_ok];exact j _ _ h
theorem h5_ {P:Program} {d:Array Oper} {rest:List Oper} {op:Oper} {a:Act} {w:World} {Q:Exit->Act->World->Prop} (f:op.guard=none) (ty:TypeId) (x y:Operand) (m:op.op = .store ty x y) (g j:Nat) (c:Array Value) (T:TypeId) (v:Value) (k:a.eval x = .pointer (some ⟨g,j,none⟩)) (o:a.eval y=v)
    (e:(Instr.storeAt ty (.pointer (some ⟨g,j,none⟩)) v).run P w = .ok () (w.setCell ⟨g,j,none⟩ v)) (i:w.heap[g]?=some (.cells c T (0,0)))
    (h:∀w',w'.heap[g]?=some (.cells (c.setIfInBounds j v) T (0,0))->Turn (λb=>b=g) w w'->wpList P d Q rest (a.put op.dst undef) w'):wpList P d Q (op::rest) a w:=
 wpList_plain f λ_ n=>by
  unfold Oper.wp execOp;simp only[m,k,o,Sem.run_bind,Sem.run_pure,e,Result.andThen_ok];exact n _ _ (h _ (heap_setCell_same w g j _ T _ i) (Turn.setCell (S:=λb=>b=g) (Turn.refl _ w) (p:=⟨g,j,none⟩) (.inr rfl) v))
theorem c6_ {w:World} {g j:Nat} {c:Array Value} {T:TypeId} (a:w.heap[g]?=some (.cells c T (0,0))) (d:j<c.size) (A:Option Addr) (n b:Nat):(Instr.storeAt 67 (.pointer (some ⟨g,j,none⟩)) (.slice A n b)).run Tryz.prog w = .ok () (w.setCell ⟨g,j,none⟩ (.slice A n b)):=by have h1:=cell_of_heap a j;rw[Array.getElem?_eq_getElem d]at h1;have h2:=Lib.frozen_of_heap a j;go_simp
theorem em_ {w:World} {g j:Nat} {c:Array Value} {T:TypeId} (a:w.heap[g]?=some (.cells c T (0,0))) (d:j<c.size) (A:Option Addr) (n b:Nat):(Instr.storeAt 70 (.pointer (some ⟨g,j,none⟩)) (.slice A n b)).run Tryz.prog w = .ok () (w.setCell ⟨g,j,none⟩ (.slice A n b)):=by have h1:=cell_of_heap a j;rw[Array.getElem?_eq_getElem d]at h1;have h2:=Lib.frozen_of_heap a j;go_simp
theorem gl_ {w:World} {g j:Nat} {c:Array Value} {T:TypeId} (a:w.heap[g]?=some (.cells c T (0,0))) (d:j<c.size) (A:Option Addr) (n b:Nat):(Instr.storeAt 51 (.pointer (some ⟨g,j,none⟩)) (.slice A n b)).run Tryz.prog w = .ok () (w.setCell ⟨g,j,none⟩ (.slice A n b)):=by have h1:=cell_of_heap a j;rw[Array.getElem?_eq_getElem d]at h1;have h2:=Lib.frozen_of_heap a j;go_simp
theorem sz_ {w:World} {g j:Nat} {c:Array Value} {T:TypeId} (a:w.heap[g]?=some (.cells c T (0,0))) (d:j<c.size) (A:Option Addr) (n b:Nat):(Instr.storeAt 52 (.pointer (some ⟨g,j,none⟩)) (.slice A n b)).run Tryz.prog w = .ok () (w.setCell ⟨g,j,none⟩ (.slice A n b)):=by have h1:=cell_of_heap a j;rw[Array.getElem?_eq_getElem d]at h1;have h2:=Lib.frozen_of_heap a j;go_simp
theorem nd_ {α : Type} {R:bj_ α} {sz:Nat} {w:World} {F:Nat->Prop} {g:Nat} {c:Array Value} {T:TypeId} {b:Nat×Nat} {x:α} (f:w.heap[g]?=some (.cells c T b)) (e:c.size=sz) (h:F g) (d:R w F x c):SlR sz R w F [x] (.slice (some ⟨g,0,none⟩) 1 1):=
 ⟨_,_,rfl,Nat.le_refl _,rfl,λ_=>⟨_,rfl,h,λi y a=>by
  have hi:i=0:=by have:=(List.getElem?_eq_some_iff.1 a).1;simp at this;omega
  subst hi;simp at a;subst a;refine⟨c,e,λj k=>?_,d⟩;rw[Addr.add_mid,Nat.zero_mul,Nat.zero_add,Nat.zero_add];exact cell_of_row w g j c T b f⟩⟩
theorem y9_ {α : Type} {R:bj_ α} {sz:Nat} {w:World} {F:Nat->Prop} {g:Nat} {c d:Array Value} {T:TypeId} {a:Nat×Nat} {x y:α} (e:w.heap[g]?=some (.cells (c++d) T a)) (b:c.size=sz) (h:d.size=sz) (m:F g) (f:R w F x c) (n:R w F y d):SlR sz R w F [x,y] (.slice (some ⟨g,0,none⟩) 2 2):=
 ⟨_,_,rfl,Nat.le_refl _,rfl,λ_=>⟨_,rfl,m,λi z hz=>by
  have hi:i=0\/i=1:=by have:=(List.getElem?_eq_some_iff.1 hz).1;simp at this;omega
  rcases hi with rfl | rfl
  ·simp at hz;subst hz;refine⟨c,b,λj k=>?_,f⟩;rw[Addr.add_mid,Nat.zero_mul,Nat.zero_add,Nat.zero_add,cell_of_row w g j _ T a e,Array.getElem?_append_left (by omega)]
  ·simp at hz;subst hz;refine⟨d,h,λj k=>?_,n⟩;rw[Addr.add_mid,Nat.one_mul,Nat.zero_add,cell_of_row w g _ _ T a e,Array.getElem?_append_right (by omega),b,Nat.add_sub_cancel_left]⟩⟩
theorem fk_ (s:ByteArray) (w:World):(Instr.buildSlice 67 1 #[(0,.string s)]).run Tryz.prog w = .ok (.slice (some ⟨w.heap.size,0,none⟩) 1 1) (w.alloc (.cells #[.string s] 9)):=by kernel_rfl
theorem j9_ (k:ByteArray) (v:h_) (s:Value) (w:World):(Instr.build 69 #[(0,.string k),(1,.agg (c_ v s))]).run Tryz.prog w = .ok (.agg (cq_ ⟨k,v⟩ s)) w:=by kernel_rfl
theorem hn_ (p:C_) (s:Value) (w:World):(Instr.buildSlice 70 1 #[(0,.agg (cq_ p s))]).run Tryz.prog w = .ok (.slice (some ⟨w.heap.size,0,none⟩) 1 1) (w.alloc (.cells (cq_ p s) 69)):=by kernel_rfl
theorem o4_ (p q:C_) (s t:Value) (w:World):(Instr.buildSlice 70 2 #[(0,.agg (cq_ p s)),(1,.agg (cq_ q t))]).run Tryz.prog w = .ok (.slice (some ⟨w.heap.size,0,none⟩) 2 2) (w.alloc (.cells (cq_ p s++cq_ q t) 69)):=by kernel_rfl
structure Eq7 (c:Array Value) (p:C_) (s:Value):Prop where
 o :cq_ p s=c
theorem o5_ (p:C_) (s:Value):∃c,Eq7 c p s:=⟨_,⟨rfl⟩⟩
def ka_ (a:Int) (v:h_) (w:World) (e:Ending) (w':World):Prop:=∃L P,e = .returned (.agg #[.int .i64 a,L,P])/\SlR 1 TxR w' (λb=>w.heap.size<=b/\b<w'.heap.size) (E_ a v).labels L/\SlR 7 PaR w' (λb=>w.heap.size<=b/\b<w'.heap.size) (E_ a v).props P/\Below w.heap.size w w'
end
end Go.Proofs.YtefhfadjajcmkaaGreatDoor
