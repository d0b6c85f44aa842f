/- Appending an element with lists of its own; what mapping's Graph holds while it fills its graph. -/
import Derived.Lone
import Derived.Calls
import Derived.Below
import Derived.Sort.Grow
import Derived.Deep.Draws
import Derived.Test.YtefhfadjajcmkaaGreatDoorK3
import Derived.Test.YtefhfadjajcmkaaGreatDoorGS
import Derived.Test.YtefhfadjajcmkaaGreatDoorK4
import Derived.Test.YtefhfadjajcmkaaGreatDoorGV
import Derived.Maps.AppendAt
set_option linter.unusedVariables false
set_option linter.unusedSimpArgs false
set_option maxRecDepth 100000
set_option maxHeartbeats 64000000
namespace Go.Proofs.YtefhfadjajcmkaaGreatDoor
open Go.Ending renaming returned→XW
open Go.RowKit.Below renaming refl→XV
open Go.RowKit renaming Below→XU
open Nat renaming le_refl→XJ,lt_of_lt_of_le→XY,le_trans→YK
open Go.Obj renaming cells→XX
open List renaming getElem?_eq_getElem→XQ
open Tryz renaming prog→QW,underlying39→YZ
open Go renaming World→QV,Value→XZ
open Go.IntKind renaming i64→QU
open Option renaming some→QJ,none→QY
open Go.Lib renaming cell_of_heap→QX
open Go.Value renaming slice→QQ,string→QZ,int→QK,bool→XK,pointer→YX,tuple→YY,iface→YU
namespace Dn
open Go Go.RowKit
def Nx_ {α : Type}:Result α -> QV
 | .ok _ w=>w
 | .halt _ w=>w
theorem Cb_ {α : Type} (x:Ask α):∀w:QV,w.drawn<=(w.ask x).2.drawn:=by
 induction x with
 | done a=>intro w;exact XJ _
 | ask f e k d=>
  intro w;unfold World.ask;simp only[];split
  ·exact d _ _
  ·exact YK (Nat.le_succ _) (d _ { w with drawn:=w.drawn+1 })
theorem tm_ (w:QV) (c:Sys):w.drawn<=(w.sys c).2.drawn:=by
 unfold World.sys;have h:=Cb_ (Kernel.perform c w.os) w;split
 ·exact XJ _
 ·rename_i d;rw[d]at h;exact h
theorem C5_ {p:Program} {w w':QV} {a:Addr} {v:XZ} {b:Bool} {l:List Addr} (h:w.farStore p a v b = .ok (w',l)):w'.drawn=w.drawn:=by
 unfold World.farStore at h;split at h
 ·rename_i at_ u _
  cases hv:w.viewStore p at_ u a v b with
  | error e=>rw[hv]at h;cases h
  | ok r=>
   rw[hv]at h;injection h with h;subst h;unfold World.viewStore at hv;simp only[bind,Except.bind,pure,Except.pure]at hv
   repeat' first
    | (cases hv;done)
    | (injection hv with hv;injection hv with hv _;subst hv;rfl)
    | split at hv
 ·cases h
theorem jj_ {α : Type} (p:Program) (e:Sem α):∀w:QV,w.drawn<=(Nx_ (e.run p w)).drawn:=by
 induction e with
 | pure a=>intro w;exact XJ _
 | load m a k d=>
  intro w;simp only[Sem.run];split
  ·exact d _ _
  ·split
   ·exact d _ _
   ·exact XJ _
 | store m a v k d=>
  intro w
  cases v<;>simp only[Sem.run]<;>first
   | exact XJ _
   | (split
      ·split
       ·exact XJ _
       ·exact d (w.setCell a _)
      ·split
       ·rename_i f;have:=d ‹QV›;rw[C5_ f]at this;exact this
       ·exact XJ _)
 | new o k d=>intro w;exact d _ { w with heap:=w.heap.push o }
 | shape r k d=>intro w;exact d _ w
 | freeze a n k d=>
  intro w;have h:=d (w.freeze a n);have:(w.freeze a n).drawn=w.drawn:=by unfold World.freeze;split<;>rfl
  rw[this]at h;exact h
 | frozen a k d=>intro w;exact d _ w
 | getObj r k d=>
  intro w;simp only[Sem.run];split
  ·exact XJ _
  ·exact d _ _
  ·exact XJ _
 | setObj r o k d=>
  intro w;simp only[Sem.run];split
  ·exact XJ _
  ·exact d { w with heap:=w.heap.setIfInBounds r o }
  ·exact XJ _
 | choose q k d=>
  intro w;simp only[Sem.run];split
  ·exact d _ w
  ·exact YK (Nat.le_succ _) (d _ { w with drawn:=w.drawn+1 })
 | sys c k d=>intro w;exact YK (tm_ w c) (d _ _)
 | program k d=>intro w;exact d _ w
 | mark m k d=>intro w;exact d w
 | halt h=>intro w;exact XJ _
theorem cl_ {α : Type} {p:Program} {e:Sem α} {w w':QV} {a:α} (h:e.run p w = .ok a w'):w.drawn<=w'.drawn:=by have:=jj_ p e w;rw[h]at this;exact this
theorem bx_ {α : Type} {p:Program} {e:Sem α} {w w':QV} {a:Halt} (h:e.run p w = .halt a w'):w.drawn<=w'.drawn:=by have:=jj_ p e w;rw[h]at this;exact this
theorem bo_ (α : Type) (p:Program) (e:Sem α) (w:QV) (es:Array Event):w.drawn<=(Nx_ (e.runT p w es).1).drawn:=by rw[Sem.runT_fst];exact jj_ p e w
def gsW:GStep->QV
 | .go _ w _=>w
 | .comm _ _ _ _ w _=>w
 | .spawn _ _ w _=>w
 | .count _ w _=>w
 | .timer _ _ w _=>w
 | .alone _ _ w _=>w
 | .newcoro _ _ _ w _=>w
 | .coroswitch _ _ _ w _=>w
 | .collect _ w _=>w
 | .watch _ w _=>w
 | .ended _ w _=>w
theorem b6_ (es:Array Event) (s:GStep):gsW (GStep.after es s)=gsW s:=by cases s<;>rfl
theorem zp_ {c:Prop} [Decidable c] {a b:GStep} {n:Nat} (d:n<=(gsW a).drawn) (hb:n<=(gsW b).drawn):n<=(gsW (if c then a else b)).drawn:=by split<;>assumption
theorem C0_ (w:QV) (d:Nat) (t:ByteArray) (o:Outcome):w.drawn<=(gsW (endWith w d t o)).drawn:=by
 unfold endWith;have h:=tm_ w (.write d t);simp only[];split<;>rename_i e<;>rw[e]at h
 ·split<;>exact h
 ·exact h
 ·exact h
theorem zi_ (d:Frame) (m:String) (w:QV):gsW (endThrow d m w)=w:=rfl
theorem jy_ (p:Program) (d:Frame) (v:XZ) (w:QV):gsW (endPrinting p d v w)=w:=by unfold endPrinting;simp only[];split<;>rfl
theorem p7_ (p:Program) (f:Frame) (cs:List Frame) (d:Option Dying) (m:String) (w:QV):w.drawn<=(gsW (endFatal p f cs d m w)).drawn:=by
 unfold endFatal;simp only[];split<;>rename_i e
 ·exact cl_ e
 ·exact bx_ e
 ·exact bx_ e
theorem E9_ (p:Program) (g:Frame) (d:Dying) (f:Fatal) (w:QV):w.drawn<=(gsW (writeOn p g d f w)).drawn:=by
 unfold writeOn;simp only[];split
 ·exact XJ _
 ·split<;>rename_i e
  all_goals
   have h:=congrArg Prod.fst e;rw[Sem.runT_fst]at h
   first | exact cl_ h | exact bx_ h
theorem Oi_ (p:Program) (i:Frame) (d:Dying) (w:QV):w.drawn<=(gsW (die p i d w)).drawn:=by
 unfold die;split
 ·exact E9_ ..
 ·split
  ·split
   ·exact XJ _
   ·exact C0_ ..
  ·simp only[];split
   ·exact XJ _
   ·split<;>rename_i g
    ·exact cl_ g
    ·exact bx_ g
   ·rename_i t f e _;rw[b6_];have h:=bo_ _ p (invoke (.fn (.method e) #[]) #[YU t f]) w #[];generalize (Sem.runT p (invoke (.fn (.method e) #[]) #[YU t f]) w #[])=r at h ⊢;obtain⟨r,es⟩:=r;simp only[]at h ⊢;split
    ·exact h
    ·exact h
    ·exact h
    ·rw[jy_];exact h
    ·exact XJ _
   ·exact XJ _
theorem ea_ (p:Program) (e:Bool) (f:Frame) (cs:List Frame) (d:Option Dying) (v:XZ) (w:QV):gsW (doReturn p e f cs d v w)=w:=by
 unfold doReturn;repeat' split
 all_goals rfl
theorem pw_ (p:Program) (f:Frame) (cs:List Frame) (e:Option Dying) (d:Deferred) (w:QV):w.drawn<=(gsW (callDeferred p f cs e d w)).drawn:=by
 unfold callDeferred;refine zp_ (XJ _) ?_
 ·have h:=bo_ _ p (invoke d.target d.args) w #[];generalize (Sem.runT p (invoke d.target d.args) w #[])=r at h ⊢;obtain⟨r,es⟩:=r;simp only[b6_]at h ⊢;split
  all_goals first
   | exact h
   | (split<;>exact h)
   | exact YK h (p7_ ..)
theorem yf_ (p:Program) (g:Bool) (f:Frame) (cs:List Frame) (j:Option Dying) (w:QV):w.drawn<=(gsW (unwind p g f cs j w)).drawn:=by
 unfold unwind;split
 ·rename_i d _ ds _;have h:=bo_ _ p (Instr.takeDeferred d) w #[];generalize (Sem.runT p (Instr.takeDeferred d) w #[])=r at h ⊢;obtain⟨r,es⟩:=r;simp only[b6_]at h ⊢;split<;>exact h
 ·exact pw_ ..
 ·split
  ·exact XJ _
  ·split
   ·exact XJ _
   ·split
    ·exact XJ _
    ·split
     ·split
      ·exact XJ _
      ·split<;>rename_i e
       ·exact cl_ e
       ·exact bx_ e
       ·exact bx_ e
     ·split
      ·rw[jy_];exact XJ _
      ·exact XJ _
  ·split
   ·rw[ea_];exact XJ _
   ·rename_i i _;have h:=bo_ _ p (results i f.tmps) w #[];generalize (Sem.runT p (results i f.tmps) w #[])=r at h ⊢;obtain⟨r,es⟩:=r;simp only[b6_]at h ⊢;split
    ·rw[ea_];exact h
    ·exact h
    ·exact h
theorem Ks_ (p:Program) (i:Frame) (cs:List Frame) (h:Option Dying) (g:Nat) (w:QV):w.drawn<=(gsW (early p i cs h g w)).drawn:=by
 unfold early;simp only[];repeat' split
 all_goals first
  | exact XJ _
  | (rename_i d;first | exact cl_ d | exact bx_ d)
  | (rename_i d _;first | exact cl_ d | exact bx_ d)
  | (rename_i d _ _;first | exact cl_ d | exact bx_ d)
  | (rename_i d _ _ _;first | exact cl_ d | exact bx_ d)
  | (rename_i d _ _ _ _;first | exact cl_ d | exact bx_ d)
  | (rename_i d _ _ _ _ _;first | exact cl_ d | exact bx_ d)
  | (rename_i d _ _ _ _;have e:=cl_ d;exact e)
  | (rename_i f d _ _ _ _;have e:w.drawn<=f.drawn:=cl_ d;show w.drawn<=f.drawn;exact e)
theorem k7_ (p:Program) (d:Bool) (f:Frame) (cs:List Frame) (e:Option Dying) (s:Sem Next) (w:QV):w.drawn<=(gsW (stepG.apply p d f cs e s w)).drawn:=by
 unfold stepG.apply;simp only[]
 have h:w.drawn<=(Nx_ (if d=true then s.runT p w #[] else (s.run p w,#[])).1).drawn:=by
  split
  ·exact bo_ _ p s w #[]
  ·exact jj_ p s w
 generalize (if d=true then s.runT p w #[] else (s.run p w,#[]))=r at h ⊢
 obtain⟨r,es⟩:=r;simp only[b6_]at h ⊢;split
 all_goals first
  | exact h
  | (split<;>exact h)
  | (split<;>(try split)<;>exact h)
  | exact YK h (p7_ ..)
  | exact YK h (Ks_ ..)
theorem Nn_ (p:Program) (d:Bool) (f:Frame) (cs:List Frame) (e:Option Dying) (w:QV):w.drawn<=(gsW (stepG.oper p d f cs e w)).drawn:=by
 unfold stepG.oper;split
 ·exact XJ _
 ·split<;>exact k7_ ..
theorem G0_ (p:Program) (J B:Bool) (M:Frame) (cs:List Frame) (V:Option Dying) (w:QV):w.drawn<=(gsW (stepG.exec p J B M cs V w)).drawn:=by
 obtain⟨D,C,q,L,Y,kind,g⟩:=M;unfold stepG.exec;simp only[]
 cases q with
 | nil=>
  simp only[]
  cases g with
  | none=>first | exact XJ _ | (split<;>exact XJ _)
  | some l=>
   simp only[];have h:=bo_ _ p (Instr.endRound l QY) w #[];generalize (Sem.runT p (Instr.endRound l QY) w #[])=r at h ⊢;obtain⟨r,es⟩:=r;simp only[b6_]at h ⊢
   cases r with
   | ok v w'=>simp only[ea_];exact h
   | halt v w'=>exact h
 | cons X k=>
  cases X with
  | code c=>
   cases c with
   | ret=>
    simp only[]
    cases g with
    | none=>first | exact XJ _ | (split<;>exact XJ _)
    | some l=>
     simp only[];have h:=bo_ _ p (Instr.endRound l (some .ret)) w #[];generalize (Sem.runT p (Instr.endRound l (some .ret)) w #[])=r at h ⊢;obtain⟨r,es⟩:=r;simp only[b6_]at h ⊢
     cases r with
     | ok v w'=>simp only[ea_];exact h
     | halt v w'=>exact h
   | exit y=>
    simp only[]
    cases he:exitTo y k with
    | some l=>exact XJ _
    | none=>
     simp only[Option.elim_none]
     cases g with
     | none=>first | exact XJ _ | (split<;>exact XJ _)
     | some l=>
      simp only[];have h:=bo_ _ p (Instr.endRound l (QJ (.exit y))) w #[];generalize (Sem.runT p (Instr.endRound l (QJ (.exit y))) w #[])=r at h ⊢;obtain⟨r,es⟩:=r;simp only[b6_]at h ⊢
      cases r with
      | ok v w'=>simp only[ea_];exact h
      | halt v w'=>exact h
   | goto G=>
    simp only[]
    cases he:gotoIn G k with
    | some l=>exact XJ _
    | none=>
     simp only[Option.elim_none]
     cases g with
     | none=>first | exact XJ _ | (split<;>exact XJ _)
     | some l=>
      simp only[];have h:=bo_ _ p (Instr.endRound l (QJ (.goto G))) w #[];generalize (Sem.runT p (Instr.endRound l (QJ (.goto G))) w #[])=r at h ⊢;obtain⟨r,es⟩:=r;simp only[b6_]at h ⊢
      cases r with
      | ok v w'=>simp only[ea_];exact h
      | halt v w'=>exact h
   | cond c a b=>
    simp only[];split<;>exact XJ _
   | rangeFunc f o j x=>
    simp only[];have h:=bo_ _ p (Instr.enterLoop D C o j x g) w #[];generalize (Sem.runT p (Instr.enterLoop D C o j x g) w #[])=r at h ⊢;obtain⟨r,es⟩:=r;simp only[b6_]at h ⊢
    cases r with
    | ok v w'=>exact YK h (k7_ ..)
    | halt v w'=>exact h
   | region y O U=>
    simp only[];refine zp_ (XJ _) ?_
    cases hr:Sem.run p (choose (.order D y)) w with
    | ok t w'=>exact cl_ hr
    | halt t w'=>exact bx_ hr
   | _=>exact XJ _
  | inRegion O q=>
   cases q with
   | nil=>exact XJ _
   | cons i r=>
    simp only[];exact zp_ (Nn_ ..) (XJ _)
  | beginRound=>simp only[];exact k7_ ..
  | endRangeFunc l=>
   simp only[];have h:=bo_ _ p (Instr.endLoop l) w #[];generalize (Sem.runT p (Instr.endLoop l) w #[])=r at h ⊢;obtain⟨r,es⟩:=r;simp only[b6_]at h ⊢
   cases r with
   | ok v w'=>exact h
   | halt v w'=>cases v<;>exact h
  | call d b s v=>simp only[];exact k7_ ..
  | extern T args=>
   simp only[]
   cases he:Extern.next T with
   | none=>exact XJ _
   | some e=>simp only[Option.elim_some];exact k7_ ..
  | _=>exact XJ _
theorem Lw_ (p:Program) (o:Bool) (g:Goroutine) (w:QV) (j:Bool):w.drawn<=(gsW (stepG p o g w j)).drawn:=by
 obtain⟨q,cs,t,k,r⟩:=g;unfold stepG;simp only[]
 cases k with
 | none=>
  cases hm:q.mode with
  | run=>exact G0_ ..
  | _=>exact yf_ ..
 | some d=>
  obtain⟨a,b,i,e,f,g,h⟩:=d
  cases i with
  | false=>exact Oi_ ..
  | true=>
   cases hm:q.mode with
   | run=>exact G0_ ..
   | _=>exact yf_ ..
theorem sb_ (rest:Rest) (cases:Array CommCase) (w w':QV) (h:waitingAt rest cases w=some w'):w'.drawn=w.drawn:=by
 unfold waitingAt at h;split at h
 ·split at h
  ·injection h with h;rw[<-h]
  ·cases h
 ·injection h with h;rw[<-h]
theorem rz_ (p:Program) (rest:Rest) (q:Array Goroutine) (i:Nat) (g:Goroutine) (cases:Array CommCase) (d:Bool)
    (f:CommShape) (w:QV) (o:Machine) (h:(communicate p rest q i g cases d f w).1 = .next o):w.drawn<=o.world.drawn:=by
 unfold communicate at h;simp only[]at h;split at h
 ·simp at h
 ·split at h
  ·split at h
   ·split at h
    ·rename_i r e;simp only[Stepped.next.injEq]at h;subst h;exact Nat.le_of_eq (sb_ _ _ _ _ e).symm
    ·simp at h
   ·simp only[Stepped.next.injEq]at h;subst h;exact XJ _
  ·split at h
   ·simp at h
   ·rename_i k c t r e;have h1:=cl_ e;clear e
    repeat' first
     | (simp at h;done)
     | (simp only[Stepped.next.injEq]at h;subst h;first
         | exact h1
         | (have j:=bx_ (by assumption);exact YK h1 j)
         | (have j:=cl_ (by assumption);exact YK h1 j))
     | split at h
theorem H4_ (p:Program) (e:Array Goroutine) (rest:Rest) (w:QV) (d:Machine)
    (h:look p e rest w = .next d):w.drawn<=d.world.drawn:=by
 unfold look at h;simp only[]at h
 repeat' first
  | (simp at h;done)
  | (simp only[Stepped.next.injEq]at h;subst h;have f:=cl_ (by assumption);exact f)
  | split at h
theorem Kr_ (w:QV) (c:Nat):(drain w c).2.drawn=w.drawn:=by unfold drain;split<;>rfl
theorem xu_ (m:Machine) (k:Nat) (t:Timer) (a b:Nat):(retime m k t a b).2.world.drawn=m.world.drawn:=by
 unfold retime;simp only[];split
 ·exact Kr_ _ _
 ·rfl
theorem Bn_ (m:Machine) (g:Addr) (f:Nat->Timer->XZ×Machine) (d:Nat) (i:∀k t,(f k t).2.world.drawn=d) (v:XZ) (e:Machine) (h:timerOp.named m g f = .ok (v,e)):e.world.drawn=d:=by
 unfold timerOp.named at h;split at h
 ·injection h with h;rw[<-congrArg (λx=>x.2.world.drawn) h];exact i _ _
 ·cases h
theorem Ev_ (m:Machine) (op:TimerOp) (v:XZ) (e:Machine) (h:timerOp m op = .ok (v,e)):e.world.drawn=m.world.drawn:=by
 unfold timerOp at h
 cases op with
 | new t=>
  simp only[]at h
  repeat' first
   | (cases h;done)
   | (injection h with h;injection h with _ h;subst h;rfl)
   | split at h
 | stop g=>exact Bn_ _ _ _ _ (λk t=>xu_ ..) _ _ h
 | reset g j f=>
  simp only[]at h;split at h
  ·rename_i i d
   have h2:i.world.drawn=m.world.drawn:=by
    unfold timerOp.opened at d;split at d
    ·split at d
     ·injection d with d;rw[<-d]
     ·cases d
    ·injection d with d;rw[<-d]
   exact (Bn_ _ _ _ _ (λk t=>xu_ ..) _ _ h).trans h2
  ·cases h
 | deadline o r w t=>
  injection h with h;injection h with _ h;rw[<-h];rfl
theorem Ny_ (p:Program) (m g:Machine) (i:Nat) (b:Bool) (h:(runT p m i b).1 = .next g):m.world.drawn<=g.world.drawn:=by
 simp only[runT]at h;revert h
 generalize m.gs.swapAt! _ _=gg;have d:=Lw_ p (i==0) gg.1 m.world b;revert d
 generalize stepG p _ gg.1 m.world b=s;intro d h
 cases s<;>simp only[gsW]at h d
 all_goals first
  | (simp at h;done)
  | (simp only[Stepped.next.injEq]at h;subst h;exact d)
  | (have h2:=rz_ _ _ _ _ _ _ _ _ _ _ h;exact YK d h2)
  | (have h2:=H4_ _ _ _ _ _ h;exact YK d h2)
  | (repeat' first
      | (simp at h;done)
      | (simp only[Stepped.next.injEq]at h;subst h;first
          | exact d
          | (rename_i e;have h2:=Ev_ _ _ _ _ e;simp only[]at h2 ⊢;omega)
          | (rename_i e;have f:=congrArg gsW e;rw[zi_]at f;have j:=congrArg World.drawn f;exact YK d (Nat.le_of_eq j)))
      | split at h)
theorem Lp_ (p:Program) (m d:Machine) (k:Nat) (h:serve p m k = .next d):m.world.drawn<=d.world.drawn:=by
 unfold serve at h;simp only[]at h
 repeat' first
  | (simp at h;done)
  | (simp only[Stepped.next.injEq]at h;subst h;exact XJ _)
  | split at h
theorem J8_ (p:Program) (m e:Machine) (i:Nat) (h:askOn p m = .goroutine e i):m.world.drawn<=e.world.drawn:=by
 unfold askOn at h;simp only[]at h
 repeat' first
  | (simp at h;done)
  | (simp only [Move.goroutine.injEq] at h; obtain ⟨f, hi⟩ := h; rw [<- f]; simp only [Machine.advanceTo] at *; omega)
  | (split at h<;>(try (rename_i d;have g:=cl_ d;clear d)))
theorem J9_ (p:Program) (m e:Machine) (f:Array MemOp) (h:askOn p m = .machine (.next e) f):m.world.drawn<=e.world.drawn:=by
 unfold askOn at h;simp only[]at h
 repeat' first
  | (simp at h;done)
  | (simp only[Move.machine.injEq]at h;have g:=Lp_ _ _ _ _ h.1;simp only[]at g;omega)
  | (simp only [Move.machine.injEq, Stepped.next.injEq] at h; obtain ⟨i, _⟩ := h; rw [<- i]; simp only [Machine.advanceTo] at *; omega)
  | (split at h<;>(try (rename_i d;have j:=cl_ d;clear d)))
theorem Me_ (p:Program) (m:Machine):(∃m₂,m.world.drawn<=m₂.world.drawn/\ask p m=askOn p m₂)\/(∃o w,ask p m = .machine (.ended o w) #[]):=by
 unfold ask
 by_cases hw:m.rest.watch=true
 ·rw[if_pos hw]
  cases hr : (choose (.extern "collector.look" 2)).run p m.world with
  | halt h w=>exact .inr ⟨_,_,rfl⟩
  | ok k world=>
   have hd:=cl_ hr
   rcases k with _ | _ | k
   ·exact .inl ⟨{ m with world },hd,rfl⟩
   ·show (∃m₂,m.world.drawn<=m₂.world.drawn/\(match look p m.gs m.rest world with | .next m=>askOn p m | e=>Move.machine e)=askOn p m₂) \/
      (∃o w,(match look p m.gs m.rest world with | .next m=>askOn p m | e=>Move.machine e) = .machine (.ended o w) #[])
    cases hl:look p m.gs m.rest world with
    | next m₂=>exact .inl ⟨m₂,YK hd (H4_ _ _ _ _ _ hl),rfl⟩
    | ended o w=>exact .inr ⟨o,w,rfl⟩
   ·exact .inl ⟨{ m with world },hd,rfl⟩
 ·simp only[hw,Bool.false_eq_true,if_false]
  exact .inl ⟨m,XJ _,rfl⟩
theorem Nj_ (p:Program) (m d:Machine) (i:Nat) (h:move p m = .goroutine d i):m.world.drawn<=d.world.drawn:=by
 have key:∀e:Machine,e.world=m.world->ask p e = .goroutine d i->m.world.drawn<=d.world.drawn:=λe h1 h2=>by
  rcases Me_ p e with⟨j,g,f⟩ | ⟨o,w,f⟩
  ·rw[f]at h2;have:=J8_ _ _ _ _ h2;rw[h1]at g;omega
  ·rw[f]at h2;cases h2
 unfold move at h;split at h
 ·split at h
  ·simp only[Move.goroutine.injEq]at h;rw[<-h.1];exact XJ _
  ·cases h
 ·split at h
  ·split at h
   ·simp only[Move.goroutine.injEq]at h;rw[<-h.1];exact XJ _
   ·exact key { m with rest:={ m.rest with slice:=QY } } rfl h
  ·exact key m rfl h
theorem Nk_ (p:Program) (m d:Machine) (f:Array MemOp) (h:move p m = .machine (.next d) f):m.world.drawn<=d.world.drawn:=by
 have key:∀e:Machine,e.world=m.world->ask p e = .machine (.next d) f->m.world.drawn<=d.world.drawn:=λe h1 h2=>by
  rcases Me_ p e with⟨j,i,g⟩ | ⟨o,w,g⟩
  ·rw[g]at h2;have:=J9_ _ _ _ _ h2;rw[h1]at i;omega
  ·rw[g]at h2;simp at h2
 unfold move at h;split at h
 ·split at h
  ·cases h
  ·simp at h
 ·split at h
  ·split at h
   ·cases h
   ·exact key { m with rest:={ m.rest with slice:=QY } } rfl h
  ·exact key m rfl h
theorem Nz_ (p:Program) (m d:Machine) (h:step p m = .next d):m.world.drawn<=d.world.drawn:=by
 unfold step stepT at h
 cases hm:move p m with
 | goroutine f i=>
  rw[hm]at h;exact YK (Nj_ _ _ _ _ hm) (Ny_ _ _ _ _ _ h)
 | machine s e=>
  rw[hm]at h;simp only[]at h;subst h;exact Nk_ _ _ _ _ hm
theorem I5_ (p:Program) (n:Nat):∀(m d:Machine),runN p n m = .next d->m.world.drawn<=d.world.drawn:=by
 induction n with
 | zero=>
  intro m d h;unfold runN at h;injection h with h;rw[h];exact XJ _
 | succ n e=>
  intro m d h;unfold runN at h
  cases hs:step p m with
  | next f=>rw[hs]at h;exact YK (Nz_ _ _ _ hs) (e _ _ h)
  | ended o w=>rw[hs]at h;cases h
theorem calls_drawn {P:Program} {f:FuncId} {args:Array XZ} {w:QV} {R:Ending->QV->Prop} (h:Calls P f args w R) :
    Calls P f args w λe w'=>R e w'/\(e ≠ .outgrown->w.drawn<=w'.drawn):=λcs=>by
 obtain⟨e,w',j,k,g,d⟩:=h cs;refine⟨e,w',j,⟨k,λo=>?_⟩,g,d⟩
 cases e with
 | returned v=>obtain⟨n,i⟩:=g;exact I5_ _ _ _ _ i
 | panicked c=>obtain⟨n,i⟩:=g;exact I5_ _ _ _ _ i
 | outgrown=>exact absurd rfl o
theorem grow_of_below {w w':QV} (h:XU w.heap.size w w') (f:w.drawn<=w'.drawn):∃q os,w'=Sort.grow (w.drewN q) os:=by
 refine⟨w'.drawn-w.drawn,w'.heap.extract w.heap.size w'.heap.size,?_⟩;obtain⟨heap,tape,drawn,os,output⟩:=w';have h1:os=w.os:=h.os;have h2:tape=w.tape:=h.tape;have d:output=w.output:=h.output
 have e:heap=w.heap++heap.extract w.heap.size heap.size:=by
  apply Array.ext_getElem?;intro i;rcases Nat.lt_or_ge i w.heap.size with hi | hi
  ·rw[Array.getElem?_append_left hi];exact h.block i hi
  ·rw[Array.getElem?_append_right hi,Array.getElem?_extract];have j:w.heap.size<=heap.size:=h.size;split
   ·congr 1;omega
   ·rw[Array.getElem?_eq_none (by omega)]
 have g:w.drawn<=drawn:=f;unfold Sort.grow World.drewN;rw[h1,h2,d];show World.mk heap _ _ _ _=World.mk (w.heap++heap.extract w.heap.size heap.size) _ _ _ _;rw[<-e];congr 1
 show drawn=w.drawn+(drawn-w.drawn);omega
end Dn
open Go.Lib (cell_of_heap)
section
open Go Go.RowKit Go.Shelf Go.Lib Go.Sort Go.Proofs
def TrS:bu_ e_:=λ_ _ t c=>cn_ t/\(∀n,bt_ (t.get n))/\∃ss:Nat->XZ,(∀n,n<3->∃A cap,ss n = QQ A 0 cap)/\c=K_ t ss
theorem TrS.good:TrS.Good:=⟨λh _=>h,λh _=>h⟩
structure ItT where
 t:e_
 ss:Nat->XZ
 sc:cn_ t
 fit:∀n,bt_ (t.get n)
 sl:∀n,n<3->∃A cap,ss n = QQ A 0 cap
def yh_:g_:=.mk 1 true 0 ⟨#[]⟩ ⟨#[]⟩ []
theorem jr_:ah_ yh_:=by refine⟨?_,.inl rfl,by decide,by decide⟩;unfold yh_ z_;simp[aw_]
theorem yi_:bt_ yh_:=⟨by decide,by decide,by decide⟩
def B1_:e_:=⟨yh_,yh_,yh_⟩
theorem E1_ (n:Nat):B1_.get n=yh_:=by unfold e_.get B1_;(repeat' split)<;>rfl
instance:Inhabited ItT:=⟨⟨B1_,λ_=>.slice QY 0 0,⟨jr_,jr_,jr_⟩,λn=>by rw[E1_];exact yi_,λ_ _=>⟨QY,0,rfl⟩⟩⟩
def Cz_ (x:ItT):List XZ:=(K_ x.t x.ss).toList
theorem Gt_ (x:ItT):(Cz_ x).length=18:=rfl
theorem v5_ (x:ItT):(Cz_ x).toArray=K_ x.t x.ss:=by unfold Cz_;rw[Array.toArray_toList]
theorem cf_ (t:e_) (ss:Nat->XZ) (h:∀n,n<3->∃A l cap,ss n = QQ A l cap):∀v∈(K_ t ss).toList,v.oneCell'=true:=by obtain⟨e,o,i,h0⟩:=h 0 (by omega);obtain⟨f,p,j,h1⟩:=h 1 (by omega);obtain⟨g,l2,k,h2⟩:=h 2 (by omega);intro v d;unfold K_ c_ at d;rw[h0,h1,h2]at d;simp only[Array.toList_append,List.mem_append,List.mem_cons,List.not_mem_nil,or_false]at d;rcases d with ((rfl | rfl | rfl | rfl | rfl | rfl) | (rfl | rfl | rfl | rfl | rfl | rfl)) | (rfl | rfl | rfl | rfl | rfl | rfl)<;>rfl
theorem Gu_ (x:ItT):∀v∈Cz_ x,v.oneCell'=true:=cf_ x.t x.ss λn d=>by
 obtain⟨A,cap,e⟩:=x.sl n d;exact⟨A,0,cap,e⟩
theorem i_ {w0 w w':QV} {S:Nat->Prop} (hb:XU w0.heap.size w0 w) (ht:Turn S w w') (d:∀b,S b->w0.heap.size<=b):XU w0.heap.size w0 w':=
 hb.trans ⟨ht.os,ht.tape,ht.output,ht.size,λk e=>ht.block k (XY e hb.size) (λh=>by have:=d k h;omega)⟩
theorem u7_ {α I:Type} {o:α -> α -> Int} (h:gi_ o) (d : I -> α):SWO (ltOf λx y:I=>o (d x) (d y)) where
 irrefl x:=by show decide (o (d x) (d x)<0)=false;rw[h.refl];rfl
 trans x y z h1 h2:=by unfold ltOf at *;simp only [decide_eq_true_eq] at *;exact h.lt_trans h1 (by omega)
 ntrans x y z h1 h2:=by unfold ltOf at *;simp only [decide_eq_false_iff_not] at *;intro i;have e:=h.anti (d x) (d y);have f:=h.anti (d y) (d z);have g:=h.anti (d x) (d z);have:=h.trans (d z) (d y) (d x) (by omega) (by omega);omega
theorem By_ {α : Type} [Inhabited α] (enc:α -> XZ) {w:QV} {b m n sz cap:Nat} {e:TypeId} {f:Array XZ} {d:Array α} {os:Array Obj} (h:w.heap[b]?=QJ (XX f e (0,0))) (h1:n<=cap) (h2:cap<=maxLen) (o:f.size=cap*sz) (g:d.size=n*sz) :
    (grow (putRow enc (Sort.ahead w m) b 0 d) os).ownsRow 0 e sz (QQ (QJ ⟨b,0,QY⟩) n cap) n (d.toList.map enc):=by
 have k:=b_ h;have hb:(grow (putRow enc (Sort.ahead w m) b 0 d) os).heap[b]?=QJ (XX (putCells enc 0 d f) e (0,0)):=by rw[heap_grow_old _ _ (by simpa using k)];simp[putRow,mapBlock,Sort.ahead,Array.getElem?_modify,h,onCells]
 have p:n*sz<=cap*sz:=Nat.mul_le_mul_right sz h1;refine⟨by simp[g],.inr ⟨b,cap,_,rfl,Nat.zero_le _,hb,h1,h2,by simp[putCells,o],?_⟩⟩;apply List.ext_getElem?;intro j;by_cases i:j<n*sz
 ·rw[List.getElem?_take_of_lt i,Array.getElem?_toList];simp[putCells,g,i,show j<f.size by omega]
 ·rw[List.getElem?_take_eq_none (by omega),List.getElem?_eq_none (by simp[g];omega)]
theorem wb_ {I:Type} [Inhabited I] (enc:I->List XZ) (k:Nat) (g:∀x,(enc x).length=k) (d:Array I):(flatK enc k d).toList.map id=T_ (λi=>(enc d[i]!).toArray) d.size:=by
 rw[List.map_id];apply List.ext_getElem?;intro t;have e:∀i,i<d.size->((λi=>(enc d[i]!).toArray) i).size=k:=λi _=>by simp[g]
 by_cases h:t<d.size*k
 ·have p:0<k:=by
    rcases Nat.eq_zero_or_pos k with h0 | h0
    ·rw[h0,Nat.mul_zero]at h;omega
    ·exact h0
  have hi:t / k<d.size:=Nat.div_lt_of_lt_mul (by rw[Nat.mul_comm];exact h);have j:t % k<k:=Nat.mod_lt _ p;have o:t / k*k+t % k=t:=by rw[Nat.mul_comm];exact Nat.div_add_mod t k
  have h2:=cq_ e hi j;rw[o]at h2;rw[h2,Array.getElem?_toList];have f:=get_flatK enc k d t h;rw[getElem!_pos _ t (by simpa using h)]at f;rw[Array.getElem?_eq_getElem (by simpa using h),f];simp[g,j]
 ·rw[List.getElem?_eq_none (by simp;omega),List.getElem?_eq_none (by rw[ax_ e];omega)]
section
variable {P:Program} {ρ : Ren} {α I:Type} [Inhabited I] {R:bu_ α} {w:QV} {F:Nat->Prop} {l:List α} {s:XZ} {sz:Nat}
theorem th_ (L:SlLaysF0.n6 P ρ) (hR:R.Good) (ap:0<sz) (aE:∀w,(isAgg (ρ.t 24)).run P w = .ok true w) (zE:∀w,(Go.sizeOf (ρ.t 24)).run P w = .ok sz w) (enc:I->List XZ) (val:I -> α)
    (hk:∀x,(enc x).length=sz) (h1:∀x,∀v∈enc x,v.oneCell'=true) (ai:∀{w:QV} {F:Nat->Prop} {x:α} {c:Array XZ},R w F x c->∃r,enc r=c.toList/\val r=x)
    (Y:α -> α -> Int) (hO:SWO (ltOf λx y:I=>Y (val x) (val y))) (g:Nat) (cb:Array XZ) (eg:∀args w,(callFunc g args).run P w = .ok (.enter g args) w)
    (ae:∀(x y:I) (W:QV),Turn (λb=>s.ownBlock=QJ b) w W->Calls P g (#[.agg (enc x).toArray,.agg (enc y).toArray]++cb) W λe w'=>e = XW (QK QU (Y (val x) (val y)))/\XU W.heap.size W w')
    (h:D_ (ρ.t 24) sz R w F l s) (au:l.length<=100000000) (hF:∀b,F b->b<w.heap.size) :
    Calls P (ρ.f 6) #[s,.func (.func g) #[] cb] w λe w'=>e = XW (YY #[])/\∃l':List α,l'.Perm l/\l'.Pairwise (λa b=>¬Y b a<0)/\D_ (ρ.t 24) sz R w' F l' s/\Turn (λb=>s.ownBlock=QJ b) w w':=by
 obtain⟨cs,a3,h6,aa,hr⟩:=h;rcases a3.2 with⟨hs,h0⟩ | ⟨b,cap,av,hs,_,hb,a7,a9,ad,ar⟩
 ·subst hs;have aj:l=[]:=List.eq_nil_of_length_eq_zero h0;subst aj;refine (AnyF.slices_SortFunc_none L QY 0 _ w).mono λe w' ⟨D,X⟩=>⟨D,[],List.Perm.refl _,List.Pairwise.nil,?_,?_⟩
  ·rw[X];exact D_.nil ..
  ·rw[X];exact Turn.refl _ _
 ·subst hs;have a6:=b_ hb
  have a0:∀i,∃r:I,∀x,l[i]?=QJ x->enc r=(cs i).toList/\val r=x:=λi=>by
   cases M:l[i]? with
   | none=>exact⟨default,λx h=>by cases h⟩
   | some x=>
    obtain⟨r,O,T⟩:=ai (hr i x M);exact⟨r,λy hy=>by injection hy with hy;subst hy;exact⟨O,T⟩⟩
  obtain⟨r,hi⟩:∃r:Nat->I,∀i x,l[i]?=QJ x->enc (r i)=(cs i).toList/\val (r i)=x:=⟨λi=>(a0 i).choose,λi=>(a0 i).choose_spec⟩;clear a0;obtain⟨d,hd⟩:∃d:Array I,d=((List.range l.length).map r).toArray:=⟨_,rfl⟩;have k:d.size=l.length:=by rw[hd];simp
  have af:∀i,i<l.length->d[i]! = r i:=λi hi=>by rw[getElem!_pos _ i (by rw[k];exact hi)];simp[hd]
  have hH:HoldsK enc sz w b 0 d:=by
   intro j hj;rw[size_flatK,k]at hj;have B:j / sz<l.length:=Nat.div_lt_of_lt_mul (by rw[Nat.mul_comm];exact hj);have a2:j % sz<sz:=Nat.mod_lt _ ap;have D:j / sz*sz+j % sz=j:=by rw[Nat.mul_comm];exact Nat.div_add_mod j sz
   refine⟨?_,by simp[World.frozen?,hb]⟩;rw[get_flatK _ _ _ _ (by rw[k];exact hj),af _ B,(hi _ _ (XQ B)).1];have h2:=a3.cellAt j hj;have h3:=cq_ h6 B a2;rw[D]at h3;rw[h3]at h2;rw[show (0+j)=j by omega,h2];rw[getElem!_pos (cs (j / sz)).toList (j % sz) (by rw[Array.length_toList,h6 _ B];exact a2)];simp[h6 _ B,a2]
  have a4:d.size<4611686018427387904:=by rw[k];omega
  have a8:CmpLays P g cb enc sz (λx y=>Y (val x) (val y)) b 0 d.size w:=λm os dk _ x y=>by
   have ht:Turn (λi=>(Value.slice (QJ ⟨b,0,QY⟩) l.length cap).ownBlock=QJ i) w (sortWorldK enc sz w b 0 m dk os):=er_.mono λi _ hi=>by rw[hi];rfl
   refine (Dn.calls_drawn (ae x y _ ht)).mono λe w' ⟨⟨D,ac⟩,ag⟩=>⟨D,?_⟩;exact Dn.grow_of_below ac (ag (by rw[D];exact λh=>by cases h))
  have Z:=AnyQ.slices_SortFunc L sz aE zE enc hk h1 (λx y=>Y (val x) (val y)) hO g cb b 0 cap d w eg a8 hH a6 a4;rw[k]at Z;refine Z.mono λe w' ⟨D,o,n,os,G,ao,X⟩=>⟨D,o.toList.map val,?_,?_,?_,?_⟩
  ·have J:=G.2.2;have O:(o.extract 0 l.length).toList=o.toList:=by rw[show l.length=o.size by rw[G.1,k]];simp
   have T:(d.extract 0 l.length).toList=d.toList:=by rw[show l.length=d.size by rw[k]];simp
   rw[O,T]at J;refine (J.map val).trans (List.Perm.of_eq ?_);rw[hd];apply List.ext_getElem?;intro i;simp only[List.map_map,List.getElem?_map];rcases Nat.lt_or_ge i l.length with h | h
   ·rw[List.getElem?_range h,XQ h];simp[(hi i _ (XQ h)).2]
   ·rw[List.getElem?_eq_none (by simpa using h),List.getElem?_eq_none h];rfl
  ·rw[List.pairwise_iff_getElem];intro i j B a1 ah;simp only[List.length_map,Array.length_toList]at B a1;have h2:=ao i j (Nat.zero_le _) ah (by rw[<-k,<-G.1];exact a1);rw[getElem!_pos _ i B,getElem!_pos _ j a1]at h2;unfold ltOf at h2;simpa using h2
  ·have C:o.size=l.length:=by rw[G.1,k]
   have ak:(o.toList.map val).length=l.length:=by simp[C]
   have ht:Turn (λi=>i=b) w w':=by rw[X];exact er_
   have a5:w'.ownsRow 0 (ρ.t 24) sz (QQ (QJ ⟨b,0,QY⟩) l.length cap) l.length (T_ (λi=>(enc o[i]!).toArray) l.length):=by rw[X];have:=By_ (e:=ρ.t 24) (m:=n) (os:=os) id (d:=flatK enc sz o) hb a7 a9 ad (by rw[size_flatK,C]);rw[wb_ enc sz hk o,C]at this;exact this
   refine⟨λi=>(enc o[i]!).toArray,by rw[ak];exact a5,λi _=>by simp[hk],aa,λi x M=>?_⟩;have V:=b7_ M;rw[List.length_map,Array.length_toList]at V;rw[List.getElem?_map]at M;have aq:x=val o[i]!:=by rw[XQ (by simpa using V)]at M;injection M with M;rw[getElem!_pos _ i V,<-M];rfl
   have U:o[i]! ∈ d.toList:=by
    have J:=G.2.2;have O:(o.extract 0 l.length).toList=o.toList:=by rw[<-C];simp
    have T:(d.extract 0 l.length).toList=d.toList:=by rw[<-k];simp
    rw[O,T]at J;refine J.mem_iff.1 ?_;rw[getElem!_pos _ i V];simp
   rw[hd]at U;simp only[List.mem_map,List.mem_range]at U;obtain⟨q,hq,am⟩:=U;obtain⟨O,T⟩:=hi q _ (XQ hq);have ab:=hr q _ (XQ hq);show R w' _ x (enc o[i]!).toArray;rw[aq,<-am,O,T];exact hR.keep ab (w':=w') λp G=>ht.cell (hF _ G.1) λe=>G.2 (by rw[e];rfl)
  ·rw[X];exact er_.mono λi _ hi=>by rw[hi];rfl
end
theorem itT {w:QV} {F:Nat->Prop} {x:e_} {c:Array XZ} (h:TrS w F x c):∃d:ItT,Cz_ d=c.toList/\d.t=x:=by obtain⟨h1,h2,ss,e,rfl⟩:=h;exact⟨⟨x,ss,h1,h2,e⟩,rfl,rfl⟩
theorem Ek_ (W:Way) (C:W.Ok) (g:Nat) (w0:QV) {w:QV} {F:Nat->Prop} {l:List e_} {s:XZ} (h:D_ 99 18 TrS w F l s) (f:l.length<=100000000) (B:∀b,F b->b<w.heap.size)
    (hb:XU w0.heap.size w0 w) (k:∀b,s.ownBlock=QJ b->w0.heap.size<=b) (o:aa_ w0) (p:b4_ w0) (r:w.heap[g]?=QJ (XX (gf_ W) 101 (0,0))) :
    Calls QW 49 #[s,.func (.func 50) #[] #[YX (QJ ⟨g,0,QY⟩)]] w λe w'=>e = XW (YY #[])/\∃j:List e_,j.Perm l/\j.Pairwise (λa b=>¬s_ W b a<0)/\D_ 99 18 TrS w' F j s/\Turn (λb=>s.ownBlock=QJ b) w w':=by
 have q:s.ownBlock≠QJ g:=by obtain⟨cs,i,_⟩:=h;exact cj_ i r (by decide)
 refine th_ Tryz.sortP TrS.good (by decide) Tryz.isAgg99 Tryz.sizeOf99 Cz_ ItT.t Gt_ Gu_ itT (s_ W) (u7_ (a4_ W) ItT.t) 50 #[YX (QJ ⟨g,0,QY⟩)] (enters_of Tryz.func50 (by kernel_rfl) rfl) (λx y V ht=>?_) h f B;rw[v5_,v5_];have d:=i_ hb ht k;exact Cj_ W C x.t y.t x.ss y.ss g V (ht.heap r q) (λn=>⟨(x.sc.get n).2.1,x.fit n⟩) y.fit (k_ o d) (I_ p d)
end
section
open Go Go.RowKit Go.Maps
def irV (s:ByteArray):g_:=.mk 8 false 0 s ⟨#[]⟩ []
theorem Cg_ (t:ByteArray) (W:QV):(Instr.build 39 #[(0,QK QU 4),(3,QZ t)]).run QW W = .ok (.agg (c_ (txV t) (QQ QY 0 0))) W:=by kernel_rfl
theorem Cf_ (t:ByteArray) (W:QV):(Instr.build 39 #[(0,QK QU 8),(3,QZ t)]).run QW W = .ok (.agg (c_ (irV t) (QQ QY 0 0))) W:=by kernel_rfl
def fz_ (t:ByteArray) (w:QV) (e:Ending) (w':QV):Prop:=e = XW (.agg (c_ (txV t) (QQ QY 0 0)))/\XU w.heap.size w w'
theorem e9_ (t:ByteArray) (w:QV):Calls QW 137 #[QZ t] w (fz_ t w):=by
 obtain⟨u,e⟩:=v_ (txV t) (QQ QY 0 0);have C:=q_ (show u.size=(#[QK QU 0,XK false,QK QU 0,QZ ⟨#[]⟩,QZ ⟨#[]⟩,QQ QY 0 0]:Array XZ).size from by rw[e.size];rfl);have p:=q_ (show (Tryz.prog.info? 39).map (·.size)=QJ u.size from cr_.trans (congrArg QJ e.size.symm));have B:=q_ (show u.all (·.oneCell')=true from by rw[<-e.o];kernel_rfl);have i:=q_ (λW:QV=>(show (Instr.build 39 #[(0,QK QU 4),(3,QZ t)]).run QW W = .ok (.agg u) W from by rw[<-e.o];exact Cg_ t W));obtain⟨z,f⟩:=a_ w.heap.size;obtain⟨x,d⟩:=a_ (w.alloc (XX #[QK QU 0,XK false,QK QU 0,QZ ⟨#[]⟩,QZ ⟨#[]⟩,QQ QY 0 0] 39));have j:=q_ (show XU w.heap.size w x from by rw[<-d.o];exact (XV _ _).alloc (XJ _) _);have k:=q_ (show x.heap[z]?=QJ (XX #[QK QU 0,XK false,QK QU 0,QZ ⟨#[]⟩,QZ ⟨#[]⟩,QQ QY 0 0] 39 (0,0)) from by rw[<-d.o,<-f.o];exact heap_alloc_new w _);have y:=q_ (λ(w':QV) (hb:XU w.heap.size w w')=>(show fz_ t w (XW (.agg u)) w' from ⟨by rw[<-e.o],hb⟩));clear e;go_enter Tryz.func137,Tryz.ntmps137
 go_upto_region 1 with fail;rw[d.o,f.o];clear d
 go_wp2_with (first
  | ((with_reducible refine d_ (some 4) ?_);refine af_ rfl 39 _ rfl #[(0,QK QU 4),(3,QZ t)] (by kernel_rfl) (.agg u) (i.o _) ?_)
  | ((with_reducible refine y_ 2 ?_);refine r_ rfl 39 _ _ rfl z (#[QK QU 0,XK false,QK QU 0,QZ ⟨#[]⟩,QZ ⟨#[]⟩,QQ QY 0 0]) u 39 rfl rfl k.o C.o p.o B.o ?_;intro w2 r q))
 have h:=q_ (show XU w.heap.size w w2 from i_ j.o q (λb hb=>by have hb:b=z:=hb;have h2:w.heap.size=z:=f.o;omega));refine bodyPost_ret (v:=.agg u) (c5_ Tryz.results137 (g:=z) rfl r _ YZ rfl p.o) rfl (y.o _ h.o)
def tx_ (t:ByteArray) (w:QV) (e:Ending) (w':QV):Prop:=e = XW (.agg (c_ (irV t) (QQ QY 0 0)))/\XU w.heap.size w w'
theorem wo_ (t:ByteArray) (w:QV):Calls QW 65 #[QZ t] w (tx_ t w):=by
 obtain⟨u,e⟩:=v_ (irV t) (QQ QY 0 0);have C:=q_ (show u.size=(#[QK QU 0,XK false,QK QU 0,QZ ⟨#[]⟩,QZ ⟨#[]⟩,QQ QY 0 0]:Array XZ).size from by rw[e.size];rfl);have p:=q_ (show (Tryz.prog.info? 39).map (·.size)=QJ u.size from cr_.trans (congrArg QJ e.size.symm));have B:=q_ (show u.all (·.oneCell')=true from by rw[<-e.o];kernel_rfl);have i:=q_ (λW:QV=>(show (Instr.build 39 #[(0,QK QU 8),(3,QZ t)]).run QW W = .ok (.agg u) W from by rw[<-e.o];exact Cf_ t W));obtain⟨z,f⟩:=a_ w.heap.size;obtain⟨x,d⟩:=a_ (w.alloc (XX #[QK QU 0,XK false,QK QU 0,QZ ⟨#[]⟩,QZ ⟨#[]⟩,QQ QY 0 0] 39));have j:=q_ (show XU w.heap.size w x from by rw[<-d.o];exact (XV _ _).alloc (XJ _) _);have k:=q_ (show x.heap[z]?=QJ (XX #[QK QU 0,XK false,QK QU 0,QZ ⟨#[]⟩,QZ ⟨#[]⟩,QQ QY 0 0] 39 (0,0)) from by rw[<-d.o,<-f.o];exact heap_alloc_new w _);have y:=q_ (λ(w':QV) (hb:XU w.heap.size w w')=>(show tx_ t w (XW (.agg u)) w' from ⟨by rw[<-e.o],hb⟩));clear e;go_enter Tryz.func65,Tryz.ntmps65
 go_upto_region 1 with fail;rw[d.o,f.o];clear d
 go_wp2_with (first
  | ((with_reducible refine d_ (some 4) ?_);refine af_ rfl 39 _ rfl #[(0,QK QU 8),(3,QZ t)] (by kernel_rfl) (.agg u) (i.o _) ?_)
  | ((with_reducible refine y_ 2 ?_);refine r_ rfl 39 _ _ rfl z (#[QK QU 0,XK false,QK QU 0,QZ ⟨#[]⟩,QZ ⟨#[]⟩,QQ QY 0 0]) u 39 rfl rfl k.o C.o p.o B.o ?_;intro w2 r q))
 have h:=q_ (show XU w.heap.size w w2 from i_ j.o q (λb hb=>by have hb:b=z:=hb;have h2:w.heap.size=z:=f.o;omega));refine bodyPost_ret (v:=.agg u) (c5_ Tryz.results65 (g:=z) rfl r _ YZ rfl p.o) rfl (y.o _ h.o)
theorem g4_ {P:Program} {f:Array Oper} {rest:List Oper} {op:Oper} {a:Act} {w:QV} {Q:Exit->Act->QV->Prop} (g:op.guard=QY) (ty:TypeId) (n:Nat) (d:Array (Nat×Operand)) (p:op.op = .buildSlice ty n d) (k:Array (Nat×XZ)) (j:(d.map λ(i,x)=>(i,a.eval x))=k) (v:XZ) (w':QV) (q:(Instr.buildSlice ty n k).run P w = .ok v w') (h:wpList P f Q rest (a.put op.dst v) w'):wpList P f Q (op::rest) a w:=
 wpList_plain g λ_ o=>by
  unfold Oper.wp execOp;simp only[p];have e:(Instr.buildSlice ty n (d.map λ(i,x)=>(i,a.eval x))).run P w = .ok v w':=by rw[j];exact q
  simp only[Sem.run_bind,Sem.run_pure,e,Result.andThen_ok];exact o _ _ h
theorem jo_ {P:Program} {d:Array Oper} {rest:List Oper} {op:Oper} {a:Act} {w:QV} {Q:Exit->Act->QV->Prop} (f:op.guard=QY) (ty:TypeId) (x y:Operand) (o:op.op = .store ty x y) (g j:Nat) (c:Array XZ) (T:TypeId) (v:XZ) (q:a.eval x = .pointer (QJ ⟨g,j,QY⟩)) (r:a.eval y=v)
    (e:(Instr.storeAt ty (YX (QJ ⟨g,j,QY⟩)) v).run P w = .ok () (w.setCell ⟨g,j,QY⟩ v)) (k:w.heap[g]?=QJ (XX c T (0,0)))
    (h:∀w',w'.heap[g]?=QJ (XX (c.setIfInBounds j v) T (0,0))->Turn (λb=>b=g) w w'->wpList P d Q rest (a.put op.dst undef) w'):wpList P d Q (op::rest) a w:=
 wpList_plain f λ_ i=>by
  unfold Oper.wp execOp;simp only[o,q,r,Sem.run_bind,Sem.run_pure,e,Result.andThen_ok];exact i _ _ (h _ (heap_setCell_same w g j _ T _ k) (Turn.setCell (S:=λb=>b=g) (Turn.refl _ w) (p:=⟨g,j,QY⟩) (.inr rfl) v))
theorem dq_ {w:QV} {g j:Nat} {c:Array XZ} {T:TypeId} (d:w.heap[g]?=QJ (XX c T (0,0))) (e:j<c.size) (A:Option Addr) (n cp:Nat):(Instr.storeAt 67 (YX (QJ ⟨g,j,QY⟩)) (QQ A n cp)).run QW w = .ok () (w.setCell ⟨g,j,QY⟩ (QQ A n cp)):=by have h1:=QX d j;rw[Array.getElem?_eq_getElem e]at h1;have h2:=Lib.frozen_of_heap d j;go_simp
theorem e4_ {w:QV} {g j:Nat} {c:Array XZ} {T:TypeId} (d:w.heap[g]?=QJ (XX c T (0,0))) (e:j<c.size) (A:Option Addr) (n cp:Nat):(Instr.storeAt 70 (YX (QJ ⟨g,j,QY⟩)) (QQ A n cp)).run QW w = .ok () (w.setCell ⟨g,j,QY⟩ (QQ A n cp)):=by have h1:=QX d j;rw[Array.getElem?_eq_getElem e]at h1;have h2:=Lib.frozen_of_heap d j;go_simp
theorem hl_ {w:QV} {g j:Nat} {c:Array XZ} {T:TypeId} (d:w.heap[g]?=QJ (XX c T (0,0))) (e:j<c.size) (A:Option Addr) (n cp:Nat):(Instr.storeAt 51 (YX (QJ ⟨g,j,QY⟩)) (QQ A n cp)).run QW w = .ok () (w.setCell ⟨g,j,QY⟩ (QQ A n cp)):=by have h1:=QX d j;rw[Array.getElem?_eq_getElem e]at h1;have h2:=Lib.frozen_of_heap d j;go_simp
theorem u2_ {w:QV} {g j:Nat} {c:Array XZ} {T:TypeId} (d:w.heap[g]?=QJ (XX c T (0,0))) (e:j<c.size) (A:Option Addr) (n cp:Nat):(Instr.storeAt 52 (YX (QJ ⟨g,j,QY⟩)) (QQ A n cp)).run QW w = .ok () (w.setCell ⟨g,j,QY⟩ (QQ A n cp)):=by have h1:=QX d j;rw[Array.getElem?_eq_getElem e]at h1;have h2:=Lib.frozen_of_heap d j;go_simp
theorem o1_ {α : Type} {R:bu_ α} {sz:Nat} {w:QV} {F:Nat->Prop} {g:Nat} {c:Array XZ} {T:TypeId} {e:Nat×Nat} {x:α} (o:w.heap[g]?=QJ (XX c T e)) (k:c.size=sz) (f:F g) (h:R w F x c):SlR sz R w F [x] (QQ (QJ ⟨g,0,QY⟩) 1 1):=
 ⟨_,_,rfl,XJ _,rfl,λ_=>⟨_,rfl,f,λi y d=>by
  have hi:i=0:=by have:=(List.getElem?_eq_some_iff.1 d).1;simp at this;omega
  subst hi;simp at d;subst d;refine⟨c,k,λj p=>?_,h⟩;rw[Addr.add_mid,Nat.zero_mul,Nat.zero_add,Nat.zero_add];exact cell_of_row w g j c T e o⟩⟩
theorem B0_ {α : Type} {R:bu_ α} {sz:Nat} {w:QV} {F:Nat->Prop} {g:Nat} {c d:Array XZ} {T:TypeId} {e:Nat×Nat} {x y:α} (h:w.heap[g]?=QJ (XX (c++d) T e)) (f:c.size=sz) (q:d.size=sz) (k:F g) (o:R w F x c) (p:R w F y d):SlR sz R w F [x,y] (QQ (QJ ⟨g,0,QY⟩) 2 2):=
 ⟨_,_,rfl,XJ _,rfl,λ_=>⟨_,rfl,k,λi z hz=>by
  have hi:i=0\/i=1:=by have:=(List.getElem?_eq_some_iff.1 hz).1;simp at this;omega
  rcases hi with rfl | rfl
  ·simp at hz;subst hz;refine⟨c,f,λj r=>?_,o⟩;rw[Addr.add_mid,Nat.zero_mul,Nat.zero_add,Nat.zero_add,cell_of_row w g j _ T e h,Array.getElem?_append_left (by omega)]
  ·simp at hz;subst hz;refine⟨d,q,λj r=>?_,p⟩;rw[Addr.add_mid,Nat.one_mul,Nat.zero_add,cell_of_row w g _ _ T e h,Array.getElem?_append_right (by omega),f,Nat.add_sub_cancel_left]⟩⟩
theorem f1_ (s:ByteArray) (w:QV):(Instr.buildSlice 67 1 #[(0,QZ s)]).run QW w = .ok (QQ (QJ ⟨w.heap.size,0,QY⟩) 1 1) (w.alloc (XX #[QZ s] 9)):=by kernel_rfl
theorem ld_ (k:ByteArray) (v:g_) (s:XZ) (w:QV):(Instr.build 69 #[(0,QZ k),(1,.agg (c_ v s))]).run QW w = .ok (.agg (dc_ ⟨k,v⟩ s)) w:=by kernel_rfl
theorem ig_ (p:G_) (s:XZ) (w:QV):(Instr.buildSlice 70 1 #[(0,.agg (dc_ p s))]).run QW w = .ok (QQ (QJ ⟨w.heap.size,0,QY⟩) 1 1) (w.alloc (XX (dc_ p s) 69)):=by kernel_rfl
theorem pv_ (p q:G_) (s t:XZ) (w:QV):(Instr.buildSlice 70 2 #[(0,.agg (dc_ p s)),(1,.agg (dc_ q t))]).run QW w = .ok (QQ (QJ ⟨w.heap.size,0,QY⟩) 2 2) (w.alloc (XX (dc_ p s++dc_ q t) 69)):=by kernel_rfl
structure Eq7 (c:Array XZ) (p:G_) (s:XZ):Prop where
 o :dc_ p s=c
theorem qn_ (p:G_) (s:XZ):∃c,Eq7 c p s:=⟨_,⟨rfl⟩⟩
def k1_ (d:Int) (v:g_) (w:QV) (e:Ending) (w':QV):Prop:=∃L P,e = XW (.agg #[QK QU d,L,P])/\SlR 1 TxR w' (λb=>w.heap.size<=b/\b<w'.heap.size) (L_ d v).labels L/\SlR 7 PaR w' (λb=>w.heap.size<=b/\b<w'.heap.size) (L_ d v).props P/\XU w.heap.size w w'
theorem sh1 {P:Prop} {H G:Nat->QV->Prop} (h1:(∀a w,H a w->G a w)->P) (h2:∀a w,H a w->G a w):P:=h1 h2
theorem sh2 {P:Prop} {H G:Nat->Nat->QV->Prop} (h1:(∀a b w,H a b w->G a b w)->P) (h2:∀a b w,H a b w->G a b w):P:=h1 h2
def NdS (z1 z2:Nat):Nat->Prop:=λb=>b=z1\/b=z2
theorem Turn.ofB {S:Nat->Prop} {w w':QV} (hb:XU w.heap.size w w'):Turn S w w':=⟨hb.os,hb.tape,hb.output,hb.size,λi hi _=>hb.block i hi⟩
theorem ao_ (d:Int) (L P:XZ):(Tryz.prog.info? 72).map (·.size)=QJ (#[QK QU d,L,P]:Array XZ).size:=by kernel_rfl
theorem fo_ (e:Int) (A:Option Addr) (n c:Nat) (B:Option Addr) (m d:Nat):(#[QK QU e,QQ A n c,QQ B m d]:Array XZ).all (·.oneCell')=true:=by kernel_rfl
theorem w5_ (d:Int) {v:g_} (h:v.kind=8):L_ d v=⟨d,[⟨#[73,114,105]⟩],[⟨⟨#[118]⟩,txV v.text⟩]⟩:=by unfold L_;rw[if_pos h];rfl
theorem qq_ (d:Int) {v:g_} (h:v.kind=9):L_ d v=⟨d,[⟨#[66,108,97,110,107]⟩],[⟨⟨#[118]⟩,txV v.text⟩]⟩:=by unfold L_;rw[if_neg (by omega),if_pos h];rfl
theorem w6_ (d:Int) {v:g_} (h:v.kind=10):L_ d v=⟨d,[⟨#[76,105,116]⟩],[⟨⟨#[118]⟩,txV v.text⟩,⟨⟨#[120]⟩,txV v.extra⟩]⟩:=by unfold L_;rw[if_neg (by omega),if_neg (by omega),if_pos h];rfl
theorem w7_ (d:Int) {v:g_} (h:v.kind≠8) (h2:v.kind≠9) (e:v.kind≠10):L_ d v=⟨d,[⟨#[86,97,108]⟩],[⟨⟨#[118]⟩,v⟩]⟩:=by unfold L_;rw[if_neg h,if_neg h2,if_neg e];rfl
theorem dl_ {P:Program} {op:Oper} {a:Act} {w:QV} {K:Act->QV->Prop} {Q:Exit->Act->QV->Prop} (ty:TypeId) (n:Nat) (d:Array (Nat×Operand)) (j:op.op = .buildSlice ty n d) (g:Array (Nat×XZ)) (f:(d.map λ(i,x)=>(i,a.eval x))=g) (v:XZ) (w':QV) (k:(Instr.buildSlice ty n g).run P w = .ok v w') (h:K (a.put op.dst v) w'):op.wp P a w K Q:=by
 unfold Oper.wp execOp;simp only[j];have e:(Instr.buildSlice ty n (d.map λ(i,x)=>(i,a.eval x))).run P w = .ok v w':=by rw[f];exact k
 simp only[Sem.run_bind,Sem.run_pure,e,Result.andThen_ok];exact h
theorem dy_ {P:Program} {op:Oper} {a:Act} {w:QV} {K:Act->QV->Prop} {Q:Exit->Act->QV->Prop} (ty:TypeId) (x y:Operand) (f:op.op = .store ty x y) (g j:Nat) (c:Array XZ) (T:TypeId) (v:XZ) (i:a.eval x = .pointer (QJ ⟨g,j,QY⟩)) (k:a.eval y=v)
    (d:(Instr.storeAt ty (YX (QJ ⟨g,j,QY⟩)) v).run P w = .ok () (w.setCell ⟨g,j,QY⟩ v)) (e:w.heap[g]?=QJ (XX c T (0,0)))
    (h:∀w',w'.heap[g]?=QJ (XX (c.setIfInBounds j v) T (0,0))->Turn (λb=>b=g) w w'->K (a.put op.dst undef) w'):op.wp P a w K Q:=by
 unfold Oper.wp execOp;simp only[f,i,k,Sem.run_bind,Sem.run_pure,d,Result.andThen_ok];exact h _ (heap_setCell_same w g j _ T _ e) (Turn.setCell (S:=λb=>b=g) (Turn.refl _ w) (p:=⟨g,j,QY⟩) (.inr rfl) v)
theorem dk_ {P:Program} {a:Act} {w:QV} (ty:TypeId) (d:Array (Nat×Operand)) (f:Array (Nat×XZ)) (v:XZ) (e:(d.map λ(i,x)=>(i,a.eval x))=f) (g:(Instr.build ty f).run P w = .ok v w) :
    (do pure (Next.value (<-Instr.build ty (d.map λ(i,x)=>(i,a.eval x)))):Sem Next).run P w = .ok (.value v) w:=by
 rw[e];simp[g]
structure NdI (w4:QV) (z z1 z2:Nat) (u:Array XZ) (lab:Option (Nat×ByteArray)) (pr:Option (Nat×Array XZ)) (c:Array XZ) (W:QV):Prop where
 b:Turn (NdS z1 z2) w4 W
 hz:z<w4.heap.size/\z1<w4.heap.size/\z2<w4.heap.size/\z≠z2/\z1≠z2
 u:W.heap[z]?=QJ (XX u 39 (0,0))
 n:W.heap[z2]?=QJ (XX c 72 (0,0))
 m:W.heap[z1]?=QJ (XX #[QK QU 0,QQ QY 0 0,QQ QY 0 0] 72 (0,0))
 l:∀g s,lab=QJ (g,s)->w4.heap.size<=g/\W.heap[g]?=QJ (XX #[QZ s] 9 (0,0))
 p:∀g cp,pr=QJ (g,cp)->w4.heap.size<=g/\W.heap[g]?=QJ (XX cp 69 (0,0))
section
variable {w4 W W':QV} {z z1 z2:Nat} {u c c':Array XZ} {lab:Option (Nat×ByteArray)} {pr:Option (Nat×Array XZ)}
theorem NdI.on (h:NdI w4 z z1 z2 u lab pr c W) (hb:XU W.heap.size W W'):NdI w4 z z1 z2 u lab pr c W':=
 ⟨h.b.trans (Turn.ofB hb),h.hz,(hb.block z (b_ h.u)).trans h.u,(hb.block z2 (b_ h.n)).trans h.n,(hb.block z1 (b_ h.m)).trans h.m,
  λg s e=>⟨(h.l g s e).1,(hb.block g (b_ (h.l g s e).2)).trans (h.l g s e).2⟩,λg cp e=>⟨(h.p g cp e).1,(hb.block g (b_ (h.p g cp e).2)).trans (h.p g cp e).2⟩⟩
theorem NdI.lab1 (h:NdI w4 z z1 z2 u QY pr c W) (s:ByteArray):NdI w4 z z1 z2 u (QJ (W.heap.size,s)) pr c (W.alloc (XX #[QZ s] 9)):=
 let k:=h.on ((XV _ W).alloc (XJ _) (XX #[QZ s] 9))
 ⟨k.b,k.hz,k.u,k.n,k.m,λg t e=>by
  injection e with e;injection e with e1 e2;subst e1 e2;exact⟨h.b.size,heap_alloc_new _ _⟩,k.p⟩
theorem NdI.pair1 (h:NdI w4 z z1 z2 u lab QY c W) (cp:Array XZ):NdI w4 z z1 z2 u lab (QJ (W.heap.size,cp)) c (W.alloc (XX cp 69)):=
 let k:=h.on ((XV _ W).alloc (XJ _) (XX cp 69))
 ⟨k.b,k.hz,k.u,k.n,k.m,k.l,λg t e=>by
  injection e with e;injection e with e1 e2;subst e1 e2;exact⟨h.b.size,heap_alloc_new _ _⟩⟩
theorem NdI.set (h:NdI w4 z z1 z2 u lab pr c W) (f:W'.heap[z2]?=QJ (XX c' 72 (0,0))) (ht:Turn (λb=>b=z2) W W'):NdI w4 z z1 z2 u lab pr c' W':=
 ⟨h.b.trans (ht.mono λ_ _ e=>.inr e),h.hz,(ht.block z (b_ h.u) h.hz.2.2.2.1).trans h.u,f,(ht.block z1 (b_ h.m) h.hz.2.2.2.2).trans h.m,
  λg s e=>⟨(h.l g s e).1,(ht.block g (b_ (h.l g s e).2) (λd=>by have d:g=z2:=d;have:=(h.l g s e).1;have:=h.hz.2.2.1;omega)).trans (h.l g s e).2⟩,
  λg cp e=>⟨(h.p g cp e).1,(ht.block g (b_ (h.p g cp e).2) (λd=>by have d:g=z2:=d;have:=(h.p g cp e).1;have:=h.hz.2.2.1;omega)).trans (h.p g cp e).2⟩⟩
end
theorem je_ {f:Int} {v:g_} {w w4 W B:QV} {z z1 z2 d zp:Nat} {u c cp:Array XZ} {s:ByteArray} {y:List G_} {n:Nat} (g:XU w.heap.size w w4) (hz:w.heap.size<=z1/\w.heap.size<=z2)
    (h:NdI w4 z z1 z2 u (QJ (d,s)) (QJ (zp,cp)) c W) (k:Turn (λb=>b=z1) W B)
    (x:∀W:QV,∀F:Nat->Prop,F zp->W.heap[zp]?=QJ (XX cp 69 (0,0))->SlR 7 PaR W F y (QQ (QJ ⟨zp,0,QY⟩) n n)) (o:(L_ f v).labels=[s]) (t:(L_ f v).props=y) :
    k1_ f v w (XW (.agg #[QK QU f,QQ (QJ ⟨d,0,QY⟩) 1 1,QQ (QJ ⟨zp,0,QY⟩) n n])) B:=by
 obtain⟨C,q⟩:=h.l d s rfl;obtain⟨D,r⟩:=h.p zp cp rfl;have i:=(k.block d (b_ q) (λe=>by have e:d=z1:=e;have:=h.hz.2.1;omega)).trans q;have j:=(k.block zp (b_ r) (λe=>by have e:zp=z1:=e;have:=h.hz.2.1;omega)).trans r;have G:=g.size;refine⟨_,_,rfl,?_,?_,i_ g (h.b.trans (k.mono λ_ _ e=>.inl e)) (λb h=>by rcases h with h | h<;>omega)⟩
 ·rw[o];exact o1_ (R:=TxR) i rfl ⟨by omega,b_ i⟩ rfl
 ·rw[t];exact x _ _ ⟨by omega,b_ j⟩ j
theorem st_ (d:Int) (v:g_) (hs:v.list=[]) (A:Option Addr) (cap:Nat) (w:QV):Calls QW 71 #[QK QU d,.agg (c_ v (QQ A 0 cap))] w (k1_ d v w):=by
 obtain⟨s,HS⟩:=a_ (Value.slice A 0 cap);have eq:=q_ (λ(W:QV) (F:Nat->Prop)=>ks_ W F hs A cap);rw[HS.o]at eq ⊢;obtain⟨u,Hu⟩:=v_ v s;rw[Hu.o];obtain⟨z,HZ⟩:=a_ w.heap.size;obtain⟨z1,e1⟩:=a_ (w.heap.size+1);obtain⟨z2,e2⟩:=a_ (w.heap.size+1+1);obtain⟨w3,ar⟩:=a_ (((w.alloc (XX u 39)).alloc (XX #[QK QU 0,QQ QY 0 0,QQ QY 0 0] 72)).alloc (XX #[QK QU 0,QQ QY 0 0,QQ QY 0 0] 72));have f2:=q_ (show XU w.heap.size w w3 from by rw[<-ar.o];exact (((XV w.heap.size w).alloc (XJ _) _).alloc (by simp) _).alloc (by simp;omega) _);have em:=q_ (show w3.heap[z]?=QJ (XX u 39 (0,0)) from by rw[<-ar.o,<-HZ.o,heap_alloc_old _ _ (by simp;omega),heap_alloc_old _ _ (by simp)];exact heap_alloc_new w _);have en:=q_ (show w3.heap[z1]?=QJ (XX #[QK QU 0,QQ QY 0 0,QQ QY 0 0] 72 (0,0)) from by rw[<-ar.o,<-e1.o,heap_alloc_old _ _ (by simp)];have h:=heap_alloc_new (w.alloc (XX u 39)) (XX #[QK QU 0,QQ QY 0 0,QQ QY 0 0] 72);rwa [show (w.alloc (XX u 39)).heap.size=w.heap.size+1 from by simp]at h);have eo:=q_ (show w3.heap[z2]?=QJ (XX #[QK QU 0,QQ QY 0 0,QQ QY 0 0] 72 (0,0)) from by rw[<-ar.o,<-e2.o];have h:=heap_alloc_new ((w.alloc (XX u 39)).alloc (XX #[QK QU 0,QQ QY 0 0,QQ QY 0 0] 72)) (XX #[QK QU 0,QQ QY 0 0,QQ QY 0 0] 72);rwa [show ((w.alloc (XX u 39)).alloc (XX #[QK QU 0,QQ QY 0 0,QQ QY 0 0] 72)).heap.size=w.heap.size+1+1 from by simp]at h);have L:=q_ (show w.heap.size<=z/\z1=z+1/\z2=z+2/\z2<w3.heap.size from by have h0:w.heap.size=z:=HZ.o;have h1:w.heap.size+1=z1:=e1.o;have h2:w.heap.size+1+1=z2:=e2.o;have:=b_ eo.o;omega);go_enter Tryz.func71,Tryz.ntmps71
 go_upto_region 2 with ((with_reducible refine y_ 5 ?_);rw[ar.o,e2.o,e1.o,HZ.o];refine r_ rfl 72 _ _ rfl z2 (#[QK QU 0,QQ QY 0 0,QQ QY 0 0]) (#[QK QU d,QQ QY 0 0,QQ QY 0 0]) 72 rfl rfl eo.o rfl (ao_ d _ _) (fo_ d QY 0 0 QY 0 0) ?_;intro w4 er c2)
 have f6:=q_ er;have f7:=q_ (show Turn (NdS z1 z2) w3 w4 from c2.mono λi _ h=>.inr h);have bo:=q_ ((c2.block z (b_ em.o) (λe=>by have e:z=z2:=e;have:=L.o;omega)).trans em.o);have ep:=q_ ((c2.block z1 (b_ en.o) (λe=>by have e:z1=z2:=e;have:=L.o;omega)).trans en.o);have cj:=q_ (show XU w.heap.size w w4 from i_ f2.o f7.o (λb h=>by have:=L.o;rcases h with h | h<;>omega))
 have f4:=q_ (XY L.o.2.2.2 c2.size);obtain⟨k,Hk⟩:=a_ v.kind;obtain⟨tx,Ht⟩:=a_ v.text;obtain⟨ex,He⟩:=a_ v.extra;have q0:w4.cell? ⟨z,0,none⟩=some (QK QU k):=(QX bo.o 0).trans (by rw[<-Hu.o,<-Hk.o];rfl);have q3:w4.cell? ⟨z,3,none⟩=some (QZ tx):=(QX bo.o 3).trans (by rw[<-Hu.o,<-Ht.o];rfl);have q4:w4.cell? ⟨z,4,none⟩=some (QZ ex):=(QX bo.o 4).trans (by rw[<-Hu.o,<-He.o];rfl);have f3:=q_ (λ(W:QV) (j:Nat) (D:j<u.size) (h:W.heap[z]?=some (XX u 39 (0,0)))=>(show W.cell? ((⟨z,0,none⟩:Addr).add j)=u[j]? from by rw[Addr.add_mid,Nat.zero_add];exact cell_of_row W z j u _ _ h));clear er c2 ar;have aq:=q_ (show NdI w4 z z1 z2 u none none #[QK QU d,QQ none 0 0,QQ none 0 0] w4 from ⟨Turn.refl _ _,⟨b_ bo.o,b_ ep.o,f4.o,by have:=L.o;omega,by have:=L.o;omega⟩,bo.o,f6.o,ep.o,(λ_ _ h=>by cases h),(λ_ _ h=>by cases h)⟩);clear q3 q4 f3;by_cases Y:k=8
 ·rw[Y]at q0;obtain⟨ut,a5⟩:=v_ (txV tx) (QQ QY 0 0);obtain⟨cp,x⟩:=qn_ ⟨⟨#[118]⟩,txV tx⟩ (QQ QY 0 0);have a8:=q_ (λW:QV=>(show (Instr.build 69 #[(0,QZ ⟨#[118]⟩),(1,.agg ut)]).run QW W = .ok (.agg cp) W from by rw[<-a5.o,<-x.o];exact ld_ _ _ _ _));obtain⟨C,e6⟩:=a_ w4.heap.size;obtain⟨c4,e4⟩:=a_ (w4.alloc (XX #[QZ ⟨#[73,114,105]⟩] 9));have ew:=q_ (show (Instr.buildSlice 67 1 #[(0,QZ ⟨#[73,114,105]⟩)]).run QW w4 = .ok (QQ (QJ ⟨C,0,QY⟩) 1 1) c4 from by rw[<-e6.o,<-e4.o];exact f1_ _ _);have el:=q_ (show NdI w4 z z1 z2 u (QJ (C,⟨#[73,114,105]⟩)) QY #[QK QU d,QQ QY 0 0,QQ QY 0 0] c4 from by rw[<-e4.o,<-e6.o];exact aq.o.lab1 _);have di:=e9_ tx c4;unfold fz_ at di;rw[a5.o]at di;have f9:c4.cell? ⟨z,3,QY⟩=QJ (QZ tx):=(QX el.o.u 3).trans (by rw[<-Hu.o,<-Ht.o];rfl);go_wp2_with ((with_reducible refine d_ (some 18) ?_);refine g4_ rfl 67 1 _ rfl #[(0,QZ ⟨#[73,114,105]⟩)] (by kernel_rfl) (QQ (QJ ⟨C,0,QY⟩) 1 1) c4 ew.o ?_)
  refine di.mono ?_;rintro e w5 ⟨rfl,hb⟩;have f5:=q_ (show NdI w4 z z1 z2 u (QJ (C,⟨#[73,114,105]⟩)) QY #[QK QU d,QQ QY 0 0,QQ QY 0 0] w5 from el.o.on hb);clear hb di f9;obtain⟨Z,e7⟩:=a_ w5.heap.size;obtain⟨eg,e5⟩:=a_ (w5.alloc (XX cp 69));have ei:=q_ (show (Instr.buildSlice 70 1 #[(0,.agg cp)]).run QW w5 = .ok (QQ (QJ ⟨Z,0,QY⟩) 1 1) eg from by rw[<-e7.o,<-e5.o,<-x.o];exact ig_ _ _ _);have c5:=q_ (show NdI w4 z z1 z2 u (QJ (C,⟨#[73,114,105]⟩)) (QJ (Z,cp)) #[QK QU d,QQ QY 0 0,QQ QY 0 0] eg from by rw[<-e5.o,<-e7.o];exact f5.o.pair1 _)
  go_wp2_with (first
   | ((with_reducible refine d_ (some 22) ?_);refine af_ rfl 69 _ rfl #[(0,QZ ⟨#[118]⟩),(1,.agg ut)] (by kernel_rfl) (.agg cp) (a8.o _) ?_)
   | ((with_reducible refine d_ (some 23) ?_);refine g4_ rfl 70 1 _ rfl #[(0,.agg cp)] (by kernel_rfl) (QQ (QJ ⟨Z,0,QY⟩) 1 1) eg ei.o ?_)
   | ((with_reducible refine y_ 24 ?_);refine jo_ rfl 67 _ _ rfl z2 1 (#[QK QU d,QQ QY 0 0,QQ QY 0 0]) 72 (QQ (QJ ⟨C,0,QY⟩) 1 1) rfl rfl (dq_ c5.o.n (by show 1<3;omega) _ _ _) c5.o.n ?_;intro fa t r;have c6:=q_ (show NdI w4 z z1 z2 u (QJ (C,⟨#[73,114,105]⟩)) (QJ (Z,cp)) #[QK QU d,QQ (QJ ⟨C,0,QY⟩) 1 1,QQ QY 0 0] fa from c5.o.set (show _=QJ (Obj.cells (#[QK QU d,QQ (QJ ⟨C,0,QY⟩) 1 1,QQ QY 0 0]) 72 (0,0)) from t) r);clear t r)
   | ((with_reducible refine y_ 25 ?_);refine jo_ rfl 70 _ _ rfl z2 2 (#[QK QU d,QQ (QJ ⟨C,0,QY⟩) 1 1,QQ QY 0 0]) 72 (QQ (QJ ⟨Z,0,QY⟩) 1 1) rfl rfl (e4_ c6.o.n (by show 2<3;omega) _ _ _) c6.o.n ?_;intro fb t r;have c7:=q_ (show NdI w4 z z1 z2 u (QJ (C,⟨#[73,114,105]⟩)) (QJ (Z,cp)) #[QK QU d,QQ (QJ ⟨C,0,QY⟩) 1 1,QQ (QJ ⟨Z,0,QY⟩) 1 1] fb from c6.o.set (show _=QJ (Obj.cells (#[QK QU d,QQ (QJ ⟨C,0,QY⟩) 1 1,QQ (QJ ⟨Z,0,QY⟩) 1 1]) 72 (0,0)) from t) r);clear t r)
   | ((with_reducible refine d_ (some 50) ?_);refine x_ rfl 72 _ rfl z2 0 rfl (#[QK QU d,QQ (QJ ⟨C,0,QY⟩) 1 1,QQ (QJ ⟨Z,0,QY⟩) 1 1]) _ (m_ c7.o.n) Tryz.underlying72 rfl (ao_ d _ _) ?_)
   | ((with_reducible refine y_ 4 ?_);refine r_ rfl 72 _ _ rfl z1 (#[QK QU 0,QQ QY 0 0,QQ QY 0 0]) (#[QK QU d,QQ (QJ ⟨C,0,QY⟩) 1 1,QQ (QJ ⟨Z,0,QY⟩) 1 1]) 72 rfl rfl c7.o.m rfl (ao_ d _ _) (fo_ d _ _ _ _ _ _) ?_;intro fh ai ah))
  refine bodyPost_ret (v:=.agg (#[QK QU d,QQ (QJ ⟨C,0,QY⟩) 1 1,QQ (QJ ⟨Z,0,QY⟩) 1 1])) (c5_ Tryz.results71 (g:=z1) rfl ai _ Tryz.underlying72 rfl (ao_ d _ _)) rfl ?_;exact je_ cj.o ⟨by have:=L.o;omega,by have:=L.o;omega⟩ c7.o ah (λW F hF hW=>o1_ (R:=PaR) hW (by rw[<-x.o];rfl) hF ⟨QQ QY 0 0,x.o.symm,ks_ W F rfl QY 0⟩) (by rw[w5_ d (Hk.o.trans Y)]) (by rw[w5_ d (Hk.o.trans Y),Ht.o])
 ·have ea:=Y;have e8:((k:Int)==8)=false:=beq_eq_false_iff_ne.2 ea;clear Y;by_cases Y:k=9
  ·rw[Y]at q0;clear e8;obtain⟨ut,a5⟩:=v_ (txV tx) (QQ QY 0 0);obtain⟨cp,x⟩:=qn_ ⟨⟨#[118]⟩,txV tx⟩ (QQ QY 0 0);have a8:=q_ (λW:QV=>(show (Instr.build 69 #[(0,QZ ⟨#[118]⟩),(1,.agg ut)]).run QW W = .ok (.agg cp) W from by rw[<-a5.o,<-x.o];exact ld_ _ _ _ _));obtain⟨y,d9⟩:=a_ w4.heap.size;obtain⟨am,d0⟩:=a_ (w4.alloc (XX #[QZ ⟨#[66,108,97,110,107]⟩] 9));have eh:=q_ (show (Instr.buildSlice 67 1 #[(0,QZ ⟨#[66,108,97,110,107]⟩)]).run QW w4 = .ok (QQ (QJ ⟨y,0,QY⟩) 1 1) am from by rw[<-d9.o,<-d0.o];exact f1_ _ _);have dm:=q_ (show NdI w4 z z1 z2 u (QJ (y,⟨#[66,108,97,110,107]⟩)) QY #[QK QU d,QQ QY 0 0,QQ QY 0 0] am from by rw[<-d0.o,<-d9.o];exact aq.o.lab1 _);have az:=e9_ tx am;unfold fz_ at az;rw[a5.o]at az;have f0:am.cell? ⟨z,3,QY⟩=QJ (QZ tx):=(QX dm.o.u 3).trans (by rw[<-Hu.o,<-Ht.o];rfl);go_wp2_with ((with_reducible refine d_ (some 28) ?_);refine g4_ rfl 67 1 _ rfl #[(0,QZ ⟨#[66,108,97,110,107]⟩)] (by kernel_rfl) (QQ (QJ ⟨y,0,QY⟩) 1 1) am eh.o ?_)
   refine az.mono ?_;rintro e dj ⟨rfl,hb⟩;have ey:=q_ (show NdI w4 z z1 z2 u (QJ (y,⟨#[66,108,97,110,107]⟩)) QY #[QK QU d,QQ QY 0 0,QQ QY 0 0] dj from dm.o.on hb);clear hb az f0;obtain⟨J,de⟩:=a_ dj.heap.size;obtain⟨ci,d5⟩:=a_ (dj.alloc (XX cp 69));have ej:=q_ (show (Instr.buildSlice 70 1 #[(0,.agg cp)]).run QW dj = .ok (QQ (QJ ⟨J,0,QY⟩) 1 1) ci from by rw[<-de.o,<-d5.o,<-x.o];exact ig_ _ _ _);have c8:=q_ (show NdI w4 z z1 z2 u (QJ (y,⟨#[66,108,97,110,107]⟩)) (QJ (J,cp)) #[QK QU d,QQ QY 0 0,QQ QY 0 0] ci from by rw[<-d5.o,<-de.o];exact ey.o.pair1 _)
   go_wp2_with (first
    | ((with_reducible refine d_ (some 32) ?_);refine af_ rfl 69 _ rfl #[(0,QZ ⟨#[118]⟩),(1,.agg ut)] (by kernel_rfl) (.agg cp) (a8.o _) ?_)
    | ((with_reducible refine d_ (some 33) ?_);refine g4_ rfl 70 1 _ rfl #[(0,.agg cp)] (by kernel_rfl) (QQ (QJ ⟨J,0,QY⟩) 1 1) ci ej.o ?_)
    | ((with_reducible refine y_ 34 ?_);refine jo_ rfl 67 _ _ rfl z2 1 (#[QK QU d,QQ QY 0 0,QQ QY 0 0]) 72 (QQ (QJ ⟨y,0,QY⟩) 1 1) rfl rfl (dq_ c8.o.n (by show 1<3;omega) _ _ _) c8.o.n ?_;intro fc t r;have c9:=q_ (show NdI w4 z z1 z2 u (QJ (y,⟨#[66,108,97,110,107]⟩)) (QJ (J,cp)) #[QK QU d,QQ (QJ ⟨y,0,QY⟩) 1 1,QQ QY 0 0] fc from c8.o.set (show _=QJ (Obj.cells (#[QK QU d,QQ (QJ ⟨y,0,QY⟩) 1 1,QQ QY 0 0]) 72 (0,0)) from t) r);clear t r)
    | ((with_reducible refine y_ 35 ?_);refine jo_ rfl 70 _ _ rfl z2 2 (#[QK QU d,QQ (QJ ⟨y,0,QY⟩) 1 1,QQ QY 0 0]) 72 (QQ (QJ ⟨J,0,QY⟩) 1 1) rfl rfl (e4_ c9.o.n (by show 2<3;omega) _ _ _) c9.o.n ?_;intro fd t r;have ca:=q_ (show NdI w4 z z1 z2 u (QJ (y,⟨#[66,108,97,110,107]⟩)) (QJ (J,cp)) #[QK QU d,QQ (QJ ⟨y,0,QY⟩) 1 1,QQ (QJ ⟨J,0,QY⟩) 1 1] fd from c9.o.set (show _=QJ (Obj.cells (#[QK QU d,QQ (QJ ⟨y,0,QY⟩) 1 1,QQ (QJ ⟨J,0,QY⟩) 1 1]) 72 (0,0)) from t) r);clear t r)
    | ((with_reducible refine d_ (some 50) ?_);refine x_ rfl 72 _ rfl z2 0 rfl (#[QK QU d,QQ (QJ ⟨y,0,QY⟩) 1 1,QQ (QJ ⟨J,0,QY⟩) 1 1]) _ (m_ ca.o.n) Tryz.underlying72 rfl (ao_ d _ _) ?_)
    | ((with_reducible refine y_ 4 ?_);refine r_ rfl 72 _ _ rfl z1 (#[QK QU 0,QQ QY 0 0,QQ QY 0 0]) (#[QK QU d,QQ (QJ ⟨y,0,QY⟩) 1 1,QQ (QJ ⟨J,0,QY⟩) 1 1]) 72 rfl rfl ca.o.m rfl (ao_ d _ _) (fo_ d _ _ _ _ _ _) ?_;intro fi ai ah))
   refine bodyPost_ret (v:=.agg (#[QK QU d,QQ (QJ ⟨y,0,QY⟩) 1 1,QQ (QJ ⟨J,0,QY⟩) 1 1])) (c5_ Tryz.results71 (g:=z1) rfl ai _ Tryz.underlying72 rfl (ao_ d _ _)) rfl ?_;exact je_ cj.o ⟨by have:=L.o;omega,by have:=L.o;omega⟩ ca.o ah (λW F hF hW=>o1_ (R:=PaR) hW (by rw[<-x.o];rfl) hF ⟨QQ QY 0 0,x.o.symm,ks_ W F rfl QY 0⟩) (by rw[qq_ d (Hk.o.trans Y)]) (by rw[qq_ d (Hk.o.trans Y),Ht.o])
  ·have eb:=Y;have e9:((k:Int)==9)=false:=beq_eq_false_iff_ne.2 eb;clear Y;by_cases Y:k=10
   ·rw[Y]at q0;clear e8 e9;obtain⟨ut,a5⟩:=v_ (txV tx) (QQ QY 0 0);obtain⟨cp,x⟩:=qn_ ⟨⟨#[118]⟩,txV tx⟩ (QQ QY 0 0);have a8:=q_ (λW:QV=>(show (Instr.build 69 #[(0,QZ ⟨#[118]⟩),(1,.agg ut)]).run QW W = .ok (.agg cp) W from by rw[<-a5.o,<-x.o];exact ld_ _ _ _ _));obtain⟨ue,e3⟩:=v_ (txV ex) (QQ QY 0 0);obtain⟨T,au⟩:=qn_ ⟨⟨#[120]⟩,txV ex⟩ (QQ QY 0 0);have ek:=q_ (λW:QV=>(show (Instr.build 69 #[(0,QZ ⟨#[120]⟩),(1,.agg ue)]).run QW W = .ok (.agg T) W from by rw[<-e3.o,<-au.o];exact ld_ _ _ _ _));go_upto_region 9 with fail;obtain⟨wd,bp⟩:=a_ w4.drew;have dn:=q_ (show NdI w4 z z1 z2 u QY QY #[QK QU d,QQ QY 0 0,QQ QY 0 0] wd from by rw[<-bp.o];exact aq.o.on (XV _ _).drew);refine wp_region_held_drew (S:=λW:QV=>W.heap[z]?=QJ (Obj.cells u 39 (0,0))) (by kernel_rfl) (aq.o.on (XV _ _).drew).u λf=>?_;refine P_.o ?_;rw[bp.o]at f ⊢;apply sh2 (H:=λM V ed=>NdI w4 z z1 z2 u (QJ (M,⟨#[76,105,116]⟩)) (QJ (V,(cp++T))) #[QK QU d,QQ (QJ ⟨M,0,QY⟩) 1 1,QQ QY 0 0] ed)
    ·intro R0;apply sh2 (H:=λa3 bb ee=>NdI w4 z z1 z2 u (QJ (a3,⟨#[76,105,116]⟩)) (QJ (bb,(cp++T))) #[QK QU d,QQ QY 0 0,QQ QY 0 0] ee)
     ·intro R1;apply sh1 (H:=λG ak=>NdI w4 z z1 z2 u (QJ (G,⟨#[76,105,116]⟩)) QY #[QK QU d,QQ QY 0 0,QQ QY 0 0] ak)
      ·intro R2;apply sh1 (H:=λbc ch=>NdI w4 z z1 z2 u (QJ (bc,⟨#[76,105,116]⟩)) QY #[QK QU d,QQ QY 0 0,QQ QY 0 0] ch)
       ·intro R3;refine C_ 1 39 (YX (QJ ⟨z,3,QY⟩)) f λf=>?_;refine tlW 2 40 (QZ tx) f (λw a2=>?_) λf=>?_
        ·have p:w.cell? ⟨z,3,QY⟩=QJ (QZ tx):=(QX a2 3).trans (by rw[<-Hu.o,<-Ht.o];rfl);unfold H_;go_simp
        refine C_ 5 43 (YX (QJ ⟨z,4,QY⟩)) f λf=>?_;refine tlW 6 44 (QZ ex) f (λw a2=>?_) λf=>?_
        ·have p:w.cell? ⟨z,4,QY⟩=QJ (QZ ex):=(QX a2 4).trans (by rw[<-Hu.o,<-He.o];rfl);unfold H_;go_simp
        refine cb_ 0 3 (by kernel_rfl) (by rfl) (by rfl) (λK q=>?_) λK q=>?_
        ·obtain⟨ao,da⟩:=a_ wd.heap.size;obtain⟨b5,d1⟩:=a_ (wd.alloc (XX #[QZ ⟨#[76,105,116]⟩] 9));have ck:=q_ (show (Instr.buildSlice 67 1 #[(0,QZ ⟨#[76,105,116]⟩)]).run QW wd = .ok (QQ (QJ ⟨ao,0,QY⟩) 1 1) b5 from by rw[<-da.o,<-d1.o];exact f1_ _ _);change Oper.wp _ ⟨some 38,_,_,_,_,_⟩ _ _ _ _;refine dl_ 67 1 _ rfl #[(0,QZ ⟨#[76,105,116]⟩)] (by kernel_rfl) (QQ (QJ ⟨ao,0,QY⟩) 1 1) b5 ck.o ?_;have dp:=q_ (show NdI w4 z z1 z2 u (QJ (ao,⟨#[76,105,116]⟩)) QY #[QK QU d,QQ QY 0 0,QQ QY 0 0] b5 from by rw[<-d1.o,<-da.o];exact dn.o.lab1 _);clear ck;dsimp only;refine tlB q dp.o.u λf=>?_;clear q K;refine C_ 10 48 (YX (QJ ⟨z2,1,QY⟩)) f λf=>?_;have b0:=e9_ tx b5;unfold fz_ at b0;rw[a5.o]at b0;refine tlC 3 λK q=>?_;go_simp;refine b0.mono ?_;rintro e et ⟨rfl,hb⟩;have dq:=q_ (show NdI w4 z z1 z2 u (QJ (ao,⟨#[76,105,116]⟩)) QY #[QK QU d,QQ QY 0 0,QQ QY 0 0] et from dp.o.on hb);clear hb b0;dsimp only;refine tlB q dq.o.u λf=>?_;clear q K;refine tlW 4 42 (.agg cp) f (λw a2=>?_) λf=>?_
         ·exact dk_ _ _ #[(0,QZ ⟨#[118]⟩),(1,.agg ut)] _ (by kernel_rfl) (a8.o w)
         exact R3 ao et dq.o
        ·have b1:=e9_ tx wd;unfold fz_ at b1;rw[a5.o]at b1;change Oper.wp _ ⟨some 41,_,_,_,_,_⟩ _ _ _ _;go_simp;refine b1.mono ?_;rintro e c3 ⟨rfl,hb⟩;have cd:=q_ (show NdI w4 z z1 z2 u QY QY #[QK QU d,QQ QY 0 0,QQ QY 0 0] c3 from dn.o.on hb);clear hb b1;dsimp only;refine tlB q cd.o.u λf=>?_;clear q K;refine tlW 4 42 (.agg cp) f (λw a2=>?_) λf=>?_
         ·exact dk_ _ _ #[(0,QZ ⟨#[118]⟩),(1,.agg ut)] _ (by kernel_rfl) (a8.o w)
         refine cb_ 0 7 (by kernel_rfl) (by rfl) (by rfl) (λK q=>?_) λK q=>?_
         ·obtain⟨bd,db⟩:=a_ c3.heap.size;obtain⟨b6,d2⟩:=a_ (c3.alloc (XX #[QZ ⟨#[76,105,116]⟩] 9));have cl:=q_ (show (Instr.buildSlice 67 1 #[(0,QZ ⟨#[76,105,116]⟩)]).run QW c3 = .ok (QQ (QJ ⟨bd,0,QY⟩) 1 1) b6 from by rw[<-db.o,<-d2.o];exact f1_ _ _);change Oper.wp _ ⟨some 38,_,_,_,_,_⟩ _ _ _ _;refine dl_ 67 1 _ rfl #[(0,QZ ⟨#[76,105,116]⟩)] (by kernel_rfl) (QQ (QJ ⟨bd,0,QY⟩) 1 1) b6 cl.o ?_;have dr:=q_ (show NdI w4 z z1 z2 u (QJ (bd,⟨#[76,105,116]⟩)) QY #[QK QU d,QQ QY 0 0,QQ QY 0 0] b6 from by rw[<-d2.o,<-db.o];exact cd.o.lab1 _);clear cl;dsimp only;refine tlB q dr.o.u λf=>?_;clear q K;refine C_ 10 48 (YX (QJ ⟨z2,1,QY⟩)) f λf=>?_;exact R3 bd b6 dr.o
         ·have b2:=e9_ ex c3;unfold fz_ at b2;rw[e3.o]at b2;change Oper.wp _ ⟨some 45,_,_,_,_,_⟩ _ _ _ _;go_simp;refine b2.mono ?_;rintro e aj ⟨rfl,hb⟩;have ce:=q_ (show NdI w4 z z1 z2 u QY QY #[QK QU d,QQ QY 0 0,QQ QY 0 0] aj from cd.o.on hb);clear hb b2;dsimp only;refine tlB q ce.o.u λf=>?_;clear q K;refine tlW 8 46 (.agg T) f (λw a2=>?_) λf=>?_
          ·exact dk_ _ _ #[(0,QZ ⟨#[120]⟩),(1,.agg ue)] _ (by kernel_rfl) (ek.o w)
          refine cb_ 0 9 (by kernel_rfl) (by rfl) (by rfl) (λK q=>?_) λK q=>?_
          ·obtain⟨bf,dc⟩:=a_ aj.heap.size;obtain⟨b7,d3⟩:=a_ (aj.alloc (XX #[QZ ⟨#[76,105,116]⟩] 9));have cm:=q_ (show (Instr.buildSlice 67 1 #[(0,QZ ⟨#[76,105,116]⟩)]).run QW aj = .ok (QQ (QJ ⟨bf,0,QY⟩) 1 1) b7 from by rw[<-dc.o,<-d3.o];exact f1_ _ _);change Oper.wp _ ⟨some 38,_,_,_,_,_⟩ _ _ _ _;refine dl_ 67 1 _ rfl #[(0,QZ ⟨#[76,105,116]⟩)] (by kernel_rfl) (QQ (QJ ⟨bf,0,QY⟩) 1 1) b7 cm.o ?_;have ds:=q_ (show NdI w4 z z1 z2 u (QJ (bf,⟨#[76,105,116]⟩)) QY #[QK QU d,QQ QY 0 0,QQ QY 0 0] b7 from by rw[<-d3.o,<-dc.o];exact ce.o.lab1 _);clear cm;dsimp only;refine tlB q ds.o.u λf=>?_;clear q K;refine C_ 10 48 (YX (QJ ⟨z2,1,QY⟩)) f λf=>?_;exact R2 bf b7 ds.o
          ·obtain⟨ap,df⟩:=a_ aj.heap.size;obtain⟨a7,d6⟩:=a_ (aj.alloc (XX (cp++T) 69));have co:=q_ (show (Instr.buildSlice 70 2 #[(0,.agg cp),(1,.agg T)]).run QW aj = .ok (QQ (QJ ⟨ap,0,QY⟩) 2 2) a7 from by rw[<-df.o,<-d6.o,<-x.o,<-au.o];exact pv_ _ _ _ _ _);change Oper.wp _ ⟨some 47,_,_,_,_,_⟩ _ _ _ _;refine dl_ 70 2 _ rfl #[(0,.agg cp),(1,.agg T)] (by kernel_rfl) (QQ (QJ ⟨ap,0,QY⟩) 2 2) a7 co.o ?_;have dt:=q_ (show NdI w4 z z1 z2 u QY (QJ (ap,(cp++T))) #[QK QU d,QQ QY 0 0,QQ QY 0 0] a7 from by rw[<-d6.o,<-df.o];exact ce.o.pair1 _);clear co;dsimp only;refine tlB q dt.o.u λf=>?_;clear q K;obtain⟨bg,dd⟩:=a_ a7.heap.size;obtain⟨b8,d4⟩:=a_ (a7.alloc (XX #[QZ ⟨#[76,105,116]⟩] 9));have cn:=q_ (show (Instr.buildSlice 67 1 #[(0,QZ ⟨#[76,105,116]⟩)]).run QW a7 = .ok (QQ (QJ ⟨bg,0,QY⟩) 1 1) b8 from by rw[<-dd.o,<-d4.o];exact f1_ _ _);refine tlC 0 λK q=>?_;refine dl_ 67 1 _ rfl #[(0,QZ ⟨#[76,105,116]⟩)] (by kernel_rfl) (QQ (QJ ⟨bg,0,QY⟩) 1 1) b8 cn.o ?_;have du:=q_ (show NdI w4 z z1 z2 u (QJ (bg,⟨#[76,105,116]⟩)) (QJ (ap,(cp++T))) #[QK QU d,QQ QY 0 0,QQ QY 0 0] b8 from by rw[<-d4.o,<-dd.o];exact dt.o.lab1 _);clear cn;dsimp only;refine tlB q du.o.u λf=>?_;clear q K;refine C_ 10 48 (YX (QJ ⟨z2,1,QY⟩)) f λf=>?_;exact R1 bg ap b8 du.o
       ·intro bc ch D;have ez:=q_ D;have f:=D.u;clear D;have b3:=e9_ ex ch;unfold fz_ at b3;rw[e3.o]at b3;refine tlC 7 λK q=>?_;go_simp;refine b3.mono ?_;rintro e eu ⟨rfl,hb⟩;have dv:=q_ (show NdI w4 z z1 z2 u (QJ (bc,⟨#[76,105,116]⟩)) QY #[QK QU d,QQ QY 0 0,QQ QY 0 0] eu from ez.o.on hb);clear hb b3;dsimp only;refine tlB q dv.o.u λf=>?_;clear q K;refine tlW 8 46 (.agg T) f (λw a2=>?_) λf=>?_
        ·exact dk_ _ _ #[(0,QZ ⟨#[120]⟩),(1,.agg ue)] _ (by kernel_rfl) (ek.o w)
        exact R2 bc eu dv.o
      ·intro G ak D;have aw:=q_ D;have f:=D.u;clear D;refine cb_ 9 11 (by kernel_rfl) (by rfl) (by rfl) (λK q=>?_) λK q=>?_
       ·obtain⟨bh,dg⟩:=a_ ak.heap.size;obtain⟨b9,d7⟩:=a_ (ak.alloc (XX (cp++T) 69));have cr:=q_ (show (Instr.buildSlice 70 2 #[(0,.agg cp),(1,.agg T)]).run QW ak = .ok (QQ (QJ ⟨bh,0,QY⟩) 2 2) b9 from by rw[<-dg.o,<-d7.o,<-x.o,<-au.o];exact pv_ _ _ _ _ _);change Oper.wp _ ⟨some 47,_,_,_,_,_⟩ _ _ _ _;refine dl_ 70 2 _ rfl #[(0,.agg cp),(1,.agg T)] (by kernel_rfl) (QQ (QJ ⟨bh,0,QY⟩) 2 2) b9 cr.o ?_;have dw:=q_ (show NdI w4 z z1 z2 u (QJ (G,⟨#[76,105,116]⟩)) (QJ (bh,(cp++T))) #[QK QU d,QQ QY 0 0,QQ QY 0 0] b9 from by rw[<-d7.o,<-dg.o];exact aw.o.pair1 _);clear cr;dsimp only;refine tlB q dw.o.u λf=>?_;clear q K;exact R1 G bh b9 dw.o
       ·change Oper.wp _ ⟨QY,_,_,_,_,_⟩ _ _ _ _;refine dy_ 67 _ _ rfl z2 1 (#[QK QU d,QQ QY 0 0,QQ QY 0 0]) 72 (QQ (QJ ⟨G,0,QY⟩) 1 1) rfl rfl (dq_ aw.o.n (by show 1<3;omega) _ _ _) aw.o.n λdk t r=>?_;have dx:=q_ (show NdI w4 z z1 z2 u (QJ (G,⟨#[76,105,116]⟩)) QY #[QK QU d,QQ (QJ ⟨G,0,QY⟩) 1 1,QQ QY 0 0] dk from aw.o.set (show _=QJ (Obj.cells (#[QK QU d,QQ (QJ ⟨G,0,QY⟩) 1 1,QQ QY 0 0]) 72 (0,0)) from t) r);clear t r;refine tlB q dx.o.u λf=>?_;clear q K;obtain⟨bi,dh⟩:=a_ dk.heap.size;obtain⟨ba,d8⟩:=a_ (dk.alloc (XX (cp++T) 69));have ct:=q_ (show (Instr.buildSlice 70 2 #[(0,.agg cp),(1,.agg T)]).run QW dk = .ok (QQ (QJ ⟨bi,0,QY⟩) 2 2) ba from by rw[<-dh.o,<-d8.o,<-x.o,<-au.o];exact pv_ _ _ _ _ _);refine tlC 9 λK q=>?_;refine dl_ 70 2 _ rfl #[(0,.agg cp),(1,.agg T)] (by kernel_rfl) (QQ (QJ ⟨bi,0,QY⟩) 2 2) ba ct.o ?_;have dy:=q_ (show NdI w4 z z1 z2 u (QJ (G,⟨#[76,105,116]⟩)) (QJ (bi,(cp++T))) #[QK QU d,QQ (QJ ⟨G,0,QY⟩) 1 1,QQ QY 0 0] ba from by rw[<-d8.o,<-dh.o];exact dx.o.pair1 _);clear ct;dsimp only;refine tlB q dy.o.u λf=>?_;clear q K;refine C_ 12 49 (YX (QJ ⟨z2,2,QY⟩)) f λf=>?_;exact R0 G bi ba dy.o
     ·intro a3 bb ee D;have cc:=q_ D;have f:=D.u;clear D;refine tlC 11 λK q=>?_;refine dy_ 67 _ _ rfl z2 1 (#[QK QU d,QQ QY 0 0,QQ QY 0 0]) 72 (QQ (QJ ⟨a3,0,QY⟩) 1 1) rfl rfl (dq_ cc.o.n (by show 1<3;omega) _ _ _) cc.o.n λev t r=>?_;have dz:=q_ (show NdI w4 z z1 z2 u (QJ (a3,⟨#[76,105,116]⟩)) (QJ (bb,(cp++T))) #[QK QU d,QQ (QJ ⟨a3,0,QY⟩) 1 1,QQ QY 0 0] ev from cc.o.set (show _=QJ (Obj.cells (#[QK QU d,QQ (QJ ⟨a3,0,QY⟩) 1 1,QQ QY 0 0]) 72 (0,0)) from t) r);clear t r;refine tlB q dz.o.u λf=>?_;clear q K;refine C_ 12 49 (YX (QJ ⟨z2,2,QY⟩)) f λf=>?_;exact R0 a3 bb ev dz.o
    ·intro M V ed D;have cb:=q_ D;have f:=D.u;clear D;refine tlC 13 λK q=>?_;refine dy_ 70 _ _ rfl z2 2 (#[QK QU d,QQ (QJ ⟨M,0,QY⟩) 1 1,QQ QY 0 0]) 72 (QQ (QJ ⟨V,0,QY⟩) 2 2) rfl rfl (e4_ cb.o.n (by show 2<3;omega) _ _ _) cb.o.n λfe t r=>?_;have ay:=q_ (show NdI w4 z z1 z2 u (QJ (M,⟨#[76,105,116]⟩)) (QJ (V,(cp++T))) #[QK QU d,QQ (QJ ⟨M,0,QY⟩) 1 1,QQ (QJ ⟨V,0,QY⟩) 2 2] fe from cb.o.set (show _=QJ (Obj.cells (#[QK QU d,QQ (QJ ⟨M,0,QY⟩) 1 1,QQ (QJ ⟨V,0,QY⟩) 2 2]) 72 (0,0)) from t) r);clear t r;refine tlB q ay.o.u λf=>?_;clear q K;refine⟨wpAnyH_done (by kernel_rfl) ?_ _⟩;clear f
     go_wp2_with (first
      | ((with_reducible refine d_ (some 50) ?_);refine x_ rfl 72 _ rfl z2 0 rfl (#[QK QU d,QQ (QJ ⟨M,0,QY⟩) 1 1,QQ (QJ ⟨V,0,QY⟩) 2 2]) _ (m_ ay.o.n) Tryz.underlying72 rfl (ao_ d _ _) ?_)
      | ((with_reducible refine y_ 4 ?_);refine r_ rfl 72 _ _ rfl z1 (#[QK QU 0,QQ QY 0 0,QQ QY 0 0]) (#[QK QU d,QQ (QJ ⟨M,0,QY⟩) 1 1,QQ (QJ ⟨V,0,QY⟩) 2 2]) 72 rfl rfl ay.o.m rfl (ao_ d _ _) (fo_ d _ _ _ _ _ _) ?_;intro fj ai ah))
     refine bodyPost_ret (v:=.agg (#[QK QU d,QQ (QJ ⟨M,0,QY⟩) 1 1,QQ (QJ ⟨V,0,QY⟩) 2 2])) (c5_ Tryz.results71 (g:=z1) rfl ai _ Tryz.underlying72 rfl (ao_ d _ _)) rfl ?_;exact je_ cj.o ⟨by have:=L.o;omega,by have:=L.o;omega⟩ ay.o ah (λW F hF hW=>B0_ (R:=PaR) hW (by rw[<-x.o];rfl) (by rw[<-au.o];rfl) hF ⟨QQ QY 0 0,x.o.symm,ks_ W F rfl QY 0⟩ ⟨QQ QY 0 0,au.o.symm,ks_ W F rfl QY 0⟩) (by rw[w6_ d (Hk.o.trans Y)]) (by rw[w6_ d (Hk.o.trans Y),Ht.o,He.o])
   ·have cg:=Y;have fg:((k:Int)==10)=false:=beq_eq_false_iff_ne.2 cg;clear Y;obtain⟨cp,x⟩:=qn_ ⟨⟨#[118]⟩,v⟩ s;have a8:=q_ (λW:QV=>(show (Instr.build 69 #[(0,QZ ⟨#[118]⟩),(1,.agg u)]).run QW W = .ok (.agg cp) W from by rw[<-Hu.o,<-x.o];exact ld_ _ _ _ _));have f8:=q_ (show (Tryz.prog.info? 39).map (·.size)=QJ u.size from cr_.trans (congrArg QJ Hu.size.symm));go_upto_region 3 with fail;obtain⟨wd,bp⟩:=a_ w4.drew;have e0:=q_ (show NdI w4 z z1 z2 u QY QY #[QK QU d,QQ QY 0 0,QQ QY 0 0] wd from by rw[<-bp.o];exact aq.o.on (XV _ _).drew);refine wp_region_held_drew (S:=λW:QV=>W.heap[z]?=QJ (Obj.cells u 39 (0,0))) (by kernel_rfl) (aq.o.on (XV _ _).drew).u λf=>?_;refine P_.o ?_;rw[bp.o]at f ⊢;apply sh2 (H:=λO X ef=>NdI w4 z z1 z2 u (QJ (O,⟨#[86,97,108]⟩)) (QJ (X,cp)) #[QK QU d,QQ (QJ ⟨O,0,QY⟩) 1 1,QQ QY 0 0] ef)
    ·intro R0;apply sh2 (H:=λU ad dl=>NdI w4 z z1 z2 u (QJ (U,⟨#[86,97,108]⟩)) (QJ (ad,cp)) #[QK QU d,QQ QY 0 0,QQ QY 0 0] dl)
     ·intro R1;refine tlW 1 11 (.agg u) f (λw a2=>?_) λf=>?_
      ·exact n_ (a6_ a2 39 _ YZ rfl f8.o)
      refine tlW 2 12 (.agg cp) f (λw a2=>?_) λf=>?_
      ·exact dk_ _ _ #[(0,QZ ⟨#[118]⟩),(1,.agg u)] _ (by kernel_rfl) (a8.o w)
      refine cb_ 0 3 (by kernel_rfl) (by rfl) (by rfl) (λK q=>?_) λK q=>?_
      ·obtain⟨B,bw⟩:=a_ wd.heap.size;obtain⟨a0,bq⟩:=a_ (wd.alloc (XX #[QZ ⟨#[86,97,108]⟩] 9));have bj:=q_ (show (Instr.buildSlice 67 1 #[(0,QZ ⟨#[86,97,108]⟩)]).run QW wd = .ok (QQ (QJ ⟨B,0,QY⟩) 1 1) a0 from by rw[<-bw.o,<-bq.o];exact f1_ _ _);change Oper.wp _ ⟨some 10,_,_,_,_,_⟩ _ _ _ _;refine dl_ 67 1 _ rfl #[(0,QZ ⟨#[86,97,108]⟩)] (by kernel_rfl) (QQ (QJ ⟨B,0,QY⟩) 1 1) a0 bj.o ?_;have a4:=q_ (show NdI w4 z z1 z2 u (QJ (B,⟨#[86,97,108]⟩)) QY #[QK QU d,QQ QY 0 0,QQ QY 0 0] a0 from by rw[<-bq.o,<-bw.o];exact e0.o.lab1 _);clear bj;dsimp only;refine tlB q a4.o.u λf=>?_;clear q K;refine C_ 4 14 (YX (QJ ⟨z2,1,QY⟩)) f λf=>?_;refine cb_ 3 5 (by kernel_rfl) (by rfl) (by rfl) (λK q=>?_) λK q=>?_
       ·obtain⟨af,bz⟩:=a_ a0.heap.size;obtain⟨ab,bs⟩:=a_ (a0.alloc (XX cp 69));have bl:=q_ (show (Instr.buildSlice 70 1 #[(0,.agg cp)]).run QW a0 = .ok (QQ (QJ ⟨af,0,QY⟩) 1 1) ab from by rw[<-bz.o,<-bs.o,<-x.o];exact ig_ _ _ _);change Oper.wp _ ⟨some 13,_,_,_,_,_⟩ _ _ _ _;refine dl_ 70 1 _ rfl #[(0,.agg cp)] (by kernel_rfl) (QQ (QJ ⟨af,0,QY⟩) 1 1) ab bl.o ?_;have cu:=q_ (show NdI w4 z z1 z2 u (QJ (B,⟨#[86,97,108]⟩)) (QJ (af,cp)) #[QK QU d,QQ QY 0 0,QQ QY 0 0] ab from by rw[<-bs.o,<-bz.o];exact a4.o.pair1 _);clear bl;dsimp only;refine tlB q cu.o.u λf=>?_;clear q K;exact R1 B af ab cu.o
       ·change Oper.wp _ ⟨QY,_,_,_,_,_⟩ _ _ _ _;refine dy_ 67 _ _ rfl z2 1 (#[QK QU d,QQ QY 0 0,QQ QY 0 0]) 72 (QQ (QJ ⟨B,0,QY⟩) 1 1) rfl rfl (dq_ a4.o.n (by show 1<3;omega) _ _ _) a4.o.n λb4 t r=>?_;have cv:=q_ (show NdI w4 z z1 z2 u (QJ (B,⟨#[86,97,108]⟩)) QY #[QK QU d,QQ (QJ ⟨B,0,QY⟩) 1 1,QQ QY 0 0] b4 from a4.o.set (show _=QJ (Obj.cells (#[QK QU d,QQ (QJ ⟨B,0,QY⟩) 1 1,QQ QY 0 0]) 72 (0,0)) from t) r);clear t r;refine tlB q cv.o.u λf=>?_;clear q K;obtain⟨ag,c0⟩:=a_ b4.heap.size;obtain⟨ac,bt⟩:=a_ (b4.alloc (XX cp 69));have bm:=q_ (show (Instr.buildSlice 70 1 #[(0,.agg cp)]).run QW b4 = .ok (QQ (QJ ⟨ag,0,QY⟩) 1 1) ac from by rw[<-c0.o,<-bt.o,<-x.o];exact ig_ _ _ _);refine tlC 3 λK q=>?_;refine dl_ 70 1 _ rfl #[(0,.agg cp)] (by kernel_rfl) (QQ (QJ ⟨ag,0,QY⟩) 1 1) ac bm.o ?_;have cw:=q_ (show NdI w4 z z1 z2 u (QJ (B,⟨#[86,97,108]⟩)) (QJ (ag,cp)) #[QK QU d,QQ (QJ ⟨B,0,QY⟩) 1 1,QQ QY 0 0] ac from by rw[<-bt.o,<-c0.o];exact cv.o.pair1 _);clear bm;dsimp only;refine tlB q cw.o.u λf=>?_;clear q K;refine C_ 6 15 (YX (QJ ⟨z2,2,QY⟩)) f λf=>?_;exact R0 B ag ac cw.o
      ·obtain⟨a6,c1⟩:=a_ wd.heap.size;obtain⟨a1,bu⟩:=a_ (wd.alloc (XX cp 69));have bn:=q_ (show (Instr.buildSlice 70 1 #[(0,.agg cp)]).run QW wd = .ok (QQ (QJ ⟨a6,0,QY⟩) 1 1) a1 from by rw[<-c1.o,<-bu.o,<-x.o];exact ig_ _ _ _);change Oper.wp _ ⟨some 13,_,_,_,_,_⟩ _ _ _ _;refine dl_ 70 1 _ rfl #[(0,.agg cp)] (by kernel_rfl) (QQ (QJ ⟨a6,0,QY⟩) 1 1) a1 bn.o ?_;have cx:=q_ (show NdI w4 z z1 z2 u QY (QJ (a6,cp)) #[QK QU d,QQ QY 0 0,QQ QY 0 0] a1 from by rw[<-bu.o,<-c1.o];exact e0.o.pair1 _);clear bn;dsimp only;refine tlB q cx.o.u λf=>?_;clear q K;obtain⟨ae,bx⟩:=a_ a1.heap.size;obtain⟨aa,br⟩:=a_ (a1.alloc (XX #[QZ ⟨#[86,97,108]⟩] 9));have bk:=q_ (show (Instr.buildSlice 67 1 #[(0,QZ ⟨#[86,97,108]⟩)]).run QW a1 = .ok (QQ (QJ ⟨ae,0,QY⟩) 1 1) aa from by rw[<-bx.o,<-br.o];exact f1_ _ _);refine tlC 0 λK q=>?_;refine dl_ 67 1 _ rfl #[(0,QZ ⟨#[86,97,108]⟩)] (by kernel_rfl) (QQ (QJ ⟨ae,0,QY⟩) 1 1) aa bk.o ?_;have cy:=q_ (show NdI w4 z z1 z2 u (QJ (ae,⟨#[86,97,108]⟩)) (QJ (a6,cp)) #[QK QU d,QQ QY 0 0,QQ QY 0 0] aa from by rw[<-br.o,<-bx.o];exact cx.o.lab1 _);clear bk;dsimp only;refine tlB q cy.o.u λf=>?_;clear q K;refine C_ 4 14 (YX (QJ ⟨z2,1,QY⟩)) f λf=>?_;exact R1 ae a6 aa cy.o
     ·intro U ad dl D;have av:=q_ D;have f:=D.u;clear D;refine tlC 5 λK q=>?_;refine dy_ 67 _ _ rfl z2 1 (#[QK QU d,QQ QY 0 0,QQ QY 0 0]) 72 (QQ (QJ ⟨U,0,QY⟩) 1 1) rfl rfl (dq_ av.o.n (by show 1<3;omega) _ _ _) av.o.n λec t r=>?_;have cz:=q_ (show NdI w4 z z1 z2 u (QJ (U,⟨#[86,97,108]⟩)) (QJ (ad,cp)) #[QK QU d,QQ (QJ ⟨U,0,QY⟩) 1 1,QQ QY 0 0] ec from av.o.set (show _=QJ (Obj.cells (#[QK QU d,QQ (QJ ⟨U,0,QY⟩) 1 1,QQ QY 0 0]) 72 (0,0)) from t) r);clear t r;refine tlB q cz.o.u λf=>?_;clear q K;refine C_ 6 15 (YX (QJ ⟨z2,2,QY⟩)) f λf=>?_;exact R0 U ad ec cz.o
    ·intro O X ef D;have cf:=q_ D;have f:=D.u;clear D;refine tlC 7 λK q=>?_;refine dy_ 70 _ _ rfl z2 2 (#[QK QU d,QQ (QJ ⟨O,0,QY⟩) 1 1,QQ QY 0 0]) 72 (QQ (QJ ⟨X,0,QY⟩) 1 1) rfl rfl (e4_ cf.o.n (by show 2<3;omega) _ _ _) cf.o.n λf1 t r=>?_;have a9:=q_ (show NdI w4 z z1 z2 u (QJ (O,⟨#[86,97,108]⟩)) (QJ (X,cp)) #[QK QU d,QQ (QJ ⟨O,0,QY⟩) 1 1,QQ (QJ ⟨X,0,QY⟩) 1 1] f1 from cf.o.set (show _=QJ (Obj.cells (#[QK QU d,QQ (QJ ⟨O,0,QY⟩) 1 1,QQ (QJ ⟨X,0,QY⟩) 1 1]) 72 (0,0)) from t) r);clear t r;refine tlB q a9.o.u λf=>?_;clear q K;refine⟨wpAnyH_done (by kernel_rfl) ?_ _⟩;clear f
     go_wp2_with (first
      | ((with_reducible refine d_ (some 50) ?_);refine x_ rfl 72 _ rfl z2 0 rfl (#[QK QU d,QQ (QJ ⟨O,0,QY⟩) 1 1,QQ (QJ ⟨X,0,QY⟩) 1 1]) _ (m_ a9.o.n) Tryz.underlying72 rfl (ao_ d _ _) ?_)
      | ((with_reducible refine y_ 4 ?_);refine r_ rfl 72 _ _ rfl z1 (#[QK QU 0,QQ QY 0 0,QQ QY 0 0]) (#[QK QU d,QQ (QJ ⟨O,0,QY⟩) 1 1,QQ (QJ ⟨X,0,QY⟩) 1 1]) 72 rfl rfl a9.o.m rfl (ao_ d _ _) (fo_ d _ _ _ _ _ _) ?_;intro ff ai ah))
     refine bodyPost_ret (v:=.agg (#[QK QU d,QQ (QJ ⟨O,0,QY⟩) 1 1,QQ (QJ ⟨X,0,QY⟩) 1 1])) (c5_ Tryz.results71 (g:=z1) rfl ai _ Tryz.underlying72 rfl (ao_ d _ _)) rfl ?_;exact je_ cj.o ⟨by have:=L.o;omega,by have:=L.o;omega⟩ a9.o ah (λW F hF hW=>o1_ (R:=PaR) hW (by rw[<-x.o];rfl) hF ⟨s,x.o.symm,eq.o W F⟩) (by rw[w7_ d (λh=>ea (Hk.o.symm.trans h)) (λh=>eb (Hk.o.symm.trans h)) (λh=>cg (Hk.o.symm.trans h))]) (by rw[w7_ d (λh=>ea (Hk.o.symm.trans h)) (λh=>eb (Hk.o.symm.trans h)) (λh=>cg (Hk.o.symm.trans h))])
end
section
open Go Go.RowKit Go.Shelf Go.Lib Go.Sort Go.Proofs
def vl_:bu_ g_:=λ_ _ v c=>ah_ v/\bt_ v/\∃A cap,c=c_ v (QQ A 0 cap)
theorem vl_.good:vl_.Good:=⟨λh _=>h,λh _=>h⟩
structure ItV where
 v:g_
 s:XZ
 sc:ah_ v
 fit:bt_ v
 sl:∃A cap,s = QQ A 0 cap
instance:Inhabited ItV:=⟨⟨yh_,QQ QY 0 0,jr_,yi_,⟨QY,0,rfl⟩⟩⟩
def v1_ (x:ItV):List XZ:=(c_ x.v x.s).toList
theorem Gs_ (x:ItV):(v1_ x).length=6:=rfl
theorem v2_ (x:ItV):(v1_ x).toArray=c_ x.v x.s:=by unfold v1_;rw[Array.toArray_toList]
theorem v3_ (x:ItV):∀v∈v1_ x,v.oneCell'=true:=by obtain⟨A,cap,e⟩:=x.sl;intro v d;unfold v1_ c_ at d;rw[e]at d;simp only[List.mem_cons,List.not_mem_nil,or_false]at d;rcases d with rfl | rfl | rfl | rfl | rfl | rfl<;>rfl
theorem it6 {w:QV} {F:Nat->Prop} {x:g_} {c:Array XZ} (h:vl_ w F x c):∃d:ItV,v1_ d=c.toList/\d.v=x:=by obtain⟨h1,h2,A,cap,rfl⟩:=h;exact⟨⟨x,QQ A 0 cap,h1,h2,⟨A,cap,rfl⟩⟩,rfl,rfl⟩
theorem Cm_ (a b:g_) (U:ah_ a) (sa sb:XZ) (w:QV) (O:bt_ a) (T:bt_ b) (D:aa_ w) (G:b4_ w) :
    Calls QW 67 #[.agg (c_ a sa),.agg (c_ b sb)] w λe w'=>e = XW (QK QU (F_ a b))/\XU w.heap.size w w':=by
 have g:=λ(W:QV) (hb:XU w.heap.size w W)=>w9_ a b sa sb W U.2.1 O T (k_ D hb) (I_ G hb);unfold bh_ at g;obtain⟨r,J⟩:=a_ (F_ a b);rw[J.o]at g ⊢;obtain⟨c,B⟩:=v_ a sa;obtain⟨d,C⟩:=v_ b sb;rw[B.o,C.o]at g ⊢;have x:=q_ g;clear g;obtain⟨z,y⟩:=a_ w.heap.size;obtain⟨z1,k⟩:=a_ (w.heap.size+1);obtain⟨j,f⟩:=a_ ((w.alloc (XX c 39)).alloc (XX d 39));have i:=q_ (show XU w.heap.size w j from by rw[<-f.o];exact ((XV w.heap.size w).alloc (XJ _) _).alloc (by simp) _);have q:=q_ (show j.heap[z]?=QJ (XX c 39 (0,0)) from by rw[<-f.o,<-y.o,heap_alloc_old _ _ (by simp)];exact heap_alloc_new w _);have t:=q_ (show j.heap[z1]?=QJ (XX d 39 (0,0)) from by rw[<-f.o,<-k.o];have h:=heap_alloc_new (w.alloc (XX c 39)) (XX d 39);rwa [show (w.alloc (XX c 39)).heap.size=w.heap.size+1 from by simp]at h);have L:=q_ (show (Tryz.prog.info? 39).map (·.size)=QJ c.size from cr_.trans (congrArg QJ B.size.symm));have M:=q_ (show (Tryz.prog.info? 39).map (·.size)=QJ d.size from cr_.trans (congrArg QJ C.size.symm));go_enter Tryz.func67,Tryz.ntmps67
 go_upto_region 1 with fail;rw[f.o,k.o,y.o];clear f
 go_wp2_with (first
  | ((with_reducible refine d_ (some 5) ?_);refine x_ rfl 39 _ rfl z 0 rfl c _ (m_ q.o) YZ rfl L.o ?_)
  | ((with_reducible refine d_ (some 6) ?_);refine x_ rfl 39 _ rfl z1 0 rfl d _ (m_ t.o) YZ rfl M.o ?_))
 refine (x.o j i.o).mono ?_;rintro e w2 ⟨rfl,hb⟩;have p:=q_ (i.o.trans (hb.mono i.o.size));clear hb;go_wp2_with fail;go_ret;exact⟨rfl,p.o⟩
theorem El_ (w0:QV) {w:QV} {F:Nat->Prop} {l:List g_} {s:XZ} (h:D_ 39 6 vl_ w F l s) (f:l.length<=100000000) (o:∀b,F b->b<w.heap.size)
    (hb:XU w0.heap.size w0 w) (i:∀b,s.ownBlock=QJ b->w0.heap.size<=b) (j:aa_ w0) (k:b4_ w0) :
    Calls QW 66 #[s,.func (.func 67) #[] #[]] w λe w'=>e = XW (YY #[])/\∃g:List g_,g.Perm l/\g.Pairwise (λa b=>¬F_ b a<0)/\D_ 39 6 vl_ w' F g s/\Turn (λb=>s.ownBlock=QJ b) w w':=by
 refine th_ Tryz.sortV vl_.good (by decide) Tryz.isAgg39 Tryz.sizeOf39 v1_ ItV.v Gs_ v3_ it6 F_ (u7_ eo_ ItV.v) 67 #[] (enters_of Tryz.func67 (by kernel_rfl) rfl) (λx y V ht=>?_) h f o;rw[v2_,v2_];have d:=i_ hb ht i;exact Cm_ x.v y.v x.sc x.s y.s V x.fit y.fit (k_ j d) (I_ k d)
theorem ot_ (r n cap a:Nat) (g:a<n) (w:QV):(Instr.indexAt 93 (QQ (QJ ⟨r,0,QY⟩) n cap) (QK QU (a:Nat))).run QW w = .ok (YX (QJ ⟨r,a*18,QY⟩)) w:=by
 have e:(0:Int)<=a:=by omega
 have f:(a:Int)<n:=by omega
 have d:(⟨r,0,QY⟩:Addr).add (a*18)=⟨r,a*18,QY⟩:=by unfold Addr.add;split<;>simp_all
 go_simp
structure StC (h c r n cap g:Nat) (W:Way) (cs:Nat->Array XZ) (w:QV):Prop where
 ph:w.cell? ⟨h,0,QY⟩=QJ (YX (QJ ⟨c,0,QY⟩))
 ps:w.cell? ⟨c,0,QY⟩=QJ (QQ (QJ ⟨r,0,QY⟩) n cap)
 row:∀a,a<n->∀j,j<18->w.cell? ⟨r,a*18+j,QY⟩=(cs a)[j]?
 way:w.heap[g]?=QJ (XX (gf_ W) 101 (0,0))
theorem StC.on {h c r n cap g:Nat} {W:Way} {cs:Nat->Array XZ} {w w':QV} (d:StC h c r n cap g W cs w) (h1:h<w.heap.size) (h2:c<w.heap.size) (e:r<w.heap.size) (hb:XU w.heap.size w w'):StC h c r n cap g W cs w':=
 ⟨(hb.cell (p:=⟨h,0,QY⟩) h1).trans d.ph,(hb.cell (p:=⟨c,0,QY⟩) h2).trans d.ps,λa f j i=>(hb.cell (p:=⟨r,a*18+j,QY⟩) e).trans (d.row a f j i),(hb.block g (b_ d.way)).trans d.way⟩
theorem StC.drew {h c r n cap g:Nat} {W:Way} {cs:Nat->Array XZ} {w:QV} (d:StC h c r n cap g W cs w):StC h c r n cap g W cs w.drew:=⟨d.ph,d.ps,d.row,d.way⟩
theorem bw_ {w:QV} {p:Addr} {v:XZ} (h:w.cell? p=QJ v):p.block<w.heap.size:=World.block_lt_of_cell? _ _ h
theorem q1_ {w:QV} {r o:Nat} {c:Array XZ} (h:∀j,j<18->w.cell? ⟨r,o+j,QY⟩=c[j]?) (f:c.size=18):w.rangeAt r o c.toList:=λj v e=>by
 have d:j<c.toList.length:=(List.getElem?_eq_some_iff.1 e).1;rw[Array.length_toList,f]at d;rw[h j d,<-Array.getElem?_toList];exact e
theorem Cl_ (W:Way) (hW:W.Ok) (h c r n cap g a b:Nat) (cs:Nat->Array XZ) (x y:e_) (sx Z:Nat->XZ) (w:QV) (ha:a<n) (hb:b<n) (X:cs a=K_ x sx) (Y:cs b=K_ y Z) (hs:StC h c r n cap g W cs w)
    (kx:∀n,vj_ (x.get n)) (fy:∀n,bt_ (y.get n)) (M:aa_ w) (O:b4_ w) :
    Calls QW 55 #[QK QU (a:Nat),QK QU (b:Nat),YX (QJ ⟨h,0,QY⟩),YX (QJ ⟨g,0,QY⟩)] w (rl_ W x y w):=by
 have t:=q_ (λ(W':QV) (hb:XU w.heap.size w W')=>mi_ W hW x y sx Z W' kx fy (k_ M hb) (I_ O hb));clear kx fy M O hW;unfold rl_ at t ⊢;obtain⟨v,Hv⟩:=a_ (s_ W x y);rw[Hv.o]at t ⊢;clear Hv;obtain⟨c1,B⟩:=be_ x sx;obtain⟨c2,C⟩:=be_ y Z;rw[B.o]at t X;rw[C.o]at t Y;have Z1:=q_ B.size;have Z2:=q_ C.size;have G:=q_ hs;have U:=q_ ha;have HB:=q_ hb;have V:=q_ X;have HY:=q_ Y;have Q1:=q_ (fn_.trans (congrArg QJ B.size.symm));have Q2:=q_ (fn_.trans (congrArg QJ C.size.symm));clear hs ha hb X Y B C;have T:gf_ W=#[QK QU (W.i:Nat),QK QU (W.j:Nat),QK QU (W.k:Nat)]:=rfl;rw[<-T]at t;obtain⟨wc,D⟩:=a_ (gf_ W);have ZW:=q_ (show wc.size=3 from by rw[<-D.o];rfl);rw[D.o]at t;have a1:=q_ (λ(W':QV) (h:StC h c r n cap g W cs W')=>(show W'.heap[g]?=QJ (XX wc 101 (0,0)) from by rw[<-D.o];exact h.way));clear T D;go_enter Tryz.func55,Tryz.ntmps55
 go_upto_region 1 with fail;refine wp_region_held_drew (S:=λW'=>StC h c r n cap g W cs W') (by kernel_rfl) G.o.drew λd=>?_;refine P_.o ?_;refine tkW 0 7 (YX (QJ ⟨c,0,QY⟩)) d (λw f=>?_) λd=>?_
 ·have p:=f.ph;unfold H_;go_simp
 (try simp only[Act.put,aT,aZ,aS]);refine tkV 1 8 (YX (QJ ⟨c,0,QY⟩)) d λd=>?_;(try simp only[Act.put,aT,aZ,aS]);refine tkV 2 9 (YX (QJ ⟨c,0,QY⟩)) d λd=>?_;(try simp only[Act.put,aT,aZ,aS]);refine tkW 3 10 (QQ (QJ ⟨r,0,QY⟩) n cap) d (λw f=>?_) λd=>?_
 ·have p:=f.ps;unfold H_;go_simp
 (try simp only[Act.put,aT,aZ,aS]);refine tkV 4 11 (QK QU (a:Nat)) d λd=>?_;(try simp only[Act.put,aT,aZ,aS]);refine tkW 5 12 (YX (QJ ⟨r,a*18,QY⟩)) d (λw f=>?_) λd=>?_
 ·exact n_ (ot_ r n cap a U.o w)
 (try simp only[Act.put,aT,aZ,aS]);refine tkW 6 13 (.agg c1) d (λw f=>?_) λd=>?_
 ·have p:=q1_ (f.row a U.o) (show (cs a).size=18 from by rw[V.o];exact Z1.o);rw[V.o]at p;have q:=run_loadAt_mid (P:=QW) w r (a*18) 99 c1.toList _ p Tryz.underlying99 rfl (by rw[Array.length_toList];exact Q1.o);rw[Array.toArray_toList]at q;exact n_ q
 (try simp only[Act.put,aT,aZ,aS]);refine tkW 7 14 (YX (QJ ⟨c,0,QY⟩)) d (λw f=>?_) λd=>?_
 ·have p:=f.ph;unfold H_;go_simp
 (try simp only[Act.put,aT,aZ,aS]);refine tkV 8 15 (YX (QJ ⟨c,0,QY⟩)) d λd=>?_;(try simp only[Act.put,aT,aZ,aS]);refine tkV 9 16 (YX (QJ ⟨c,0,QY⟩)) d λd=>?_;(try simp only[Act.put,aT,aZ,aS]);refine tkW 10 17 (QQ (QJ ⟨r,0,QY⟩) n cap) d (λw f=>?_) λd=>?_
 ·have p:=f.ps;unfold H_;go_simp
 (try simp only[Act.put,aT,aZ,aS]);refine tkV 11 18 (QK QU (b:Nat)) d λd=>?_;(try simp only[Act.put,aT,aZ,aS]);refine tkW 12 19 (YX (QJ ⟨r,b*18,QY⟩)) d (λw f=>?_) λd=>?_
 ·exact n_ (ot_ r n cap b HB.o w)
 (try simp only[Act.put,aT,aZ,aS]);refine tkW 13 20 (.agg c2) d (λw f=>?_) λd=>?_
 ·have p:=q1_ (f.row b HB.o) (show (cs b).size=18 from by rw[HY.o];exact Z2.o);rw[HY.o]at p;have q:=run_loadAt_mid (P:=QW) w r (b*18) 99 c2.toList _ p Tryz.underlying99 rfl (by rw[Array.length_toList];exact Q2.o);rw[Array.toArray_toList]at q;exact n_ q
 (try simp only[Act.put,aT,aZ,aS]);refine tkW 14 21 (.agg wc) d (λw f=>?_) λd=>?_
 ·exact n_ (a6_ (a1.o w f) 101 _ Tryz.underlying101 rfl (by rw[ZW.o];kernel_rfl))
 (try simp only[Act.put,aT,aZ,aS]);refine tlC 15 λK hK=>?_;go_simp;refine (t.o w.drew (XV _ _).drew).mono ?_;rintro e w2 ⟨rfl,L⟩;have J:=q_ (show XU w.heap.size w w2 from ai_ L);have a0:=q_ (G.o.on (bw_ G.o.ph) (bw_ G.o.ps) (by have:=G.o.row a U.o 0 (by omega);exact bw_ (p:=⟨r,a*18+0,QY⟩) (this.trans (by rw[V.o];exact Array.getElem?_eq_getElem (by rw[Z1.o];omega)))) J.o);clear L;dsimp only;refine hK.out _ _ a0.o λd=>?_;clear hK K;(try simp only[Act.put,aT,aZ,aS]);refine tkV 16 6 (QK QU v) d λd=>?_;(try simp only[Act.put,aT,aZ,aS]);refine⟨wpAnyH_done (by kernel_rfl) ?_ _⟩;clear d;go_wp2_with fail;go_ret;exact⟨rfl,J.o⟩
def ixC (d:List Nat):List XZ:=d.map λk=>Value.int QU (k:Nat)
theorem l9_ {I:Type} [Inhabited I] {enc:I->XZ} {w:QV} {g n:Nat} {d:Array I} {os:Array Obj}:Turn (λb=>b=g) w (sortWorld enc w g 0 n d os):=by refine⟨rfl,rfl,rfl,by unfold sortWorld;rw[Go.Sort.size_grow,size_putRow];show w.heap.size<=w.heap.size+_;omega,λi hi f=>?_⟩;unfold sortWorld;rw[Go.Sort.heap_grow_old _ _ (by rw[size_putRow];exact hi)];have:g≠i:=λe=>f e.symm;simp[putRow,mapBlock,Sort.ahead,Array.getElem?_modify,this]
theorem Ao_ (W:Way) (hW:W.Ok) (T:List e_) (h c r n cap g:Nat) (cs:Nat->Array XZ) (w0:QV) {w:QV} {f:List Nat} {s:XZ} (D:T.length=n)
    (a3:∀a t,T[a]?=QJ t->cn_ t/\(∀n,bt_ (t.get n))/\∃ss,cs a=K_ t ss) (M:w.ownsRow 0 3 1 s f.length (ixC f)) (a6:∀k,k∈f->k<n) (au:f.length<=100000000) (hn:0<n\/s = QQ QY 0 0)
    (O:StC h c r n cap g W cs w) (hb:XU w0.heap.size w0 w) (ad:∀b,s.ownBlock=QJ b->w0.heap.size<=b) (ac:∀b,s.ownBlock=QJ b->b≠h/\b≠c/\b≠r/\b≠g) (ah:aa_ w0) (ai:b4_ w0) :
    Calls QW 54 #[s,.func (.func 55) #[] #[YX (QJ ⟨h,0,QY⟩),YX (QJ ⟨g,0,QY⟩)]] w λe w'=>e = XW (YY #[])/\∃ix':List Nat,ix'.Perm f /\
     ix'.Pairwise (λa b=>∀s t,T[a]?=QJ s->T[b]?=QJ t->¬s_ W t s<0)/\w'.ownsRow 0 3 1 s ix'.length (ixC ix')/\Turn (λb=>s.ownBlock=QJ b) w w':=by
 rcases M.2 with⟨B,h0⟩ | ⟨b,L,av,B,_,X,a9,ab,af,ar⟩
 ·subst B;have ak:f=[]:=List.eq_nil_of_length_eq_zero h0;subst ak;refine (AnyF.slices_SortFunc_none { Tryz.sortI with } QY 0 _ w).mono λe w' ⟨B,hw⟩=>⟨B,[],List.Perm.refl _,List.Pairwise.nil,?_,?_⟩
  ·rw[hw];exact M
  ·rw[hw];exact Turn.refl _ _
 ·subst B
  have am:0<n:=by
   rcases hn with hn | hn
   ·exact hn
   ·cases hn
  have:Inhabited {k:Nat // k<n}:=⟨⟨0,am⟩⟩;have a8:=b_ X;obtain⟨d,hd⟩:∃d:Array {k:Nat // k<n},d.toList=f.pmap (λk hk=>⟨k,hk⟩) a6:=⟨(f.pmap (λk hk=>⟨k,hk⟩) a6).toArray,by simp⟩;have o:d.size=f.length:=by rw[<-Array.length_toList,hd];simp
  have a4:d.toList.map (·.1)=f:=by rw[hd];simp[List.map_pmap]
  have hH:Holds (λx:{k:Nat // k<n}=>Value.int QU ((x.1:Nat):Int)) w b 0 d:=by
   intro j hj;refine⟨?_,by simp[World.frozen?,X]⟩;have h2:=M.cellAt j (by rw[o]at hj;omega);rw[Nat.zero_add,h2,getElem!_pos d j hj];unfold ixC;have h3:f[j]?=QJ (d[j].1):=by rw[<-a4,List.getElem?_map];simp[hj]
   rw[List.getElem?_map,h3];rfl
  have a1:d.size<4611686018427387904:=by rw[o];omega
  have aa:CmpLays1 QW 55 #[YX (QJ ⟨h,0,QY⟩),YX (QJ ⟨g,0,QY⟩)] (λx:{k:Nat // k<n}=>Value.int QU ((x.1:Nat):Int)) (λx y=>s_ W (T[x.1]'(by rw[D];exact x.2)) (T[y.1]'(by rw[D];exact y.2))) b 0 d.size w:=λm os dk _ x y=>by
   have ht:Turn (λi=>(Value.slice (QJ ⟨b,0,QY⟩) f.length L).ownBlock=QJ i) w (sortWorld (λx:{k:Nat // k<n}=>Value.int QU ((x.1:Nat):Int)) w b 0 m dk os):=l9_.mono λi _ hi=>by rw[hi];rfl
   have a2:=i_ hb ht ad;have V:=ac b rfl;obtain⟨aq,f1,s1,e1⟩:=a3 x.1 _ (XQ (by rw[D];exact x.2));obtain⟨aw,f2,s2,e2⟩:=a3 y.1 _ (XQ (by rw[D];exact y.2));have hr:r<w.heap.size:=bw_ (p:=⟨r,x.1*18+0,QY⟩) ((O.row x.1 x.2 0 (by omega)).trans (by rw[e1];exact Array.getElem?_eq_getElem (by rw[f3_];omega)));have U:∀q,q≠b->¬(Value.slice (QJ ⟨b,0,QY⟩) f.length L).ownBlock=QJ q:=λq hq e=>by injection e with e;exact hq e.symm
   have ap:StC h c r n cap g W cs (sortWorld (λx:{k:Nat // k<n}=>Value.int QU ((x.1:Nat):Int)) w b 0 m dk os):=
    ⟨(ht.cell (p:=⟨h,0,QY⟩) (bw_ O.ph) (U h (λe=>V.1 e.symm))).trans O.ph,(ht.cell (p:=⟨c,0,QY⟩) (bw_ O.ps) (U c (λe=>V.2.1 e.symm))).trans O.ps,
     λa ha j hj=>(ht.cell (p:=⟨r,a*18+j,QY⟩) hr (U r (λe=>V.2.2.1 e.symm))).trans (O.row a ha j hj),ht.heap O.way (U g (λe=>V.2.2.2 e.symm))⟩
   refine (Dn.calls_drawn (Cl_ W hW h c r n cap g x.1 y.1 cs _ _ s1 s2 _ x.2 y.2 e1 e2 ap (λq=>⟨(aq.get q).2.1,f1 q⟩) f2 (k_ ah a2) (I_ ai a2))).mono λe w' ⟨⟨B,ae⟩,ag⟩=>⟨B,?_⟩;exact Dn.grow_of_below ae (ag (by rw[B];exact λh=>by cases h))
  have Y:=Any.slices_SortFunc Tryz.sortI (λx:{k:Nat // k<n}=>Value.int QU ((x.1:Nat):Int)) (λ_=>rfl) (λx y=>s_ W (T[x.1]'(by rw[D];exact x.2)) (T[y.1]'(by rw[D];exact y.2))) (u7_ (a4_ W) λx:{k:Nat // k<n}=>T[x.1]'(by rw[D];exact x.2)) 55 _ b 0 L d w (enters_of Tryz.func55 (by kernel_rfl) rfl) aa hH a8 a1;rw[o]at Y;refine Y.mono λe w' ⟨B,C,m,os,hp,ao,hw⟩=>⟨B,C.toList.map (·.1),?_,?_,?_,?_⟩
  ·have a7:=hp.2.2;have e1:(C.extract 0 f.length).toList=C.toList:=by rw[show f.length=C.size by rw[hp.1,o]];simp
   have e2:(d.extract 0 f.length).toList=d.toList:=by rw[show f.length=d.size by rw[o]];simp
   rw[e1,e2]at a7;have:=a7.map (·.1);rwa [a4]at this
  ·rw[List.pairwise_iff_getElem];intro i j a5 a0 aj s t G J;simp only[List.length_map,Array.length_toList]at a5 a0;have h2:=ao i j (Nat.zero_le _) aj (by rw[<-o,<-hp.1];exact a0);rw[getElem!_pos _ i a5,getElem!_pos _ j a0]at h2;unfold ltOf at h2;simp only[List.getElem_map,Array.getElem_toList]at G J;rw[XQ (by rw[D];exact (C[i]).2)]at G;rw[XQ (by rw[D];exact (C[j]).2)]at J;injection G with G;injection J with J;rw[<-G,<-J];simpa using h2
  ·have Z:C.size=f.length:=by rw[hp.1,o]
   have hl:(C.toList.map (·.1)).length=f.length:=by rw[List.length_map,Array.length_toList,Z]
   rw[hl,hw];have:=By_ (e:=3) (m:=m) (os:=os) (sz:=1) (λx:{k:Nat // k<n}=>Value.int QU ((x.1:Nat):Int)) (d:=C) X a9 ab af (by rw[Z,Nat.mul_one]);unfold ixC;rw[List.map_map];exact this
  ·rw[hw];exact l9_.mono λi _ hi=>by rw[hi];rfl
end
section
open Go Go.RowKit Go.Maps
structure RwM (w:QV) (b cap n:Nat) (cs:Nat->Array XZ) (wx:QV):Prop where
 turn:Turn (λq=>q=b) w wx
 blk:∃cur,wx.heap[b]?=QJ (XX cur 99 (0,0))/\cur.size=cap*18/\∀a,a<n->∀j,j<18->cur[a*18+j]?=(cs a)[j]?
section
variable {w wx w':QV} {b cap n a:Nat} {cs:Nat->Array XZ}
theorem RwM.drew (h:RwM w b cap n cs wx):RwM w b cap n cs wx.drew:=⟨h.turn.drew,h.blk⟩
theorem RwM.on (h:RwM w b cap n cs wx) (hb:XU wx.heap.size wx w'):RwM w b cap n cs w':=by obtain⟨d,h1,h2,e⟩:=h.blk;exact⟨h.turn.trans ⟨hb.os,hb.tape,hb.output,hb.size,λk f _=>hb.block k f⟩,d,(hb.block b (b_ h1)).trans h1,h2,e⟩
theorem RwM.range (h:RwM w b cap n cs wx) (f:a<n) (g:(cs a).size=18):wx.rangeAt b (a*18) (cs a).toList:=by obtain⟨d,h1,h2,e⟩:=h.blk;refine q1_ (λj i=>?_) g;rw[cell_of_row wx b (a*18+j) d _ _ h1,e a f j i]
theorem RwM.there (h:RwM w b cap n cs wx) (g:a<n) (k:n<=cap):wx.there b (a*18) 18:=by
 obtain⟨d,h1,h2,f⟩:=h.blk;intro j i;have e:a*18+j<d.size:=by rw[h2];omega
 exact⟨by rw[cell_of_row wx b (a*18+j) d _ _ h1,Array.getElem?_eq_getElem e];rfl,frozen_of_row _ _ _ _ _ h1⟩
theorem RwM.store (h:RwM w b cap n cs wx) {c:Array XZ} (r:c.size=18) (y:n<=cap) (x:a<n):RwM w b cap n (λi=>if i=a then c else cs i) (wx.setCells b (a*18) c.toList):=by
 obtain⟨d,h1,h2,p⟩:=h.blk;obtain⟨c',g,k,o⟩:=g5_ c.toList (a*18) h1;refine⟨hr_ (S:=λq=>q=b) b (.inr rfl) _ _ h.turn,c',g,by rw[k,h2],λi hi j t=>?_⟩;rw[o,Array.length_toList,r];by_cases e:i=a
 ·subst e;have f:i*18+j<d.size:=by rw[h2];omega
  rw[if_pos ⟨by omega,by omega,f⟩,if_pos rfl,Nat.add_sub_cancel_left,Array.getElem?_toList]
 ·rw[if_neg (by omega),if_neg e];exact p i hi j t
theorem RwM.clear (h:RwM w b cap n cs wx) {k:Nat} (t:k<=n) (d:List XZ):RwM w b cap k cs (wx.setCells b (k*18) d):=by obtain⟨r,h1,h2,o⟩:=h.blk;obtain⟨c',e,f,g⟩:=g5_ d (k*18) h1;refine⟨hr_ (S:=λq=>q=b) b (.inr rfl) _ _ h.turn,c',e,by rw[f,h2],λi hi j p=>?_⟩;rw[g,if_neg (by omega)];exact o i (by omega) j p
theorem RwM.congr (h:RwM w b cap n cs wx) {d:Nat->Array XZ} (g:∀i,i<n->cs i=d i):RwM w b cap n d wx:=by obtain⟨e,h1,h2,f⟩:=h.blk;exact⟨h.turn,e,h1,h2,λi hi j k=>by rw[<-g i hi];exact f i hi j k⟩
def ElT (K:List e_) (cs:Nat->Array XZ):Prop:=∀i t,K[i]?=QJ t->cn_ t/\(∀n,bt_ (t.get n))/\∃ss:Nat->XZ,(∀n,n<3->∃A cap,ss n = QQ A 0 cap)/\cs i=K_ t ss
theorem RwM.own (h:RwM w b cap n cs wx) {K:List e_} (o:ElT K cs) (p:K.length=n) (C:n<=cap) (B:cap<=maxLen) {F:Nat->Prop} (y:F b):D_ 99 18 TrS wx F K (QQ (QJ ⟨b,0,QY⟩) n cap):=by
 obtain⟨j,h1,h2,q⟩:=h.blk
 have d:∀i,i<n->(cs i).size=18:=λi hi=>by
  obtain⟨_,_,ss,_,e⟩:=o i _ (XQ (by rw[p];exact hi));rw[e];rfl
 subst p;refine⟨cs,⟨ax_ d,.inr ⟨b,cap,j,rfl,Nat.zero_le _,h1,C,B,h2,?_⟩⟩,d,λg f=>by injection f with f;rw[<-f];exact y,λi x D=>o i x D⟩;apply List.ext_getElem?;intro t;by_cases ht:t<K.length*18
 ·have hi:t / 18<K.length:=by omega
  have k:=cq_ d hi (Nat.mod_lt t (by decide:0<18));rw[show t / 18*18+t % 18=t by omega]at k;rw[List.getElem?_take_of_lt ht,k,Array.getElem?_toList];have r:=q (t / 18) hi (t % 18) (Nat.mod_lt t (by decide:0<18));rwa [show t / 18*18+t % 18=t by omega]at r
 ·rw[List.getElem?_take_eq_none (by omega),List.getElem?_eq_none (by rw[ax_ d];omega)]
end
theorem Os_ {P:Program} {e:Array Oper} {rest:List Oper} {op:Oper} {d:Act} {w wx:QV} {Q:Exit->Act->QV->Prop} {b cap n:Nat} {cs:Nat->Array XZ} (k:op.guard=QY) (ty:TypeId) (x y:Operand) (p:op.op = .store ty x y) (a:Nat) (c:Array XZ)
    (q:d.eval x = YX (QJ ⟨b,a*18,QY⟩)) (r:d.eval y = .agg c) (g:RwM w b cap n cs wx) (j:a<n) (o:n<=cap) (f:c.size=18) (hi:(P.info? ty).map (·.size)=some 18) (h1:c.all (·.oneCell')=true)
    (h:∀w',RwM w b cap n (λi=>if i=a then c else cs i) w'->wpList P e Q rest (d.put op.dst undef) w'):wpList P e Q (op::rest) d wx:=
 wpList_store_mid k ty x y p b (a*18) c q r (by rw[f];exact g.there j o) (by rw[f];exact hi) h1 (h _ (g.store f o j))
theorem I6_ {w:QV} {F:Nat->Prop} {L:List e_} {b n cap:Nat} (h:D_ 99 18 TrS w F L (QQ (QJ ⟨b,0,QY⟩) n cap)):∃cs,ElT L cs/\RwM w b cap n cs w/\L.length=n/\n<=cap/\cap<=maxLen/\F b:=by
 obtain⟨A,cp,e⟩:=h.form;injection e with _ e _;obtain⟨cs,d,p,q,x⟩:=h;rcases d.2 with⟨h0,_⟩ | ⟨g,y,f,h0,_,r,h1,h2,k,o⟩
 ·cases h0
 ·injection h0 with h0 h5 h6';injection h0 with h0;injection h0 with h0;subst h0 h6';refine⟨cs,x,⟨Turn.refl _ _,f,r,k,λa B j t=>?_⟩,e.symm,by omega,h2,q b rfl⟩;have i:=cq_ p (show a<L.length by omega) t;rw[<-o,List.getElem?_take_of_lt (by omega),Array.getElem?_toList]at i;exact i
theorem lh_ {o:e_->e_->Int} {L:List e_} {m:Nat} {x y:e_} (f:L[m+1]?=QJ x) (e:L[m]?=QJ y):cpt o (L.take (m+2))=cpt o (L.take (m+1))++(if o x y=0 then [] else [x]):=by
 cases L with
 | nil=>simp at f
 | cons a r=>
  have h1:r[m]?=QJ x:=by simpa using f
  rw[List.take_succ_cons,List.take_succ_cons];have g:=(List.getElem?_eq_some_iff.1 h1).1;rw[f_ h1];show a::kj_ o a (r.take m++[x])=a::kj_ o a (r.take m)++_;rw[Cs_]
  have d:(r.take m).getLastD a=y:=by
   cases m with
   | zero=>simp at e;simpa using e
   | succ m=>
    have h2:r[m]?=QJ y:=by simpa using e
    rw[f_ h2];simp
  rw[d];rfl
theorem Kn_ (o:e_->e_->Int) (L:List e_):(cpt o L).length<=L.length:=by
 cases L with
 | nil=>exact XJ _
 | cons a r=>
  show (kj_ o a r).length+1<=r.length+1
  have:∀p,(kj_ o p r).length<=r.length:=by
   induction r with
   | nil=>intro p;exact XJ _
   | cons b r d=>
    intro p;unfold kj_;split
    ·exact YK (d b) (by simp)
    ·have:=d b;simp;omega
  have:=this a;omega
theorem on_ {P:Program} (w:QV) (b o:Nat) (d:List XZ) (h1:∀j,j<d.length->(w.cell? ⟨b,o+j,QY⟩).isSome=true) (h2:∀j,j<d.length->w.frozen? ⟨b,o+j,QY⟩=false) (f:∀v∈d,v.oneCell'=true) :
    (storeCells ⟨b,o,QY⟩ d).run P w = .ok () (w.setCells b o d):=run_storeCells_cells b o d 0 w (λj e=>h1 j e) (λj e=>h2 j e) f
theorem N4_ (w:QV):(zeroValue 99).run QW w = .ok (.agg #[QK QU 0,XK false,QK QU 0,QZ ⟨#[]⟩,QZ ⟨#[]⟩,QQ QY 0 0,QK QU 0,XK false,QK QU 0,QZ ⟨#[]⟩,QZ ⟨#[]⟩,QQ QY 0 0,QK QU 0,XK false,QK QU 0,QZ ⟨#[]⟩,QZ ⟨#[]⟩,QQ QY 0 0]) w:=by kernel_rfl
theorem Ci_ {w wx:QV} {b cap n k:Nat} {cs:Nat->Array XZ} (h:RwM w b cap n cs wx) (J:n<=cap) (G:k<n):∃C,∀ty,(Builtin.clear_ #[93] ty #[QQ (QJ ⟨b,k*18,QY⟩) (n-k) (cap-k)]).run QW wx = .ok (YY #[]) (wx.setCells b (k*18) C):=by
 obtain⟨f,h1,h2,D⟩:=h.blk;obtain⟨Z,o⟩:∃Z:Array XZ,Z=#[QK QU 0,XK false,QK QU 0,QZ ⟨#[]⟩,QZ ⟨#[]⟩,QQ QY 0 0,QK QU 0,XK false,QK QU 0,QZ ⟨#[]⟩,QZ ⟨#[]⟩,QQ QY 0 0,QK QU 0,XK false,QK QU 0,QZ ⟨#[]⟩,QZ ⟨#[]⟩,QQ QY 0 0]:=⟨_,rfl⟩;have hz:=N4_ wx;rw[<-o]at hz;have d:Z.size=18:=by rw[o];rfl
 have p:∀v∈Z.toList,v.oneCell'=true:=by rw[o];intro v e;simp only[List.mem_cons,List.not_mem_nil,or_false]at e;rcases e with rfl | rfl | rfl | rfl | rfl | rfl | rfl | rfl | rfl | rfl | rfl | rfl | rfl | rfl | rfl | rfl | rfl | rfl<;>rfl
 have t:(Builtin.zeroCells Z (n-k)).size=(n-k)*18:=by unfold Builtin.zeroCells;simp[d]
 refine⟨(Builtin.zeroCells Z (n-k)).toList,λty=>?_⟩
 have g:=on_ (P:=QW) wx b (k*18) (Builtin.zeroCells Z (n-k)).toList (λj x=>by
     rw[Array.length_toList,t]at x;have r:k*18+j<f.size:=by rw[h2];omega
     rw[cell_of_row wx b (k*18+j) f _ _ h1,Array.getElem?_eq_getElem r];rfl) (λj _=>frozen_of_row _ _ _ _ _ h1) (λv e=>by
     unfold Builtin.zeroCells at e;simp only[Array.toList_map,List.mem_map]at e;obtain⟨i,_,rfl⟩:=e;rw[d,getElem!_pos Z (i % 18) (by rw[d];omega)];exact p _ (by simp))
 obtain⟨q,y⟩:∃q,n-k=q+1:=⟨n-k-1,by omega⟩;rw[y]at g ⊢;have B:=run_underlying (P:=QW) Tryz.underlying93 wx;unfold Builtin.clear_;simp only[List.getElem?_toArray,List.getElem?_cons_zero,Sem.run_bind,B,Result.andThen_ok,hz,Value.cells,g,Sem.run_pure]
def Fc_ (o:e_->e_->Int) (L:List e_) (F:Nat->Prop) (s:XZ) (w:QV) (e:Ending) (w':QV):Prop:=
 ∃d,e = XW d/\d.ownBlock=s.ownBlock/\D_ 99 18 TrS w' F (cpt o L) d/\Turn (λb=>s.ownBlock=QJ b) w w'
theorem wj_ (r o n cap a:Nat) (g:a<n) (w:QV):(Instr.indexAt 93 (QQ (QJ ⟨r,o,QY⟩) n cap) (QK QU (a:Nat))).run QW w = .ok (YX (QJ ⟨r,o+a*18,QY⟩)) w:=by
 have e:(0:Int)<=a:=by omega
 have f:(a:Int)<n:=by omega
 have d:(⟨r,o,QY⟩:Addr).add (a*18)=⟨r,o+a*18,QY⟩:=by unfold Addr.add;split<;>simp_all
 go_simp
theorem sj_ {o:e_->e_->Int} {L:List e_} (h:L.length<2):cpt o L=L:=by
 cases L with
 | nil=>rfl
 | cons a r=>
  cases r with
  | nil=>rfl
  | cons b r=>simp only[List.length_cons]at h;omega
theorem vq_ (B:Way) (hW:B.Ok) (g:Nat) (w0:QV) {w:QV} {F:Nat->Prop} {L:List e_} {s:XZ} (h:D_ 99 18 TrS w F L s) (a2:L.length<=100000000)
    (aq:XU w0.heap.size w0 w) (ao:∀b,s.ownBlock=QJ b->w0.heap.size<=b) (au:aa_ w0) (av:b4_ w0) (hp:w.heap[g]?=QJ (XX (gf_ B) 101 (0,0))) :
    Calls QW 52 #[s,.func (.func 53) #[] #[YX (QJ ⟨g,0,QY⟩)]] w (Fc_ (s_ B) L F s w):=by
 obtain⟨A,cap,rfl⟩:=h.form;have HO:=q_ h;obtain⟨n,M⟩:=a_ L.length;rw[M.o];rw[M.o]at a2;by_cases aw:n<2
 ·have e1:(n:Int)<2:=by omega
  have ae:=q_ (show cpt (s_ B) L=L from sj_ (by rw[M.o];exact aw));have HR:=q_ (show Fc_ (s_ B) L F (QQ A n cap) w (XW (QQ A n cap)) w from ⟨_,rfl,rfl,by rw[ae.o,<-M.o];exact HO.o,Turn.refl _ _⟩);clear aw a2 aq ao au av hp h HO ae M;go_enter Tryz.func52,Tryz.ntmps52
  go_wp2_with fail;go_ret;exact HR.o
 ·have e1:¬(n:Int)<2:=by omega
  have a3:=HO.o;rw[M.o]at a3;have hA:∃b,A=QJ ⟨b,0,QY⟩:=by obtain⟨cs,bk,_⟩:=a3;obtain⟨b,cp,e,_⟩:=World.ownsRow.form bk (by rw[M.o];omega);injection e with e _ _;exact⟨b,e⟩
  obtain⟨b,rfl⟩:=hA;obtain⟨Z,b7,b0,bu,ay,ar,ap⟩:=I6_ a3;have O:=q_ b7;have ai:=q_ b0;have ag:=q_ (And.intro ay (And.intro ar ap));have bm:=q_ (show 2<=n from by omega);have HL:=q_ (show n<=100000000 from a2)
  have bd:b≠g:=λe=>by
   obtain⟨c5,h1,_⟩:=b0.blk;rw[e,hp]at h1;injection h1 with h1;injection h1 with _ h1;exact absurd h1 (by decide)
  have af:=q_ (λ(V:QV) (ht:Turn (λq=>q=b) w V)=>i_ aq ht (λq hq=>ao q (by rw[hq];rfl)))
  have a4:=q_ (λ(V:QV) (ht:Turn (λq=>q=b) w V) (x y:e_) (sx sy:Nat->XZ) (hx:cn_ x) (fx:∀n,bt_ (x.get n)) (fy:∀n,bt_ (y.get n))=>
   Ck_ B hW x y sx sy g V (ht.heap hp (λe=>bd e.symm)) (λn=>⟨(hx.get n).2.1,fx n⟩) fy (k_ au (af.o V ht)) (I_ av (af.o V ht)))
  unfold p_ at a4;have a1:=q_ (λ(K:List e_) (k:Nat) (cs:Nat->Array XZ) (V:QV) (hK:K=cpt (s_ B) L) (hk:K.length=k) (ba:k<=n) (he:ElT K cs) (hr:RwM w b cap k cs V)=>(show Fc_ (s_ B) L F (QQ (QJ ⟨b,0,QY⟩) n cap) w (XW (QQ (QJ ⟨b,0,QY⟩) k cap)) V from ⟨_,rfl,rfl,hK▸hr.own he hk (YK ba ay) ar ap,hr.turn.mono λq _ hq=>by rw[hq];rfl⟩));have w2:∀k:Nat,k<=1000000000->IntKind.i64.wrap ((k:Int)+1)=(k:Int)+1:=λk hk=>IntWalk.i64_in _ (by omega);have aj:=q_ w2;clear w2 h HO a3 b7 b0 bu ay ar ap aw a2 aq ao au av hp bd hW af;go_enter Tryz.func52,Tryz.ntmps52
  go_wp2_with fail;go_loopw [5] (λs5 wx=>∃k:Nat,1<=k/\k<=n/\s5 = QK QU (k:Nat)/\Q_ (RwM w b cap n Z wx/\cpt (s_ B) (L.take k)=L.take k)) (λs5 _=>n-(intOf s5).toNat)
  case atStart=>exact⟨1,by omega,by have:=bm.o;omega,rfl,q_ ⟨ai.o,sj_ (by simp;omega)⟩⟩
  case round=>
   obtain⟨k,c7,ba,rfl,hM⟩:=hrel;by_cases bb:k<n
   ·have e3:(k:Int)<n:=by omega
    obtain⟨m,hm⟩:∃m,k=m+1:=⟨k-1,by omega⟩;have X:=q_ hm;have e4:IntKind.i64.wrap ((k:Int)-1)=(m:Nat):=by have:=HL.o;rw[IntWalk.i64_in _ (by omega)];omega
    clear hm;obtain⟨x,hx⟩:∃x,L[k]?=QJ x:=⟨_,XQ (by rw[M.o];exact bb)⟩;obtain⟨y,hy⟩:∃y,L[m]?=QJ y:=⟨_,XQ (by rw[M.o];have:=X.o;omega)⟩;obtain⟨a6,fx,sx,_,ex⟩:=O.o _ _ hx;obtain⟨b1,fy,sy,_,ey⟩:=O.o _ _ hy;have a5:=q_ (a4.o wr.drew hM.o.1.turn.drew x y sx sy a6 fx fy);have HX:=q_ hx;have HY:=q_ hy;clear hx hy a6 fx b1 fy;obtain⟨v,Hv⟩:=a_ (s_ B x y==0);rw[Hv.o]at a5;obtain⟨c1,ab⟩:=be_ x sx;obtain⟨c2,ac⟩:=be_ y sy;rw[ab.o]at a5 ex;rw[ac.o]at a5 ey;have EX:=q_ ex;have EY:=q_ ey;have Z1:=q_ ab.size;have Z2:=q_ ac.size;have Q1:=q_ (fn_.trans (congrArg QJ ab.size.symm));have Q2:=q_ (fn_.trans (congrArg QJ ac.size.symm));have Y:=q_ (show k<n from bb);have aa:=q_ (show L[m+1]?=QJ x from by rw[<-X.o];exact HX.o);clear ex ey ab ac;go_upto_region 6 with fail;refine wp_region_held_drew (S:=λW'=>RwM w b cap n Z W') (by kernel_rfl) hM.o.1.drew λd=>?_;refine P_.o ?_;refine C_ 0 18 (.func (.func 53) #[] #[YX (QJ ⟨g,0,QY⟩)]) d λd=>?_;refine C_ 1 19 (QQ (QJ ⟨b,0,QY⟩) n cap) d λd=>?_;refine C_ 2 20 (QK QU (k:Nat)) d λd=>?_;refine tlW 3 21 (YX (QJ ⟨b,k*18,QY⟩)) d (λw J=>?_) λd=>?_
    ·exact n_ (ot_ b n cap k Y.o w)
    refine tlW 4 22 (.agg c1) d (λw J=>?_) λd=>?_
    ·have p:=J.range Y.o (show (Z k).size=18 from by rw[EX.o];exact Z1.o);rw[EX.o]at p;have q:=run_loadAt_mid (P:=QW) w b (k*18) 99 c1.toList _ p Tryz.underlying99 rfl (by rw[Array.length_toList];exact Q1.o);rw[Array.toArray_toList]at q;exact n_ q
    refine C_ 5 23 (QQ (QJ ⟨b,0,QY⟩) n cap) d λd=>?_;refine C_ 6 24 (QK QU (k:Nat)) d λd=>?_;refine C_ 7 25 (QK QU (m:Nat)) d λd=>?_;refine tlW 8 26 (YX (QJ ⟨b,m*18,QY⟩)) d (λw J=>?_) λd=>?_
    ·exact n_ (ot_ b n cap m (by have:=Y.o;have:=X.o;omega) w)
    refine tlW 9 27 (.agg c2) d (λw J=>?_) λd=>?_
    ·have p:=J.range (by have:=Y.o;have:=X.o;omega) (show (Z m).size=18 from by rw[EY.o];exact Z2.o);rw[EY.o]at p;have q:=run_loadAt_mid (P:=QW) w b (m*18) 99 c2.toList _ p Tryz.underlying99 rfl (by rw[Array.length_toList];exact Q2.o);rw[Array.toArray_toList]at q;exact n_ q
    refine tlC 10 λK hK=>?_;go_simp;refine (a5.o).mono ?_;rintro e w3 ⟨rfl,b5⟩;have ah:=q_ (hM.o.1.drew.on b5);have HC:=q_ hM.o.2;clear b5 a5 hM;dsimp only;refine tlB hK ah.o λd=>?_;clear hK K;refine⟨wpAnyH_done (by kernel_rfl) ?_ _⟩;clear d
    cases v with
    | false=>
     have w1:=aj.o k (by have:=Y.o;have:=HL.o;omega);have hz:¬s_ B x y=0:=by simpa using Hv.o
     have HZ:=q_ hz;clear hz;go_wp2_with fail;go_roundw
     case rel=>exact⟨k+1,by omega,by have:=Y.o;omega,by go_num,q_ ⟨ah.o,by have hc:=HC.o;rw[X.o]at hc ⊢;rw[lh_ aa.o HY.o,if_neg HZ.o,hc,<-f_ aa.o]⟩⟩
     case measure=>have:=Y.o;simp[intOf];omega
    | true=>
     have hz:s_ B x y=0:=by simpa using Hv.o
     have HK:=q_ (show cpt (s_ B) (L.take (k+1))=L.take k from by have hc:=HC.o;rw[X.o]at hc ⊢;rw[lh_ aa.o HY.o,if_pos hz,hc,List.append_nil]);clear hz HC aa X e4 Hv EX EY Q1 Q2 Z1 Z2 HX HY;have e5:(0:Int)<=k:=by omega
     have e6:(k:Int)<=n:=by omega
     have e7:(n:Int)<=cap:=by have:=ag.o.1;omega
     have e8:(n:Int)-k=((n-k:Nat):Int):=by omega
     have bx:(⟨b,0,QY⟩:Addr).add (k*18)=⟨b,k*18,QY⟩:=by rw[Addr.add_mid,Nat.zero_add]
     go_wp2_with fail;go_loopw [5,7] (λs5 s7 wx=>∃(j f:Nat) (G:Nat->Array XZ),1<=f/\k+f<=n/\j+1<=k+f/\s5 = QK QU (j:Nat)/\s7 = QK QU (f:Nat)/\Q_ (RwM w b cap n G wx/\(cpt (s_ B) (L.take (k+f))).length=j/\ElT (cpt (s_ B) (L.take (k+f))) G/\∀i,k+f<=i+1->i<n->G i=Z i)) (λ_ s7 _=>n-(intOf s7).toNat)
     case atStart=>exact⟨k,1,Z,by omega,by omega,by omega,rfl,rfl,q_ ⟨ah.o,by rw[HK.o,List.length_take,M.o];omega,by rw[HK.o];exact λi t hi=>O.o i t (by have:=(List.getElem?_eq_some_iff.1 hi).1;rw[List.length_take]at this;rw[List.getElem?_take_of_lt (by omega)]at hi;exact hi),λ_ _ _=>rfl⟩⟩
     case round=>
      obtain⟨j,f,G,c3,c4,c8,rfl,rfl,T⟩:=hrel;by_cases a8:k+f<n
      ·have e9:(f:Int)<((n-k:Nat):Int):=by omega
       obtain⟨C,bc⟩:∃C,f=C+1:=⟨f-1,by omega⟩;have D:=q_ bc;have c6:IntKind.i64.wrap ((f:Int)-1)=(C:Nat):=by have:=HL.o;rw[IntWalk.i64_in _ (by omega)];omega
       clear bc;obtain⟨x2,hx⟩:∃x2,L[k+f]?=QJ x2:=⟨_,XQ (by rw[M.o];exact a8)⟩;obtain⟨y2,hy⟩:∃y2,L[k+C]?=QJ y2:=⟨_,XQ (by rw[M.o];have:=D.o;omega)⟩;have bi:=q_ (O.o _ _ hx);obtain⟨a6,fx,b2,bf,ex⟩:=O.o _ _ hx;obtain⟨b1,fy,bh,_,ey⟩:=O.o _ _ hy;rw[<-T.o.2.2.2 (k+f) (by omega) a8]at ex;rw[<-T.o.2.2.2 (k+C) (by have:=D.o;omega) (by have:=D.o;omega)]at ey;have a0:=q_ (a4.o wr.drew T.o.1.turn.drew x2 y2 b2 bh a6 fx fy);have HX:=q_ hx;have HY:=q_ hy;clear hx hy a6 fx b1 fy;obtain⟨v2,am⟩:=a_ (s_ B x2 y2==0);rw[am.o]at a0;obtain⟨d1,ad⟩:=be_ x2 b2;obtain⟨d2,ak⟩:=be_ y2 bh;rw[ad.o]at a0 ex;rw[ak.o]at a0 ey;have EX:=q_ ex;have EY:=q_ ey;have Z1:=q_ ad.size;have Z2:=q_ ak.size;have Q1:=q_ (fn_.trans (congrArg QJ ad.size.symm));have Q2:=q_ (fn_.trans (congrArg QJ ak.size.symm));have r:=q_ a8;have o1:=cf_ x2 b2 λq hq=>by obtain⟨A,cp,e⟩:=bf q hq;exact⟨A,0,cp,e⟩
       rw[ad.o]at o1;have O1:=q_ (show d1.all (·.oneCell')=true from by rw[<-Array.toArray_toList (xs:=d1)];exact all_oneCell_toArray o1);clear o1 bf;clear ex ey;go_upto_region 11 with fail;refine wp_region_held_drew (S:=λW'=>RwM w b cap n G W') (by kernel_rfl) T.o.1.drew λd=>?_;refine P_.o ?_;refine C_ 0 38 (.func (.func 53) #[] #[YX (QJ ⟨g,0,QY⟩)]) d λd=>?_;refine C_ 1 39 (QQ (QJ ⟨b,k*18,QY⟩) (n-k) (cap-k)) d λd=>?_;refine C_ 2 40 (QK QU (f:Nat)) d λd=>?_;refine tlW 3 41 (YX (QJ ⟨b,k*18+f*18,QY⟩)) d (λw J=>?_) λd=>?_
       ·exact n_ (wj_ b (k*18) (n-k) (cap-k) f (by have:=r.o;omega) w)
       refine tlW 4 42 (.agg d1) d (λw J=>?_) λd=>?_
       ·have p:=J.range (a:=k+f) r.o (show (G (k+f)).size=18 from by rw[EX.o];exact Z1.o);rw[EX.o,show (k+f)*18=k*18+f*18 by omega]at p;have q:=run_loadAt_mid (P:=QW) w b (k*18+f*18) 99 d1.toList _ p Tryz.underlying99 rfl (by rw[Array.length_toList];exact Q1.o);rw[Array.toArray_toList]at q;exact n_ q
       refine C_ 5 43 (QQ (QJ ⟨b,k*18,QY⟩) (n-k) (cap-k)) d λd=>?_;refine C_ 6 44 (QK QU (f:Nat)) d λd=>?_;refine C_ 7 45 (QK QU (C:Nat)) d λd=>?_;refine tlW 8 46 (YX (QJ ⟨b,k*18+C*18,QY⟩)) d (λw J=>?_) λd=>?_
       ·exact n_ (wj_ b (k*18) (n-k) (cap-k) C (by have:=r.o;have:=D.o;omega) w)
       refine tlW 9 47 (.agg d2) d (λw J=>?_) λd=>?_
       ·have p:=J.range (a:=k+C) (by have:=r.o;have:=D.o;omega) (show (G (k+C)).size=18 from by rw[EY.o];exact Z2.o);rw[EY.o,show (k+C)*18=k*18+C*18 by omega]at p;have q:=run_loadAt_mid (P:=QW) w b (k*18+C*18) 99 d2.toList _ p Tryz.underlying99 rfl (by rw[Array.length_toList];exact Q2.o);rw[Array.toArray_toList]at q;exact n_ q
       refine tlC 10 λK hK=>?_;go_simp;refine (a0.o).mono ?_;rintro e w4 ⟨rfl,b6⟩;have a9:=q_ (T.o.1.drew.on b6);have U:=q_ T.o.2;clear b6 a0 T;dsimp only;refine tlB hK a9.o λd=>?_;clear hK K;refine C_ 11 49 (XK (!v2)) d λd=>?_;refine⟨wpAnyH_done (by kernel_rfl) ?_ _⟩;clear d;have w5:=aj.o f (by have:=r.o;have:=HL.o;omega)
       cases v2 with
       | true=>
        have hz:s_ B x2 y2=0:=by simpa using am.o
        have HZ:=q_ hz;clear hz;go_wp2_with fail;go_roundw
        case rel=>
         have h0:=lh_ (o:=s_ B) (L:=L) (m:=k+C) (x:=x2) (y:=y2) (by rw[show k+C+1=k+f by have:=D.o;omega];exact HX.o) HY.o;rw[if_pos HZ.o,List.append_nil,show k+C+2=k+(f+1) by have:=D.o;omega,show k+C+1=k+f by have:=D.o;omega]at h0;exact⟨j,f+1,G,by omega,by have:=r.o;omega,by omega,rfl,by go_num,q_ ⟨a9.o,by rw[h0];exact U.o.1,by rw[h0];exact U.o.2.1,λi h1 h2=>U.o.2.2 i (by omega) h2⟩⟩
        case measure=>have:=r.o;simp[intOf];omega
       | false=>
        have hz:¬s_ B x2 y2=0:=by simpa using am.o
        have HZ:=q_ hz;clear hz;have w6:=aj.o j (by have:=r.o;have:=HL.o;omega);have bp:(0:Int)<=j:=by omega
        have bq:(j:Int)<n:=by have:=r.o;omega
        have br:(0:Int)<=f:=by omega
        have b3:(⟨b,0,QY⟩:Addr).add (j*18)=⟨b,j*18,QY⟩:=by rw[Addr.add_mid,Nat.zero_add]
        have bw:(⟨b,k*18,QY⟩:Addr).add (f*18)=⟨b,k*18+f*18,QY⟩:=Addr.add_mid _ _ _;have az:=a9.o.range (a:=k+f) r.o (show (G (k+f)).size=18 from by rw[EX.o];exact Z1.o);rw[EX.o,show (k+f)*18=k*18+f*18 by omega]at az;have bo:=q_ az;clear az
        go_wp2_with (first
         | ((with_reducible refine d_ (some 55) ?_);refine x_ rfl 99 _ rfl b (k*18+f*18) rfl d1 _ bo.o Tryz.underlying99 rfl Q1.o ?_)
         | ((with_reducible refine y_ 56 ?_);refine Os_ rfl 99 _ _ rfl j d1 rfl rfl a9.o (by have:=r.o;omega) ag.o.1 Z1.o fn_ O1.o ?_;intro w7 b4))
        have bn:=q_ b4;clear b4;go_roundw
        case rel=>
         have h0:=lh_ (o:=s_ B) (L:=L) (m:=k+C) (x:=x2) (y:=y2) (by rw[show k+C+1=k+f by have:=D.o;omega];exact HX.o) HY.o;rw[if_neg HZ.o,show k+C+2=k+(f+1) by have:=D.o;omega,show k+C+1=k+f by have:=D.o;omega]at h0;refine⟨j+1,f+1,λi=>if i=j then d1 else G i,by omega,by have:=r.o;omega,by omega,by go_num,by go_num,q_ ⟨bn.o,by rw[h0,List.length_append,U.o.1];rfl,?_,λi h1 h2=>?_⟩⟩
         ·rw[h0];intro i t hi;rcases Nat.lt_or_ge i j with bj | c0
          ·rw[List.getElem?_append_left (by rw[U.o.1];exact bj)]at hi;dsimp only;rw[if_neg (show ¬i=j by omega)];exact U.o.2.1 i t hi
          ·have b8:=(List.getElem?_eq_some_iff.1 hi).1;rw[List.length_append,U.o.1]at b8;have bs:i=j:=by simp only[List.length_cons,List.length_nil]at b8;omega
           subst bs;rw[List.getElem?_append_right (by rw[U.o.1];exact XJ _),U.o.1,Nat.sub_self]at hi;injection hi with hi;subst hi;dsimp only;rw[if_pos rfl];obtain⟨g1,g2,g3,g4,g5⟩:=bi.o;exact⟨g1,g2,g3,g4,by rw[<-EX.o,U.o.2.2 (k+f) (by omega) r.o];exact g5⟩
         ·dsimp only;rw[if_neg (show ¬i=j by omega)];exact U.o.2.2 i (by omega) h2
        case measure=>have:=r.o;simp[intOf];omega
      ·have a7:k+f=n:=by omega
       have b9:j<n:=by omega
       obtain⟨zs,bg⟩:=Ci_ T.o.1 ag.o.1 b9;have bz:=bg;have e9:¬(f:Int)<((n-k:Nat):Int):=by omega
       have bp:(0:Int)<=j:=by omega
       have bq:(j:Int)<=n:=by omega
       have br:(j:Int)<=cap:=by omega
       have b3:(⟨b,0,QY⟩:Addr).add (j*18)=⟨b,j*18,QY⟩:=by rw[Addr.add_mid,Nat.zero_add]
       have bl:=q_ (a1.o (cpt (s_ B) L) j G (wr.setCells b (j*18) zs) rfl (by have h:=T.o.2.1;rw[a7,List.take_of_length_le (by rw[M.o];exact XJ _)]at h;exact h) (by omega) (by have h:=T.o.2.2.1;rw[a7,List.take_of_length_le (by rw[M.o];exact XJ _)]at h;exact h) (T.o.1.clear (by omega) zs));clear T a1 a4 O ai a7 b9 bg;go_wp2_with fail;go_ret;exact bl.o
   ·have bt:n=k:=by omega
    subst bt;have HR:=q_ (a1.o L n Z wr (by have h:=hM.o.2;rw[List.take_of_length_le (by rw[M.o];exact XJ _)]at h;exact h.symm) M.o (XJ _) O.o hM.o.1);have e3:¬(n:Int)<n:=by omega
    clear a1 a4 O ai hM;go_wp2_with fail;go_ret;exact HR.o
end
section
open Go Go.RowKit
def gg_ (i:Nat):ByteArray:=if i=0 then ⟨#[115,112,111]⟩ else if i=1 then ⟨#[115,111,112]⟩ else if i=2 then ⟨#[112,115,111]⟩ else if i=3 then ⟨#[112,111,115]⟩ else if i=4 then ⟨#[111,115,112]⟩ else ⟨#[111,112,115]⟩
def k3_ (i:Nat) (w:QV) (e:Ending) (w':QV):Prop:=e = XW (YY #[.agg (gf_ (ae_ i)),QK QU (i:Nat),XK true])/\XU w.heap.size w w'
theorem da_ {P:Program} {f:Func} {a u v:Tmp} {T o:TypeId} {w:QV} (h:f.results=#[.cell a T,.tmp u,.tmp v]) {e:Array XZ} {g:Nat} (ht:e.getD a undef = YX (QJ ⟨g,0,QY⟩)) {c:Array XZ} (r:w.heap[g]?=QJ (XX c o (0,0)))
    (d:TypeDesc) (q:P.underlying T=QJ d) (p:d.isRow=true) (hi:(P.info? T).map (·.size)=QJ c.size) {x y:XZ} (t:e.getD u undef=x) (B:e.getD v undef=y):(results f e).run P w = .ok (.tuple #[.agg c,x,y]) w:=by
 have:=run_loadVar_mid (P:=P) w g 0 T c.toList d (m_ r) q p (by rw[Array.length_toList];exact hi);rw[Array.toArray_toList]at this;have i:e[a]?.getD undef = YX (QJ ⟨g,0,QY⟩):=by rw[<-ht];simp
 have j:e[u]?.getD undef=x:=by rw[<-t];simp
 have k:e[v]?.getD undef=y:=by rw[<-B];simp
 simp[results,h,i,asAddr,this,j,k]
theorem Mi_ (w:QV):Calls QW 48 #[QZ ⟨#[115,112,111]⟩] w (k3_ 0 w):=by
 obtain⟨z,f⟩:=a_ w.heap.size;obtain⟨q,e⟩:=a_ (w.alloc (XX #[QK QU 0,QK QU 0,QK QU 0] 101));have h:=q_ (show XU w.heap.size w q from by rw[<-e.o];exact (XV _ _).alloc (XJ _) _);have t:=q_ (show q.heap[z]?=QJ (XX #[QK QU 0,QK QU 0,QK QU 0] 101 (0,0)) from by rw[<-e.o,<-f.o];exact heap_alloc_new w _);have j:=q_ (show (Tryz.prog.info? 101).map (·.size)=some 3 from by kernel_rfl);go_enter Tryz.func48,Tryz.ntmps48
 go_upto_region 1 with fail;rw[e.o,f.o];clear e;have r:=q_ (show (#[QK QU 0,QK QU 1,QK QU 2]:Array XZ).all (·.oneCell')=true from by kernel_rfl);go_wp2_with ((with_reducible refine y_ 2 ?_);refine r_ rfl 101 _ _ rfl z (#[QK QU 0,QK QU 0,QK QU 0]) (#[QK QU 0,QK QU 1,QK QU 2]) 101 rfl rfl t.o rfl j.o r.o ?_;intro w2 p d)
 have i:=q_ (show XU w.heap.size w w2 from h.o.trans ⟨d.os,d.tape,d.output,d.size,λk x=>d.block k (XY x h.o.size) (by rw[<-f.o];omega)⟩);refine bodyPost_ret (v:=YY #[.agg (#[QK QU 0,QK QU 1,QK QU 2]),QK QU 0,XK true]) (da_ Tryz.results48 (g:=z) rfl p _ Tryz.underlying101 rfl j.o rfl rfl) rfl ⟨rfl,i.o⟩
theorem Ov_ (w:QV):Calls QW 48 #[QZ ⟨#[115,111,112]⟩] w (k3_ 1 w):=by
 obtain⟨z,f⟩:=a_ w.heap.size;obtain⟨q,e⟩:=a_ (w.alloc (XX #[QK QU 0,QK QU 0,QK QU 0] 101));have h:=q_ (show XU w.heap.size w q from by rw[<-e.o];exact (XV _ _).alloc (XJ _) _);have t:=q_ (show q.heap[z]?=QJ (XX #[QK QU 0,QK QU 0,QK QU 0] 101 (0,0)) from by rw[<-e.o,<-f.o];exact heap_alloc_new w _);have j:=q_ (show (Tryz.prog.info? 101).map (·.size)=some 3 from by kernel_rfl);go_enter Tryz.func48,Tryz.ntmps48
 go_upto_region 1 with fail;rw[e.o,f.o];clear e;have r:=q_ (show (#[QK QU 0,QK QU 2,QK QU 1]:Array XZ).all (·.oneCell')=true from by kernel_rfl);go_wp2_with ((with_reducible refine y_ 2 ?_);refine r_ rfl 101 _ _ rfl z (#[QK QU 0,QK QU 0,QK QU 0]) (#[QK QU 0,QK QU 2,QK QU 1]) 101 rfl rfl t.o rfl j.o r.o ?_;intro w2 p d)
 have i:=q_ (show XU w.heap.size w w2 from h.o.trans ⟨d.os,d.tape,d.output,d.size,λk x=>d.block k (XY x h.o.size) (by rw[<-f.o];omega)⟩);refine bodyPost_ret (v:=YY #[.agg (#[QK QU 0,QK QU 2,QK QU 1]),QK QU 1,XK true]) (da_ Tryz.results48 (g:=z) rfl p _ Tryz.underlying101 rfl j.o rfl rfl) rfl ⟨rfl,i.o⟩
theorem Ow_ (w:QV):Calls QW 48 #[QZ ⟨#[112,115,111]⟩] w (k3_ 2 w):=by
 obtain⟨z,f⟩:=a_ w.heap.size;obtain⟨q,e⟩:=a_ (w.alloc (XX #[QK QU 0,QK QU 0,QK QU 0] 101));have h:=q_ (show XU w.heap.size w q from by rw[<-e.o];exact (XV _ _).alloc (XJ _) _);have t:=q_ (show q.heap[z]?=QJ (XX #[QK QU 0,QK QU 0,QK QU 0] 101 (0,0)) from by rw[<-e.o,<-f.o];exact heap_alloc_new w _);have j:=q_ (show (Tryz.prog.info? 101).map (·.size)=some 3 from by kernel_rfl);go_enter Tryz.func48,Tryz.ntmps48
 go_upto_region 1 with fail;rw[e.o,f.o];clear e;have r:=q_ (show (#[QK QU 1,QK QU 0,QK QU 2]:Array XZ).all (·.oneCell')=true from by kernel_rfl);go_wp2_with ((with_reducible refine y_ 2 ?_);refine r_ rfl 101 _ _ rfl z (#[QK QU 0,QK QU 0,QK QU 0]) (#[QK QU 1,QK QU 0,QK QU 2]) 101 rfl rfl t.o rfl j.o r.o ?_;intro w2 p d)
 have i:=q_ (show XU w.heap.size w w2 from h.o.trans ⟨d.os,d.tape,d.output,d.size,λk x=>d.block k (XY x h.o.size) (by rw[<-f.o];omega)⟩);refine bodyPost_ret (v:=YY #[.agg (#[QK QU 1,QK QU 0,QK QU 2]),QK QU 2,XK true]) (da_ Tryz.results48 (g:=z) rfl p _ Tryz.underlying101 rfl j.o rfl rfl) rfl ⟨rfl,i.o⟩
theorem Ox_ (w:QV):Calls QW 48 #[QZ ⟨#[112,111,115]⟩] w (k3_ 3 w):=by
 obtain⟨z,f⟩:=a_ w.heap.size;obtain⟨q,e⟩:=a_ (w.alloc (XX #[QK QU 0,QK QU 0,QK QU 0] 101));have h:=q_ (show XU w.heap.size w q from by rw[<-e.o];exact (XV _ _).alloc (XJ _) _);have t:=q_ (show q.heap[z]?=QJ (XX #[QK QU 0,QK QU 0,QK QU 0] 101 (0,0)) from by rw[<-e.o,<-f.o];exact heap_alloc_new w _);have j:=q_ (show (Tryz.prog.info? 101).map (·.size)=some 3 from by kernel_rfl);go_enter Tryz.func48,Tryz.ntmps48
 go_upto_region 1 with fail;rw[e.o,f.o];clear e;have r:=q_ (show (#[QK QU 1,QK QU 2,QK QU 0]:Array XZ).all (·.oneCell')=true from by kernel_rfl);go_wp2_with ((with_reducible refine y_ 2 ?_);refine r_ rfl 101 _ _ rfl z (#[QK QU 0,QK QU 0,QK QU 0]) (#[QK QU 1,QK QU 2,QK QU 0]) 101 rfl rfl t.o rfl j.o r.o ?_;intro w2 p d)
 have i:=q_ (show XU w.heap.size w w2 from h.o.trans ⟨d.os,d.tape,d.output,d.size,λk x=>d.block k (XY x h.o.size) (by rw[<-f.o];omega)⟩);refine bodyPost_ret (v:=YY #[.agg (#[QK QU 1,QK QU 2,QK QU 0]),QK QU 3,XK true]) (da_ Tryz.results48 (g:=z) rfl p _ Tryz.underlying101 rfl j.o rfl rfl) rfl ⟨rfl,i.o⟩
theorem Oy_ (w:QV):Calls QW 48 #[QZ ⟨#[111,115,112]⟩] w (k3_ 4 w):=by
 obtain⟨z,f⟩:=a_ w.heap.size;obtain⟨q,e⟩:=a_ (w.alloc (XX #[QK QU 0,QK QU 0,QK QU 0] 101));have h:=q_ (show XU w.heap.size w q from by rw[<-e.o];exact (XV _ _).alloc (XJ _) _);have t:=q_ (show q.heap[z]?=QJ (XX #[QK QU 0,QK QU 0,QK QU 0] 101 (0,0)) from by rw[<-e.o,<-f.o];exact heap_alloc_new w _);have j:=q_ (show (Tryz.prog.info? 101).map (·.size)=some 3 from by kernel_rfl);go_enter Tryz.func48,Tryz.ntmps48
 go_upto_region 1 with fail;rw[e.o,f.o];clear e;have r:=q_ (show (#[QK QU 2,QK QU 0,QK QU 1]:Array XZ).all (·.oneCell')=true from by kernel_rfl);go_wp2_with ((with_reducible refine y_ 2 ?_);refine r_ rfl 101 _ _ rfl z (#[QK QU 0,QK QU 0,QK QU 0]) (#[QK QU 2,QK QU 0,QK QU 1]) 101 rfl rfl t.o rfl j.o r.o ?_;intro w2 p d)
 have i:=q_ (show XU w.heap.size w w2 from h.o.trans ⟨d.os,d.tape,d.output,d.size,λk x=>d.block k (XY x h.o.size) (by rw[<-f.o];omega)⟩);refine bodyPost_ret (v:=YY #[.agg (#[QK QU 2,QK QU 0,QK QU 1]),QK QU 4,XK true]) (da_ Tryz.results48 (g:=z) rfl p _ Tryz.underlying101 rfl j.o rfl rfl) rfl ⟨rfl,i.o⟩
theorem Oz_ (w:QV):Calls QW 48 #[QZ ⟨#[111,112,115]⟩] w (k3_ 5 w):=by
 obtain⟨z,f⟩:=a_ w.heap.size;obtain⟨q,e⟩:=a_ (w.alloc (XX #[QK QU 0,QK QU 0,QK QU 0] 101));have h:=q_ (show XU w.heap.size w q from by rw[<-e.o];exact (XV _ _).alloc (XJ _) _);have t:=q_ (show q.heap[z]?=QJ (XX #[QK QU 0,QK QU 0,QK QU 0] 101 (0,0)) from by rw[<-e.o,<-f.o];exact heap_alloc_new w _);have j:=q_ (show (Tryz.prog.info? 101).map (·.size)=some 3 from by kernel_rfl);go_enter Tryz.func48,Tryz.ntmps48
 go_upto_region 1 with fail;rw[e.o,f.o];clear e;have r:=q_ (show (#[QK QU 2,QK QU 1,QK QU 0]:Array XZ).all (·.oneCell')=true from by kernel_rfl);go_wp2_with ((with_reducible refine y_ 2 ?_);refine r_ rfl 101 _ _ rfl z (#[QK QU 0,QK QU 0,QK QU 0]) (#[QK QU 2,QK QU 1,QK QU 0]) 101 rfl rfl t.o rfl j.o r.o ?_;intro w2 p d)
 have i:=q_ (show XU w.heap.size w w2 from h.o.trans ⟨d.os,d.tape,d.output,d.size,λk x=>d.block k (XY x h.o.size) (by rw[<-f.o];omega)⟩);refine bodyPost_ret (v:=YY #[.agg (#[QK QU 2,QK QU 1,QK QU 0]),QK QU 5,XK true]) (da_ Tryz.results48 (g:=z) rfl p _ Tryz.underlying101 rfl j.o rfl rfl) rfl ⟨rfl,i.o⟩
theorem L6_ (i:Nat) (hi:i<6) (w:QV):Calls QW 48 #[QZ (gg_ i)] w (k3_ i w):=by
 rcases (show i=0\/i=1\/i=2\/i=3\/i=4\/i=5 by omega) with rfl | rfl | rfl | rfl | rfl | rfl
 ·exact Mi_ w
 ·exact Ov_ w
 ·exact Ow_ w
 ·exact Ox_ w
 ·exact Oy_ w
 ·exact Oz_ w
end
section
open Go Go.RowKit Go.Maps
theorem o0_ {w:QV} {b e sz:Nat} {v:XZ} {n:Nat} {xs i:List XZ} (h1:w.ownsRow b e sz v n xs) (h2:w.ownsRow b e sz v n i):xs=i:=by
 rcases h1.2 with⟨g,k⟩ | ⟨t,q,B,g,_,j,_,_,_,o⟩
 ·have h:=h1.1;have l2:=h2.1;rw[k,Nat.zero_mul]at h l2;rw[List.eq_nil_of_length_eq_zero h,List.eq_nil_of_length_eq_zero l2]
 ·rcases h2.2 with⟨d,y⟩ | ⟨x,r,C,d,_,f,_,_,_,p⟩
  ·rw[g]at d;cases d
  ·rw[g]at d;injection d with d _ e3;injection d with d;injection d with d;subst d e3;rw[j]at f;injection f with f;injection f with f;subst f;rw[<-o,<-p]
theorem K3_:(Tryz.prog.info? 99).map (λi=>(i.zero,i.size,i.bytes))=QJ (QJ (.agg #[QK QU 0,XK false,QK QU 0,QZ ⟨#[]⟩,QZ ⟨#[]⟩,QQ QY 0 0,QK QU 0,XK false,QK QU 0,QZ ⟨#[]⟩,QZ ⟨#[]⟩,QQ QY 0 0,QK QU 0,XK false,QK QU 0,QZ ⟨#[]⟩,QZ ⟨#[]⟩,QQ QY 0 0]),18,240):=by kernel_rfl
theorem Ng_:(Tryz.prog.info? 3).map (λi=>(i.zero,i.size,i.bytes))=QJ (QJ (QK QU 0),1,8):=by kernel_rfl
theorem rk_ {op:Oper} {a:Act} {K:Act->QV->Prop} {Q:Exit->Act->QV->Prop} (s x:Operand) (Z:op.op = .call { callee:=.builtin .append,args:=#[s,x],argTypes:=#[93,93] })
    {wr:QV} {F:Nat->Prop} {L:List e_} {S:XZ} {t:e_} {c:Array XZ} {n:Nat} (X:a.eval s=S) (j:D_ 99 18 TrS wr F L S) (V:L.length=n) (hx:a.eval x = QQ (QJ ⟨wr.heap.size,0,QY⟩) 1 1) (i:∀w F,TrS w F t c) (Y:n<=1000000) (U:∀b,F b->b<wr.heap.size)
    (h:∀g cap w',D_ 99 18 TrS w' (λb=>F b\/b=g) (L++[t]) (QQ (QJ ⟨g,0,QY⟩) (n+1) cap)->wr.grownBy w' S.ownBlock->(S.ownBlock=QJ g\/wr.heap.size<=g)->g<w'.heap.size->K (a.put op.dst (QQ (QJ ⟨g,0,QY⟩) (n+1) cap)) w') :
    op.wp QW a (wr.alloc (XX c 99)) K Q:=by
 subst V;obtain⟨i0,hi,B,C,D⟩:=info_parts K3_;obtain⟨cs,d,T,k,hr⟩:=j;have f:c.size=18:=by obtain⟨_,_,ss,_,e⟩:=i wr F;rw[e];rfl
 have o:∀u∈c.toList,u.oneCell'=true:=by obtain⟨_,_,ss,hs,e⟩:=i wr F;rw[e];exact cf_ t ss λq hq=>by obtain⟨A,cp,e⟩:=hs q hq;exact⟨A,0,cp,e⟩
 refine wp_append_lies _ s x _ Z 0 99 i0 _ 18 240 Tryz.underlying93 hi B C D rfl (by decide) S L.length (T_ cs L.length) X (d.alloc _) ⟨wr.heap.size,0,none⟩ 1 1 c.toList hx (by rw[Array.length_toList,f]) (World.news_of_block (heap_alloc_new wr _)) o (by omega) (by unfold maxLen;omega) (by omega) (Nat.zero_le _) (wr.heap.size+1) (by simp) λg cap w' h1 h2 M O=>?_;have p:=az_ h2;have r:S.ownBlock=some g\/wr.heap.size<=g:=M.imp id (λe=>by rw[e];omega);have y:=D_.snoc (x:=t) (c:=c) (G:=λ_=>False) TrS.good ⟨cs,d,T,k,hr⟩ (i _ _) f (λb hb=>hb.elim) U (λb hb=>hb.elim) (λa0 J=>by rw[o0_ J d];exact h1) p r;exact h g cap w' (y.mono TrS.good λb hb=>by rcases hb with hb | hb | hb;exact .inl hb;exact hb.elim;exact .inr hb) p r O
theorem ym_ {op:Oper} {a:Act} {K:Act->QV->Prop} {Q:Exit->Act->QV->Prop} (s x:Operand) (B:op.op = .call { callee:=.builtin .append,args:=#[s,x],argTypes:=#[94,94] })
    {wr:QV} {d:List Nat} {S:XZ} {k n:Nat} (t:a.eval s=S) (G:d.length=n) (f:wr.ownsRow 0 3 1 S n (ixC d)) (C:a.eval x = QQ (QJ ⟨wr.heap.size,0,QY⟩) 1 1) (y:n<=1000000)
    (h:∀g cap w',w'.ownsRow 0 3 1 (QQ (QJ ⟨g,0,QY⟩) (n+1) cap) (n+1) (ixC (d++[k]))->wr.grownBy w' S.ownBlock->(S.ownBlock=QJ g\/wr.heap.size<=g)->g<w'.heap.size->K (a.put op.dst (QQ (QJ ⟨g,0,QY⟩) (n+1) cap)) w') :
    op.wp QW a (wr.alloc (XX #[QK QU (k:Nat)] 3)) K Q:=by
 obtain⟨D,hi,j,o,p⟩:=info_parts Ng_;refine wp_append_lies _ s x _ B 0 3 D _ 1 8 Tryz.underlying94 hi j o p rfl (by decide) S n (ixC d) t (f.alloc _) ⟨wr.heap.size,0,QY⟩ 1 1 [QK QU (k:Nat)] C rfl (World.news_of_block (cs:=#[QK QU (k:Nat)]) (heap_alloc_new wr _)) (λu i=>by simp at i;subst i;rfl) (by omega) (by unfold maxLen;omega) (by omega) (Nat.zero_le _) (wr.heap.size+1) (by simp) λg cap w' h1 h2 q r=>?_;exact h g cap w' (by unfold ixC at h1 ⊢;rw[List.map_append];exact h1) (az_ h2) (q.imp id (λe=>by rw[e];omega)) r
structure LdM (w0:QV) (c:Nat) (S:XZ) (ss:Nat->XZ) (wx:QV):Prop where
 hb:XU w0.heap.size w0 wx
 c0:w0.heap.size<=c
 ph:wx.heap[c+1]?=QJ (XX #[YX (QJ ⟨c,0,QY⟩)] 29 (0,0))
 pc:wx.heap[c]?=QJ (XX #[S,ss 0,ss 1,ss 2,ss 3,ss 4,ss 5] 97 (0,0))
section
variable {w0 wx w':QV} {c:Nat} {S:XZ} {ss:Nat->XZ}
theorem LdM.on (h:LdM w0 c S ss wx) (hb:XU wx.heap.size wx w'):LdM w0 c S ss w':=
 ⟨h.hb.trans (hb.mono h.hb.size),h.c0,(hb.block _ (b_ h.ph)).trans h.ph,(hb.block _ (b_ h.pc)).trans h.pc⟩
theorem LdM.turn (h:LdM w0 c S ss wx) {T:Nat->Prop} (ht:Turn T wx w') (h1:∀b,T b->c+2<=b):LdM w0 c S ss w':=
 ⟨i_ h.hb ht (λb hb=>by have:=h1 b hb;have:=h.c0;omega),h.c0,ht.heap h.ph (λhb=>by have:=h1 _ hb;omega),ht.heap h.pc (λhb=>by have:=h1 _ hb;omega)⟩
theorem LdM.drew (h:LdM w0 c S ss wx):LdM w0 c S ss wx.drew:=⟨h.hb.drew,h.c0,h.ph,h.pc⟩
theorem LdM.cellS (h:LdM w0 c S ss wx):wx.cell? ⟨c,0,QY⟩=QJ S:=QX h.pc 0
theorem LdM.cellP (h:LdM w0 c S ss wx):wx.cell? ⟨c+1,0,QY⟩=QJ (YX (QJ ⟨c,0,QY⟩)):=QX h.ph 0
theorem LdM.setS (h:LdM w0 c S ss wx) (S':XZ):LdM w0 c S' ss (wx.setCell ⟨c,0,QY⟩ S'):=by
 refine⟨h.hb.trans ?_,h.c0,?_,?_⟩
 ·have ht:=(Turn.refl (λb=>b=c) wx).setCell (p:=⟨c,0,QY⟩) (.inr rfl) S';exact⟨ht.os,ht.tape,ht.output,ht.size,λk d=>ht.block k (XY d h.hb.size) (λe=>by have:=h.c0;omega)⟩
 ·have ht:=(Turn.refl (λb=>b=c) wx).setCell (p:=⟨c,0,QY⟩) (.inr rfl) S';exact ht.heap h.ph (by show ¬c+1=c;omega)
 ·exact heap_setCell_same wx c 0 _ _ S' h.pc
end
def us_:Nat->XZ:=λ_=>.slice QY 0 0
structure LdT (w0:QV) (c:Nat) (S:XZ) (K:List e_) (wx:QV):Prop where
 m:LdM w0 c S us_ wx
 own:D_ 99 18 TrS wx (λb=>c+2<=b/\b<wx.heap.size) K S
theorem LdT.on {w0 wx w':QV} {c:Nat} {S:XZ} {K:List e_} (h:LdT w0 c S K wx) (hb:XU wx.heap.size wx w'):LdT w0 c S K w':=
 ⟨h.m.on hb,(h.own.turn TrS.good (Turn.of_below hb) (λb hb=>hb.2) (λb hb h=>by have h2:wx.heap.size<=b:=h;omega)).mono TrS.good λb d=>⟨d.1,XY d.2 hb.size⟩⟩
theorem LdT.drew {w0 wx:QV} {c:Nat} {S:XZ} {K:List e_} (h:LdT w0 c S K wx):LdT w0 c S K wx.drew:=⟨h.m.drew,h.own⟩
theorem LdT.blk {w0 wx:QV} {c:Nat} {S:XZ} {K:List e_} (h:LdT w0 c S K wx):∀b,S.ownBlock=QJ b->c+2<=b/\b<wx.heap.size:=by obtain⟨cs,_,_,d,_⟩:=h.own;exact d
theorem LdT.more {w0 wr w':QV} {c g cap:Nat} {S:XZ} {K:List e_} {t:e_} {n:Nat} (h:LdT w0 c S K wr) (f:wr.grownBy w' S.ownBlock) (j:S.ownBlock=QJ g\/wr.heap.size<=g) (d:g<w'.heap.size)
    (o:D_ 99 18 TrS w' (λb=>(c+2<=b/\b<wr.heap.size)\/b=g) (K++[t]) (QQ (QJ ⟨g,0,QY⟩) (n+1) cap)) :
    LdT w0 c (QQ (QJ ⟨g,0,QY⟩) (n+1) cap) (K++[t]) (w'.setCell ⟨c,0,QY⟩ (QQ (QJ ⟨g,0,QY⟩) (n+1) cap)):=by
 have q:c+2<=wr.heap.size:=by have:=b_ h.m.ph;omega
 have k:LdM w0 c S us_ w':=h.m.turn (Turn.of_grown f) λb hb=>(h.blk b hb.symm).1
 have i:c+2<=g:=by
  rcases j with h1 | h1
  ·exact (h.blk g h1).1
  ·omega
 refine⟨k.setS _,?_⟩;have ht:=(Turn.refl (λb=>b=c) w').setCell (p:=⟨c,0,QY⟩) (.inr rfl) (QQ (QJ ⟨g,0,QY⟩) (n+1) cap);refine (o.turn TrS.good ht (λb hb=>?_) (λb hb e=>?_)).mono TrS.good λb hb=>?_
 ·rcases hb with hb | hb
  ·exact XY hb.2 f.size
  ·rw[hb];exact d
 ·rcases hb with hb | hb
  ·have:b=c:=e;omega
  ·have:b=c:=e;omega
 ·rcases hb with hb | hb
  ·exact⟨hb.1,XY (XY hb.2 f.size) ht.size⟩
  ·rw[hb];exact⟨i,XY d ht.size⟩
theorem np_ {w0 w w':QV} {S:Nat->Prop} (hb:XU w0.heap.size w0 w) (ht:Turn S w w') (d:∀b,S b->w0.heap.size<=b):XU w0.heap.size w0 w':=
 hb.trans ⟨ht.os,ht.tape,ht.output,ht.size,λk e=>ht.block k (XY e hb.size) (λh=>by have:=d k h;omega)⟩
structure fc_ {α : Type} (sz:Nat) (R:α -> Array XZ->Prop):Prop where
 size:∀{x:α} {c:Array XZ},R x c->c.size=sz
 one:∀{x:α} {c:Array XZ},R x c->∀u∈c.toList,u.oneCell'=true
abbrev ofP {α : Type} (R:α -> Array XZ->Prop):bu_ α:=λ_ _ x c=>R x c
theorem ofP.good {α : Type} (R:α -> Array XZ->Prop):(ofP R).Good:=⟨λh _=>h,λh _=>h⟩
def cw_ {α : Type} (E:TypeId) (sz:Nat) (R:α -> Array XZ->Prop) (w:QV) (l:List α) (v:XZ):Prop:=
 ∃cs:Nat->Array XZ,w.ownsRow 0 E sz v l.length (T_ cs l.length)/\∀i x,l[i]?=QJ x->R x (cs i)
section
variable {α : Type} {E:TypeId} {sz:Nat} {R:α -> Array XZ->Prop} {w w':QV} {F:Nat->Prop} {l l2:List α} {v:XZ} {A:Option Addr} {n:Nat}
theorem cw_.nil (E:TypeId) (sz:Nat) (R:α -> Array XZ->Prop) (w:QV):cw_ E sz R w [] (QQ QY 0 0):=⟨λ_=>#[],World.ownsRow_nil _ _ _ _,λi x d=>by simp at d⟩
theorem cw_.turn (h:cw_ E sz R w l v) {S:Nat->Prop} (ht:Turn S w w') (e:∀b,v.ownBlock=QJ b->¬S b):cw_ E sz R w' l v:=by obtain⟨cs,d,f⟩:=h;exact⟨cs,ht.owns d e,f⟩
theorem cw_.lt (h:cw_ E sz R w l v) {b:Nat} (hb:v.ownBlock=QJ b):b<w.heap.size:=by obtain⟨cs,d,g⟩:=h;obtain⟨f,e⟩:=ep_ d hb;exact b_ e
theorem cw_.on (h:cw_ E sz R w l v) (hb:XU w.heap.size w w'):cw_ E sz R w' l v:=
 h.turn (Turn.of_below hb) λb d e=>by have e:w.heap.size<=b:=e;have:=h.lt d;omega
theorem cw_.form (h:cw_ E sz R w l v):∃A cap,v = QQ A l.length cap/\l.length<=cap/\(A=QY->cap=0):=by
 obtain⟨cs,d,_⟩:=h;rcases d.2 with⟨h0,h1⟩ | ⟨g,cp,e,h0,_,_,h1,_⟩
 ·exact⟨QY,0,by rw[h0,h1],by omega,λ_=>rfl⟩
 ·exact⟨_,cp,h0,h1,λh=>by cases h⟩
theorem cw_.rd {cap:Nat} (t:fc_ sz R) (h:cw_ E sz R w l (QQ A n cap)) (r:∀b,(Value.slice A n cap).ownBlock=QJ b->F b) (e:l.length=n):SRd sz (ofP R) w F l A n:=by
 obtain⟨cs,d,p⟩:=h;subst e;refine⟨rfl,λe=>?_⟩;obtain⟨g,cp,f,_,_⟩:=d.form e;injection f with f _ hcp;subst f;subst hcp;have k:∀i,i<l.length->(cs i).size=sz:=λi hi=>t.size (p i _ (XQ hi));refine⟨⟨g,0,QY⟩,rfl,r g rfl,λi x q=>?_⟩;have hi:=b7_ q;refine⟨cs i,k i hi,λj y=>?_,p i x q⟩;have o:i*sz+j<l.length*sz:=by have h1:(i+1)*sz<=l.length*sz:=Nat.mul_le_mul_right sz (by omega);rw[Nat.succ_mul]at h1;omega
 have h1:=d.cellAt (i*sz+j) o;rw[cq_ k hi y]at h1;rw[Addr.add_mid,Nat.zero_add];exact h1
theorem SRd.part (h:SRd sz (ofP R) w F l A n) {lo hi:Nat} (h1:lo<=hi) (h2:hi<=n):SRd sz (ofP R) w F ((l.drop lo).take (hi-lo)) (A.map (·.add (lo*sz))) (hi-lo):=by refine⟨by rw[List.length_take,List.length_drop,<-h.1];omega,λt=>?_⟩;obtain⟨ad,e,p,q⟩:=h.2 (by omega);refine⟨ad.add (lo*sz),by rw[e];rfl,by rw[block_of_add];exact p,λi x d=>?_⟩;have f:=(List.getElem?_eq_some_iff.1 d).1;rw[List.length_take]at f;rw[List.getElem?_take_of_lt (by omega),List.getElem?_drop]at d;obtain⟨c,g,k,o⟩:=q _ _ d;refine⟨c,g,λj r=>?_,o⟩;rw[add_of_add,<-k j r,Nat.add_mul,Nat.add_assoc]
theorem SRd.cells {ad:Addr} (r:fc_ sz R) (h:SRd sz (ofP R) w F l (QJ ad) n):∃cs:Nat->Array XZ,(∀i x,l[i]?=QJ x->R x (cs i))/\∀j u,(T_ cs n)[j]?=QJ u->w.cell? (ad.add j)=QJ u:=by
 classical
 have d:∀i,∃c:Array XZ,∀x,l[i]?=QJ x->R x c/\∀j,j<sz->w.cell? (ad.add (i*sz+j))=c[j]?:=λi=>by
  cases hi:l[i]? with
  | none=>exact⟨#[],λx h=>by cases h⟩
  | some x=>
   obtain⟨t,c,e,_,h1,h2,q⟩:=h.at_ hi;injection e with e;subst e;exact⟨c,λy g=>by injection g with g;subst g;exact⟨q,h2⟩⟩
 refine⟨λi=>(d i).choose,λi x hi=>((d i).choose_spec x hi).1,λj u f=>?_⟩;have k:∀i,i<n->((d i).choose).size=sz:=λi hi=>r.size ((d i).choose_spec _ (XQ (by rw[<-h.1];exact hi))).1;have o:=(List.getElem?_eq_some_iff.1 f).1;rw[ax_ k]at o;rcases Nat.eq_zero_or_pos sz with h0 | h0
 ·subst h0;omega
 ·have hi:j / sz<n:=(Nat.div_lt_iff_lt_mul h0).2 o;have p:j % sz<sz:=Nat.mod_lt _ h0;have e:j=(j / sz)*sz+j % sz:=by rw[Nat.mul_comm];exact (Nat.div_add_mod j sz).symm
  rw[e,cq_ k hi p]at f;rw[e,((d _).choose_spec _ (XQ (by rw[<-h.1];exact hi))).2 _ p];exact f
theorem Da_ (cs ds:Nat->Array XZ) (n m:Nat):T_ cs n++T_ ds m=T_ (λi=>if i<n then cs i else ds (i-n)) (n+m):=by
 induction m with
 | zero=>
  rw[Nat.add_zero,show T_ ds 0=[] from rfl,List.append_nil];exact f5_ λi hi=>(if_pos hi).symm
 | succ m d=>
  rw[di_,<-List.append_assoc,d,<-Nat.add_assoc,di_];congr 2
  rw[if_neg (by omega),Nat.add_sub_cancel_left]
end
theorem Ec_ {α : Type} {P:Program} {E:TypeId} {sz bytes:Nat} {R:α -> Array XZ->Prop} (q:fc_ sz R) (t ty:TypeId) (i:TypeInfo) (z:XZ) (ht:P.underlying t=QJ (.slice E)) (hi:P.info? E=QJ i) (hz:i.zero=QJ z)
    (k:i.size=sz) (D:i.bytes=bytes) (M:z.cells.size=sz) (L:0<sz) {w:QV} {F:Nat->Prop} {l l2:List α} {v:XZ} {A:Option Addr} {n m c:Nat} (h:cw_ E sz R w l v) (hn:l.length=n) (h2:SRd sz (ofP R) w F l2 A m) (Y:A=QY->c=0)
    (B:n+m<=1000000000) (C:bytes<=100000) :
    ∃f w',(Builtin.append_ #[t,t] ty #[v,QQ A m c]).run P w = .ok f w'/\cw_ E sz R w' (l++l2) f/\w.grownBy w' v.ownBlock/\(f.ownBlock=v.ownBlock\/f.ownBlock=QJ w.heap.size):=by
 subst hn;obtain⟨cs,d,J⟩:=h;have Z:m=l2.length:=h2.1
 cases A with
 | none=>
  have h0:m=0:=by
   rcases Nat.eq_zero_or_pos m with h | h
   ·exact h
   ·obtain⟨_,e,_⟩:=h2.2 h;cases e
  have O:l2=[]:=List.eq_nil_of_length_eq_zero (by omega);subst O;rw[Y rfl,h0];refine⟨v,w,run_append_owned_none (P:=P) (w:=w) 0 t ty E i sz ht hi v _ _ d,?_,⟨rfl,rfl,rfl,XJ _,λ_ _ _=>rfl⟩,.inl rfl⟩;rw[List.append_nil];exact⟨cs,d,J⟩
 | some ad=>
  obtain⟨ds,r,j⟩:=h2.cells q;have X:∀i,i<m->(ds i).size=sz:=λi hi=>q.size (r i _ (XQ (by omega)))
  have y:∀u∈T_ ds m,u.oneCell'=true:=λu o=>by
   unfold T_ at o;obtain⟨i,hi,o⟩:=List.mem_flatMap.1 o;rw[List.mem_range]at hi;exact q.one (r i _ (XQ (by omega))) u o
  have g:(l.length+m)*bytes<=140737488355328:=YK (Nat.mul_le_mul B C) (by decide);obtain⟨f,w',h1,T,U,_,V⟩:=run_append_own_at (P:=P) w 0 t ty E i z sz bytes ht hi hz k D M L v l.length _ d ad m c (T_ ds m) (ax_ X) j y (by unfold maxLen;omega) g (Nat.zero_le _);refine⟨f,w',h1,⟨λi=>if i<l.length then cs i else ds (i-l.length),?_,λi x p=>?_⟩,U,V⟩
  ·rw[List.length_append,<-Z,<-Da_];exact T
  ·dsimp only;split
   ·rename_i G;rw[List.getElem?_append_left G]at p;exact J i x p
   ·rename_i a0;rw[List.getElem?_append_right (by omega)]at p;exact r _ x p
theorem Jt_ {α : Type} {P:Program} {E:TypeId} {sz bytes:Nat} {R:α -> Array XZ->Prop} (y:fc_ sz R) {op:Oper} {a:Act} {K:Act->QV->Prop} {Q:Exit->Act->QV->Prop} (s x:Operand) (t:TypeId) (G:op.op = .call { callee:=.builtin .append,args:=#[s,x],argTypes:=#[t,t] })
    (i:TypeInfo) (z:XZ) (ht:P.underlying t=QJ (.slice E)) (hi:P.info? E=QJ i) (hz:i.zero=QJ z)
    (e:i.size=sz) (j:i.bytes=bytes) (o:z.cells.size=sz) (k:0<sz) {w:QV} {F:Nat->Prop} {l l2:List α} {v:XZ} {A:Option Addr} {n m c:Nat} (J:a.eval s=v) (h:cw_ E sz R w l v) (D:l.length=n) (L:a.eval x = QQ A m c) (h2:SRd sz (ofP R) w F l2 A m) (B:A=QY->c=0)
    (f:n+m<=1000000000) (g:bytes<=100000)
    (C:∀d w',cw_ E sz R w' (l++l2) d->w.grownBy w' v.ownBlock->(d.ownBlock=v.ownBlock\/d.ownBlock=QJ w.heap.size)->K (a.put op.dst d) w'):op.wp P a w K Q:=by
 obtain⟨d,w',h1,p,q,r⟩:=Ec_ (P:=P) y t op.type i z ht hi hz e j o k h D h2 B f g;unfold Oper.wp execOp;simp only[G,resolve,invoke,builtin,Sem.run_bind,Sem.run_pure,Result.andThen_ok,List.map_toArray,List.map_cons,List.map_nil,J,L,h1];exact C d w' p q r
theorem by_ {α : Type} {P:Program} {E:TypeId} {sz bytes:Nat} {R:α -> Array XZ->Prop} (C:fc_ sz R) {f:Array Oper} {rest:List Oper} {op:Oper} {a:Act} {Q:Exit->Act->QV->Prop} (o:op.guard=QY) (s x:Operand) (t:TypeId) (L:op.op = .call { callee:=.builtin .append,args:=#[s,x],argTypes:=#[t,t] })
    (i:TypeInfo) (z:XZ) (ht:P.underlying t=QJ (.slice E)) (hi:P.info? E=QJ i) (hz:i.zero=QJ z)
    (e:i.size=sz) (k:i.bytes=bytes) (q:z.cells.size=sz) (p:0<sz) {w:QV} {F:Nat->Prop} {l l2:List α} {v:XZ} {A:Option Addr} {n m c:Nat} (M:a.eval s=v) (h:cw_ E sz R w l v) (J:l.length=n) (O:a.eval x = QQ A m c) (h2:SRd sz (ofP R) w F l2 A m) (D:A=QY->c=0)
    (g:n+m<=1000000000) (j:bytes<=100000)
    (G:∀d w',cw_ E sz R w' (l++l2) d->w.grownBy w' v.ownBlock->(d.ownBlock=v.ownBlock\/d.ownBlock=QJ w.heap.size)->wpList P f Q rest (a.put op.dst d) w'):wpList P f Q (op::rest) a w:=
 wpList_plain o λ_ B=>Jt_ C s x t L i z ht hi hz e k q p M h J O h2 D g j λd w' h1 r y=>B _ _ (G d w' h1 r y)
theorem ux_ {α : Type} {sz:Nat} {R:α -> Array XZ->Prop} (e:fc_ sz R) {x:α} {c:Array XZ} (h:R x c) (w:QV) (T:TypeId):SRd sz (ofP R) (w.alloc (XX c T)) (λb=>b=w.heap.size) [x] (QJ ⟨w.heap.size,0,QY⟩) 1:=
 ⟨rfl,λ_=>⟨_,rfl,rfl,λi y d=>by
  have hi:i=0:=by have:=(List.getElem?_eq_some_iff.1 d).1;simp at this;omega
  subst hi;simp at d;subst d;refine⟨c,e.size h,λj f=>?_,h⟩;rw[Addr.add_mid,Nat.zero_mul,Nat.zero_add,Nat.zero_add];exact cell_of_row _ _ _ _ _ _ (heap_alloc_new w _)⟩⟩
theorem mc_ {α : Type} {P:Program} {E:TypeId} {sz bytes:Nat} {R:bu_ α} (hR:R.Good) {op:Oper} {a:Act} {K:Act->QV->Prop} {Q:Exit->Act->QV->Prop} (s x:Operand) (t:TypeId) (ho:op.op = .call { callee:=.builtin .append,args:=#[s,x],argTypes:=#[t,t] })
    (z:XZ) (ht:P.underlying t=QJ (.slice E)) (hi:(P.info? E).map (λi=>(i.zero,i.size,i.bytes))=QJ (QJ z,sz,bytes)) (T:z.cells.size=sz) (D:0<sz) (q:bytes<=1000)
    {wr:QV} {F G:Nat->Prop} {L:List α} {S:XZ} {j:α} {c:Array XZ} {n:Nat} (hS:a.eval s=S) (k:D_ E sz R wr F L S) (hL:L.length=n) (hx:a.eval x = QQ (QJ ⟨wr.heap.size,0,QY⟩) 1 1) (hc:R wr G j c) (f:c.size=sz) (y:∀u∈c.toList,u.oneCell'=true) (a0:n<=1000000000) (Z:∀b,F b->b<wr.heap.size) (hG:∀b,G b->b<wr.heap.size) (p:∀b,G b->S.ownBlock≠QJ b)
    (h:∀g cap w',D_ E sz R w' (λb=>F b\/G b\/b=g) (L++[j]) (QQ (QJ ⟨g,0,QY⟩) (n+1) cap)->wr.grownBy w' S.ownBlock->(S.ownBlock=QJ g\/wr.heap.size<=g)->g<w'.heap.size->K (a.put op.dst (QQ (QJ ⟨g,0,QY⟩) (n+1) cap)) w') :
    op.wp P a (wr.alloc (XX c E)) K Q:=by
 subst hL;obtain⟨i0,hi,J,M,O⟩:=info_parts hi;obtain⟨cs,d,Y,o,hr⟩:=k;have r:(L.length+1)*bytes<=140737488355328:=YK (Nat.mul_le_mul (show L.length+1<=1000000001 by omega) q) (by decide);refine wp_append_lies _ s x t ho 0 E i0 z sz bytes ht hi J M O T D S L.length (T_ cs L.length) hS (d.alloc _) ⟨wr.heap.size,0,QY⟩ 1 1 c.toList hx (by rw[Array.length_toList,f,Nat.one_mul]) (World.news_of_block (heap_alloc_new wr _)) y (by omega) (by unfold maxLen;omega) r (Nat.zero_le _) (wr.heap.size+1) (by simp) λg cap w' h1 h2 V X=>?_;have B:=az_ h2;have C:S.ownBlock=QJ g\/wr.heap.size<=g:=V.imp id (λe=>by rw[e];omega);exact h g cap w' (D_.snoc (x:=j) (c:=c) (G:=G) hR ⟨cs,d,Y,o,hr⟩ hc f p Z hG (λa1 U=>by rw[o0_ U d];exact h1) B C) B C X
theorem vf_ {α : Type} {P:Program} {E:TypeId} {sz bytes:Nat} {R:bu_ α} (U:R.Good) {d:Array Oper} {rest:List Oper} {op:Oper} {a:Act} {Q:Exit->Act->QV->Prop} (r:op.guard=QY) (s x:Operand) (t:TypeId) (Y:op.op = .call { callee:=.builtin .append,args:=#[s,x],argTypes:=#[t,t] })
    (z:XZ) (ht:P.underlying t=QJ (.slice E)) (hi:(P.info? E).map (λi=>(i.zero,i.size,i.bytes))=QJ (QJ z,sz,bytes)) (B:z.cells.size=sz) (y:0<sz) (o:bytes<=1000)
    {wr:QV} {F G:Nat->Prop} {L:List α} {S:XZ} {j:α} {c:Array XZ} {n:Nat} (V:a.eval s=S) (f:D_ E sz R wr F L S) (T:L.length=n) (Z:a.eval x = QQ (QJ ⟨wr.heap.size,0,QY⟩) 1 1) (X:R wr G j c) (q:c.size=sz) (p:∀u∈c.toList,u.oneCell'=true) (e:n<=1000000000) (J:∀b,F b->b<wr.heap.size) (M:∀b,G b->b<wr.heap.size) (k:∀b,G b->S.ownBlock≠QJ b)
    (h:∀g cap w',D_ E sz R w' (λb=>F b\/G b\/b=g) (L++[j]) (QQ (QJ ⟨g,0,QY⟩) (n+1) cap)->wr.grownBy w' S.ownBlock->(S.ownBlock=QJ g\/wr.heap.size<=g)->g<w'.heap.size->wpList P d Q rest (a.put op.dst (QQ (QJ ⟨g,0,QY⟩) (n+1) cap)) w') :
    wpList P d Q (op::rest) a (wr.alloc (XX c E)):=
 wpList_plain r λ_ O=>mc_ U s x t Y z ht hi B y o V f T Z X q p e J M k λg cap w' h1 h2 C D=>O _ _ (h g cap w' h1 h2 C D)
theorem N2_ {α : Type} {sz:Nat} {R:α -> Array XZ->Prop} (f:fc_ sz R) {x y:α} {c d:Array XZ} (h:R x c) (k:R y d) (w:QV) (T:TypeId):SRd sz (ofP R) (w.alloc (XX (c++d) T)) (λb=>b=w.heap.size) [x,y] (QJ ⟨w.heap.size,0,QY⟩) 2:=by obtain⟨A,cap,e,_,g⟩:=B0_ (R:=ofP R) (F:=λb=>b=w.heap.size) (heap_alloc_new w (XX (c++d) T)) (f.size h) (f.size k) rfl h k;injection e with e;rw[<-e]at g;exact g
abbrev CV6:g_->Array XZ->Prop:=λv c=>ah_ v/\bt_ v/\∃A cap,c=c_ v (QQ A 0 cap)
theorem i6_:fc_ 6 CV6:=⟨fun⟨_,_,A,cap,e⟩=>by rw[e];rfl,fun⟨h1,h2,A,cap,e⟩ u hu=>by
 have:=v3_ ⟨_,QQ A 0 cap,h1,h2,⟨A,cap,rfl⟩⟩ u;unfold v1_ at this;rw[e]at hu;exact this hu⟩
theorem D6_ {w:QV} {l:List g_} {s:XZ} (h:cw_ 39 6 CV6 w l s):D_ 39 6 vl_ w (λb=>s.ownBlock=QJ b) l s:=by obtain⟨cs,d,e⟩:=h;exact⟨cs,d,λi hi=>i6_.size (e i _ (XQ hi)),λg f=>f,λi x j=>e i x j⟩
theorem Em_ {w:QV} {F:Nat->Prop} {l:List g_} {s:XZ} (h:D_ 39 6 vl_ w F l s):cw_ 39 6 CV6 w l s:=by obtain⟨cs,d,_,_,e⟩:=h;exact⟨cs,d,λi x f=>e i x f⟩
theorem De_:(Tryz.prog.info? 39).map (λi=>(i.zero,i.size,i.bytes))=QJ (QJ (.agg #[QK QU 0,XK false,QK QU 0,QZ ⟨#[]⟩,QZ ⟨#[]⟩,QQ QY 0 0]),6,80):=by kernel_rfl
theorem na_:(Tryz.prog.info? 72).map (λi=>(i.zero,i.size,i.bytes))=QJ (QJ (.agg #[QK QU 0,QQ QY 0 0,QQ QY 0 0]),3,56):=by kernel_rfl
theorem Dd_:(Tryz.prog.info? 74).map (λi=>(i.zero,i.size,i.bytes))=QJ (QJ (.agg #[QK QU 0,QK QU 0,QK QU 0,QZ ⟨#[]⟩,QQ QY 0 0]),5,64):=by kernel_rfl
theorem Fz_ (d e f g h a5 i j k o p q:XZ) (w:QV):(Instr.buildSlice 37 2 #[(0,.agg #[d,e,f,g,h,a5]),(1,.agg #[i,j,k,o,p,q])]).run QW w = .ok (QQ (QJ ⟨w.heap.size,0,QY⟩) 2 2) (w.alloc (XX (#[d,e,f,g,h,a5]++#[i,j,k,o,p,q]) 39)):=by kernel_rfl
theorem Kf_ (c d:Array XZ) (e:c.size=6) (f:d.size=6) (w:QV):(Instr.buildSlice 37 2 #[(0,.agg c),(1,.agg d)]).run QW w = .ok (QQ (QJ ⟨w.heap.size,0,QY⟩) 2 2) (w.alloc (XX (c++d) 39)):=by
 cases c with
 | mk l=>
  cases d with
  | mk m=>
   match l,e,m,f with
   | [a0,a1,a2,a3,a4,a5],_,[b0,b1,b2,b3,b4,b5],_=>exact Fz_ a0 a1 a2 a3 a4 a5 b0 b1 b2 b3 b4 b5 w
theorem pu_ (d L P:XZ) (w:QV):(Instr.buildSlice 51 1 #[(0,.agg #[d,L,P])]).run QW w = .ok (QQ (QJ ⟨w.heap.size,0,QY⟩) 1 1) (w.alloc (XX #[d,L,P] 72)):=by kernel_rfl
theorem Fy_ (a b c d e:XZ) (w:QV):(Instr.buildSlice 52 1 #[(0,.agg #[a,b,c,d,e])]).run QW w = .ok (QQ (QJ ⟨w.heap.size,0,QY⟩) 1 1) (w.alloc (XX #[a,b,c,d,e] 74)):=by kernel_rfl
def c4_ (D:List g_):List h_:=D.mapIdx λi v=>L_ (i:Nat) v
theorem is_ (D:List g_) (v:g_):c4_ (D++[v])=c4_ D++[L_ (D.length:Nat) v]:=by unfold c4_;rw[List.mapIdx_append];simp
theorem kk_ (D:List g_):(c4_ D).length=D.length:=by unfold c4_;simp
noncomputable def fk_ (D:List g_) (T:List e_):List l_:=T.mapIdx λi t=>⟨(i:Nat),b2_ D t.s,b2_ D t.o,t.p.text,[]⟩
theorem v0_ (D:List g_) (T:List e_) (t:e_):fk_ D (T++[t])=fk_ D T++[⟨(T.length:Nat),b2_ D t.s,b2_ D t.o,t.p.text,[]⟩]:=by unfold fk_;rw[List.mapIdx_append];simp
theorem zf_ (D:List g_) (T:List e_):(fk_ D T).length=T.length:=by unfold fk_;simp
theorem K2_ (T:List e_):a3_ T=⟨c4_ (U_ T),fk_ (U_ T) T⟩:=rfl
structure GnM (w2:QV) (m zg:Nat) (ns:List h_) (N:XZ) (wx:QV):Prop where
 t:Turn (λi=>i=m\/zg<=i) w2 wx
 box:wx.heap[zg]?=QJ (XX #[N,QQ QY 0 0] 54 (0,0))
 own:D_ 72 3 NoR wx (λb=>zg<b/\b<wx.heap.size) ns N
 hm:m<zg
section
variable {w2 wx w':QV} {m zg:Nat} {ns:List h_} {N N':XZ} {es:List l_} {E E':XZ}
theorem GnM.on (h:GnM w2 m zg ns N wx) (hb:XU wx.heap.size wx w'):GnM w2 m zg ns N w':=
 ⟨h.t.trans (Turn.ofB hb),(hb.block zg (b_ h.box)).trans h.box,(h.own.turn NoR.good (Turn.of_below hb) (λb hb=>hb.2) (λb hb e=>by have e:wx.heap.size<=b:=e;have:=hb.2;omega)).mono NoR.good (λb k=>⟨k.1,XY k.2 hb.size⟩),h.hm⟩
theorem GnM.map (h:GnM w2 m zg ns N wx) (ht:Turn (λi=>i=m) wx w'):GnM w2 m zg ns N w':=by have hm:=h.hm;exact⟨h.t.trans (ht.mono λi _ e=>.inl e),(ht.block zg (b_ h.box) (λe=>by have e:zg=m:=e;omega)).trans h.box,(h.own.turn NoR.good ht (λb hb=>hb.2) (λb hb e=>by have e:b=m:=e;have:=hb.1;omega)).mono NoR.good (λb k=>⟨k.1,XY k.2 ht.size⟩),h.hm⟩
theorem GnM.blk (h:GnM w2 m zg ns N wx) {b:Nat} (hb:N.ownBlock=QJ b):zg<b/\b<wx.heap.size:=by obtain⟨_,_,_,d,_⟩:=h.own;exact d b hb
theorem GnM.more {w5:QV} {g n cap:Nat} {j:h_} {G:Nat->Prop} (h:GnM w2 m zg ns N wx) (d:∀b,G b->zg<b/\b<wx.heap.size) (f:wx.grownBy w5 N.ownBlock) (o:N.ownBlock=QJ g\/wx.heap.size<=g) (r:g<w5.heap.size)
    (p:D_ 72 3 NoR w5 (λb=>(zg<b/\b<wx.heap.size)\/G b\/b=g) (ns++[j]) (QQ (QJ ⟨g,0,QY⟩) n cap))
    (q:w'.heap[zg]?=QJ (XX #[QQ (QJ ⟨g,0,QY⟩) n cap,QQ QY 0 0] 54 (0,0))) (ht:Turn (λb=>b=zg) w5 w'):GnM w2 m zg (ns++[j]) (QQ (QJ ⟨g,0,QY⟩) n cap) w':=by
 have hb:=b_ h.box;refine⟨(h.t.trans ((Turn.of_grown f).mono λi _ e=>.inr (Nat.le_of_lt (h.blk e.symm).1))).trans (ht.mono λi _ e=>.inr (Nat.le_of_eq (show zg=i from Eq.symm e))),q,?_,h.hm⟩
 have x:zg<g:=by
  rcases o with e | e
  ·exact (h.blk e).1
  ·omega
 refine (p.turn NoR.good ht (λb k=>?_) (λb k e=>?_)).mono NoR.good λb k=>?_
 ·have:=f.size;rcases k with k | k | k
  ·omega
  ·have:=d b k;omega
  ·omega
 ·have e:b=zg:=e;rcases k with k | k | k
  ·omega
  ·have:=d b k;omega
  ·omega
 ·have:=f.size;have:=ht.size;rcases k with k | k | k
  ·omega
  ·have:=d b k;omega
  ·omega
end
structure GeM (w3:QV) (zg ze:Nat) (ns:List h_) (N:XZ) (es:List l_) (E:XZ) (wx:QV):Prop where
 t:Turn (λi=>i=zg\/ze<=i) w3 wx
 box:wx.heap[zg]?=QJ (XX #[N,E] 54 (0,0))
 nodes:D_ 72 3 NoR wx (λb=>zg<b/\b<ze) ns N
 own:D_ 74 5 EdR wx (λb=>ze<=b/\b<wx.heap.size) es E
 lt:zg<ze/\ze<=wx.heap.size
section
variable {w2 w3 wx w':QV} {m zg ze:Nat} {ns:List h_} {N N':XZ} {es:List l_} {E E':XZ}
theorem GnM.next (h:GnM w2 m zg ns N wx):GeM wx zg wx.heap.size ns N [] (QQ QY 0 0) wx:=⟨Turn.refl _ _,h.box,h.own,D_.nil ..,b_ h.box,XJ _⟩
theorem GeM.on (h:GeM w3 zg ze ns N es E wx) (hb:XU wx.heap.size wx w'):GeM w3 zg ze ns N es E w':=by
 have d:=h.lt
 exact⟨h.t.trans (Turn.ofB hb),(hb.block zg (b_ h.box)).trans h.box,h.nodes.turn NoR.good (Turn.of_below hb) (λb k=>by omega) (λb k e=>by have e:wx.heap.size<=b:=e;omega),
  (h.own.turn EdR.good (Turn.of_below hb) (λb hb=>hb.2) (λb hb e=>by have e:wx.heap.size<=b:=e;have:=hb.2;omega)).mono EdR.good (λb k=>⟨k.1,XY k.2 hb.size⟩),d.1,YK d.2 hb.size⟩
theorem GeM.blk (h:GeM w3 zg ze ns N es E wx) {b:Nat} (hb:E.ownBlock=QJ b):ze<=b/\b<wx.heap.size:=by obtain⟨_,_,_,d,_⟩:=h.own;exact d b hb
theorem GeM.more {w5:QV} {g n cap:Nat} {f:l_} {G:Nat->Prop} (h:GeM w3 zg ze ns N es E wx) (d:∀b,G b->ze<=b/\b<wx.heap.size) (o:wx.grownBy w5 E.ownBlock) (q:E.ownBlock=QJ g\/wx.heap.size<=g) (y:g<w5.heap.size)
    (r:D_ 74 5 EdR w5 (λb=>(ze<=b/\b<wx.heap.size)\/G b\/b=g) (es++[f]) (QQ (QJ ⟨g,0,QY⟩) n cap))
    (x:w'.heap[zg]?=QJ (XX #[N,QQ (QJ ⟨g,0,QY⟩) n cap] 54 (0,0))) (ht:Turn (λb=>b=zg) w5 w'):GeM w3 zg ze ns N (es++[f]) (QQ (QJ ⟨g,0,QY⟩) n cap) w':=by
 have hb:=b_ h.box;have p:=h.lt;have D:=o.size;have C:=ht.size
 have B:ze<=g:=by
  rcases q with e | e
  ·exact (h.blk e).1
  ·omega
 have j:Turn (λi=>i=zg\/ze<=i) wx w':=((Turn.of_grown o).mono λi _ e=>.inr (h.blk e.symm).1).trans (ht.mono λi _ e=>.inl e);refine⟨h.t.trans j,x,h.nodes.turn NoR.good j (λb k=>by omega) (λb k e=>by rcases e with e | e<;>omega),?_,p.1,by omega⟩
 refine (r.turn EdR.good ht (λb k=>?_) (λb k e=>?_)).mono EdR.good λb k=>?_
 ·rcases k with k | k | k
  ·omega
  ·have:=d b k;omega
  ·omega
 ·have e:b=zg:=e;rcases k with k | k | k
  ·omega
  ·have:=d b k;omega
  ·omega
 ·rcases k with k | k | k
  ·omega
  ·have:=d b k;omega
  ·omega
end
end
end Go.Proofs.YtefhfadjajcmkaaGreatDoor
