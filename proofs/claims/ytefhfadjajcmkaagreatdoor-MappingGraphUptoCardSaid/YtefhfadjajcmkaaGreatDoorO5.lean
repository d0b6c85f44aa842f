/- What Load lays into memory: the store, its triples, its six rows of numbers. -/
import Derived.Lone
import Derived.Calls
import Derived.Below
import Derived.Sort.Grow
import Derived.Deep.Draws
import Derived.Test.YtefhfadjajcmkaaGreatDoorO3
import Derived.Test.YtefhfadjajcmkaaGreatDoorGS
import Derived.Test.YtefhfadjajcmkaaGreatDoorO4
import Derived.Test.YtefhfadjajcmkaaGreatDoorGV
set_option linter.unusedVariables false
set_option linter.unusedSimpArgs false
set_option maxRecDepth 100000
set_option maxHeartbeats 64000000
namespace Go.Proofs.YtefhfadjajcmkaaGreatDoor
open _root_.Go.Proofs.Tryz
open Go.Act renaming put→VK
open Go.Instr renaming buildSlice→UQ
open Go.IntWalk renaming i64_in→YU
open Go.Ending renaming returned→YQ
open Go.RowKit renaming Below→XW
open Go.RowKit.Below renaming refl→XV
open Nat renaming lt_of_lt_of_le→XZ,le_refl→XK,le_trans→ZX,zero_add→VQ,lt_or_ge→VZ
open Go.Obj renaming cells→XX
open List renaming getElem?_eq_getElem→XQ,take_of_length_le→YJ,length_append→ZZ,getElem?_eq_none→ZK,length_take→UJ,eq_nil_of_length_eq_zero→UK
open _root_.Go.Proofs.Tryz renaming prog→QW,underlying39→YV
open Go renaming World→QV,Value→XJ,heap_alloc_new→XU,bodyPost_ret→ZV,wp_region_held_drew→UZ,cell_of_row→UU,wpAnyH_done→VX
open Go.IntKind renaming i64→QU
open Option renaming some→QJ,none→QK
open Go.Lib renaming cell_of_heap→QX,frozen_of_heap→YY
open Go.Value renaming slice→QQ,string→QZ,int→QY,bool→XY,pointer→YK,tuple→ZJ,iface→UX
open Go.Lib (cell_of_heap)
section
namespace Dn
open Go Go.RowKit
def N5_ {α : Type}:Result α -> QV
 | .ok _ w=>w
 | .halt _ w=>w
theorem Ct_ {α : Type} (x:Ask α):∀w:QV,w.drawn<=(w.ask x).2.drawn:=by
 induction x with
 | done a=>intro w;exact XK _
 | ask f e k d=>
  intro w;unfold World.ask;simp only[];split
  ·exact d _ _
  ·exact ZX (Nat.le_succ _) (d _ { w with drawn:=w.drawn+1 })
theorem tx_ (w:QV) (c:Sys):w.drawn<=(w.sys c).2.drawn:=by
 unfold World.sys;have h:=Ct_ (Kernel.perform c w.os) w;split
 ·exact XK _
 ·rename_i d;rw[d]at h;exact h
theorem Dn_ {p:Program} {w w':QV} {a:Addr} {v:XJ} {b:Bool} {l:List Addr} (h:w.farStore p a v b = .ok (w',l)):w'.drawn=w.drawn:=by
 unfold World.farStore at h;split at h
 ·rename_i at_ u _
  cases hv:w.viewStore p at_ u a v b with
  | error e=>rw[hv]at h;cases h
  | ok r=>
   rw[hv]at h;injection h with h;subst h;unfold World.viewStore at hv;simp only[bind,Except.bind,pure,Except.pure]at hv
   repeat' first
    | (cases hv;done)
    | (injection hv with hv;injection hv with hv _;subst hv;rfl)
    | split at hv
 ·cases h
theorem jp_ {α : Type} (p:Program) (e:Sem α):∀w:QV,w.drawn<=(N5_ (e.run p w)).drawn:=by
 induction e with
 | pure a=>intro w;exact XK _
 | load m a k d=>
  intro w;simp only[Sem.run];split
  ·exact d _ _
  ·split
   ·exact d _ _
   ·exact XK _
 | store m a v k d=>
  intro w
  cases v<;>simp only[Sem.run]<;>first
   | exact XK _
   | (split
      ·split
       ·exact XK _
       ·exact d (w.setCell a _)
      ·split
       ·rename_i f;have:=d ‹QV›;rw[Dn_ f]at this;exact this
       ·exact XK _)
 | new o k d=>intro w;exact d _ { w with heap:=w.heap.push o }
 | shape r k d=>intro w;exact d _ w
 | freeze a n k d=>
  intro w;have h:=d (w.freeze a n);have:(w.freeze a n).drawn=w.drawn:=by unfold World.freeze;split<;>rfl
  rw[this]at h;exact h
 | frozen a k d=>intro w;exact d _ w
 | getObj r k d=>
  intro w;simp only[Sem.run];split
  ·exact XK _
  ·exact d _ _
  ·exact XK _
 | setObj r o k d=>
  intro w;simp only[Sem.run];split
  ·exact XK _
  ·exact d { w with heap:=w.heap.setIfInBounds r o }
  ·exact XK _
 | choose q k d=>
  intro w;simp only[Sem.run];split
  ·exact d _ w
  ·exact ZX (Nat.le_succ _) (d _ { w with drawn:=w.drawn+1 })
 | sys c k d=>intro w;exact ZX (tx_ w c) (d _ _)
 | program k d=>intro w;exact d _ w
 | mark m k d=>intro w;exact d w
 | halt h=>intro w;exact XK _
theorem co_ {α : Type} {p:Program} {e:Sem α} {w w':QV} {a:α} (h:e.run p w = .ok a w'):w.drawn<=w'.drawn:=by have:=jp_ p e w;rw[h]at this;exact this
theorem bz_ {α : Type} {p:Program} {e:Sem α} {w w':QV} {a:Halt} (h:e.run p w = .halt a w'):w.drawn<=w'.drawn:=by have:=jp_ p e w;rw[h]at this;exact this
theorem bp_ (α : Type) (p:Program) (e:Sem α) (w:QV) (d:Array Event):w.drawn<=(N5_ (e.runT p w d).1).drawn:=by rw[Sem.runT_fst];exact jp_ p e w
def gsW:GStep->QV
 | .go _ w _=>w
 | .comm _ _ _ _ w _=>w
 | .spawn _ _ w _=>w
 | .count _ w _=>w
 | .timer _ _ w _=>w
 | .alone _ _ w _=>w
 | .newcoro _ _ _ w _=>w
 | .coroswitch _ _ _ w _=>w
 | .collect _ w _=>w
 | .watch _ w _=>w
 | .ended _ w _=>w
theorem b9_ (d:Array Event) (s:GStep):gsW (GStep.after d s)=gsW s:=by cases s<;>rfl
theorem z9_ {c:Prop} [Decidable c] {a b:GStep} {n:Nat} (d:n<=(gsW a).drawn) (hb:n<=(gsW b).drawn):n<=(gsW (if c then a else b)).drawn:=by split<;>assumption
theorem Di_ (w:QV) (d:Nat) (t:ByteArray) (o:Outcome):w.drawn<=(gsW (endWith w d t o)).drawn:=by
 unfold endWith;have h:=tx_ w (.write d t);simp only[];split<;>rename_i e<;>rw[e]at h
 ·split<;>exact h
 ·exact h
 ·exact h
theorem z3_ (d:Frame) (m:String) (w:QV):gsW (endThrow d m w)=w:=rfl
theorem j1_ (p:Program) (d:Frame) (v:XJ) (w:QV):gsW (endPrinting p d v w)=w:=by unfold endPrinting;simp only[];split<;>rfl
theorem qc_ (p:Program) (f:Frame) (cs:List Frame) (d:Option Dying) (m:String) (w:QV):w.drawn<=(gsW (endFatal p f cs d m w)).drawn:=by
 unfold endFatal;simp only[];split<;>rename_i e
 ·exact co_ e
 ·exact bz_ e
 ·exact bz_ e
theorem Fn_ (p:Program) (g:Frame) (d:Dying) (f:Fatal) (w:QV):w.drawn<=(gsW (writeOn p g d f w)).drawn:=by
 unfold writeOn;simp only[];split
 ·exact XK _
 ·split<;>rename_i e
  all_goals
   have h:=congrArg Prod.fst e;rw[Sem.runT_fst]at h
   first | exact co_ h | exact bz_ h
theorem Oq_ (p:Program) (i:Frame) (d:Dying) (w:QV):w.drawn<=(gsW (die p i d w)).drawn:=by
 unfold die;split
 ·exact Fn_ ..
 ·split
  ·split
   ·exact XK _
   ·exact Di_ ..
  ·simp only[];split
   ·exact XK _
   ·split<;>rename_i g
    ·exact co_ g
    ·exact bz_ g
   ·rename_i t f e _;rw[b9_];have h:=bp_ _ p (invoke (.fn (.method e) #[]) #[UX t f]) w #[];generalize (Sem.runT p (invoke (.fn (.method e) #[]) #[UX t f]) w #[])=r at h ⊢;obtain⟨r,j⟩:=r;simp only[]at h ⊢;split
    ·exact h
    ·exact h
    ·exact h
    ·rw[j1_];exact h
    ·exact XK _
   ·exact XK _
theorem ek_ (p:Program) (e:Bool) (f:Frame) (cs:List Frame) (d:Option Dying) (v:XJ) (w:QV):gsW (doReturn p e f cs d v w)=w:=by
 unfold doReturn;repeat' split
 all_goals rfl
theorem p0_ (p:Program) (f:Frame) (cs:List Frame) (e:Option Dying) (d:Deferred) (w:QV):w.drawn<=(gsW (callDeferred p f cs e d w)).drawn:=by
 unfold callDeferred;refine z9_ (XK _) ?_
 ·have h:=bp_ _ p (invoke d.target d.args) w #[];generalize (Sem.runT p (invoke d.target d.args) w #[])=r at h ⊢;obtain⟨r,g⟩:=r;simp only[b9_]at h ⊢;split
  all_goals first
   | exact h
   | (split<;>exact h)
   | exact ZX h (qc_ ..)
theorem y2_ (p:Program) (g:Bool) (f:Frame) (cs:List Frame) (j:Option Dying) (w:QV):w.drawn<=(gsW (unwind p g f cs j w)).drawn:=by
 unfold unwind;split
 ·rename_i d _ ds _;have h:=bp_ _ p (Instr.takeDeferred d) w #[];generalize (Sem.runT p (Instr.takeDeferred d) w #[])=r at h ⊢;obtain⟨r,k⟩:=r;simp only[b9_]at h ⊢;split<;>exact h
 ·exact p0_ ..
 ·split
  ·exact XK _
  ·split
   ·exact XK _
   ·split
    ·exact XK _
    ·split
     ·split
      ·exact XK _
      ·split<;>rename_i e
       ·exact co_ e
       ·exact bz_ e
       ·exact bz_ e
     ·split
      ·rw[j1_];exact XK _
      ·exact XK _
  ·split
   ·rw[ek_];exact XK _
   ·rename_i i _;have h:=bp_ _ p (results i f.tmps) w #[];generalize (Sem.runT p (results i f.tmps) w #[])=r at h ⊢;obtain⟨r,k⟩:=r;simp only[b9_]at h ⊢;split
    ·rw[ek_];exact h
    ·exact h
    ·exact h
theorem K4_ (p:Program) (i:Frame) (cs:List Frame) (h:Option Dying) (g:Nat) (w:QV):w.drawn<=(gsW (early p i cs h g w)).drawn:=by
 unfold early;simp only[];repeat' split
 all_goals first
  | exact XK _
  | (rename_i d;first | exact co_ d | exact bz_ d)
  | (rename_i d _;first | exact co_ d | exact bz_ d)
  | (rename_i d _ _;first | exact co_ d | exact bz_ d)
  | (rename_i d _ _ _;first | exact co_ d | exact bz_ d)
  | (rename_i d _ _ _ _;first | exact co_ d | exact bz_ d)
  | (rename_i d _ _ _ _ _;first | exact co_ d | exact bz_ d)
  | (rename_i d _ _ _ _;have e:=co_ d;exact e)
  | (rename_i f d _ _ _ _;have e:w.drawn<=f.drawn:=co_ d;show w.drawn<=f.drawn;exact e)
theorem lc_ (p:Program) (d:Bool) (f:Frame) (cs:List Frame) (e:Option Dying) (s:Sem Next) (w:QV):w.drawn<=(gsW (stepG.apply p d f cs e s w)).drawn:=by
 unfold stepG.apply;simp only[]
 have h:w.drawn<=(N5_ (if d=true then s.runT p w #[] else (s.run p w,#[])).1).drawn:=by
  split
  ·exact bp_ _ p s w #[]
  ·exact jp_ p s w
 generalize (if d=true then s.runT p w #[] else (s.run p w,#[]))=r at h ⊢
 obtain⟨r,g⟩:=r;simp only[b9_]at h ⊢;split
 all_goals first
  | exact h
  | (split<;>exact h)
  | (split<;>(try split)<;>exact h)
  | exact ZX h (qc_ ..)
  | exact ZX h (K4_ ..)
theorem Nv_ (p:Program) (d:Bool) (f:Frame) (cs:List Frame) (e:Option Dying) (w:QV):w.drawn<=(gsW (stepG.oper p d f cs e w)).drawn:=by
 unfold stepG.oper;split
 ·exact XK _
 ·split<;>exact lc_ ..
theorem Hd_ (p:Program) (E A:Bool) (J:Frame) (cs:List Frame) (O:Option Dying) (w:QV):w.drawn<=(gsW (stepG.exec p E A J cs O w)).drawn:=by
 obtain⟨C,B,o,G,U,kind,g⟩:=J;unfold stepG.exec;simp only[]
 cases o with
 | nil=>
  simp only[]
  cases g with
  | none=>first | exact XK _ | (split<;>exact XK _)
  | some l=>
   simp only[];have h:=bp_ _ p (Instr.endRound l QK) w #[];generalize (Sem.runT p (Instr.endRound l QK) w #[])=r at h ⊢;obtain⟨r,x⟩:=r;simp only[b9_]at h ⊢
   cases r with
   | ok v w'=>simp only[ek_];exact h
   | halt v w'=>exact h
 | cons T k=>
  cases T with
  | code c=>
   cases c with
   | ret=>
    simp only[]
    cases g with
    | none=>first | exact XK _ | (split<;>exact XK _)
    | some l=>
     simp only[];have h:=bp_ _ p (Instr.endRound l (some .ret)) w #[];generalize (Sem.runT p (Instr.endRound l (some .ret)) w #[])=r at h ⊢;obtain⟨r,x⟩:=r;simp only[b9_]at h ⊢
     cases r with
     | ok v w'=>simp only[ek_];exact h
     | halt v w'=>exact h
   | exit y=>
    simp only[]
    cases he:exitTo y k with
    | some l=>exact XK _
    | none=>
     simp only[Option.elim_none]
     cases g with
     | none=>first | exact XK _ | (split<;>exact XK _)
     | some l=>
      simp only[];have h:=bp_ _ p (Instr.endRound l (QJ (.exit y))) w #[];generalize (Sem.runT p (Instr.endRound l (QJ (.exit y))) w #[])=r at h ⊢;obtain⟨r,x⟩:=r;simp only[b9_]at h ⊢
      cases r with
      | ok v w'=>simp only[ek_];exact h
      | halt v w'=>exact h
   | goto D=>
    simp only[]
    cases he:gotoIn D k with
    | some l=>exact XK _
    | none=>
     simp only[Option.elim_none]
     cases g with
     | none=>first | exact XK _ | (split<;>exact XK _)
     | some l=>
      simp only[];have h:=bp_ _ p (Instr.endRound l (QJ (.goto D))) w #[];generalize (Sem.runT p (Instr.endRound l (QJ (.goto D))) w #[])=r at h ⊢;obtain⟨r,x⟩:=r;simp only[b9_]at h ⊢
      cases r with
      | ok v w'=>simp only[ek_];exact h
      | halt v w'=>exact h
   | cond c a b=>
    simp only[];split<;>exact XK _
   | rangeFunc f m j q=>
    simp only[];have h:=bp_ _ p (Instr.enterLoop C B m j q g) w #[];generalize (Sem.runT p (Instr.enterLoop C B m j q g) w #[])=r at h ⊢;obtain⟨r,x⟩:=r;simp only[b9_]at h ⊢
    cases r with
    | ok v w'=>exact ZX h (lc_ ..)
    | halt v w'=>exact h
   | region y L N=>
    simp only[];refine z9_ (XK _) ?_
    cases hr:Sem.run p (choose (.order C y)) w with
    | ok t w'=>exact co_ hr
    | halt t w'=>exact bz_ hr
   | _=>exact XK _
  | inRegion L o=>
   cases o with
   | nil=>exact XK _
   | cons i r=>
    simp only[];exact z9_ (Nv_ ..) (XK _)
  | beginRound=>simp only[];exact lc_ ..
  | endRangeFunc l=>
   simp only[];have h:=bp_ _ p (Instr.endLoop l) w #[];generalize (Sem.runT p (Instr.endLoop l) w #[])=r at h ⊢;obtain⟨r,x⟩:=r;simp only[b9_]at h ⊢
   cases r with
   | ok v w'=>exact h
   | halt v w'=>cases v<;>exact h
  | call d b s v=>simp only[];exact lc_ ..
  | extern M args=>
   simp only[]
   cases he:Extern.next M with
   | none=>exact XK _
   | some e=>simp only[Option.elim_some];exact lc_ ..
  | _=>exact XK _
theorem L7_ (p:Program) (m:Bool) (g:Goroutine) (w:QV) (j:Bool):w.drawn<=(gsW (stepG p m g w j)).drawn:=by
 obtain⟨o,cs,r,k,q⟩:=g;unfold stepG;simp only[]
 cases k with
 | none=>
  cases hm:o.mode with
  | run=>exact Hd_ ..
  | _=>exact y2_ ..
 | some d=>
  obtain⟨a,b,i,e,f,g,h⟩:=d
  cases i with
  | false=>exact Oq_ ..
  | true=>
   cases hm:o.mode with
   | run=>exact Hd_ ..
   | _=>exact y2_ ..
theorem sc_ (rest:Rest) (cases:Array CommCase) (w w':QV) (h:waitingAt rest cases w=some w'):w'.drawn=w.drawn:=by
 unfold waitingAt at h;split at h
 ·split at h
  ·injection h with h;rw[<-h]
  ·cases h
 ·injection h with h;rw[<-h]
theorem rz_ (p:Program) (rest:Rest) (o:Array Goroutine) (i:Nat) (g:Goroutine) (cases:Array CommCase) (d:Bool)
    (f:CommShape) (w:QV) (m:Machine) (h:(communicate p rest o i g cases d f w).1 = .next m):w.drawn<=m.world.drawn:=by
 unfold communicate at h;simp only[]at h;split at h
 ·simp at h
 ·split at h
  ·split at h
   ·split at h
    ·rename_i q e;simp only[Stepped.next.injEq]at h;subst h;exact Nat.le_of_eq (sc_ _ _ _ _ e).symm
    ·simp at h
   ·simp only[Stepped.next.injEq]at h;subst h;exact XK _
  ·split at h
   ·simp at h
   ·rename_i k c r q e;have h1:=co_ e;clear e
    repeat' first
     | (simp at h;done)
     | (simp only[Stepped.next.injEq]at h;subst h;first
         | exact h1
         | (have j:=bz_ (by assumption);exact ZX h1 j)
         | (have j:=co_ (by assumption);exact ZX h1 j))
     | split at h
theorem Id_ (p:Program) (e:Array Goroutine) (rest:Rest) (w:QV) (d:Machine)
    (h:look p e rest w = .next d):w.drawn<=d.world.drawn:=by
 unfold look at h;simp only[]at h
 repeat' first
  | (simp at h;done)
  | (simp only[Stepped.next.injEq]at h;subst h;have f:=co_ (by assumption);exact f)
  | split at h
theorem K3_ (w:QV) (c:Nat):(drain w c).2.drawn=w.drawn:=by unfold drain;split<;>rfl
theorem yg_ (m:Machine) (k:Nat) (t:Timer) (a b:Nat):(retime m k t a b).2.world.drawn=m.world.drawn:=by
 unfold retime;simp only[];split
 ·exact K3_ _ _
 ·rfl
theorem B5_ (m:Machine) (g:Addr) (f:Nat->Timer->XJ×Machine) (d:Nat) (i:∀k t,(f k t).2.world.drawn=d) (v:XJ) (e:Machine) (h:timerOp.named m g f = .ok (v,e)):e.world.drawn=d:=by
 unfold timerOp.named at h;split at h
 ·injection h with h;rw[<-congrArg (λx=>x.2.world.drawn) h];exact i _ _
 ·cases h
theorem E7_ (m:Machine) (op:TimerOp) (v:XJ) (e:Machine) (h:timerOp m op = .ok (v,e)):e.world.drawn=m.world.drawn:=by
 unfold timerOp at h
 cases op with
 | new t=>
  simp only[]at h
  repeat' first
   | (cases h;done)
   | (injection h with h;injection h with _ h;subst h;rfl)
   | split at h
 | stop g=>exact B5_ _ _ _ _ (λk t=>yg_ ..) _ _ h
 | reset g j f=>
  simp only[]at h;split at h
  ·rename_i i d
   have h2:i.world.drawn=m.world.drawn:=by
    unfold timerOp.opened at d;split at d
    ·split at d
     ·injection d with d;rw[<-d]
     ·cases d
    ·injection d with d;rw[<-d]
   exact (B5_ _ _ _ _ (λk t=>yg_ ..) _ _ h).trans h2
  ·cases h
 | deadline o r w t=>
  injection h with h;injection h with _ h;rw[<-h];rfl
theorem N6_ (p:Program) (m g:Machine) (i:Nat) (b:Bool) (h:(runT p m i b).1 = .next g):m.world.drawn<=g.world.drawn:=by
 simp only[runT]at h;revert h
 generalize m.gs.swapAt! _ _=gg;have d:=L7_ p (i==0) gg.1 m.world b;revert d
 generalize stepG p _ gg.1 m.world b=s;intro d h
 cases s<;>simp only[gsW]at h d
 all_goals first
  | (simp at h;done)
  | (simp only[Stepped.next.injEq]at h;subst h;exact d)
  | (have h2:=rz_ _ _ _ _ _ _ _ _ _ _ h;exact ZX d h2)
  | (have h2:=Id_ _ _ _ _ _ h;exact ZX d h2)
  | (repeat' first
      | (simp at h;done)
      | (simp only[Stepped.next.injEq]at h;subst h;first
          | exact d
          | (rename_i e;have h2:=E7_ _ _ _ _ e;simp only[]at h2 ⊢;omega)
          | (rename_i e;have f:=congrArg gsW e;rw[z3_]at f;have j:=congrArg World.drawn f;exact ZX d (Nat.le_of_eq j)))
      | split at h)
theorem L0_ (p:Program) (m d:Machine) (k:Nat) (h:serve p m k = .next d):m.world.drawn<=d.world.drawn:=by
 unfold serve at h;simp only[]at h
 repeat' first
  | (simp at h;done)
  | (simp only[Stepped.next.injEq]at h;subst h;exact XK _)
  | split at h
theorem Kl_ (p:Program) (m e:Machine) (i:Nat) (h:askOn p m = .goroutine e i):m.world.drawn<=e.world.drawn:=by
 unfold askOn at h;simp only[]at h
 repeat' first
  | (simp at h;done)
  | (simp only [Move.goroutine.injEq] at h; obtain ⟨f, hi⟩ := h; rw [<- f]; simp only [Machine.advanceTo] at *; omega)
  | (split at h<;>(try (rename_i d;have g:=co_ d;clear d)))
theorem Km_ (p:Program) (m e:Machine) (f:Array MemOp) (h:askOn p m = .machine (.next e) f):m.world.drawn<=e.world.drawn:=by
 unfold askOn at h;simp only[]at h
 repeat' first
  | (simp at h;done)
  | (simp only[Move.machine.injEq]at h;have g:=L0_ _ _ _ _ h.1;simp only[]at g;omega)
  | (simp only [Move.machine.injEq, Stepped.next.injEq] at h; obtain ⟨i, _⟩ := h; rw [<- i]; simp only [Machine.advanceTo] at *; omega)
  | (split at h<;>(try (rename_i d;have j:=co_ d;clear d)))
theorem Mo_ (p:Program) (m:Machine):(∃m₂,m.world.drawn<=m₂.world.drawn/\ask p m=askOn p m₂)\/(∃o w,ask p m = .machine (.ended o w) #[]):=by
 unfold ask
 by_cases hw:m.rest.watch=true
 ·rw[iP_ hw]
  cases hr : (choose (.extern "collector.look" 2)).run p m.world with
  | halt h w=>exact .inr ⟨_,_,rfl⟩
  | ok k world=>
   have hd:=co_ hr
   rcases k with _ | _ | k
   ·exact .inl ⟨{ m with world },hd,rfl⟩
   ·show (∃m₂,m.world.drawn<=m₂.world.drawn/\(match look p m.gs m.rest world with | .next m=>askOn p m | e=>Move.machine e)=askOn p m₂) \/
      (∃o w,(match look p m.gs m.rest world with | .next m=>askOn p m | e=>Move.machine e) = .machine (.ended o w) #[])
    cases hl:look p m.gs m.rest world with
    | next m₂=>exact .inl ⟨m₂,ZX hd (Id_ _ _ _ _ _ hl),rfl⟩
    | ended o w=>exact .inr ⟨o,w,rfl⟩
   ·exact .inl ⟨{ m with world },hd,rfl⟩
 ·simp only[hw,Bool.false_eq_true,if_false]
  exact .inl ⟨m,XK _,rfl⟩
theorem Nr_ (p:Program) (m d:Machine) (i:Nat) (h:move p m = .goroutine d i):m.world.drawn<=d.world.drawn:=by
 have key:∀e:Machine,e.world=m.world->ask p e = .goroutine d i->m.world.drawn<=d.world.drawn:=λe h1 h2=>by
  rcases Mo_ p e with⟨j,g,f⟩ | ⟨o,w,f⟩
  ·rw[f]at h2;have:=Kl_ _ _ _ _ h2;rw[h1]at g;omega
  ·rw[f]at h2;cases h2
 unfold move at h;split at h
 ·split at h
  ·simp only[Move.goroutine.injEq]at h;rw[<-h.1];exact XK _
  ·cases h
 ·split at h
  ·split at h
   ·simp only[Move.goroutine.injEq]at h;rw[<-h.1];exact XK _
   ·exact key { m with rest:={ m.rest with slice:=QK } } rfl h
  ·exact key m rfl h
theorem Ns_ (p:Program) (m d:Machine) (f:Array MemOp) (h:move p m = .machine (.next d) f):m.world.drawn<=d.world.drawn:=by
 have key:∀e:Machine,e.world=m.world->ask p e = .machine (.next d) f->m.world.drawn<=d.world.drawn:=λe h1 h2=>by
  rcases Mo_ p e with⟨j,i,g⟩ | ⟨o,w,g⟩
  ·rw[g]at h2;have:=Km_ _ _ _ _ h2;rw[h1]at i;omega
  ·rw[g]at h2;simp at h2
 unfold move at h;split at h
 ·split at h
  ·cases h
  ·simp at h
 ·split at h
  ·split at h
   ·cases h
   ·exact key { m with rest:={ m.rest with slice:=QK } } rfl h
  ·exact key m rfl h
theorem N7_ (p:Program) (m d:Machine) (h:step p m = .next d):m.world.drawn<=d.world.drawn:=by
 unfold step stepT at h
 cases hm:move p m with
 | goroutine f i=>
  rw[hm]at h;exact ZX (Nr_ _ _ _ _ hm) (N6_ _ _ _ _ _ h)
 | machine s e=>
  rw[hm]at h;simp only[]at h;subst h;exact Ns_ _ _ _ _ hm
theorem Jf_ (p:Program) (n:Nat):∀(m d:Machine),runN p n m = .next d->m.world.drawn<=d.world.drawn:=by
 induction n with
 | zero=>
  intro m d h;unfold runN at h;injection h with h;rw[h];exact XK _
 | succ n e=>
  intro m d h;unfold runN at h
  cases hs:step p m with
  | next f=>rw[hs]at h;exact ZX (N7_ _ _ _ hs) (e _ _ h)
  | ended o w=>rw[hs]at h;cases h
theorem calls_drawn {P:Program} {f:FuncId} {args:Array XJ} {w:QV} {R:Ending->QV->Prop} (h:Calls P f args w R) :
    Calls P f args w λe w'=>R e w'/\(e ≠ .outgrown->w.drawn<=w'.drawn):=λcs=>by
 obtain⟨e,w',j,k,g,d⟩:=h cs;refine⟨e,w',j,⟨k,λm=>?_⟩,g,d⟩
 cases e with
 | returned v=>obtain⟨n,i⟩:=g;exact Jf_ _ _ _ _ i
 | panicked c=>obtain⟨n,i⟩:=g;exact Jf_ _ _ _ _ i
 | outgrown=>exact absurd rfl m
theorem grow_of_below {w w':QV} (h:XW w.heap.size w w') (f:w.drawn<=w'.drawn):∃q os,w'=Sort.grow (w.drewN q) os:=by
 refine⟨w'.drawn-w.drawn,w'.heap.extract w.heap.size w'.heap.size,?_⟩;obtain⟨heap,tape,drawn,os,output⟩:=w';have h1:os=w.os:=h.os;have h2:tape=w.tape:=h.tape;have d:output=w.output:=h.output
 have e:heap=w.heap++heap.extract w.heap.size heap.size:=by
  apply Array.ext_getElem?;intro i;rcases VZ i w.heap.size with hi | hi
  ·rw[Array.getElem?_append_left hi];exact h.block i hi
  ·rw[Array.getElem?_append_right hi,Array.getElem?_extract];have j:w.heap.size<=heap.size:=h.size;split
   ·congr 1;omega
   ·rw[Array.getElem?_eq_none (by omega)]
 have g:w.drawn<=drawn:=f;unfold Sort.grow World.drewN;rw[h1,h2,d];show World.mk heap _ _ _ _=World.mk (w.heap++heap.extract w.heap.size heap.size) _ _ _ _;rw[<-e];congr 1
 show drawn=w.drawn+(drawn-w.drawn);omega
end Dn
end
section
open Go Go.RowKit Go.Shelf Go.Lib Go.Sort Go.Proofs
def TrS:bu_ e_:=λ_ _ t c=>cj_ t/\(∀n,cg_ (t.get n))/\∃ss:Nat->XJ,(∀n,n<3->∃A cap,ss n = QQ A 0 cap)/\c=N_ t ss
theorem TrS.good:TrS.Good:=⟨λh _=>h,λh _=>h⟩
structure ItT where
 t:e_
 ss:Nat->XJ
 sc:cj_ t
 fit:∀n,cg_ (t.get n)
 sl:∀n,n<3->∃A cap,ss n = QQ A 0 cap
def y4_:g_:=.mk 1 true 0 ⟨#[]⟩ ⟨#[]⟩ []
theorem jv_:af_ y4_:=by refine⟨?_,.inl rfl,by decide,by decide⟩;unfold y4_ I_;simp[aw_]
theorem y5_:cg_ y4_:=⟨by decide,by decide,by decide⟩
def Cl_:e_:=⟨y4_,y4_,y4_⟩
theorem Fe_ (n:Nat):Cl_.get n=y4_:=by unfold e_.get Cl_;(repeat' split)<;>rfl
instance:Inhabited ItT:=⟨⟨Cl_,λ_=>.slice QK 0 0,⟨jv_,jv_,jv_⟩,λn=>by rw[Fe_];exact y5_,λ_ _=>⟨QK,0,rfl⟩⟩⟩
def Dh_ (x:ItT):List XJ:=(N_ x.t x.ss).toList
theorem G6_ (x:ItT):(Dh_ x).length=18:=rfl
theorem wv_ (x:ItT):(Dh_ x).toArray=N_ x.t x.ss:=by unfold Dh_;rw[Array.toArray_toList]
theorem ck_ (t:e_) (ss:Nat->XJ) (h:∀n,n<3->∃A l cap,ss n = QQ A l cap):∀v∈(N_ t ss).toList,v.oneCell'=true:=by obtain⟨e,m,i,h0⟩:=h 0 (by omega);obtain⟨f,o,j,h1⟩:=h 1 (by omega);obtain⟨g,p,k,h2⟩:=h 2 (by omega);intro v d;unfold N_ c_ at d;rw[h0,h1,h2]at d;simp only[Array.toList_append,List.mem_append,List.mem_cons,List.not_mem_nil,or_false]at d;rcases d with ((rfl | rfl | rfl | rfl | rfl | rfl) | (rfl | rfl | rfl | rfl | rfl | rfl)) | (rfl | rfl | rfl | rfl | rfl | rfl)<;>rfl
theorem G7_ (x:ItT):∀v∈Dh_ x,v.oneCell'=true:=ck_ x.t x.ss λn d=>by
 obtain⟨A,cap,e⟩:=x.sl n d;exact⟨A,0,cap,e⟩
theorem h_ {w0 w w':QV} {S:Nat->Prop} (hb:XW w0.heap.size w0 w) (ht:Turn S w w') (d:∀b,S b->w0.heap.size<=b):XW w0.heap.size w0 w':=
 hb.trans ⟨ht.os,ht.tape,ht.output,ht.size,λk e=>ht.block k (XZ e hb.size) (λh=>by have:=d k h;omega)⟩
theorem vo_ {α I:Type} {o:α -> α -> Int} (h:gw_ o) (d : I -> α):SWO (ltOf λx y:I=>o (d x) (d y)) where
 irrefl x:=by show decide (o (d x) (d x)<0)=false;rw[h.refl];rfl
 trans x y z h1 h2:=by unfold ltOf at *;simp only [decide_eq_true_eq] at *;exact h.lt_trans h1 (by omega)
 ntrans x y z h1 h2:=by unfold ltOf at *;simp only [decide_eq_false_iff_not] at *;intro i;have e:=h.anti (d x) (d y);have f:=h.anti (d y) (d z);have g:=h.anti (d x) (d z);have:=h.trans (d z) (d y) (d x) (by omega) (by omega);omega
theorem Ch_ {α : Type} [Inhabited α] (enc:α -> XJ) {w:QV} {b m n sz cap:Nat} {e:TypeId} {f:Array XJ} {d:Array α} {os:Array Obj} (h:w.heap[b]?=QJ (XX f e (0,0))) (h1:n<=cap) (h2:cap<=maxLen) (o:f.size=cap*sz) (g:d.size=n*sz) :
    (grow (putRow enc (Sort.ahead w m) b 0 d) os).ownsRow 0 e sz (QQ (QJ ⟨b,0,QK⟩) n cap) n (d.toList.map enc):=by
 have k:=b_ h;have hb:(grow (putRow enc (Sort.ahead w m) b 0 d) os).heap[b]?=QJ (XX (putCells enc 0 d f) e (0,0)):=by rw[heap_grow_old _ _ (by simpa using k)];simp[putRow,mapBlock,Sort.ahead,Array.getElem?_modify,h,onCells]
 have p:n*sz<=cap*sz:=Nat.mul_le_mul_right sz h1;refine⟨by simp[g],.inr ⟨b,cap,_,rfl,Nat.zero_le _,hb,h1,h2,by simp[putCells,o],?_⟩⟩;apply List.ext_getElem?;intro j;by_cases i:j<n*sz
 ·rw[List.getElem?_take_of_lt i,Array.getElem?_toList];simp[putCells,g,i,show j<f.size by omega]
 ·rw[List.getElem?_take_eq_none (by omega),ZK (by simp[g];omega)]
theorem w2_ {I:Type} [Inhabited I] (enc:I->List XJ) (k:Nat) (g:∀x,(enc x).length=k) (d:Array I):(flatK enc k d).toList.map id=R_ (λi=>(enc d[i]!).toArray) d.size:=by
 rw[List.map_id];apply List.ext_getElem?;intro t;have e:∀i,i<d.size->((λi=>(enc d[i]!).toArray) i).size=k:=λi _=>by simp[g]
 by_cases h:t<d.size*k
 ·have o:0<k:=by
    rcases Nat.eq_zero_or_pos k with h0 | h0
    ·rw[h0,Nat.mul_zero]at h;omega
    ·exact h0
  have hi:t / k<d.size:=Nat.div_lt_of_lt_mul (by rw[Nat.mul_comm];exact h);have j:t % k<k:=Nat.mod_lt _ o;have m:t / k*k+t % k=t:=by rw[Nat.mul_comm];exact Nat.div_add_mod t k
  have h2:=cr_ e hi j;rw[m]at h2;rw[h2,Array.getElem?_toList];have f:=get_flatK enc k d t h;rw[getElem!_pos _ t (by simpa using h)]at f;rw[Array.getElem?_eq_getElem (by simpa using h),f];simp[g,j]
 ·rw[ZK (by simp;omega),ZK (by rw[ap_ e];omega)]
section
variable {P:Program} {ρ : Ren} {α I:Type} [Inhabited I] {R:bu_ α} {w:QV} {F:Nat->Prop} {l:List α} {s:XJ} {sz:Nat}
theorem tp_ (L:SlLaysF0.n6 P ρ) (hR:R.Good) (ak:0<sz) (aE:∀w,(isAgg (ρ.t 24)).run P w = .ok true w) (zE:∀w,(Go.sizeOf (ρ.t 24)).run P w = .ok sz w) (enc:I->List XJ) (val:I -> α)
    (hk:∀x,(enc x).length=sz) (h1:∀x,∀v∈enc x,v.oneCell'=true) (af:∀{w:QV} {F:Nat->Prop} {x:α} {c:Array XJ},R w F x c->∃r,enc r=c.toList/\val r=x)
    (U:α -> α -> Int) (hO:SWO (ltOf λx y:I=>U (val x) (val y))) (g:Nat) (cb:Array XJ) (eg:∀args w,(callFunc g args).run P w = .ok (.enter g args) w)
    (ab:∀(x y:I) (W:QV),Turn (λb=>s.ownBlock=QJ b) w W->Calls P g (#[.agg (enc x).toArray,.agg (enc y).toArray]++cb) W λe w'=>e = YQ (QY QU (U (val x) (val y)))/\XW W.heap.size W w')
    (h:x_ (ρ.t 24) sz R w F l s) (ap:l.length<=100000000) (hF:∀b,F b->b<w.heap.size) :
    Calls P (ρ.f 6) #[s,.func (.func g) #[] cb] w λe w'=>e = YQ (ZJ #[])/\∃l':List α,l'.Perm l/\l'.Pairwise (λa b=>¬U b a<0)/\x_ (ρ.t 24) sz R w' F l' s/\Turn (λb=>s.ownBlock=QJ b) w w':=by
 obtain⟨cs,a0,h6,a7,hr⟩:=h;rcases a0.2 with⟨hs,h0⟩ | ⟨b,cap,aq,hs,_,hb,a4,a6,aa,ao⟩
 ·subst hs;have ag:l=[]:=UK h0;subst ag;refine (AnyF.slices_SortFunc_none L QK 0 _ w).mono λe w' ⟨C,T⟩=>⟨C,[],List.Perm.refl _,List.Pairwise.nil,?_,?_⟩
  ·rw[T];exact x_.nil ..
  ·rw[T];exact Turn.refl _ _
 ·subst hs;have a3:=b_ hb
  have X:∀i,∃r:I,∀x,l[i]?=QJ x->enc r=(cs i).toList/\val r=x:=λi=>by
   cases G:l[i]? with
   | none=>exact⟨default,λx h=>by cases h⟩
   | some x=>
    obtain⟨r,J,M⟩:=af (hr i x G);exact⟨r,λy hy=>by injection hy with hy;subst hy;exact⟨J,M⟩⟩
  obtain⟨r,hi⟩:∃r:Nat->I,∀i x,l[i]?=QJ x->enc (r i)=(cs i).toList/\val (r i)=x:=⟨λi=>(X i).choose,λi=>(X i).choose_spec⟩;clear X;obtain⟨d,hd⟩:∃d:Array I,d=((List.range l.length).map r).toArray:=⟨_,rfl⟩;have k:d.size=l.length:=by rw[hd];simp
  have ac:∀i,i<l.length->d[i]! = r i:=λi hi=>by rw[getElem!_pos _ i (by rw[k];exact hi)];simp[hd]
  have hH:HoldsK enc sz w b 0 d:=by
   intro j hj;rw[size_flatK,k]at hj;have A:j / sz<l.length:=Nat.div_lt_of_lt_mul (by rw[Nat.mul_comm];exact hj);have Z:j % sz<sz:=Nat.mod_lt _ ak;have C:j / sz*sz+j % sz=j:=by rw[Nat.mul_comm];exact Nat.div_add_mod j sz
   refine⟨?_,by simp[World.frozen?,hb]⟩;rw[get_flatK _ _ _ _ (by rw[k];exact hj),ac _ A,(hi _ _ (XQ A)).1];have h2:=a0.cellAt j hj;have h3:=cr_ h6 A Z;rw[C]at h3;rw[h3]at h2;rw[show (0+j)=j by omega,h2];rw[getElem!_pos (cs (j / sz)).toList (j % sz) (by rw[Array.length_toList,h6 _ A];exact Z)];simp[h6 _ A,Z]
  have a1:d.size<4611686018427387904:=by rw[k];omega
  have a5:CmpLays P g cb enc sz (λx y=>U (val x) (val y)) b 0 d.size w:=λm os dk _ x y=>by
   have ht:Turn (λi=>(Value.slice (QJ ⟨b,0,QK⟩) l.length cap).ownBlock=QJ i) w (sortWorldK enc sz w b 0 m dk os):=e0_.mono λi _ hi=>by rw[hi];rfl
   refine (Dn.calls_drawn (ab x y _ ht)).mono λe w' ⟨⟨C,a9⟩,ad⟩=>⟨C,?_⟩;exact Dn.grow_of_below a9 (ad (by rw[C];exact λh=>by cases h))
  have V:=AnyQ.slices_SortFunc L sz aE zE enc hk h1 (λx y=>U (val x) (val y)) hO g cb b 0 cap d w eg a5 hH a3 a1;rw[k]at V;refine V.mono λe w' ⟨C,o,n,os,D,aj,T⟩=>⟨C,o.toList.map val,?_,?_,?_,?_⟩
  ·have E:=D.2.2;have J:(o.extract 0 l.length).toList=o.toList:=by rw[show l.length=o.size by rw[D.1,k]];simp
   have M:(d.extract 0 l.length).toList=d.toList:=by rw[show l.length=d.size by rw[k]];simp
   rw[J,M]at E;refine (E.map val).trans (List.Perm.of_eq ?_);rw[hd];apply List.ext_getElem?;intro i;simp only[List.map_map,List.getElem?_map];rcases VZ i l.length with h | h
   ·rw[List.getElem?_range h,XQ h];simp[(hi i _ (XQ h)).2]
   ·rw[ZK (by simpa using h),ZK h];rfl
  ·rw[List.pairwise_iff_getElem];intro i j A Y ae;simp only[List.length_map,Array.length_toList]at A Y;have h2:=aj i j (Nat.zero_le _) ae (by rw[<-k,<-D.1];exact Y);rw[getElem!_pos _ i A,getElem!_pos _ j Y]at h2;unfold ltOf at h2;simpa using h2
  ·have B:o.size=l.length:=by rw[D.1,k]
   have ah:(o.toList.map val).length=l.length:=by simp[B]
   have ht:Turn (λi=>i=b) w w':=by rw[T];exact e0_
   have a2:w'.ownsRow 0 (ρ.t 24) sz (QQ (QJ ⟨b,0,QK⟩) l.length cap) l.length (R_ (λi=>(enc o[i]!).toArray) l.length):=by rw[T];have:=Ch_ (e:=ρ.t 24) (m:=n) (os:=os) id (d:=flatK enc sz o) hb a4 a6 aa (by rw[size_flatK,B]);rw[w2_ enc sz hk o,B]at this;exact this
   refine⟨λi=>(enc o[i]!).toArray,by rw[ah];exact a2,λi _=>by simp[hk],a7,λi x G=>?_⟩;have O:=c3_ G;rw[List.length_map,Array.length_toList]at O;rw[List.getElem?_map]at G;have am:x=val o[i]!:=by rw[XQ (by simpa using O)]at G;injection G with G;rw[getElem!_pos _ i O,<-G];rfl
   have N:o[i]! ∈ d.toList:=by
    have E:=D.2.2;have J:(o.extract 0 l.length).toList=o.toList:=by rw[<-B];simp
    have M:(d.extract 0 l.length).toList=d.toList:=by rw[<-k];simp
    rw[J,M]at E;refine E.mem_iff.1 ?_;rw[getElem!_pos _ i O];simp
   rw[hd]at N;simp only[List.mem_map,List.mem_range]at N;obtain⟨q,hq,ai⟩:=N;obtain⟨J,M⟩:=hi q _ (XQ hq);have a8:=hr q _ (XQ hq);show R w' _ x (enc o[i]!).toArray;rw[am,<-ai,J,M];exact hR.keep a8 (w':=w') λp D=>ht.cell (hF _ D.1) λe=>D.2 (by rw[e];rfl)
  ·rw[T];exact e0_.mono λi _ hi=>by rw[hi];rfl
end
theorem itT {w:QV} {F:Nat->Prop} {x:e_} {c:Array XJ} (h:TrS w F x c):∃d:ItT,Dh_ d=c.toList/\d.t=x:=by obtain⟨h1,h2,ss,e,rfl⟩:=h;exact⟨⟨x,ss,h1,h2,e⟩,rfl,rfl⟩
theorem Ez_ (W:Way) (v:W.Ok) (g:Nat) (w0:QV) {w:QV} {F:Nat->Prop} {l:List e_} {s:XJ} (h:x_ 99 18 TrS w F l s) (f:l.length<=100000000) (r:∀b,F b->b<w.heap.size)
    (hb:XW w0.heap.size w0 w) (k:∀b,s.ownBlock=QJ b->w0.heap.size<=b) (m:ad_ w0) (o:ci_ w0) (q:w.heap[g]?=QJ (XX (gs_ W) 101 (0,0))) :
    Calls QW 49 #[s,.func (.func 50) #[] #[YK (QJ ⟨g,0,QK⟩)]] w λe w'=>e = YQ (ZJ #[])/\∃j:List e_,j.Perm l/\j.Pairwise (λa b=>¬s_ W b a<0)/\x_ 99 18 TrS w' F j s/\Turn (λb=>s.ownBlock=QJ b) w w':=by
 have p:s.ownBlock≠QJ g:=by obtain⟨cs,i,_⟩:=h;exact cm_ i q (by decide)
 refine tp_ Tryz.sortP TrS.good (by decide) isAgg99 sizeOf99 Dh_ ItT.t G6_ G7_ itT (s_ W) (vo_ (az_ W) ItT.t) 50 #[YK (QJ ⟨g,0,QK⟩)] (enters_of func50 (by kernel_rfl) rfl) (λx y V ht=>?_) h f r;rw[wv_,wv_];have d:=h_ hb ht k;exact Cz_ W v x.t y.t x.ss y.ss g V (ht.heap q p) (λn=>⟨(x.sc.get n).2.1,x.fit n⟩) y.fit (j_ m d) (K_ o d)
end
section
open Go Go.RowKit Go.Maps
def irV (s:ByteArray):g_:=.mk 8 false 0 s ⟨#[]⟩ []
theorem sj_ (t:ByteArray) (W:QV):(Instr.build 39 #[(0,QY QU 4),(3,QZ t)]).run QW W = .ok (.agg (c_ (txV t) (QQ QK 0 0))) W:=by kernel_rfl
theorem Cw_ (t:ByteArray) (W:QV):(Instr.build 39 #[(0,QY QU 8),(3,QZ t)]).run QW W = .ok (.agg (c_ (irV t) (QQ QK 0 0))) W:=by kernel_rfl
def f9_ (t:ByteArray) (w:QV) (e:Ending) (w':QV):Prop:=e = YQ (.agg (c_ (txV t) (QQ QK 0 0)))/\XW w.heap.size w w'
theorem fj_ (t:ByteArray) (w:QV):Calls QW 137 #[QZ t] w (f9_ t w):=by
 obtain⟨u,e⟩:=L_ (txV t) (QQ QK 0 0);have A:=q_ (show u.size=(#[QY QU 0,XY false,QY QU 0,QZ ⟨#[]⟩,QZ ⟨#[]⟩,QQ QK 0 0]:Array XJ).size from by rw[e.size];rfl);have m:=q_ (show (Tryz.prog.info? 39).map (·.size)=QJ u.size from ai_.trans (congrArg QJ e.size.symm));have y:=q_ (show u.all (·.oneCell')=true from by rw[<-e.o];kernel_rfl);have i:=q_ (λW:QV=>(show (Instr.build 39 #[(0,QY QU 4),(3,QZ t)]).run QW W = .ok (.agg u) W from by rw[<-e.o];exact sj_ t W));obtain⟨z,f⟩:=a_ w.heap.size;obtain⟨r,d⟩:=a_ (w.alloc (XX #[QY QU 0,XY false,QY QU 0,QZ ⟨#[]⟩,QZ ⟨#[]⟩,QQ QK 0 0] 39));have j:=q_ (show XW w.heap.size w r from by rw[<-d.o];exact (XV _ _).alloc (XK _) _);have k:=q_ (show r.heap[z]?=QJ (XX #[QY QU 0,XY false,QY QU 0,QZ ⟨#[]⟩,QZ ⟨#[]⟩,QQ QK 0 0] 39 (0,0)) from by rw[<-d.o,<-f.o];exact XU w _);have x:=q_ (λ(w':QV) (hb:XW w.heap.size w w')=>(show f9_ t w (YQ (.agg u)) w' from ⟨by rw[<-e.o],hb⟩));clear e;go_enter func137,ntmps137
 go_upto_region 1 with fail;rw[d.o,f.o];clear d
 go_wp2_with (first
  | ((with_reducible refine d_ (some 4) ?_);refine W_ rfl 39 _ rfl #[(0,QY QU 4),(3,QZ t)] (by kernel_rfl) (.agg u) (i.o _) ?_)
  | ((with_reducible refine w_ 2 ?_);refine o_ rfl 39 _ _ rfl z (#[QY QU 0,XY false,QY QU 0,QZ ⟨#[]⟩,QZ ⟨#[]⟩,QQ QK 0 0]) u 39 rfl rfl k.o A.o m.o y.o ?_;intro w2 q p))
 have h:=q_ (show XW w.heap.size w w2 from h_ j.o p (λb hb=>by have hb:b=z:=hb;have h2:w.heap.size=z:=f.o;omega));refine ZV (v:=.agg u) (ax_ results137 (g:=z) rfl q _ YV rfl m.o) rfl (x.o _ h.o)
def gx_ (t:ByteArray) (w:QV) (e:Ending) (w':QV):Prop:=e = YQ (.agg (c_ (txV t) (QQ QK 0 0)))/\XW w.heap.size w w'
theorem hw_ (t:ByteArray) (w:QV):Calls QW 138 #[QZ t] w (gx_ t w):=by
 obtain⟨u,e⟩:=L_ (txV t) (QQ QK 0 0);have A:=q_ (show u.size=(#[QY QU 0,XY false,QY QU 0,QZ ⟨#[]⟩,QZ ⟨#[]⟩,QQ QK 0 0]:Array XJ).size from by rw[e.size];rfl);have m:=q_ (show (Tryz.prog.info? 39).map (·.size)=QJ u.size from ai_.trans (congrArg QJ e.size.symm));have y:=q_ (show u.all (·.oneCell')=true from by rw[<-e.o];kernel_rfl);have i:=q_ (λW:QV=>(show (Instr.build 39 #[(0,QY QU 4),(3,QZ t)]).run QW W = .ok (.agg u) W from by rw[<-e.o];exact sj_ t W));obtain⟨z,f⟩:=a_ w.heap.size;obtain⟨r,d⟩:=a_ (w.alloc (XX #[QY QU 0,XY false,QY QU 0,QZ ⟨#[]⟩,QZ ⟨#[]⟩,QQ QK 0 0] 39));have j:=q_ (show XW w.heap.size w r from by rw[<-d.o];exact (XV _ _).alloc (XK _) _);have k:=q_ (show r.heap[z]?=QJ (XX #[QY QU 0,XY false,QY QU 0,QZ ⟨#[]⟩,QZ ⟨#[]⟩,QQ QK 0 0] 39 (0,0)) from by rw[<-d.o,<-f.o];exact XU w _);have x:=q_ (λ(w':QV) (hb:XW w.heap.size w w')=>(show gx_ t w (YQ (.agg u)) w' from ⟨by rw[<-e.o],hb⟩));clear e;go_enter func138,ntmps138
 go_upto_region 1 with fail;rw[d.o,f.o];clear d
 go_wp2_with (first
  | ((with_reducible refine d_ (some 4) ?_);refine W_ rfl 39 _ rfl #[(0,QY QU 4),(3,QZ t)] (by kernel_rfl) (.agg u) (i.o _) ?_)
  | ((with_reducible refine w_ 2 ?_);refine o_ rfl 39 _ _ rfl z (#[QY QU 0,XY false,QY QU 0,QZ ⟨#[]⟩,QZ ⟨#[]⟩,QQ QK 0 0]) u 39 rfl rfl k.o A.o m.o y.o ?_;intro w2 q p))
 have h:=q_ (show XW w.heap.size w w2 from h_ j.o p (λb hb=>by have hb:b=z:=hb;have h2:w.heap.size=z:=f.o;omega));refine ZV (v:=.agg u) (ax_ results138 (g:=z) rfl q _ YV rfl m.o) rfl (x.o _ h.o)
def t8_ (t:ByteArray) (w:QV) (e:Ending) (w':QV):Prop:=e = YQ (.agg (c_ (irV t) (QQ QK 0 0)))/\XW w.heap.size w w'
theorem xi_ (t:ByteArray) (w:QV):Calls QW 65 #[QZ t] w (t8_ t w):=by
 obtain⟨u,e⟩:=L_ (irV t) (QQ QK 0 0);have A:=q_ (show u.size=(#[QY QU 0,XY false,QY QU 0,QZ ⟨#[]⟩,QZ ⟨#[]⟩,QQ QK 0 0]:Array XJ).size from by rw[e.size];rfl);have m:=q_ (show (Tryz.prog.info? 39).map (·.size)=QJ u.size from ai_.trans (congrArg QJ e.size.symm));have y:=q_ (show u.all (·.oneCell')=true from by rw[<-e.o];kernel_rfl);have i:=q_ (λW:QV=>(show (Instr.build 39 #[(0,QY QU 8),(3,QZ t)]).run QW W = .ok (.agg u) W from by rw[<-e.o];exact Cw_ t W));obtain⟨z,f⟩:=a_ w.heap.size;obtain⟨r,d⟩:=a_ (w.alloc (XX #[QY QU 0,XY false,QY QU 0,QZ ⟨#[]⟩,QZ ⟨#[]⟩,QQ QK 0 0] 39));have j:=q_ (show XW w.heap.size w r from by rw[<-d.o];exact (XV _ _).alloc (XK _) _);have k:=q_ (show r.heap[z]?=QJ (XX #[QY QU 0,XY false,QY QU 0,QZ ⟨#[]⟩,QZ ⟨#[]⟩,QQ QK 0 0] 39 (0,0)) from by rw[<-d.o,<-f.o];exact XU w _);have x:=q_ (λ(w':QV) (hb:XW w.heap.size w w')=>(show t8_ t w (YQ (.agg u)) w' from ⟨by rw[<-e.o],hb⟩));clear e;go_enter func65,ntmps65
 go_upto_region 1 with fail;rw[d.o,f.o];clear d
 go_wp2_with (first
  | ((with_reducible refine d_ (some 4) ?_);refine W_ rfl 39 _ rfl #[(0,QY QU 8),(3,QZ t)] (by kernel_rfl) (.agg u) (i.o _) ?_)
  | ((with_reducible refine w_ 2 ?_);refine o_ rfl 39 _ _ rfl z (#[QY QU 0,XY false,QY QU 0,QZ ⟨#[]⟩,QZ ⟨#[]⟩,QQ QK 0 0]) u 39 rfl rfl k.o A.o m.o y.o ?_;intro w2 q p))
 have h:=q_ (show XW w.heap.size w w2 from h_ j.o p (λb hb=>by have hb:b=z:=hb;have h2:w.heap.size=z:=f.o;omega));refine ZV (v:=.agg u) (ax_ results65 (g:=z) rfl q _ YV rfl m.o) rfl (x.o _ h.o)
theorem b6_ {P:Program} {f:Array Oper} {rest:List Oper} {op:Oper} {a:Act} {w:QV} {Q:Exit->Act->QV->Prop} (g:op.guard=QK) (ty:TypeId) (n:Nat) (d:Array (Nat×Operand)) (o:op.op = .buildSlice ty n d) (k:Array (Nat×XJ)) (j:(d.map λ(i,x)=>(i,a.eval x))=k) (v:XJ) (w':QV) (p:(UQ ty n k).run P w = .ok v w') (h:wpList P f Q rest (a.put op.dst v) w'):wpList P f Q (op::rest) a w:=
 wpList_plain g λ_ m=>by
  unfold Oper.wp execOp;simp only[o];have e:(UQ ty n (d.map λ(i,x)=>(i,a.eval x))).run P w = .ok v w':=by rw[j];exact p
  simp only[Sem.run_bind,Sem.run_pure,e,Result.andThen_ok];exact m _ _ h
theorem dg_ {P:Program} {d:Array Oper} {rest:List Oper} {op:Oper} {a:Act} {w:QV} {Q:Exit->Act->QV->Prop} (f:op.guard=QK) (ty:TypeId) (x y:Operand) (m:op.op = .store ty x y) (g j:Nat) (c:Array XJ) (T:TypeId) (v:XJ) (o:a.eval x = .pointer (QJ ⟨g,j,QK⟩)) (q:a.eval y=v)
    (e:(Instr.storeAt ty (YK (QJ ⟨g,j,QK⟩)) v).run P w = .ok () (w.setCell ⟨g,j,QK⟩ v)) (k:w.heap[g]?=QJ (XX c T (0,0)))
    (h:∀w',w'.heap[g]?=QJ (XX (c.setIfInBounds j v) T (0,0))->Turn (λb=>b=g) w w'->wpList P d Q rest (a.put op.dst undef) w'):wpList P d Q (op::rest) a w:=
 wpList_plain f λ_ i=>by
  unfold Oper.wp execOp;simp only[m,o,q,Sem.run_bind,Sem.run_pure,e,Result.andThen_ok];exact i _ _ (h _ (heap_setCell_same w g j _ T _ k) (Turn.setCell (S:=λb=>b=g) (Turn.refl _ w) (p:=⟨g,j,QK⟩) (.inr rfl) v))
theorem bi_ {w:QV} {g j:Nat} {c:Array XJ} {T:TypeId} (d:w.heap[g]?=QJ (XX c T (0,0))) (e:j<c.size) (A:Option Addr) (n cp:Nat):(Instr.storeAt 67 (YK (QJ ⟨g,j,QK⟩)) (QQ A n cp)).run QW w = .ok () (w.setCell ⟨g,j,QK⟩ (QQ A n cp)):=by have h1:=QX d j;rw[Array.getElem?_eq_getElem e]at h1;have h2:=YY d j;go_simp
theorem b0_ {w:QV} {g j:Nat} {c:Array XJ} {T:TypeId} (d:w.heap[g]?=QJ (XX c T (0,0))) (e:j<c.size) (A:Option Addr) (n cp:Nat):(Instr.storeAt 70 (YK (QJ ⟨g,j,QK⟩)) (QQ A n cp)).run QW w = .ok () (w.setCell ⟨g,j,QK⟩ (QQ A n cp)):=by have h1:=QX d j;rw[Array.getElem?_eq_getElem e]at h1;have h2:=YY d j;go_simp
theorem mg_ {w:QV} {g j:Nat} {c:Array XJ} {T:TypeId} (d:w.heap[g]?=QJ (XX c T (0,0))) (e:j<c.size) (A:Option Addr) (n cp:Nat):(Instr.storeAt 51 (YK (QJ ⟨g,j,QK⟩)) (QQ A n cp)).run QW w = .ok () (w.setCell ⟨g,j,QK⟩ (QQ A n cp)):=by have h1:=QX d j;rw[Array.getElem?_eq_getElem e]at h1;have h2:=YY d j;go_simp
theorem mf_ {w:QV} {g j:Nat} {c:Array XJ} {T:TypeId} (d:w.heap[g]?=QJ (XX c T (0,0))) (e:j<c.size) (A:Option Addr) (n cp:Nat):(Instr.storeAt 52 (YK (QJ ⟨g,j,QK⟩)) (QQ A n cp)).run QW w = .ok () (w.setCell ⟨g,j,QK⟩ (QQ A n cp)):=by have h1:=QX d j;rw[Array.getElem?_eq_getElem e]at h1;have h2:=YY d j;go_simp
theorem h2_ {α : Type} {R:bu_ α} {sz:Nat} {w:QV} {F:Nat->Prop} {g:Nat} {c:Array XJ} {T:TypeId} {e:Nat×Nat} {x:α} (m:w.heap[g]?=QJ (XX c T e)) (k:c.size=sz) (f:F g) (h:R w F x c):SlR sz R w F [x] (QQ (QJ ⟨g,0,QK⟩) 1 1):=
 ⟨_,_,rfl,XK _,rfl,λ_=>⟨_,rfl,f,λi y d=>by
  have hi:i=0:=by have:=(List.getElem?_eq_some_iff.1 d).1;simp at this;omega
  subst hi;simp at d;subst d;refine⟨c,k,λj o=>?_,h⟩;rw[Addr.add_mid,Nat.zero_mul,VQ,VQ];exact UU w g j c T e m⟩⟩
theorem vm_ {α : Type} {R:bu_ α} {sz:Nat} {w:QV} {F:Nat->Prop} {g:Nat} {c d:Array XJ} {T:TypeId} {e:Nat×Nat} {x y:α} (h:w.heap[g]?=QJ (XX (c++d) T e)) (f:c.size=sz) (p:d.size=sz) (k:F g) (m:R w F x c) (o:R w F y d):SlR sz R w F [x,y] (QQ (QJ ⟨g,0,QK⟩) 2 2):=
 ⟨_,_,rfl,XK _,rfl,λ_=>⟨_,rfl,k,λi z hz=>by
  have hi:i=0\/i=1:=by have:=(List.getElem?_eq_some_iff.1 hz).1;simp at this;omega
  rcases hi with rfl | rfl
  ·simp at hz;subst hz;refine⟨c,f,λj q=>?_,m⟩;rw[Addr.add_mid,Nat.zero_mul,VQ,VQ,UU w g j _ T e h,Array.getElem?_append_left (by omega)]
  ·simp at hz;subst hz;refine⟨d,p,λj q=>?_,o⟩;rw[Addr.add_mid,Nat.one_mul,VQ,UU w g _ _ T e h,Array.getElem?_append_right (by omega),f,Nat.add_sub_cancel_left]⟩⟩
theorem dr_ (s:ByteArray) (w:QV):(UQ 67 1 #[(0,QZ s)]).run QW w = .ok (QQ (QJ ⟨w.heap.size,0,QK⟩) 1 1) (w.alloc (XX #[QZ s] 9)):=by kernel_rfl
theorem en_ (k:ByteArray) (v:g_) (s:XJ) (w:QV):(Instr.build 69 #[(0,QZ k),(1,.agg (c_ v s))]).run QW w = .ok (.agg (c1_ ⟨k,v⟩ s)) w:=by kernel_rfl
theorem er_ (p:J_) (s:XJ) (w:QV):(UQ 70 1 #[(0,.agg (c1_ p s))]).run QW w = .ok (QQ (QJ ⟨w.heap.size,0,QK⟩) 1 1) (w.alloc (XX (c1_ p s) 69)):=by kernel_rfl
theorem li_ (p q:J_) (s t:XJ) (w:QV):(UQ 70 2 #[(0,.agg (c1_ p s)),(1,.agg (c1_ q t))]).run QW w = .ok (QQ (QJ ⟨w.heap.size,0,QK⟩) 2 2) (w.alloc (XX (c1_ p s++c1_ q t) 69)):=by kernel_rfl
structure Eq7 (c:Array XJ) (p:J_) (s:XJ):Prop where
 o :c1_ p s=c
theorem h9_ (p:J_) (s:XJ):∃c,Eq7 c p s:=⟨_,⟨rfl⟩⟩
def i7_ (d:Int) (v:g_) (w:QV) (e:Ending) (w':QV):Prop:=∃L P,e = YQ (.agg #[QY QU d,L,P])/\SlR 1 TxR w' (λb=>w.heap.size<=b/\b<w'.heap.size) (U_ d v).labels L/\SlR 7 PaR w' (λb=>w.heap.size<=b/\b<w'.heap.size) (U_ d v).props P/\XW w.heap.size w w'
theorem sh1 {P:Prop} {H G:Nat->QV->Prop} (h1:(∀a w,H a w->G a w)->P) (h2:∀a w,H a w->G a w):P:=h1 h2
theorem sh2 {P:Prop} {H G:Nat->Nat->QV->Prop} (h1:(∀a b w,H a b w->G a b w)->P) (h2:∀a b w,H a b w->G a b w):P:=h1 h2
def NdS (z1 z2:Nat):Nat->Prop:=λb=>b=z1\/b=z2
theorem Turn.ofB {S:Nat->Prop} {w w':QV} (hb:XW w.heap.size w w'):Turn S w w':=⟨hb.os,hb.tape,hb.output,hb.size,λi hi _=>hb.block i hi⟩
theorem M_ (d:Int) (L P:XJ):(Tryz.prog.info? 72).map (·.size)=QJ (#[QY QU d,L,P]:Array XJ).size:=by kernel_rfl
theorem do_ (e:Int) (A:Option Addr) (n c:Nat) (B:Option Addr) (m d:Nat):(#[QY QU e,QQ A n c,QQ B m d]:Array XJ).all (·.oneCell')=true:=by kernel_rfl
theorem ly_ (d:Int) {v:g_} (h:v.kind=8):U_ d v=⟨d,[⟨#[73,114,105]⟩],[⟨⟨#[118]⟩,txV v.text⟩]⟩:=by unfold U_;rw[iP_ h];rfl
theorem ho_ (d:Int) {v:g_} (h:v.kind=9):U_ d v=⟨d,[⟨#[66,108,97,110,107]⟩],[⟨⟨#[118]⟩,txV v.text⟩]⟩:=by unfold U_;rw[iN_ (by omega),iP_ h];rfl
theorem lz_ (d:Int) {v:g_} (h:v.kind=10):U_ d v=⟨d,[⟨#[76,105,116]⟩],[⟨⟨#[118]⟩,txV v.text⟩,⟨⟨#[120]⟩,txV v.extra⟩]⟩:=by unfold U_;rw[iN_ (by omega),iN_ (by omega),iP_ h];rfl
theorem l0_ (d:Int) {v:g_} (h:v.kind≠8) (h2:v.kind≠9) (e:v.kind≠10):U_ d v=⟨d,[⟨#[86,97,108]⟩],[⟨⟨#[118]⟩,v⟩]⟩:=by unfold U_;rw[iN_ h,iN_ h2,iN_ e];rfl
theorem dk_ {P:Program} {op:Oper} {a:Act} {w:QV} {K:Act->QV->Prop} {Q:Exit->Act->QV->Prop} (ty:TypeId) (n:Nat) (d:Array (Nat×Operand)) (j:op.op = .buildSlice ty n d) (g:Array (Nat×XJ)) (f:(d.map λ(i,x)=>(i,a.eval x))=g) (v:XJ) (w':QV) (k:(UQ ty n g).run P w = .ok v w') (h:K (a.put op.dst v) w'):op.wp P a w K Q:=by
 unfold Oper.wp execOp;simp only[j];have e:(UQ ty n (d.map λ(i,x)=>(i,a.eval x))).run P w = .ok v w':=by rw[f];exact k
 simp only[Sem.run_bind,Sem.run_pure,e,Result.andThen_ok];exact h
theorem dq_ {P:Program} {op:Oper} {a:Act} {w:QV} {K:Act->QV->Prop} {Q:Exit->Act->QV->Prop} (ty:TypeId) (x y:Operand) (f:op.op = .store ty x y) (g j:Nat) (c:Array XJ) (T:TypeId) (v:XJ) (i:a.eval x = .pointer (QJ ⟨g,j,QK⟩)) (k:a.eval y=v)
    (d:(Instr.storeAt ty (YK (QJ ⟨g,j,QK⟩)) v).run P w = .ok () (w.setCell ⟨g,j,QK⟩ v)) (e:w.heap[g]?=QJ (XX c T (0,0)))
    (h:∀w',w'.heap[g]?=QJ (XX (c.setIfInBounds j v) T (0,0))->Turn (λb=>b=g) w w'->K (a.put op.dst undef) w'):op.wp P a w K Q:=by
 unfold Oper.wp execOp;simp only[f,i,k,Sem.run_bind,Sem.run_pure,d,Result.andThen_ok];exact h _ (heap_setCell_same w g j _ T _ e) (Turn.setCell (S:=λb=>b=g) (Turn.refl _ w) (p:=⟨g,j,QK⟩) (.inr rfl) v)
theorem dw_ {P:Program} {a:Act} {w:QV} (ty:TypeId) (d:Array (Nat×Operand)) (f:Array (Nat×XJ)) (v:XJ) (e:(d.map λ(i,x)=>(i,a.eval x))=f) (g:(Instr.build ty f).run P w = .ok v w) :
    (do pure (Next.value (<-Instr.build ty (d.map λ(i,x)=>(i,a.eval x)))):Sem Next).run P w = .ok (.value v) w:=by
 rw[e];simp[g]
structure NdI (w4:QV) (z z1 z2:Nat) (u:Array XJ) (lab:Option (Nat×ByteArray)) (pr:Option (Nat×Array XJ)) (c:Array XJ) (W:QV):Prop where
 b:Turn (NdS z1 z2) w4 W
 hz:z<w4.heap.size/\z1<w4.heap.size/\z2<w4.heap.size/\z≠z2/\z1≠z2
 u:W.heap[z]?=QJ (XX u 39 (0,0))
 n:W.heap[z2]?=QJ (XX c 72 (0,0))
 m:W.heap[z1]?=QJ (XX #[QY QU 0,QQ QK 0 0,QQ QK 0 0] 72 (0,0))
 l:∀g s,lab=QJ (g,s)->w4.heap.size<=g/\W.heap[g]?=QJ (XX #[QZ s] 9 (0,0))
 p:∀g cp,pr=QJ (g,cp)->w4.heap.size<=g/\W.heap[g]?=QJ (XX cp 69 (0,0))
section
variable {w4 W W':QV} {z z1 z2:Nat} {u c c':Array XJ} {lab:Option (Nat×ByteArray)} {pr:Option (Nat×Array XJ)}
theorem NdI.on (h:NdI w4 z z1 z2 u lab pr c W) (hb:XW W.heap.size W W'):NdI w4 z z1 z2 u lab pr c W':=
 ⟨h.b.trans (Turn.ofB hb),h.hz,(hb.block z (b_ h.u)).trans h.u,(hb.block z2 (b_ h.n)).trans h.n,(hb.block z1 (b_ h.m)).trans h.m,
  λg s e=>⟨(h.l g s e).1,(hb.block g (b_ (h.l g s e).2)).trans (h.l g s e).2⟩,λg cp e=>⟨(h.p g cp e).1,(hb.block g (b_ (h.p g cp e).2)).trans (h.p g cp e).2⟩⟩
theorem NdI.lab1 (h:NdI w4 z z1 z2 u QK pr c W) (s:ByteArray):NdI w4 z z1 z2 u (QJ (W.heap.size,s)) pr c (W.alloc (XX #[QZ s] 9)):=
 let k:=h.on ((XV _ W).alloc (XK _) (XX #[QZ s] 9))
 ⟨k.b,k.hz,k.u,k.n,k.m,λg t e=>by
  injection e with e;injection e with e1 e2;subst e1 e2;exact⟨h.b.size,XU _ _⟩,k.p⟩
theorem NdI.pair1 (h:NdI w4 z z1 z2 u lab QK c W) (cp:Array XJ):NdI w4 z z1 z2 u lab (QJ (W.heap.size,cp)) c (W.alloc (XX cp 69)):=
 let k:=h.on ((XV _ W).alloc (XK _) (XX cp 69))
 ⟨k.b,k.hz,k.u,k.n,k.m,k.l,λg t e=>by
  injection e with e;injection e with e1 e2;subst e1 e2;exact⟨h.b.size,XU _ _⟩⟩
theorem NdI.set (h:NdI w4 z z1 z2 u lab pr c W) (f:W'.heap[z2]?=QJ (XX c' 72 (0,0))) (ht:Turn (λb=>b=z2) W W'):NdI w4 z z1 z2 u lab pr c' W':=
 ⟨h.b.trans (ht.mono λ_ _ e=>.inr e),h.hz,(ht.block z (b_ h.u) h.hz.2.2.2.1).trans h.u,f,(ht.block z1 (b_ h.m) h.hz.2.2.2.2).trans h.m,
  λg s e=>⟨(h.l g s e).1,(ht.block g (b_ (h.l g s e).2) (λd=>by have d:g=z2:=d;have:=(h.l g s e).1;have:=h.hz.2.2.1;omega)).trans (h.l g s e).2⟩,
  λg cp e=>⟨(h.p g cp e).1,(ht.block g (b_ (h.p g cp e).2) (λd=>by have d:g=z2:=d;have:=(h.p g cp e).1;have:=h.hz.2.2.1;omega)).trans (h.p g cp e).2⟩⟩
end
theorem d0_ {g:Int} {v:g_} {w w4 W A:QV} {z z1 z2 f d:Nat} {u c cp:Array XJ} {s:ByteArray} {y:List J_} {n:Nat} (i:XW w.heap.size w w4) (hz:w.heap.size<=z1/\w.heap.size<=z2)
    (h:NdI w4 z z1 z2 u (QJ (f,s)) (QJ (d,cp)) c W) (m:Turn (λb=>b=z1) W A)
    (x:∀W:QV,∀F:Nat->Prop,F d->W.heap[d]?=QJ (XX cp 69 (0,0))->SlR 7 PaR W F y (QQ (QJ ⟨d,0,QK⟩) n n)) (o:(U_ g v).labels=[s]) (t:(U_ g v).props=y) :
    i7_ g v w (YQ (.agg #[QY QU g,QQ (QJ ⟨f,0,QK⟩) 1 1,QQ (QJ ⟨d,0,QK⟩) n n])) A:=by
 obtain⟨B,q⟩:=h.l f s rfl;obtain⟨C,r⟩:=h.p d cp rfl;have j:=(m.block f (b_ q) (λe=>by have e:f=z1:=e;have:=h.hz.2.1;omega)).trans q;have k:=(m.block d (b_ r) (λe=>by have e:d=z1:=e;have:=h.hz.2.1;omega)).trans r;have D:=i.size;refine⟨_,_,rfl,?_,?_,h_ i (h.b.trans (m.mono λ_ _ e=>.inl e)) (λb h=>by rcases h with h | h<;>omega)⟩
 ·rw[o];exact h2_ (R:=TxR) j rfl ⟨by omega,b_ j⟩ rfl
 ·rw[t];exact x _ _ ⟨by omega,b_ k⟩ k
theorem s0_ (d:Int) (v:g_) (hs:v.list=[]) (A:Option Addr) (cap:Nat) (w:QV):Calls QW 71 #[QY QU d,.agg (c_ v (QQ A 0 cap))] w (i7_ d v w):=by
 obtain⟨s,HS⟩:=a_ (Value.slice A 0 cap);have eo:=q_ (λ(W:QV) (F:Nat->Prop)=>e9_ W F hs A cap);rw[HS.o]at eo ⊢;obtain⟨u,Hu⟩:=L_ v s;rw[Hu.o];obtain⟨z,HZ⟩:=a_ w.heap.size;obtain⟨z1,dz⟩:=a_ (w.heap.size+1);obtain⟨z2,e0⟩:=a_ (w.heap.size+1+1);obtain⟨w3,ap⟩:=a_ (((w.alloc (XX u 39)).alloc (XX #[QY QU 0,QQ QK 0 0,QQ QK 0 0] 72)).alloc (XX #[QY QU 0,QQ QK 0 0,QQ QK 0 0] 72));have ez:=q_ (show XW w.heap.size w w3 from by rw[<-ap.o];exact (((XV w.heap.size w).alloc (XK _) _).alloc (by simp) _).alloc (by simp;omega) _);have ek:=q_ (show w3.heap[z]?=QJ (XX u 39 (0,0)) from by rw[<-ap.o,<-HZ.o,heap_alloc_old _ _ (by simp;omega),heap_alloc_old _ _ (by simp)];exact XU w _);have el:=q_ (show w3.heap[z1]?=QJ (XX #[QY QU 0,QQ QK 0 0,QQ QK 0 0] 72 (0,0)) from by rw[<-ap.o,<-dz.o,heap_alloc_old _ _ (by simp)];have h:=XU (w.alloc (XX u 39)) (XX #[QY QU 0,QQ QK 0 0,QQ QK 0 0] 72);rwa [show (w.alloc (XX u 39)).heap.size=w.heap.size+1 from by simp]at h);have em:=q_ (show w3.heap[z2]?=QJ (XX #[QY QU 0,QQ QK 0 0,QQ QK 0 0] 72 (0,0)) from by rw[<-ap.o,<-e0.o];have h:=XU ((w.alloc (XX u 39)).alloc (XX #[QY QU 0,QQ QK 0 0,QQ QK 0 0] 72)) (XX #[QY QU 0,QQ QK 0 0,QQ QK 0 0] 72);rwa [show ((w.alloc (XX u 39)).alloc (XX #[QY QU 0,QQ QK 0 0,QQ QK 0 0] 72)).heap.size=w.heap.size+1+1 from by simp]at h);have J:=q_ (show w.heap.size<=z/\z1=z+1/\z2=z+2/\z2<w3.heap.size from by have h0:w.heap.size=z:=HZ.o;have h1:w.heap.size+1=z1:=dz.o;have h2:w.heap.size+1+1=z2:=e0.o;have:=b_ em.o;omega);go_enter func71,ntmps71
 go_upto_region 2 with ((with_reducible refine w_ 5 ?_);rw[ap.o,e0.o,dz.o,HZ.o];refine o_ rfl 72 _ _ rfl z2 (#[QY QU 0,QQ QK 0 0,QQ QK 0 0]) (#[QY QU d,QQ QK 0 0,QQ QK 0 0]) 72 rfl rfl em.o rfl (M_ d _ _) (do_ d QK 0 0 QK 0 0) ?_;intro w4 ep c0)
 have f3:=q_ ep;have f4:=q_ (show Turn (NdS z1 z2) w3 w4 from c0.mono λi _ h=>.inr h);have bm:=q_ ((c0.block z (b_ ek.o) (λe=>by have e:z=z2:=e;have:=J.o;omega)).trans ek.o);have en:=q_ ((c0.block z1 (b_ el.o) (λe=>by have e:z1=z2:=e;have:=J.o;omega)).trans el.o);have ch:=q_ (show XW w.heap.size w w4 from h_ ez.o f4.o (λb h=>by have:=J.o;rcases h with h | h<;>omega))
 have f1:=q_ (XZ J.o.2.2.2 c0.size);obtain⟨k,Hk⟩:=a_ v.kind;obtain⟨tx,Ht⟩:=a_ v.text;obtain⟨ex,He⟩:=a_ v.extra;have q0:w4.cell? ⟨z,0,none⟩=some (QY QU k):=(QX bm.o 0).trans (by rw[<-Hu.o,<-Hk.o];rfl);have q3:w4.cell? ⟨z,3,none⟩=some (QZ tx):=(QX bm.o 3).trans (by rw[<-Hu.o,<-Ht.o];rfl);have q4:w4.cell? ⟨z,4,none⟩=some (QZ ex):=(QX bm.o 4).trans (by rw[<-Hu.o,<-He.o];rfl);have f0:=q_ (λ(W:QV) (j:Nat) (D:j<u.size) (h:W.heap[z]?=some (XX u 39 (0,0)))=>(show W.cell? ((⟨z,0,none⟩:Addr).add j)=u[j]? from by rw[Addr.add_mid,VQ];exact UU W z j u _ _ h));clear ep c0 ap;have ao:=q_ (show NdI w4 z z1 z2 u none none #[QY QU d,QQ none 0 0,QQ none 0 0] w4 from ⟨Turn.refl _ _,⟨b_ bm.o,b_ en.o,f1.o,by have:=J.o;omega,by have:=J.o;omega⟩,bm.o,f3.o,en.o,(λ_ _ h=>by cases h),(λ_ _ h=>by cases h)⟩);clear q3 q4 f0;by_cases V:k=8
 ·rw[V]at q0;obtain⟨ut,a3⟩:=L_ (txV tx) (QQ QK 0 0);obtain⟨cp,x⟩:=h9_ ⟨⟨#[118]⟩,txV tx⟩ (QQ QK 0 0);have a6:=q_ (λW:QV=>(show (Instr.build 69 #[(0,QZ ⟨#[118]⟩),(1,.agg ut)]).run QW W = .ok (.agg cp) W from by rw[<-a3.o,<-x.o];exact en_ _ _ _ _));obtain⟨C,e4⟩:=a_ w4.heap.size;obtain⟨c2,e2⟩:=a_ (w4.alloc (XX #[QZ ⟨#[73,114,105]⟩] 9));have et:=q_ (show (UQ 67 1 #[(0,QZ ⟨#[73,114,105]⟩)]).run QW w4 = .ok (QQ (QJ ⟨C,0,QK⟩) 1 1) c2 from by rw[<-e4.o,<-e2.o];exact dr_ _ _);have ej:=q_ (show NdI w4 z z1 z2 u (QJ (C,⟨#[73,114,105]⟩)) QK #[QY QU d,QQ QK 0 0,QQ QK 0 0] c2 from by rw[<-e2.o,<-e4.o];exact ao.o.lab1 _);have dg:=fj_ tx c2;unfold f9_ at dg;rw[a3.o]at dg;have f6:c2.cell? ⟨z,3,QK⟩=QJ (QZ tx):=(QX ej.o.u 3).trans (by rw[<-Hu.o,<-Ht.o];rfl);go_wp2_with ((with_reducible refine d_ (some 18) ?_);refine b6_ rfl 67 1 _ rfl #[(0,QZ ⟨#[73,114,105]⟩)] (by kernel_rfl) (QQ (QJ ⟨C,0,QK⟩) 1 1) c2 et.o ?_)
  refine dg.mono ?_;rintro e w5 ⟨rfl,hb⟩;have f2:=q_ (show NdI w4 z z1 z2 u (QJ (C,⟨#[73,114,105]⟩)) QK #[QY QU d,QQ QK 0 0,QQ QK 0 0] w5 from ej.o.on hb);clear hb dg f6;obtain⟨X,e5⟩:=a_ w5.heap.size;obtain⟨ee,e3⟩:=a_ (w5.alloc (XX cp 69));have eg:=q_ (show (UQ 70 1 #[(0,.agg cp)]).run QW w5 = .ok (QQ (QJ ⟨X,0,QK⟩) 1 1) ee from by rw[<-e5.o,<-e3.o,<-x.o];exact er_ _ _ _);have c3:=q_ (show NdI w4 z z1 z2 u (QJ (C,⟨#[73,114,105]⟩)) (QJ (X,cp)) #[QY QU d,QQ QK 0 0,QQ QK 0 0] ee from by rw[<-e3.o,<-e5.o];exact f2.o.pair1 _)
  go_wp2_with (first
   | ((with_reducible refine d_ (some 22) ?_);refine W_ rfl 69 _ rfl #[(0,QZ ⟨#[118]⟩),(1,.agg ut)] (by kernel_rfl) (.agg cp) (a6.o _) ?_)
   | ((with_reducible refine d_ (some 23) ?_);refine b6_ rfl 70 1 _ rfl #[(0,.agg cp)] (by kernel_rfl) (QQ (QJ ⟨X,0,QK⟩) 1 1) ee eg.o ?_)
   | ((with_reducible refine w_ 24 ?_);refine dg_ rfl 67 _ _ rfl z2 1 (#[QY QU d,QQ QK 0 0,QQ QK 0 0]) 72 (QQ (QJ ⟨C,0,QK⟩) 1 1) rfl rfl (bi_ c3.o.n (by show 1<3;omega) _ _ _) c3.o.n ?_;intro f7 t r;have c4:=q_ (show NdI w4 z z1 z2 u (QJ (C,⟨#[73,114,105]⟩)) (QJ (X,cp)) #[QY QU d,QQ (QJ ⟨C,0,QK⟩) 1 1,QQ QK 0 0] f7 from c3.o.set (show _=QJ (Obj.cells (#[QY QU d,QQ (QJ ⟨C,0,QK⟩) 1 1,QQ QK 0 0]) 72 (0,0)) from t) r);clear t r)
   | ((with_reducible refine w_ 25 ?_);refine dg_ rfl 70 _ _ rfl z2 2 (#[QY QU d,QQ (QJ ⟨C,0,QK⟩) 1 1,QQ QK 0 0]) 72 (QQ (QJ ⟨X,0,QK⟩) 1 1) rfl rfl (b0_ c4.o.n (by show 2<3;omega) _ _ _) c4.o.n ?_;intro f8 t r;have c5:=q_ (show NdI w4 z z1 z2 u (QJ (C,⟨#[73,114,105]⟩)) (QJ (X,cp)) #[QY QU d,QQ (QJ ⟨C,0,QK⟩) 1 1,QQ (QJ ⟨X,0,QK⟩) 1 1] f8 from c4.o.set (show _=QJ (Obj.cells (#[QY QU d,QQ (QJ ⟨C,0,QK⟩) 1 1,QQ (QJ ⟨X,0,QK⟩) 1 1]) 72 (0,0)) from t) r);clear t r)
   | ((with_reducible refine d_ (some 50) ?_);refine G_ rfl 72 _ rfl z2 0 rfl (#[QY QU d,QQ (QJ ⟨C,0,QK⟩) 1 1,QQ (QJ ⟨X,0,QK⟩) 1 1]) _ (m_ c5.o.n) underlying72 rfl (M_ d _ _) ?_)
   | ((with_reducible refine w_ 4 ?_);refine o_ rfl 72 _ _ rfl z1 (#[QY QU 0,QQ QK 0 0,QQ QK 0 0]) (#[QY QU d,QQ (QJ ⟨C,0,QK⟩) 1 1,QQ (QJ ⟨X,0,QK⟩) 1 1]) 72 rfl rfl c5.o.m rfl (M_ d _ _) (do_ d _ _ _ _ _ _) ?_;intro fe ag af))
  refine ZV (v:=.agg (#[QY QU d,QQ (QJ ⟨C,0,QK⟩) 1 1,QQ (QJ ⟨X,0,QK⟩) 1 1])) (ax_ results71 (g:=z1) rfl ag _ underlying72 rfl (M_ d _ _)) rfl ?_;exact d0_ ch.o ⟨by have:=J.o;omega,by have:=J.o;omega⟩ c5.o af (λW F hF hW=>h2_ (R:=PaR) hW (by rw[<-x.o];rfl) hF ⟨QQ QK 0 0,x.o.symm,e9_ W F rfl QK 0⟩) (by rw[ly_ d (Hk.o.trans V)]) (by rw[ly_ d (Hk.o.trans V),Ht.o])
 ·have e6:=V;have e8:((k:Int)==8)=false:=bN_.2 e6;clear V;by_cases V:k=9
  ·rw[V]at q0;clear e8;obtain⟨ut,a3⟩:=L_ (txV tx) (QQ QK 0 0);obtain⟨cp,x⟩:=h9_ ⟨⟨#[118]⟩,txV tx⟩ (QQ QK 0 0);have a6:=q_ (λW:QV=>(show (Instr.build 69 #[(0,QZ ⟨#[118]⟩),(1,.agg ut)]).run QW W = .ok (.agg cp) W from by rw[<-a3.o,<-x.o];exact en_ _ _ _ _));obtain⟨y,d7⟩:=a_ w4.heap.size;obtain⟨aj,cy⟩:=a_ (w4.alloc (XX #[QZ ⟨#[66,108,97,110,107]⟩] 9));have ef:=q_ (show (UQ 67 1 #[(0,QZ ⟨#[66,108,97,110,107]⟩)]).run QW w4 = .ok (QQ (QJ ⟨y,0,QK⟩) 1 1) aj from by rw[<-d7.o,<-cy.o];exact dr_ _ _);have dk:=q_ (show NdI w4 z z1 z2 u (QJ (y,⟨#[66,108,97,110,107]⟩)) QK #[QY QU d,QQ QK 0 0,QQ QK 0 0] aj from by rw[<-cy.o,<-d7.o];exact ao.o.lab1 _);have aw:=fj_ tx aj;unfold f9_ at aw;rw[a3.o]at aw;have ew:aj.cell? ⟨z,3,QK⟩=QJ (QZ tx):=(QX dk.o.u 3).trans (by rw[<-Hu.o,<-Ht.o];rfl);go_wp2_with ((with_reducible refine d_ (some 28) ?_);refine b6_ rfl 67 1 _ rfl #[(0,QZ ⟨#[66,108,97,110,107]⟩)] (by kernel_rfl) (QQ (QJ ⟨y,0,QK⟩) 1 1) aj ef.o ?_)
   refine aw.mono ?_;rintro e dh ⟨rfl,hb⟩;have eu:=q_ (show NdI w4 z z1 z2 u (QJ (y,⟨#[66,108,97,110,107]⟩)) QK #[QY QU d,QQ QK 0 0,QQ QK 0 0] dh from dk.o.on hb);clear hb aw ew;obtain⟨G,dc⟩:=a_ dh.heap.size;obtain⟨cg,d3⟩:=a_ (dh.alloc (XX cp 69));have eh:=q_ (show (UQ 70 1 #[(0,.agg cp)]).run QW dh = .ok (QQ (QJ ⟨G,0,QK⟩) 1 1) cg from by rw[<-dc.o,<-d3.o,<-x.o];exact er_ _ _ _);have c6:=q_ (show NdI w4 z z1 z2 u (QJ (y,⟨#[66,108,97,110,107]⟩)) (QJ (G,cp)) #[QY QU d,QQ QK 0 0,QQ QK 0 0] cg from by rw[<-d3.o,<-dc.o];exact eu.o.pair1 _)
   go_wp2_with (first
    | ((with_reducible refine d_ (some 32) ?_);refine W_ rfl 69 _ rfl #[(0,QZ ⟨#[118]⟩),(1,.agg ut)] (by kernel_rfl) (.agg cp) (a6.o _) ?_)
    | ((with_reducible refine d_ (some 33) ?_);refine b6_ rfl 70 1 _ rfl #[(0,.agg cp)] (by kernel_rfl) (QQ (QJ ⟨G,0,QK⟩) 1 1) cg eh.o ?_)
    | ((with_reducible refine w_ 34 ?_);refine dg_ rfl 67 _ _ rfl z2 1 (#[QY QU d,QQ QK 0 0,QQ QK 0 0]) 72 (QQ (QJ ⟨y,0,QK⟩) 1 1) rfl rfl (bi_ c6.o.n (by show 1<3;omega) _ _ _) c6.o.n ?_;intro f9 t r;have c7:=q_ (show NdI w4 z z1 z2 u (QJ (y,⟨#[66,108,97,110,107]⟩)) (QJ (G,cp)) #[QY QU d,QQ (QJ ⟨y,0,QK⟩) 1 1,QQ QK 0 0] f9 from c6.o.set (show _=QJ (Obj.cells (#[QY QU d,QQ (QJ ⟨y,0,QK⟩) 1 1,QQ QK 0 0]) 72 (0,0)) from t) r);clear t r)
    | ((with_reducible refine w_ 35 ?_);refine dg_ rfl 70 _ _ rfl z2 2 (#[QY QU d,QQ (QJ ⟨y,0,QK⟩) 1 1,QQ QK 0 0]) 72 (QQ (QJ ⟨G,0,QK⟩) 1 1) rfl rfl (b0_ c7.o.n (by show 2<3;omega) _ _ _) c7.o.n ?_;intro fa t r;have c8:=q_ (show NdI w4 z z1 z2 u (QJ (y,⟨#[66,108,97,110,107]⟩)) (QJ (G,cp)) #[QY QU d,QQ (QJ ⟨y,0,QK⟩) 1 1,QQ (QJ ⟨G,0,QK⟩) 1 1] fa from c7.o.set (show _=QJ (Obj.cells (#[QY QU d,QQ (QJ ⟨y,0,QK⟩) 1 1,QQ (QJ ⟨G,0,QK⟩) 1 1]) 72 (0,0)) from t) r);clear t r)
    | ((with_reducible refine d_ (some 50) ?_);refine G_ rfl 72 _ rfl z2 0 rfl (#[QY QU d,QQ (QJ ⟨y,0,QK⟩) 1 1,QQ (QJ ⟨G,0,QK⟩) 1 1]) _ (m_ c8.o.n) underlying72 rfl (M_ d _ _) ?_)
    | ((with_reducible refine w_ 4 ?_);refine o_ rfl 72 _ _ rfl z1 (#[QY QU 0,QQ QK 0 0,QQ QK 0 0]) (#[QY QU d,QQ (QJ ⟨y,0,QK⟩) 1 1,QQ (QJ ⟨G,0,QK⟩) 1 1]) 72 rfl rfl c8.o.m rfl (M_ d _ _) (do_ d _ _ _ _ _ _) ?_;intro ff ag af))
   refine ZV (v:=.agg (#[QY QU d,QQ (QJ ⟨y,0,QK⟩) 1 1,QQ (QJ ⟨G,0,QK⟩) 1 1])) (ax_ results71 (g:=z1) rfl ag _ underlying72 rfl (M_ d _ _)) rfl ?_;exact d0_ ch.o ⟨by have:=J.o;omega,by have:=J.o;omega⟩ c8.o af (λW F hF hW=>h2_ (R:=PaR) hW (by rw[<-x.o];rfl) hF ⟨QQ QK 0 0,x.o.symm,e9_ W F rfl QK 0⟩) (by rw[ho_ d (Hk.o.trans V)]) (by rw[ho_ d (Hk.o.trans V),Ht.o])
  ·have e7:=V;have e9:((k:Int)==9)=false:=bN_.2 e7;clear V;by_cases V:k=10
   ·rw[V]at q0;clear e8 e9;obtain⟨ut,a3⟩:=L_ (txV tx) (QQ QK 0 0);obtain⟨cp,x⟩:=h9_ ⟨⟨#[118]⟩,txV tx⟩ (QQ QK 0 0);have a6:=q_ (λW:QV=>(show (Instr.build 69 #[(0,QZ ⟨#[118]⟩),(1,.agg ut)]).run QW W = .ok (.agg cp) W from by rw[<-a3.o,<-x.o];exact en_ _ _ _ _));obtain⟨ue,e1⟩:=L_ (txV ex) (QQ QK 0 0);obtain⟨N,aq⟩:=h9_ ⟨⟨#[120]⟩,txV ex⟩ (QQ QK 0 0);have ei:=q_ (λW:QV=>(show (Instr.build 69 #[(0,QZ ⟨#[120]⟩),(1,.agg ue)]).run QW W = .ok (.agg N) W from by rw[<-e1.o,<-aq.o];exact en_ _ _ _ _));go_upto_region 9 with fail;obtain⟨wd,bn⟩:=a_ w4.drew;have dl:=q_ (show NdI w4 z z1 z2 u QK QK #[QY QU d,QQ QK 0 0,QQ QK 0 0] wd from by rw[<-bn.o];exact ao.o.on (XV _ _).drew);refine UZ (S:=λW:QV=>W.heap[z]?=QJ (Obj.cells u 39 (0,0))) (by kernel_rfl) (ao.o.on (XV _ _).drew).u λf=>?_;refine H_.o ?_;rw[bn.o]at f ⊢;apply sh2 (H:=λL T eb=>NdI w4 z z1 z2 u (QJ (L,⟨#[76,105,116]⟩)) (QJ (T,(cp++N))) #[QY QU d,QQ (QJ ⟨L,0,QK⟩) 1 1,QQ QK 0 0] eb)
    ·intro R0;apply sh2 (H:=λa1 b9 ec=>NdI w4 z z1 z2 u (QJ (a1,⟨#[76,105,116]⟩)) (QJ (b9,(cp++N))) #[QY QU d,QQ QK 0 0,QQ QK 0 0] ec)
     ·intro R1;apply sh1 (H:=λE ai=>NdI w4 z z1 z2 u (QJ (E,⟨#[76,105,116]⟩)) QK #[QY QU d,QQ QK 0 0,QQ QK 0 0] ai)
      ·intro R2;apply sh1 (H:=λba cf=>NdI w4 z z1 z2 u (QJ (ba,⟨#[76,105,116]⟩)) QK #[QY QU d,QQ QK 0 0,QQ QK 0 0] cf)
       ·intro R3;refine O_ 1 39 (YK (QJ ⟨z,3,QK⟩)) f λf=>?_;refine tlW 2 40 (QZ tx) f (λw a0=>?_) λf=>?_
        ·have p:w.cell? ⟨z,3,QK⟩=QJ (QZ tx):=(QX a0 3).trans (by rw[<-Hu.o,<-Ht.o];rfl);unfold z_;go_simp
        refine O_ 5 43 (YK (QJ ⟨z,4,QK⟩)) f λf=>?_;refine tlW 6 44 (QZ ex) f (λw a0=>?_) λf=>?_
        ·have p:w.cell? ⟨z,4,QK⟩=QJ (QZ ex):=(QX a0 4).trans (by rw[<-Hu.o,<-He.o];rfl);unfold z_;go_simp
        refine ea_ 0 3 (by kernel_rfl) (by rfl) (by rfl) (λK q=>?_) λK q=>?_
        ·obtain⟨ak,d8⟩:=a_ wd.heap.size;obtain⟨b3,cz⟩:=a_ (wd.alloc (XX #[QZ ⟨#[76,105,116]⟩] 9));have ci:=q_ (show (UQ 67 1 #[(0,QZ ⟨#[76,105,116]⟩)]).run QW wd = .ok (QQ (QJ ⟨ak,0,QK⟩) 1 1) b3 from by rw[<-d8.o,<-cz.o];exact dr_ _ _);change Oper.wp _ ⟨some 38,_,_,_,_,_⟩ _ _ _ _;refine dk_ 67 1 _ rfl #[(0,QZ ⟨#[76,105,116]⟩)] (by kernel_rfl) (QQ (QJ ⟨ak,0,QK⟩) 1 1) b3 ci.o ?_;have dm:=q_ (show NdI w4 z z1 z2 u (QJ (ak,⟨#[76,105,116]⟩)) QK #[QY QU d,QQ QK 0 0,QQ QK 0 0] b3 from by rw[<-cz.o,<-d8.o];exact dl.o.lab1 _);clear ci;dsimp only;refine tlB q dm.o.u λf=>?_;clear q K;refine O_ 10 48 (YK (QJ ⟨z2,1,QK⟩)) f λf=>?_;have ay:=fj_ tx b3;unfold f9_ at ay;rw[a3.o]at ay;refine tlC 3 λK q=>?_;go_simp;refine ay.mono ?_;rintro e eq ⟨rfl,hb⟩;have dn:=q_ (show NdI w4 z z1 z2 u (QJ (ak,⟨#[76,105,116]⟩)) QK #[QY QU d,QQ QK 0 0,QQ QK 0 0] eq from dm.o.on hb);clear hb ay;dsimp only;refine tlB q dn.o.u λf=>?_;clear q K;refine tlW 4 42 (.agg cp) f (λw a0=>?_) λf=>?_
         ·exact dw_ _ _ #[(0,QZ ⟨#[118]⟩),(1,.agg ut)] _ (by kernel_rfl) (a6.o w)
         exact R3 ak eq dn.o
        ·have az:=fj_ tx wd;unfold f9_ at az;rw[a3.o]at az;change Oper.wp _ ⟨some 41,_,_,_,_,_⟩ _ _ _ _;go_simp;refine az.mono ?_;rintro e c1 ⟨rfl,hb⟩;have cb:=q_ (show NdI w4 z z1 z2 u QK QK #[QY QU d,QQ QK 0 0,QQ QK 0 0] c1 from dl.o.on hb);clear hb az;dsimp only;refine tlB q cb.o.u λf=>?_;clear q K;refine tlW 4 42 (.agg cp) f (λw a0=>?_) λf=>?_
         ·exact dw_ _ _ #[(0,QZ ⟨#[118]⟩),(1,.agg ut)] _ (by kernel_rfl) (a6.o w)
         refine ea_ 0 7 (by kernel_rfl) (by rfl) (by rfl) (λK q=>?_) λK q=>?_
         ·obtain⟨bb,d9⟩:=a_ c1.heap.size;obtain⟨b4,d0⟩:=a_ (c1.alloc (XX #[QZ ⟨#[76,105,116]⟩] 9));have cj:=q_ (show (UQ 67 1 #[(0,QZ ⟨#[76,105,116]⟩)]).run QW c1 = .ok (QQ (QJ ⟨bb,0,QK⟩) 1 1) b4 from by rw[<-d9.o,<-d0.o];exact dr_ _ _);change Oper.wp _ ⟨some 38,_,_,_,_,_⟩ _ _ _ _;refine dk_ 67 1 _ rfl #[(0,QZ ⟨#[76,105,116]⟩)] (by kernel_rfl) (QQ (QJ ⟨bb,0,QK⟩) 1 1) b4 cj.o ?_;have dp:=q_ (show NdI w4 z z1 z2 u (QJ (bb,⟨#[76,105,116]⟩)) QK #[QY QU d,QQ QK 0 0,QQ QK 0 0] b4 from by rw[<-d0.o,<-d9.o];exact cb.o.lab1 _);clear cj;dsimp only;refine tlB q dp.o.u λf=>?_;clear q K;refine O_ 10 48 (YK (QJ ⟨z2,1,QK⟩)) f λf=>?_;exact R3 bb b4 dp.o
         ·have b0:=fj_ ex c1;unfold f9_ at b0;rw[e1.o]at b0;change Oper.wp _ ⟨some 45,_,_,_,_,_⟩ _ _ _ _;go_simp;refine b0.mono ?_;rintro e ah ⟨rfl,hb⟩;have cc:=q_ (show NdI w4 z z1 z2 u QK QK #[QY QU d,QQ QK 0 0,QQ QK 0 0] ah from cb.o.on hb);clear hb b0;dsimp only;refine tlB q cc.o.u λf=>?_;clear q K;refine tlW 8 46 (.agg N) f (λw a0=>?_) λf=>?_
          ·exact dw_ _ _ #[(0,QZ ⟨#[120]⟩),(1,.agg ue)] _ (by kernel_rfl) (ei.o w)
          refine ea_ 0 9 (by kernel_rfl) (by rfl) (by rfl) (λK q=>?_) λK q=>?_
          ·obtain⟨bc,da⟩:=a_ ah.heap.size;obtain⟨b5,d1⟩:=a_ (ah.alloc (XX #[QZ ⟨#[76,105,116]⟩] 9));have ck:=q_ (show (UQ 67 1 #[(0,QZ ⟨#[76,105,116]⟩)]).run QW ah = .ok (QQ (QJ ⟨bc,0,QK⟩) 1 1) b5 from by rw[<-da.o,<-d1.o];exact dr_ _ _);change Oper.wp _ ⟨some 38,_,_,_,_,_⟩ _ _ _ _;refine dk_ 67 1 _ rfl #[(0,QZ ⟨#[76,105,116]⟩)] (by kernel_rfl) (QQ (QJ ⟨bc,0,QK⟩) 1 1) b5 ck.o ?_;have dq:=q_ (show NdI w4 z z1 z2 u (QJ (bc,⟨#[76,105,116]⟩)) QK #[QY QU d,QQ QK 0 0,QQ QK 0 0] b5 from by rw[<-d1.o,<-da.o];exact cc.o.lab1 _);clear ck;dsimp only;refine tlB q dq.o.u λf=>?_;clear q K;refine O_ 10 48 (YK (QJ ⟨z2,1,QK⟩)) f λf=>?_;exact R2 bc b5 dq.o
          ·obtain⟨am,dd⟩:=a_ ah.heap.size;obtain⟨a5,d4⟩:=a_ (ah.alloc (XX (cp++N) 69));have cm:=q_ (show (UQ 70 2 #[(0,.agg cp),(1,.agg N)]).run QW ah = .ok (QQ (QJ ⟨am,0,QK⟩) 2 2) a5 from by rw[<-dd.o,<-d4.o,<-x.o,<-aq.o];exact li_ _ _ _ _ _);change Oper.wp _ ⟨some 47,_,_,_,_,_⟩ _ _ _ _;refine dk_ 70 2 _ rfl #[(0,.agg cp),(1,.agg N)] (by kernel_rfl) (QQ (QJ ⟨am,0,QK⟩) 2 2) a5 cm.o ?_;have dr:=q_ (show NdI w4 z z1 z2 u QK (QJ (am,(cp++N))) #[QY QU d,QQ QK 0 0,QQ QK 0 0] a5 from by rw[<-d4.o,<-dd.o];exact cc.o.pair1 _);clear cm;dsimp only;refine tlB q dr.o.u λf=>?_;clear q K;obtain⟨bd,db⟩:=a_ a5.heap.size;obtain⟨b6,d2⟩:=a_ (a5.alloc (XX #[QZ ⟨#[76,105,116]⟩] 9));have cl:=q_ (show (UQ 67 1 #[(0,QZ ⟨#[76,105,116]⟩)]).run QW a5 = .ok (QQ (QJ ⟨bd,0,QK⟩) 1 1) b6 from by rw[<-db.o,<-d2.o];exact dr_ _ _);refine tlC 0 λK q=>?_;refine dk_ 67 1 _ rfl #[(0,QZ ⟨#[76,105,116]⟩)] (by kernel_rfl) (QQ (QJ ⟨bd,0,QK⟩) 1 1) b6 cl.o ?_;have ds:=q_ (show NdI w4 z z1 z2 u (QJ (bd,⟨#[76,105,116]⟩)) (QJ (am,(cp++N))) #[QY QU d,QQ QK 0 0,QQ QK 0 0] b6 from by rw[<-d2.o,<-db.o];exact dr.o.lab1 _);clear cl;dsimp only;refine tlB q ds.o.u λf=>?_;clear q K;refine O_ 10 48 (YK (QJ ⟨z2,1,QK⟩)) f λf=>?_;exact R1 bd am b6 ds.o
       ·intro ba cf D;have ev:=q_ D;have f:=D.u;clear D;have b1:=fj_ ex cf;unfold f9_ at b1;rw[e1.o]at b1;refine tlC 7 λK q=>?_;go_simp;refine b1.mono ?_;rintro e er ⟨rfl,hb⟩;have dt:=q_ (show NdI w4 z z1 z2 u (QJ (ba,⟨#[76,105,116]⟩)) QK #[QY QU d,QQ QK 0 0,QQ QK 0 0] er from ev.o.on hb);clear hb b1;dsimp only;refine tlB q dt.o.u λf=>?_;clear q K;refine tlW 8 46 (.agg N) f (λw a0=>?_) λf=>?_
        ·exact dw_ _ _ #[(0,QZ ⟨#[120]⟩),(1,.agg ue)] _ (by kernel_rfl) (ei.o w)
        exact R2 ba er dt.o
      ·intro E ai D;have au:=q_ D;have f:=D.u;clear D;refine ea_ 9 11 (by kernel_rfl) (by rfl) (by rfl) (λK q=>?_) λK q=>?_
       ·obtain⟨bf,de⟩:=a_ ai.heap.size;obtain⟨b7,d5⟩:=a_ (ai.alloc (XX (cp++N) 69));have cn:=q_ (show (UQ 70 2 #[(0,.agg cp),(1,.agg N)]).run QW ai = .ok (QQ (QJ ⟨bf,0,QK⟩) 2 2) b7 from by rw[<-de.o,<-d5.o,<-x.o,<-aq.o];exact li_ _ _ _ _ _);change Oper.wp _ ⟨some 47,_,_,_,_,_⟩ _ _ _ _;refine dk_ 70 2 _ rfl #[(0,.agg cp),(1,.agg N)] (by kernel_rfl) (QQ (QJ ⟨bf,0,QK⟩) 2 2) b7 cn.o ?_;have du:=q_ (show NdI w4 z z1 z2 u (QJ (E,⟨#[76,105,116]⟩)) (QJ (bf,(cp++N))) #[QY QU d,QQ QK 0 0,QQ QK 0 0] b7 from by rw[<-d5.o,<-de.o];exact au.o.pair1 _);clear cn;dsimp only;refine tlB q du.o.u λf=>?_;clear q K;exact R1 E bf b7 du.o
       ·change Oper.wp _ ⟨QK,_,_,_,_,_⟩ _ _ _ _;refine dq_ 67 _ _ rfl z2 1 (#[QY QU d,QQ QK 0 0,QQ QK 0 0]) 72 (QQ (QJ ⟨E,0,QK⟩) 1 1) rfl rfl (bi_ au.o.n (by show 1<3;omega) _ _ _) au.o.n λdi t r=>?_;have dv:=q_ (show NdI w4 z z1 z2 u (QJ (E,⟨#[76,105,116]⟩)) QK #[QY QU d,QQ (QJ ⟨E,0,QK⟩) 1 1,QQ QK 0 0] di from au.o.set (show _=QJ (Obj.cells (#[QY QU d,QQ (QJ ⟨E,0,QK⟩) 1 1,QQ QK 0 0]) 72 (0,0)) from t) r);clear t r;refine tlB q dv.o.u λf=>?_;clear q K;obtain⟨bg,df⟩:=a_ di.heap.size;obtain⟨b8,d6⟩:=a_ (di.alloc (XX (cp++N) 69));have co:=q_ (show (UQ 70 2 #[(0,.agg cp),(1,.agg N)]).run QW di = .ok (QQ (QJ ⟨bg,0,QK⟩) 2 2) b8 from by rw[<-df.o,<-d6.o,<-x.o,<-aq.o];exact li_ _ _ _ _ _);refine tlC 9 λK q=>?_;refine dk_ 70 2 _ rfl #[(0,.agg cp),(1,.agg N)] (by kernel_rfl) (QQ (QJ ⟨bg,0,QK⟩) 2 2) b8 co.o ?_;have dw:=q_ (show NdI w4 z z1 z2 u (QJ (E,⟨#[76,105,116]⟩)) (QJ (bg,(cp++N))) #[QY QU d,QQ (QJ ⟨E,0,QK⟩) 1 1,QQ QK 0 0] b8 from by rw[<-d6.o,<-df.o];exact dv.o.pair1 _);clear co;dsimp only;refine tlB q dw.o.u λf=>?_;clear q K;refine O_ 12 49 (YK (QJ ⟨z2,2,QK⟩)) f λf=>?_;exact R0 E bg b8 dw.o
     ·intro a1 b9 ec D;have ca:=q_ D;have f:=D.u;clear D;refine tlC 11 λK q=>?_;refine dq_ 67 _ _ rfl z2 1 (#[QY QU d,QQ QK 0 0,QQ QK 0 0]) 72 (QQ (QJ ⟨a1,0,QK⟩) 1 1) rfl rfl (bi_ ca.o.n (by show 1<3;omega) _ _ _) ca.o.n λes t r=>?_;have dx:=q_ (show NdI w4 z z1 z2 u (QJ (a1,⟨#[76,105,116]⟩)) (QJ (b9,(cp++N))) #[QY QU d,QQ (QJ ⟨a1,0,QK⟩) 1 1,QQ QK 0 0] es from ca.o.set (show _=QJ (Obj.cells (#[QY QU d,QQ (QJ ⟨a1,0,QK⟩) 1 1,QQ QK 0 0]) 72 (0,0)) from t) r);clear t r;refine tlB q dx.o.u λf=>?_;clear q K;refine O_ 12 49 (YK (QJ ⟨z2,2,QK⟩)) f λf=>?_;exact R0 a1 b9 es dx.o
    ·intro L T eb D;have c9:=q_ D;have f:=D.u;clear D;refine tlC 13 λK q=>?_;refine dq_ 70 _ _ rfl z2 2 (#[QY QU d,QQ (QJ ⟨L,0,QK⟩) 1 1,QQ QK 0 0]) 72 (QQ (QJ ⟨T,0,QK⟩) 2 2) rfl rfl (b0_ c9.o.n (by show 2<3;omega) _ _ _) c9.o.n λfb t r=>?_;have av:=q_ (show NdI w4 z z1 z2 u (QJ (L,⟨#[76,105,116]⟩)) (QJ (T,(cp++N))) #[QY QU d,QQ (QJ ⟨L,0,QK⟩) 1 1,QQ (QJ ⟨T,0,QK⟩) 2 2] fb from c9.o.set (show _=QJ (Obj.cells (#[QY QU d,QQ (QJ ⟨L,0,QK⟩) 1 1,QQ (QJ ⟨T,0,QK⟩) 2 2]) 72 (0,0)) from t) r);clear t r;refine tlB q av.o.u λf=>?_;clear q K;refine⟨VX (by kernel_rfl) ?_ _⟩;clear f
     go_wp2_with (first
      | ((with_reducible refine d_ (some 50) ?_);refine G_ rfl 72 _ rfl z2 0 rfl (#[QY QU d,QQ (QJ ⟨L,0,QK⟩) 1 1,QQ (QJ ⟨T,0,QK⟩) 2 2]) _ (m_ av.o.n) underlying72 rfl (M_ d _ _) ?_)
      | ((with_reducible refine w_ 4 ?_);refine o_ rfl 72 _ _ rfl z1 (#[QY QU 0,QQ QK 0 0,QQ QK 0 0]) (#[QY QU d,QQ (QJ ⟨L,0,QK⟩) 1 1,QQ (QJ ⟨T,0,QK⟩) 2 2]) 72 rfl rfl av.o.m rfl (M_ d _ _) (do_ d _ _ _ _ _ _) ?_;intro fg ag af))
     refine ZV (v:=.agg (#[QY QU d,QQ (QJ ⟨L,0,QK⟩) 1 1,QQ (QJ ⟨T,0,QK⟩) 2 2])) (ax_ results71 (g:=z1) rfl ag _ underlying72 rfl (M_ d _ _)) rfl ?_;exact d0_ ch.o ⟨by have:=J.o;omega,by have:=J.o;omega⟩ av.o af (λW F hF hW=>vm_ (R:=PaR) hW (by rw[<-x.o];rfl) (by rw[<-aq.o];rfl) hF ⟨QQ QK 0 0,x.o.symm,e9_ W F rfl QK 0⟩ ⟨QQ QK 0 0,aq.o.symm,e9_ W F rfl QK 0⟩) (by rw[lz_ d (Hk.o.trans V)]) (by rw[lz_ d (Hk.o.trans V),Ht.o,He.o])
   ·have ce:=V;have fd:((k:Int)==10)=false:=bN_.2 ce;clear V;obtain⟨cp,x⟩:=h9_ ⟨⟨#[118]⟩,v⟩ s;have a6:=q_ (λW:QV=>(show (Instr.build 69 #[(0,QZ ⟨#[118]⟩),(1,.agg u)]).run QW W = .ok (.agg cp) W from by rw[<-Hu.o,<-x.o];exact en_ _ _ _ _));have f5:=q_ (show (Tryz.prog.info? 39).map (·.size)=QJ u.size from ai_.trans (congrArg QJ Hu.size.symm));go_upto_region 3 with fail;obtain⟨wd,bn⟩:=a_ w4.drew;have dy:=q_ (show NdI w4 z z1 z2 u QK QK #[QY QU d,QQ QK 0 0,QQ QK 0 0] wd from by rw[<-bn.o];exact ao.o.on (XV _ _).drew);refine UZ (S:=λW:QV=>W.heap[z]?=QJ (Obj.cells u 39 (0,0))) (by kernel_rfl) (ao.o.on (XV _ _).drew).u λf=>?_;refine H_.o ?_;rw[bn.o]at f ⊢;apply sh2 (H:=λM U ed=>NdI w4 z z1 z2 u (QJ (M,⟨#[86,97,108]⟩)) (QJ (U,cp)) #[QY QU d,QQ (QJ ⟨M,0,QK⟩) 1 1,QQ QK 0 0] ed)
    ·intro R0;apply sh2 (H:=λO ab dj=>NdI w4 z z1 z2 u (QJ (O,⟨#[86,97,108]⟩)) (QJ (ab,cp)) #[QY QU d,QQ QK 0 0,QQ QK 0 0] dj)
     ·intro R1;refine tlW 1 11 (.agg u) f (λw a0=>?_) λf=>?_
      ·exact k_ (cb_ a0 39 _ YV rfl f5.o)
      refine tlW 2 12 (.agg cp) f (λw a0=>?_) λf=>?_
      ·exact dw_ _ _ #[(0,QZ ⟨#[118]⟩),(1,.agg u)] _ (by kernel_rfl) (a6.o w)
      refine ea_ 0 3 (by kernel_rfl) (by rfl) (by rfl) (λK q=>?_) λK q=>?_
      ·obtain⟨B,bt⟩:=a_ wd.heap.size;obtain⟨Y,bo⟩:=a_ (wd.alloc (XX #[QZ ⟨#[86,97,108]⟩] 9));have bh:=q_ (show (UQ 67 1 #[(0,QZ ⟨#[86,97,108]⟩)]).run QW wd = .ok (QQ (QJ ⟨B,0,QK⟩) 1 1) Y from by rw[<-bt.o,<-bo.o];exact dr_ _ _);change Oper.wp _ ⟨some 10,_,_,_,_,_⟩ _ _ _ _;refine dk_ 67 1 _ rfl #[(0,QZ ⟨#[86,97,108]⟩)] (by kernel_rfl) (QQ (QJ ⟨B,0,QK⟩) 1 1) Y bh.o ?_;have a2:=q_ (show NdI w4 z z1 z2 u (QJ (B,⟨#[86,97,108]⟩)) QK #[QY QU d,QQ QK 0 0,QQ QK 0 0] Y from by rw[<-bo.o,<-bt.o];exact dy.o.lab1 _);clear bh;dsimp only;refine tlB q a2.o.u λf=>?_;clear q K;refine O_ 4 14 (YK (QJ ⟨z2,1,QK⟩)) f λf=>?_;refine ea_ 3 5 (by kernel_rfl) (by rfl) (by rfl) (λK q=>?_) λK q=>?_
       ·obtain⟨ad,bw⟩:=a_ Y.heap.size;obtain⟨a9,bq⟩:=a_ (Y.alloc (XX cp 69));have bj:=q_ (show (UQ 70 1 #[(0,.agg cp)]).run QW Y = .ok (QQ (QJ ⟨ad,0,QK⟩) 1 1) a9 from by rw[<-bw.o,<-bq.o,<-x.o];exact er_ _ _ _);change Oper.wp _ ⟨some 13,_,_,_,_,_⟩ _ _ _ _;refine dk_ 70 1 _ rfl #[(0,.agg cp)] (by kernel_rfl) (QQ (QJ ⟨ad,0,QK⟩) 1 1) a9 bj.o ?_;have cr:=q_ (show NdI w4 z z1 z2 u (QJ (B,⟨#[86,97,108]⟩)) (QJ (ad,cp)) #[QY QU d,QQ QK 0 0,QQ QK 0 0] a9 from by rw[<-bq.o,<-bw.o];exact a2.o.pair1 _);clear bj;dsimp only;refine tlB q cr.o.u λf=>?_;clear q K;exact R1 B ad a9 cr.o
       ·change Oper.wp _ ⟨QK,_,_,_,_,_⟩ _ _ _ _;refine dq_ 67 _ _ rfl z2 1 (#[QY QU d,QQ QK 0 0,QQ QK 0 0]) 72 (QQ (QJ ⟨B,0,QK⟩) 1 1) rfl rfl (bi_ a2.o.n (by show 1<3;omega) _ _ _) a2.o.n λb2 t r=>?_;have ct:=q_ (show NdI w4 z z1 z2 u (QJ (B,⟨#[86,97,108]⟩)) QK #[QY QU d,QQ (QJ ⟨B,0,QK⟩) 1 1,QQ QK 0 0] b2 from a2.o.set (show _=QJ (Obj.cells (#[QY QU d,QQ (QJ ⟨B,0,QK⟩) 1 1,QQ QK 0 0]) 72 (0,0)) from t) r);clear t r;refine tlB q ct.o.u λf=>?_;clear q K;obtain⟨ae,bx⟩:=a_ b2.heap.size;obtain⟨aa,br⟩:=a_ (b2.alloc (XX cp 69));have bk:=q_ (show (UQ 70 1 #[(0,.agg cp)]).run QW b2 = .ok (QQ (QJ ⟨ae,0,QK⟩) 1 1) aa from by rw[<-bx.o,<-br.o,<-x.o];exact er_ _ _ _);refine tlC 3 λK q=>?_;refine dk_ 70 1 _ rfl #[(0,.agg cp)] (by kernel_rfl) (QQ (QJ ⟨ae,0,QK⟩) 1 1) aa bk.o ?_;have cu:=q_ (show NdI w4 z z1 z2 u (QJ (B,⟨#[86,97,108]⟩)) (QJ (ae,cp)) #[QY QU d,QQ (QJ ⟨B,0,QK⟩) 1 1,QQ QK 0 0] aa from by rw[<-br.o,<-bx.o];exact ct.o.pair1 _);clear bk;dsimp only;refine tlB q cu.o.u λf=>?_;clear q K;refine O_ 6 15 (YK (QJ ⟨z2,2,QK⟩)) f λf=>?_;exact R0 B ae aa cu.o
      ·obtain⟨a4,bz⟩:=a_ wd.heap.size;obtain⟨Z,bs⟩:=a_ (wd.alloc (XX cp 69));have bl:=q_ (show (UQ 70 1 #[(0,.agg cp)]).run QW wd = .ok (QQ (QJ ⟨a4,0,QK⟩) 1 1) Z from by rw[<-bz.o,<-bs.o,<-x.o];exact er_ _ _ _);change Oper.wp _ ⟨some 13,_,_,_,_,_⟩ _ _ _ _;refine dk_ 70 1 _ rfl #[(0,.agg cp)] (by kernel_rfl) (QQ (QJ ⟨a4,0,QK⟩) 1 1) Z bl.o ?_;have cv:=q_ (show NdI w4 z z1 z2 u QK (QJ (a4,cp)) #[QY QU d,QQ QK 0 0,QQ QK 0 0] Z from by rw[<-bs.o,<-bz.o];exact dy.o.pair1 _);clear bl;dsimp only;refine tlB q cv.o.u λf=>?_;clear q K;obtain⟨ac,bu⟩:=a_ Z.heap.size;obtain⟨a8,bp⟩:=a_ (Z.alloc (XX #[QZ ⟨#[86,97,108]⟩] 9));have bi:=q_ (show (UQ 67 1 #[(0,QZ ⟨#[86,97,108]⟩)]).run QW Z = .ok (QQ (QJ ⟨ac,0,QK⟩) 1 1) a8 from by rw[<-bu.o,<-bp.o];exact dr_ _ _);refine tlC 0 λK q=>?_;refine dk_ 67 1 _ rfl #[(0,QZ ⟨#[86,97,108]⟩)] (by kernel_rfl) (QQ (QJ ⟨ac,0,QK⟩) 1 1) a8 bi.o ?_;have cw:=q_ (show NdI w4 z z1 z2 u (QJ (ac,⟨#[86,97,108]⟩)) (QJ (a4,cp)) #[QY QU d,QQ QK 0 0,QQ QK 0 0] a8 from by rw[<-bp.o,<-bu.o];exact cv.o.lab1 _);clear bi;dsimp only;refine tlB q cw.o.u λf=>?_;clear q K;refine O_ 4 14 (YK (QJ ⟨z2,1,QK⟩)) f λf=>?_;exact R1 ac a4 a8 cw.o
     ·intro O ab dj D;have ar:=q_ D;have f:=D.u;clear D;refine tlC 5 λK q=>?_;refine dq_ 67 _ _ rfl z2 1 (#[QY QU d,QQ QK 0 0,QQ QK 0 0]) 72 (QQ (QJ ⟨O,0,QK⟩) 1 1) rfl rfl (bi_ ar.o.n (by show 1<3;omega) _ _ _) ar.o.n λea t r=>?_;have cx:=q_ (show NdI w4 z z1 z2 u (QJ (O,⟨#[86,97,108]⟩)) (QJ (ab,cp)) #[QY QU d,QQ (QJ ⟨O,0,QK⟩) 1 1,QQ QK 0 0] ea from ar.o.set (show _=QJ (Obj.cells (#[QY QU d,QQ (QJ ⟨O,0,QK⟩) 1 1,QQ QK 0 0]) 72 (0,0)) from t) r);clear t r;refine tlB q cx.o.u λf=>?_;clear q K;refine O_ 6 15 (YK (QJ ⟨z2,2,QK⟩)) f λf=>?_;exact R0 O ab ea cx.o
    ·intro M U ed D;have cd:=q_ D;have f:=D.u;clear D;refine tlC 7 λK q=>?_;refine dq_ 70 _ _ rfl z2 2 (#[QY QU d,QQ (QJ ⟨M,0,QK⟩) 1 1,QQ QK 0 0]) 72 (QQ (QJ ⟨U,0,QK⟩) 1 1) rfl rfl (b0_ cd.o.n (by show 2<3;omega) _ _ _) cd.o.n λey t r=>?_;have a7:=q_ (show NdI w4 z z1 z2 u (QJ (M,⟨#[86,97,108]⟩)) (QJ (U,cp)) #[QY QU d,QQ (QJ ⟨M,0,QK⟩) 1 1,QQ (QJ ⟨U,0,QK⟩) 1 1] ey from cd.o.set (show _=QJ (Obj.cells (#[QY QU d,QQ (QJ ⟨M,0,QK⟩) 1 1,QQ (QJ ⟨U,0,QK⟩) 1 1]) 72 (0,0)) from t) r);clear t r;refine tlB q a7.o.u λf=>?_;clear q K;refine⟨VX (by kernel_rfl) ?_ _⟩;clear f
     go_wp2_with (first
      | ((with_reducible refine d_ (some 50) ?_);refine G_ rfl 72 _ rfl z2 0 rfl (#[QY QU d,QQ (QJ ⟨M,0,QK⟩) 1 1,QQ (QJ ⟨U,0,QK⟩) 1 1]) _ (m_ a7.o.n) underlying72 rfl (M_ d _ _) ?_)
      | ((with_reducible refine w_ 4 ?_);refine o_ rfl 72 _ _ rfl z1 (#[QY QU 0,QQ QK 0 0,QQ QK 0 0]) (#[QY QU d,QQ (QJ ⟨M,0,QK⟩) 1 1,QQ (QJ ⟨U,0,QK⟩) 1 1]) 72 rfl rfl a7.o.m rfl (M_ d _ _) (do_ d _ _ _ _ _ _) ?_;intro fc ag af))
     refine ZV (v:=.agg (#[QY QU d,QQ (QJ ⟨M,0,QK⟩) 1 1,QQ (QJ ⟨U,0,QK⟩) 1 1])) (ax_ results71 (g:=z1) rfl ag _ underlying72 rfl (M_ d _ _)) rfl ?_;exact d0_ ch.o ⟨by have:=J.o;omega,by have:=J.o;omega⟩ a7.o af (λW F hF hW=>h2_ (R:=PaR) hW (by rw[<-x.o];rfl) hF ⟨s,x.o.symm,eo.o W F⟩) (by rw[l0_ d (λh=>e6 (Hk.o.symm.trans h)) (λh=>e7 (Hk.o.symm.trans h)) (λh=>ce (Hk.o.symm.trans h))]) (by rw[l0_ d (λh=>e6 (Hk.o.symm.trans h)) (λh=>e7 (Hk.o.symm.trans h)) (λh=>ce (Hk.o.symm.trans h))])
theorem Eo_ (d:Int) (v:g_) (hs:v.list=[]) (A:Option Addr) (cap:Nat) (w:QV):Calls QW 73 #[QY QU d,.agg (c_ v (QQ A 0 cap))] w (i7_ d v w):=by
 obtain⟨s,HS⟩:=a_ (Value.slice A 0 cap);have ch:=q_ (λ(W:QV) (F:Nat->Prop)=>e9_ W F hs A cap);rw[HS.o]at ch ⊢;obtain⟨u,Hu⟩:=L_ v s;rw[Hu.o];obtain⟨z,HZ⟩:=a_ w.heap.size;obtain⟨z1,c2⟩:=a_ (w.heap.size+1);obtain⟨z2,c3⟩:=a_ (w.heap.size+1+1);obtain⟨w3,a4⟩:=a_ (((w.alloc (XX u 39)).alloc (XX #[QY QU 0,QQ QK 0 0,QQ QK 0 0] 72)).alloc (XX #[QY QU 0,QQ QK 0 0,QQ QK 0 0] 72));have cr:=q_ (show XW w.heap.size w w3 from by rw[<-a4.o];exact (((XV w.heap.size w).alloc (XK _) _).alloc (by simp) _).alloc (by simp;omega) _);have cd:=q_ (show w3.heap[z]?=QJ (XX u 39 (0,0)) from by rw[<-a4.o,<-HZ.o,heap_alloc_old _ _ (by simp;omega),heap_alloc_old _ _ (by simp)];exact XU w _);have ce:=q_ (show w3.heap[z1]?=QJ (XX #[QY QU 0,QQ QK 0 0,QQ QK 0 0] 72 (0,0)) from by rw[<-a4.o,<-c2.o,heap_alloc_old _ _ (by simp)];have h:=XU (w.alloc (XX u 39)) (XX #[QY QU 0,QQ QK 0 0,QQ QK 0 0] 72);rwa [show (w.alloc (XX u 39)).heap.size=w.heap.size+1 from by simp]at h);have cf:=q_ (show w3.heap[z2]?=QJ (XX #[QY QU 0,QQ QK 0 0,QQ QK 0 0] 72 (0,0)) from by rw[<-a4.o,<-c3.o];have h:=XU ((w.alloc (XX u 39)).alloc (XX #[QY QU 0,QQ QK 0 0,QQ QK 0 0] 72)) (XX #[QY QU 0,QQ QK 0 0,QQ QK 0 0] 72);rwa [show ((w.alloc (XX u 39)).alloc (XX #[QY QU 0,QQ QK 0 0,QQ QK 0 0] 72)).heap.size=w.heap.size+1+1 from by simp]at h);have J:=q_ (show w.heap.size<=z/\z1=z+1/\z2=z+2/\z2<w3.heap.size from by have h0:w.heap.size=z:=HZ.o;have h1:w.heap.size+1=z1:=c2.o;have h2:w.heap.size+1+1=z2:=c3.o;have:=b_ cf.o;omega);go_enter func73,ntmps73
 go_upto_region 2 with ((with_reducible refine w_ 5 ?_);rw[a4.o,c3.o,c2.o,HZ.o];refine o_ rfl 72 _ _ rfl z2 (#[QY QU 0,QQ QK 0 0,QQ QK 0 0]) (#[QY QU d,QQ QK 0 0,QQ QK 0 0]) 72 rfl rfl cf.o rfl (M_ d _ _) (do_ d QK 0 0 QK 0 0) ?_;intro w4 ck bg)
 have cw:=q_ ck;have cx:=q_ (show Turn (NdS z1 z2) w3 w4 from bg.mono λi _ h=>.inr h);have aw:=q_ ((bg.block z (b_ cd.o) (λe=>by have e:z=z2:=e;have:=J.o;omega)).trans cd.o);have cg:=q_ ((bg.block z1 (b_ ce.o) (λe=>by have e:z1=z2:=e;have:=J.o;omega)).trans ce.o);have bk:=q_ (show XW w.heap.size w w4 from h_ cr.o cx.o (λb h=>by have:=J.o;rcases h with h | h<;>omega))
 have cv:=q_ (XZ J.o.2.2.2 bg.size);obtain⟨k,O⟩:=a_ v.kind;obtain⟨N,Ht⟩:=a_ v.text;obtain⟨ex,He⟩:=a_ v.extra;have q0:w4.cell? ⟨z,0,none⟩=some (QY QU k):=(QX aw.o 0).trans (by rw[<-Hu.o,<-O.o];rfl);have q3:w4.cell? ⟨z,3,none⟩=some (QZ N):=(QX aw.o 3).trans (by rw[<-Hu.o,<-Ht.o];rfl);have q4:w4.cell? ⟨z,4,none⟩=some (QZ ex):=(QX aw.o 4).trans (by rw[<-Hu.o,<-He.o];rfl);have cu:=q_ (λ(W:QV) (j:Nat) (hj:j<u.size) (h:W.heap[z]?=some (XX u 39 (0,0)))=>(show W.cell? ((⟨z,0,none⟩:Addr).add j)=u[j]? from by rw[Addr.add_mid,VQ];exact UU W z j u _ _ h));clear ck bg a4;have bl:=q_ (show NdI w4 z z1 z2 u none none #[QY QU d,QQ none 0 0,QQ none 0 0] w4 from ⟨Turn.refl _ _,⟨b_ aw.o,b_ cg.o,cv.o,by have:=J.o;omega,by have:=J.o;omega⟩,aw.o,cw.o,cg.o,(λ_ _ h=>by cases h),(λ_ _ h=>by cases h)⟩);clear q3 q4 cu;by_cases M:k=8
 ·rw[M]at q0;obtain⟨ut,T⟩:=L_ (txV N) (QQ QK 0 0);obtain⟨cp,B⟩:=h9_ ⟨⟨#[118]⟩,txV N⟩ (QQ QK 0 0);have a1:=q_ (λW:QV=>(show (Instr.build 69 #[(0,QZ ⟨#[118]⟩),(1,.agg ut)]).run QW W = .ok (.agg cp) W from by rw[<-T.o,<-B.o];exact en_ _ _ _ _));obtain⟨q,b6⟩:=a_ w4.heap.size;obtain⟨aj,ay⟩:=a_ (w4.alloc (XX #[QZ ⟨#[73,114,105]⟩] 9));have bt:=q_ (show (UQ 67 1 #[(0,QZ ⟨#[73,114,105]⟩)]).run QW w4 = .ok (QQ (QJ ⟨q,0,QK⟩) 1 1) aj from by rw[<-b6.o,<-ay.o];exact dr_ _ _);have a5:=q_ (show NdI w4 z z1 z2 u (QJ (q,⟨#[73,114,105]⟩)) QK #[QY QU d,QQ QK 0 0,QQ QK 0 0] aj from by rw[<-ay.o,<-b6.o];exact bl.o.lab1 _)
  go_wp2_with (first
   | ((with_reducible refine d_ (some 18) ?_);refine b6_ rfl 67 1 _ rfl #[(0,QZ ⟨#[73,114,105]⟩)] (by kernel_rfl) (QQ (QJ ⟨q,0,QK⟩) 1 1) aj bt.o ?_)
   | ((with_reducible refine w_ 19 ?_);refine dg_ rfl 67 _ _ rfl z2 1 (#[QY QU d,QQ QK 0 0,QQ QK 0 0]) 72 (QQ (QJ ⟨q,0,QK⟩) 1 1) rfl rfl (bi_ a5.o.n (by show 1<3;omega) _ _ _) a5.o.n ?_;intro bi y x;have bm:=q_ (show NdI w4 z z1 z2 u (QJ (q,⟨#[73,114,105]⟩)) QK #[QY QU d,QQ (QJ ⟨q,0,QK⟩) 1 1,QQ QK 0 0] bi from a5.o.set (show _=QJ (Obj.cells (#[QY QU d,QQ (QJ ⟨q,0,QK⟩) 1 1,QQ QK 0 0]) 72 (0,0)) from y) x);clear y x;have X:=hw_ N bi;unfold gx_ at X;rw[T.o]at X;have cb:bi.cell? ⟨z,3,QK⟩=QJ (QZ N):=(QX bm.o.u 3).trans (by rw[<-Hu.o,<-Ht.o];rfl)))
  refine X.mono ?_;rintro e af ⟨rfl,hb⟩;have c8:=q_ (show NdI w4 z z1 z2 u (QJ (q,⟨#[73,114,105]⟩)) QK #[QY QU d,QQ (QJ ⟨q,0,QK⟩) 1 1,QQ QK 0 0] af from bm.o.on hb);clear hb X cb;obtain⟨C,ba⟩:=a_ af.heap.size;obtain⟨ap,b2⟩:=a_ (af.alloc (XX cp 69));have bz:=q_ (show (UQ 70 1 #[(0,.agg cp)]).run QW af = .ok (QQ (QJ ⟨C,0,QK⟩) 1 1) ap from by rw[<-ba.o,<-b2.o,<-B.o];exact er_ _ _ _);have a6:=q_ (show NdI w4 z z1 z2 u (QJ (q,⟨#[73,114,105]⟩)) (QJ (C,cp)) #[QY QU d,QQ (QJ ⟨q,0,QK⟩) 1 1,QQ QK 0 0] ap from by rw[<-b2.o,<-ba.o];exact c8.o.pair1 _)
  go_wp2_with (first
   | ((with_reducible refine d_ (some 23) ?_);refine W_ rfl 69 _ rfl #[(0,QZ ⟨#[118]⟩),(1,.agg ut)] (by kernel_rfl) (.agg cp) (a1.o _) ?_)
   | ((with_reducible refine d_ (some 24) ?_);refine b6_ rfl 70 1 _ rfl #[(0,.agg cp)] (by kernel_rfl) (QQ (QJ ⟨C,0,QK⟩) 1 1) ap bz.o ?_)
   | ((with_reducible refine w_ 25 ?_);refine dg_ rfl 70 _ _ rfl z2 2 (#[QY QU d,QQ (QJ ⟨q,0,QK⟩) 1 1,QQ QK 0 0]) 72 (QQ (QJ ⟨C,0,QK⟩) 1 1) rfl rfl (b0_ a6.o.n (by show 2<3;omega) _ _ _) a6.o.n ?_;intro cl y x;have a7:=q_ (show NdI w4 z z1 z2 u (QJ (q,⟨#[73,114,105]⟩)) (QJ (C,cp)) #[QY QU d,QQ (QJ ⟨q,0,QK⟩) 1 1,QQ (QJ ⟨C,0,QK⟩) 1 1] cl from a6.o.set (show _=QJ (Obj.cells (#[QY QU d,QQ (QJ ⟨q,0,QK⟩) 1 1,QQ (QJ ⟨C,0,QK⟩) 1 1]) 72 (0,0)) from y) x);clear y x)
   | ((with_reducible refine d_ (some 50) ?_);refine G_ rfl 72 _ rfl z2 0 rfl (#[QY QU d,QQ (QJ ⟨q,0,QK⟩) 1 1,QQ (QJ ⟨C,0,QK⟩) 1 1]) _ (m_ a7.o.n) underlying72 rfl (M_ d _ _) ?_)
   | ((with_reducible refine w_ 4 ?_);refine o_ rfl 72 _ _ rfl z1 (#[QY QU 0,QQ QK 0 0,QQ QK 0 0]) (#[QY QU d,QQ (QJ ⟨q,0,QK⟩) 1 1,QQ (QJ ⟨C,0,QK⟩) 1 1]) 72 rfl rfl a7.o.m rfl (M_ d _ _) (do_ d _ _ _ _ _ _) ?_;intro cz a3 a2))
  refine ZV (v:=.agg (#[QY QU d,QQ (QJ ⟨q,0,QK⟩) 1 1,QQ (QJ ⟨C,0,QK⟩) 1 1])) (ax_ results73 (g:=z1) rfl a3 _ underlying72 rfl (M_ d _ _)) rfl ?_;exact d0_ bk.o ⟨by have:=J.o;omega,by have:=J.o;omega⟩ a7.o a2 (λW F hF hW=>h2_ (R:=PaR) hW (by rw[<-B.o];rfl) hF ⟨QQ QK 0 0,B.o.symm,e9_ W F rfl QK 0⟩) (by rw[ly_ d (O.o.trans M)]) (by rw[ly_ d (O.o.trans M),Ht.o])
 ·have c4:=M;have e8:((k:Int)==8)=false:=bN_.2 c4;clear M;by_cases M:k=9
  ·rw[M]at q0;clear e8;obtain⟨ut,T⟩:=L_ (txV N) (QQ QK 0 0);obtain⟨cp,B⟩:=h9_ ⟨⟨#[118]⟩,txV N⟩ (QQ QK 0 0);have a1:=q_ (λW:QV=>(show (Instr.build 69 #[(0,QZ ⟨#[118]⟩),(1,.agg ut)]).run QW W = .ok (.agg cp) W from by rw[<-T.o,<-B.o];exact en_ _ _ _ _));obtain⟨r,b7⟩:=a_ w4.heap.size;obtain⟨ak,az⟩:=a_ (w4.alloc (XX #[QZ ⟨#[66,108,97,110,107]⟩] 9));have bu:=q_ (show (UQ 67 1 #[(0,QZ ⟨#[66,108,97,110,107]⟩)]).run QW w4 = .ok (QQ (QJ ⟨r,0,QK⟩) 1 1) ak from by rw[<-b7.o,<-az.o];exact dr_ _ _);have a8:=q_ (show NdI w4 z z1 z2 u (QJ (r,⟨#[66,108,97,110,107]⟩)) QK #[QY QU d,QQ QK 0 0,QQ QK 0 0] ak from by rw[<-az.o,<-b7.o];exact bl.o.lab1 _)
   go_wp2_with (first
    | ((with_reducible refine d_ (some 28) ?_);refine b6_ rfl 67 1 _ rfl #[(0,QZ ⟨#[66,108,97,110,107]⟩)] (by kernel_rfl) (QQ (QJ ⟨r,0,QK⟩) 1 1) ak bu.o ?_)
    | ((with_reducible refine w_ 29 ?_);refine dg_ rfl 67 _ _ rfl z2 1 (#[QY QU d,QQ QK 0 0,QQ QK 0 0]) 72 (QQ (QJ ⟨r,0,QK⟩) 1 1) rfl rfl (bi_ a8.o.n (by show 1<3;omega) _ _ _) a8.o.n ?_;intro bj y x;have bn:=q_ (show NdI w4 z z1 z2 u (QJ (r,⟨#[66,108,97,110,107]⟩)) QK #[QY QU d,QQ (QJ ⟨r,0,QK⟩) 1 1,QQ QK 0 0] bj from a8.o.set (show _=QJ (Obj.cells (#[QY QU d,QQ (QJ ⟨r,0,QK⟩) 1 1,QQ QK 0 0]) 72 (0,0)) from y) x);clear y x;have Y:=hw_ N bj;unfold gx_ at Y;rw[T.o]at Y;have cc:bj.cell? ⟨z,3,QK⟩=QJ (QZ N):=(QX bn.o.u 3).trans (by rw[<-Hu.o,<-Ht.o];rfl)))
   refine Y.mono ?_;rintro e ag ⟨rfl,hb⟩;have c9:=q_ (show NdI w4 z z1 z2 u (QJ (r,⟨#[66,108,97,110,107]⟩)) QK #[QY QU d,QQ (QJ ⟨r,0,QK⟩) 1 1,QQ QK 0 0] ag from bn.o.on hb);clear hb Y cc;obtain⟨D,bb⟩:=a_ ag.heap.size;obtain⟨aq,b3⟩:=a_ (ag.alloc (XX cp 69));have c0:=q_ (show (UQ 70 1 #[(0,.agg cp)]).run QW ag = .ok (QQ (QJ ⟨D,0,QK⟩) 1 1) aq from by rw[<-bb.o,<-b3.o,<-B.o];exact er_ _ _ _);have a9:=q_ (show NdI w4 z z1 z2 u (QJ (r,⟨#[66,108,97,110,107]⟩)) (QJ (D,cp)) #[QY QU d,QQ (QJ ⟨r,0,QK⟩) 1 1,QQ QK 0 0] aq from by rw[<-b3.o,<-bb.o];exact c9.o.pair1 _)
   go_wp2_with (first
    | ((with_reducible refine d_ (some 33) ?_);refine W_ rfl 69 _ rfl #[(0,QZ ⟨#[118]⟩),(1,.agg ut)] (by kernel_rfl) (.agg cp) (a1.o _) ?_)
    | ((with_reducible refine d_ (some 34) ?_);refine b6_ rfl 70 1 _ rfl #[(0,.agg cp)] (by kernel_rfl) (QQ (QJ ⟨D,0,QK⟩) 1 1) aq c0.o ?_)
    | ((with_reducible refine w_ 35 ?_);refine dg_ rfl 70 _ _ rfl z2 2 (#[QY QU d,QQ (QJ ⟨r,0,QK⟩) 1 1,QQ QK 0 0]) 72 (QQ (QJ ⟨D,0,QK⟩) 1 1) rfl rfl (b0_ a9.o.n (by show 2<3;omega) _ _ _) a9.o.n ?_;intro cm y x;have aa:=q_ (show NdI w4 z z1 z2 u (QJ (r,⟨#[66,108,97,110,107]⟩)) (QJ (D,cp)) #[QY QU d,QQ (QJ ⟨r,0,QK⟩) 1 1,QQ (QJ ⟨D,0,QK⟩) 1 1] cm from a9.o.set (show _=QJ (Obj.cells (#[QY QU d,QQ (QJ ⟨r,0,QK⟩) 1 1,QQ (QJ ⟨D,0,QK⟩) 1 1]) 72 (0,0)) from y) x);clear y x)
    | ((with_reducible refine d_ (some 50) ?_);refine G_ rfl 72 _ rfl z2 0 rfl (#[QY QU d,QQ (QJ ⟨r,0,QK⟩) 1 1,QQ (QJ ⟨D,0,QK⟩) 1 1]) _ (m_ aa.o.n) underlying72 rfl (M_ d _ _) ?_)
    | ((with_reducible refine w_ 4 ?_);refine o_ rfl 72 _ _ rfl z1 (#[QY QU 0,QQ QK 0 0,QQ QK 0 0]) (#[QY QU d,QQ (QJ ⟨r,0,QK⟩) 1 1,QQ (QJ ⟨D,0,QK⟩) 1 1]) 72 rfl rfl aa.o.m rfl (M_ d _ _) (do_ d _ _ _ _ _ _) ?_;intro d0 a3 a2))
   refine ZV (v:=.agg (#[QY QU d,QQ (QJ ⟨r,0,QK⟩) 1 1,QQ (QJ ⟨D,0,QK⟩) 1 1])) (ax_ results73 (g:=z1) rfl a3 _ underlying72 rfl (M_ d _ _)) rfl ?_;exact d0_ bk.o ⟨by have:=J.o;omega,by have:=J.o;omega⟩ aa.o a2 (λW F hF hW=>h2_ (R:=PaR) hW (by rw[<-B.o];rfl) hF ⟨QQ QK 0 0,B.o.symm,e9_ W F rfl QK 0⟩) (by rw[ho_ d (O.o.trans M)]) (by rw[ho_ d (O.o.trans M),Ht.o])
  ·have c5:=M;have e9:((k:Int)==9)=false:=bN_.2 c5;clear M;by_cases M:k=10
   ·rw[M]at q0;clear e8 e9;obtain⟨ut,T⟩:=L_ (txV N) (QQ QK 0 0);obtain⟨cp,B⟩:=h9_ ⟨⟨#[118]⟩,txV N⟩ (QQ QK 0 0);have a1:=q_ (λW:QV=>(show (Instr.build 69 #[(0,QZ ⟨#[118]⟩),(1,.agg ut)]).run QW W = .ok (.agg cp) W from by rw[<-T.o,<-B.o];exact en_ _ _ _ _));obtain⟨ue,ci⟩:=L_ (txV ex) (QQ QK 0 0);obtain⟨cq,bs⟩:=h9_ ⟨⟨#[120]⟩,txV ex⟩ (QQ QK 0 0);have ct:=q_ (λW:QV=>(show (Instr.build 69 #[(0,QZ ⟨#[120]⟩),(1,.agg ue)]).run QW W = .ok (.agg cq) W from by rw[<-ci.o,<-bs.o];exact en_ _ _ _ _));obtain⟨f,b8⟩:=a_ w4.heap.size;obtain⟨am,b0⟩:=a_ (w4.alloc (XX #[QZ ⟨#[76,105,116]⟩] 9));have bw:=q_ (show (UQ 67 1 #[(0,QZ ⟨#[76,105,116]⟩)]).run QW w4 = .ok (QQ (QJ ⟨f,0,QK⟩) 1 1) am from by rw[<-b8.o,<-b0.o];exact dr_ _ _);have ab:=q_ (show NdI w4 z z1 z2 u (QJ (f,⟨#[76,105,116]⟩)) QK #[QY QU d,QQ QK 0 0,QQ QK 0 0] am from by rw[<-b0.o,<-b8.o];exact bl.o.lab1 _);go_upto_region 13 with (first | ((with_reducible refine d_ (some 38) ?_);refine b6_ rfl 67 1 _ rfl #[(0,QZ ⟨#[76,105,116]⟩)] (by kernel_rfl) (QQ (QJ ⟨f,0,QK⟩) 1 1) am bw.o ?_) | ((with_reducible refine w_ 39 ?_);refine dg_ rfl 67 _ _ rfl z2 1 (#[QY QU d,QQ QK 0 0,QQ QK 0 0]) 72 (QQ (QJ ⟨f,0,QK⟩) 1 1) rfl rfl (bi_ ab.o.n (by show 1<3;omega) _ _ _) ab.o.n ?_;intro c6 y x;have bo:=q_ (show NdI w4 z z1 z2 u (QJ (f,⟨#[76,105,116]⟩)) QK #[QY QU d,QQ (QJ ⟨f,0,QK⟩) 1 1,QQ QK 0 0] c6 from ab.o.set (show _=QJ (Obj.cells (#[QY QU d,QQ (QJ ⟨f,0,QK⟩) 1 1,QQ QK 0 0]) 72 (0,0)) from y) x);clear y x))
    obtain⟨wd,cj⟩:=a_ c6.drew;have ca:=q_ (show NdI w4 z z1 z2 u (QJ (f,⟨#[76,105,116]⟩)) QK #[QY QU d,QQ (QJ ⟨f,0,QK⟩) 1 1,QQ QK 0 0] wd from by rw[<-cj.o];exact bo.o.on (XV _ _).drew);refine UZ (S:=λW:QV=>W.heap[z]?=QJ (Obj.cells u 39 (0,0))) (by kernel_rfl) (bo.o.on (XV _ _).drew).u λL=>?_;refine H_.o ?_;rw[cj.o]at L ⊢;refine O_ 0 40 (YK (QJ ⟨z,3,QK⟩)) L λL=>?_;refine tlW 1 41 (QZ N) L (λw bf=>?_) λL=>?_
    ·have p:w.cell? ⟨z,3,QK⟩=QJ (QZ N):=(QX bf 3).trans (by rw[<-Hu.o,<-Ht.o];rfl);unfold z_;go_simp
    refine O_ 4 44 (YK (QJ ⟨z,4,QK⟩)) L λL=>?_;refine tlW 5 45 (QZ ex) L (λw bf=>?_) λL=>?_
    ·have p:w.cell? ⟨z,4,QK⟩=QJ (QZ ex):=(QX bf 4).trans (by rw[<-Hu.o,<-He.o];rfl);unfold z_;go_simp
    have Z:=hw_ N wd;unfold gx_ at Z;rw[T.o]at Z;refine tlC 2 λK hK=>?_;go_simp;refine Z.mono ?_;rintro e c7 ⟨rfl,hb⟩;have bp:=q_ (show NdI w4 z z1 z2 u (QJ (f,⟨#[76,105,116]⟩)) QK #[QY QU d,QQ (QJ ⟨f,0,QK⟩) 1 1,QQ QK 0 0] c7 from ca.o.on hb);clear hb Z;dsimp only;refine tlB hK bp.o.u λL=>?_;clear hK K;refine tlW 3 43 (.agg cp) L (λw bf=>?_) λL=>?_
    ·exact dw_ _ _ #[(0,QZ ⟨#[118]⟩),(1,.agg ut)] _ (by kernel_rfl) (a1.o w)
    have a0:=hw_ ex c7;unfold gx_ at a0;rw[ci.o]at a0;refine tlC 6 λK hK=>?_;go_simp;refine a0.mono ?_;rintro e ah ⟨rfl,hb⟩;have bq:=q_ (show NdI w4 z z1 z2 u (QJ (f,⟨#[76,105,116]⟩)) QK #[QY QU d,QQ (QJ ⟨f,0,QK⟩) 1 1,QQ QK 0 0] ah from bp.o.on hb);clear hb a0;dsimp only;refine tlB hK bq.o.u λL=>?_;clear hK K;refine tlW 7 47 (.agg cq) L (λw bf=>?_) λL=>?_
    ·exact dw_ _ _ #[(0,QZ ⟨#[120]⟩),(1,.agg ue)] _ (by kernel_rfl) (ct.o w)
    obtain⟨E,bc⟩:=a_ ah.heap.size;obtain⟨ar,b4⟩:=a_ (ah.alloc (XX (cp++cq) 69));have av:=q_ (show (UQ 70 2 #[(0,.agg cp),(1,.agg cq)]).run QW ah = .ok (QQ (QJ ⟨E,0,QK⟩) 2 2) ar from by rw[<-bc.o,<-b4.o,<-B.o,<-bs.o];exact li_ _ _ _ _ _);refine tlC 8 λK hK=>?_;refine dk_ 70 2 _ rfl #[(0,.agg cp),(1,.agg cq)] (by kernel_rfl) (QQ (QJ ⟨E,0,QK⟩) 2 2) ar av.o ?_;have U:=q_ (show NdI w4 z z1 z2 u (QJ (f,⟨#[76,105,116]⟩)) (QJ (E,(cp++cq))) #[QY QU d,QQ (QJ ⟨f,0,QK⟩) 1 1,QQ QK 0 0] ar from by rw[<-b4.o,<-bc.o];exact bq.o.pair1 _);clear av;dsimp only;refine tlB hK U.o.u λL=>?_;clear hK K;refine O_ 9 49 (YK (QJ ⟨z2,2,QK⟩)) L λL=>?_;refine tlC 10 λK hK=>?_;refine dq_ 70 _ _ rfl z2 2 (#[QY QU d,QQ (QJ ⟨f,0,QK⟩) 1 1,QQ QK 0 0]) 72 (QQ (QJ ⟨E,0,QK⟩) 2 2) rfl rfl (b0_ U.o.n (by show 2<3;omega) _ _ _) U.o.n λcn y x=>?_;have V:=q_ (show NdI w4 z z1 z2 u (QJ (f,⟨#[76,105,116]⟩)) (QJ (E,(cp++cq))) #[QY QU d,QQ (QJ ⟨f,0,QK⟩) 1 1,QQ (QJ ⟨E,0,QK⟩) 2 2] cn from U.o.set (show _=QJ (Obj.cells (#[QY QU d,QQ (QJ ⟨f,0,QK⟩) 1 1,QQ (QJ ⟨E,0,QK⟩) 2 2]) 72 (0,0)) from y) x);clear y x;refine tlB hK V.o.u λL=>?_;clear hK K;refine⟨VX (by kernel_rfl) ?_ _⟩;clear L
    go_wp2_with (first
     | ((with_reducible refine d_ (some 50) ?_);refine G_ rfl 72 _ rfl z2 0 rfl (#[QY QU d,QQ (QJ ⟨f,0,QK⟩) 1 1,QQ (QJ ⟨E,0,QK⟩) 2 2]) _ (m_ V.o.n) underlying72 rfl (M_ d _ _) ?_)
     | ((with_reducible refine w_ 4 ?_);refine o_ rfl 72 _ _ rfl z1 (#[QY QU 0,QQ QK 0 0,QQ QK 0 0]) (#[QY QU d,QQ (QJ ⟨f,0,QK⟩) 1 1,QQ (QJ ⟨E,0,QK⟩) 2 2]) 72 rfl rfl V.o.m rfl (M_ d _ _) (do_ d _ _ _ _ _ _) ?_;intro d1 a3 a2))
    refine ZV (v:=.agg (#[QY QU d,QQ (QJ ⟨f,0,QK⟩) 1 1,QQ (QJ ⟨E,0,QK⟩) 2 2])) (ax_ results73 (g:=z1) rfl a3 _ underlying72 rfl (M_ d _ _)) rfl ?_;exact d0_ bk.o ⟨by have:=J.o;omega,by have:=J.o;omega⟩ V.o a2 (λW F hF hW=>vm_ (R:=PaR) hW (by rw[<-B.o];rfl) (by rw[<-bs.o];rfl) hF ⟨QQ QK 0 0,B.o.symm,e9_ W F rfl QK 0⟩ ⟨QQ QK 0 0,bs.o.symm,e9_ W F rfl QK 0⟩) (by rw[lz_ d (O.o.trans M)]) (by rw[lz_ d (O.o.trans M),Ht.o,He.o])
   ·have bh:=M;have d3:((k:Int)==10)=false:=bN_.2 bh;clear M;obtain⟨cp,B⟩:=h9_ ⟨⟨#[118]⟩,v⟩ s;have a1:=q_ (λW:QV=>(show (Instr.build 69 #[(0,QZ ⟨#[118]⟩),(1,.agg u)]).run QW W = .ok (.agg cp) W from by rw[<-Hu.o,<-B.o];exact en_ _ _ _ _));have cy:=q_ (show (Tryz.prog.info? 39).map (·.size)=QJ u.size from ai_.trans (congrArg QJ Hu.size.symm));obtain⟨t,b9⟩:=a_ w4.heap.size;obtain⟨ao,b1⟩:=a_ (w4.alloc (XX #[QZ ⟨#[86,97,108]⟩] 9));have bx:=q_ (show (UQ 67 1 #[(0,QZ ⟨#[86,97,108]⟩)]).run QW w4 = .ok (QQ (QJ ⟨t,0,QK⟩) 1 1) ao from by rw[<-b9.o,<-b1.o];exact dr_ _ _);have ac:=q_ (show NdI w4 z z1 z2 u (QJ (t,⟨#[86,97,108]⟩)) QK #[QY QU d,QQ QK 0 0,QQ QK 0 0] ao from by rw[<-b1.o,<-b9.o];exact bl.o.lab1 _)
    go_wp2_with (first
     | ((with_reducible refine d_ (some 10) ?_);refine b6_ rfl 67 1 _ rfl #[(0,QZ ⟨#[86,97,108]⟩)] (by kernel_rfl) (QQ (QJ ⟨t,0,QK⟩) 1 1) ao bx.o ?_)
     | ((with_reducible refine d_ (some 13) ?_);refine W_ rfl 69 _ rfl #[(0,QZ ⟨#[118]⟩),(1,.agg u)] (by kernel_rfl) (.agg cp) (a1.o _) ?_)
     | ((with_reducible refine d_ (some 12) ?_);refine G_ rfl 39 _ rfl z 0 rfl u _ (m_ br.o.u) YV rfl cy.o ?_)
     | ((with_reducible refine d_ (some 14) ?_);refine b6_ rfl 70 1 _ rfl #[(0,.agg cp)] (by kernel_rfl) (QQ (QJ ⟨G,0,QK⟩) 1 1) au c1.o ?_)
     | ((with_reducible refine w_ 11 ?_);refine dg_ rfl 67 _ _ rfl z2 1 (#[QY QU d,QQ QK 0 0,QQ QK 0 0]) 72 (QQ (QJ ⟨t,0,QK⟩) 1 1) rfl rfl (bi_ ac.o.n (by show 1<3;omega) _ _ _) ac.o.n ?_;intro ai y x;have br:=q_ (show NdI w4 z z1 z2 u (QJ (t,⟨#[86,97,108]⟩)) QK #[QY QU d,QQ (QJ ⟨t,0,QK⟩) 1 1,QQ QK 0 0] ai from ac.o.set (show _=QJ (Obj.cells (#[QY QU d,QQ (QJ ⟨t,0,QK⟩) 1 1,QQ QK 0 0]) 72 (0,0)) from y) x);clear y x;obtain⟨G,bd⟩:=a_ ai.heap.size;obtain⟨au,b5⟩:=a_ (ai.alloc (XX cp 69));have c1:=q_ (show (UQ 70 1 #[(0,.agg cp)]).run QW ai = .ok (QQ (QJ ⟨G,0,QK⟩) 1 1) au from by rw[<-bd.o,<-b5.o,<-B.o];exact er_ _ _ _);have ad:=q_ (show NdI w4 z z1 z2 u (QJ (t,⟨#[86,97,108]⟩)) (QJ (G,cp)) #[QY QU d,QQ (QJ ⟨t,0,QK⟩) 1 1,QQ QK 0 0] au from by rw[<-b5.o,<-bd.o];exact br.o.pair1 _))
     | ((with_reducible refine w_ 15 ?_);refine dg_ rfl 70 _ _ rfl z2 2 (#[QY QU d,QQ (QJ ⟨t,0,QK⟩) 1 1,QQ QK 0 0]) 72 (QQ (QJ ⟨G,0,QK⟩) 1 1) rfl rfl (b0_ ad.o.n (by show 2<3;omega) _ _ _) ad.o.n ?_;intro co y x;have ae:=q_ (show NdI w4 z z1 z2 u (QJ (t,⟨#[86,97,108]⟩)) (QJ (G,cp)) #[QY QU d,QQ (QJ ⟨t,0,QK⟩) 1 1,QQ (QJ ⟨G,0,QK⟩) 1 1] co from ad.o.set (show _=QJ (Obj.cells (#[QY QU d,QQ (QJ ⟨t,0,QK⟩) 1 1,QQ (QJ ⟨G,0,QK⟩) 1 1]) 72 (0,0)) from y) x);clear y x)
     | ((with_reducible refine d_ (some 50) ?_);refine G_ rfl 72 _ rfl z2 0 rfl (#[QY QU d,QQ (QJ ⟨t,0,QK⟩) 1 1,QQ (QJ ⟨G,0,QK⟩) 1 1]) _ (m_ ae.o.n) underlying72 rfl (M_ d _ _) ?_)
     | ((with_reducible refine w_ 4 ?_);refine o_ rfl 72 _ _ rfl z1 (#[QY QU 0,QQ QK 0 0,QQ QK 0 0]) (#[QY QU d,QQ (QJ ⟨t,0,QK⟩) 1 1,QQ (QJ ⟨G,0,QK⟩) 1 1]) 72 rfl rfl ae.o.m rfl (M_ d _ _) (do_ d _ _ _ _ _ _) ?_;intro d2 a3 a2))
    refine ZV (v:=.agg (#[QY QU d,QQ (QJ ⟨t,0,QK⟩) 1 1,QQ (QJ ⟨G,0,QK⟩) 1 1])) (ax_ results73 (g:=z1) rfl a3 _ underlying72 rfl (M_ d _ _)) rfl ?_;exact d0_ bk.o ⟨by have:=J.o;omega,by have:=J.o;omega⟩ ae.o a2 (λW F hF hW=>h2_ (R:=PaR) hW (by rw[<-B.o];rfl) hF ⟨s,B.o.symm,ch.o W F⟩) (by rw[l0_ d (λh=>c4 (O.o.symm.trans h)) (λh=>c5 (O.o.symm.trans h)) (λh=>bh (O.o.symm.trans h))]) (by rw[l0_ d (λh=>c4 (O.o.symm.trans h)) (λh=>c5 (O.o.symm.trans h)) (λh=>bh (O.o.symm.trans h))])
end
section
open Go Go.RowKit Go.Shelf Go.Lib Go.Sort Go.Proofs
def v3_:bu_ g_:=λ_ _ v c=>af_ v/\cg_ v/\∃A cap,c=c_ v (QQ A 0 cap)
theorem v3_.good:v3_.Good:=⟨λh _=>h,λh _=>h⟩
structure ItV where
 v:g_
 s:XJ
 sc:af_ v
 fit:cg_ v
 sl:∃A cap,s = QQ A 0 cap
instance:Inhabited ItV:=⟨⟨y4_,QQ QK 0 0,jv_,y5_,⟨QK,0,rfl⟩⟩⟩
def wr_ (x:ItV):List XJ:=(c_ x.v x.s).toList
theorem G5_ (x:ItV):(wr_ x).length=6:=rfl
theorem ws_ (x:ItV):(wr_ x).toArray=c_ x.v x.s:=by unfold wr_;rw[Array.toArray_toList]
theorem wt_ (x:ItV):∀v∈wr_ x,v.oneCell'=true:=by obtain⟨A,cap,e⟩:=x.sl;intro v d;unfold wr_ c_ at d;rw[e]at d;simp only[List.mem_cons,List.not_mem_nil,or_false]at d;rcases d with rfl | rfl | rfl | rfl | rfl | rfl<;>rfl
theorem it6 {w:QV} {F:Nat->Prop} {x:g_} {c:Array XJ} (h:v3_ w F x c):∃d:ItV,wr_ d=c.toList/\d.v=x:=by obtain⟨h1,h2,A,cap,rfl⟩:=h;exact⟨⟨x,QQ A 0 cap,h1,h2,⟨A,cap,rfl⟩⟩,rfl,rfl⟩
theorem C2_ (a b:g_) (L:af_ a) (sa sb:XJ) (w:QV) (G:cg_ a) (J:cg_ b) (A:ad_ w) (B:ci_ w) :
    Calls QW 67 #[.agg (c_ a sa),.agg (c_ b sb)] w λe w'=>e = YQ (QY QU (y_ a b))/\XW w.heap.size w w':=by
 have g:=λ(W:QV) (hb:XW w.heap.size w W)=>xy_ a b sa sb W L.2.1 G J (j_ A hb) (K_ B hb);unfold b7_ at g;obtain⟨r,C⟩:=a_ (y_ a b);rw[C.o]at g ⊢;obtain⟨c,x⟩:=L_ a sa;obtain⟨d,y⟩:=L_ b sb;rw[x.o,y.o]at g ⊢;have t:=q_ g;clear g;obtain⟨z,v⟩:=a_ w.heap.size;obtain⟨z1,k⟩:=a_ (w.heap.size+1);obtain⟨j,f⟩:=a_ ((w.alloc (XX c 39)).alloc (XX d 39));have i:=q_ (show XW w.heap.size w j from by rw[<-f.o];exact ((XV w.heap.size w).alloc (XK _) _).alloc (by simp) _);have p:=q_ (show j.heap[z]?=QJ (XX c 39 (0,0)) from by rw[<-f.o,<-v.o,heap_alloc_old _ _ (by simp)];exact XU w _);have q:=q_ (show j.heap[z1]?=QJ (XX d 39 (0,0)) from by rw[<-f.o,<-k.o];have h:=XU (w.alloc (XX c 39)) (XX d 39);rwa [show (w.alloc (XX c 39)).heap.size=w.heap.size+1 from by simp]at h);have D:=q_ (show (Tryz.prog.info? 39).map (·.size)=QJ c.size from ai_.trans (congrArg QJ x.size.symm));have E:=q_ (show (Tryz.prog.info? 39).map (·.size)=QJ d.size from ai_.trans (congrArg QJ y.size.symm));go_enter func67,ntmps67
 go_upto_region 1 with fail;rw[f.o,k.o,v.o];clear f
 go_wp2_with (first
  | ((with_reducible refine d_ (some 5) ?_);refine G_ rfl 39 _ rfl z 0 rfl c _ (m_ p.o) YV rfl D.o ?_)
  | ((with_reducible refine d_ (some 6) ?_);refine G_ rfl 39 _ rfl z1 0 rfl d _ (m_ q.o) YV rfl E.o ?_))
 refine (t.o j i.o).mono ?_;rintro e w2 ⟨rfl,hb⟩;have m:=q_ (i.o.trans (hb.mono i.o.size));clear hb;go_wp2_with fail;go_ret;exact⟨rfl,m.o⟩
theorem E0_ (w0:QV) {w:QV} {F:Nat->Prop} {l:List g_} {s:XJ} (h:x_ 39 6 v3_ w F l s) (f:l.length<=100000000) (m:∀b,F b->b<w.heap.size)
    (hb:XW w0.heap.size w0 w) (i:∀b,s.ownBlock=QJ b->w0.heap.size<=b) (j:ad_ w0) (k:ci_ w0) :
    Calls QW 66 #[s,.func (.func 67) #[] #[]] w λe w'=>e = YQ (ZJ #[])/\∃g:List g_,g.Perm l/\g.Pairwise (λa b=>¬y_ b a<0)/\x_ 39 6 v3_ w' F g s/\Turn (λb=>s.ownBlock=QJ b) w w':=by
 refine tp_ Tryz.sortV v3_.good (by decide) isAgg39 sizeOf39 wr_ ItV.v G5_ wt_ it6 y_ (vo_ dp_ ItV.v) 67 #[] (enters_of func67 (by kernel_rfl) rfl) (λx y V ht=>?_) h f m;rw[ws_,ws_];have d:=h_ hb ht i;exact C2_ x.v y.v x.sc x.s y.s V x.fit y.fit (j_ j d) (K_ k d)
theorem o5_ (r n cap a:Nat) (g:a<n) (w:QV):(Instr.indexAt 93 (QQ (QJ ⟨r,0,QK⟩) n cap) (QY QU (a:Nat))).run QW w = .ok (YK (QJ ⟨r,a*18,QK⟩)) w:=by
 have e:(0:Int)<=a:=by omega
 have f:(a:Int)<n:=by omega
 have d:(⟨r,0,QK⟩:Addr).add (a*18)=⟨r,a*18,QK⟩:=by unfold Addr.add;split<;>simp_all
 go_simp
structure StC (h c r n cap g:Nat) (W:Way) (cs:Nat->Array XJ) (w:QV):Prop where
 ph:w.cell? ⟨h,0,QK⟩=QJ (YK (QJ ⟨c,0,QK⟩))
 ps:w.cell? ⟨c,0,QK⟩=QJ (QQ (QJ ⟨r,0,QK⟩) n cap)
 row:∀a,a<n->∀j,j<18->w.cell? ⟨r,a*18+j,QK⟩=(cs a)[j]?
 way:w.heap[g]?=QJ (XX (gs_ W) 101 (0,0))
theorem StC.on {h c r n cap g:Nat} {W:Way} {cs:Nat->Array XJ} {w w':QV} (d:StC h c r n cap g W cs w) (h1:h<w.heap.size) (h2:c<w.heap.size) (e:r<w.heap.size) (hb:XW w.heap.size w w'):StC h c r n cap g W cs w':=
 ⟨(hb.cell (p:=⟨h,0,QK⟩) h1).trans d.ph,(hb.cell (p:=⟨c,0,QK⟩) h2).trans d.ps,λa f j i=>(hb.cell (p:=⟨r,a*18+j,QK⟩) e).trans (d.row a f j i),(hb.block g (b_ d.way)).trans d.way⟩
theorem StC.drew {h c r n cap g:Nat} {W:Way} {cs:Nat->Array XJ} {w:QV} (d:StC h c r n cap g W cs w):StC h c r n cap g W cs w.drew:=⟨d.ph,d.ps,d.row,d.way⟩
theorem by_ {w:QV} {p:Addr} {v:XJ} (h:w.cell? p=QJ v):p.block<w.heap.size:=World.block_lt_of_cell? _ _ h
theorem q3_ {w:QV} {r o:Nat} {c:Array XJ} (h:∀j,j<18->w.cell? ⟨r,o+j,QK⟩=c[j]?) (f:c.size=18):w.rangeAt r o c.toList:=λj v e=>by
 have d:j<c.toList.length:=(List.getElem?_eq_some_iff.1 e).1;rw[Array.length_toList,f]at d;rw[h j d,<-Array.getElem?_toList];exact e
theorem C1_ (W:Way) (hW:W.Ok) (h c r n cap g a b:Nat) (cs:Nat->Array XJ) (x y:e_) (sx U:Nat->XJ) (w:QV) (ha:a<n) (hb:b<n) (O:cs a=N_ x sx) (T:cs b=N_ y U) (hs:StC h c r n cap g W cs w)
    (kx:∀n,v1_ (x.get n)) (fy:∀n,cg_ (y.get n)) (G:ad_ w) (J:ci_ w) :
    Calls QW 55 #[QY QU (a:Nat),QY QU (b:Nat),YK (QJ ⟨h,0,QK⟩),YK (QJ ⟨g,0,QK⟩)] w (rl_ W x y w):=by
 have m:=q_ (λ(W':QV) (hb:XW w.heap.size w W')=>mr_ W hW x y sx U W' kx fy (j_ G hb) (K_ J hb));clear kx fy G J hW;unfold rl_ at m ⊢;obtain⟨v,Hv⟩:=a_ (s_ W x y);rw[Hv.o]at m ⊢;clear Hv;obtain⟨c1,t⟩:=ba_ x sx;obtain⟨c2,A⟩:=ba_ y U;rw[t.o]at m O;rw[A.o]at m T;have Z1:=q_ t.size;have Z2:=q_ A.size;have C:=q_ hs;have M:=q_ ha;have V:=q_ hb;have N:=q_ O;have Z:=q_ T;have Q1:=q_ (fz_.trans (congrArg QJ t.size.symm));have Q2:=q_ (fz_.trans (congrArg QJ A.size.symm));clear hs ha hb O T t A;have L:gs_ W=#[QY QU (W.i:Nat),QY QU (W.j:Nat),QY QU (W.k:Nat)]:=rfl;rw[<-L]at m;obtain⟨wc,B⟩:=a_ (gs_ W);have ZW:=q_ (show wc.size=3 from by rw[<-B.o];rfl);rw[B.o]at m;have Y:=q_ (λ(W':QV) (h:StC h c r n cap g W cs W')=>(show W'.heap[g]?=QJ (XX wc 101 (0,0)) from by rw[<-B.o];exact h.way));clear L B;go_enter func55,ntmps55
 go_upto_region 1 with fail;refine UZ (S:=λW'=>StC h c r n cap g W cs W') (by kernel_rfl) C.o.drew λd=>?_;refine H_.o ?_;refine tkW 0 7 (YK (QJ ⟨c,0,QK⟩)) d (λw f=>?_) λd=>?_
 ·have p:=f.ph;unfold z_;go_simp
 (try simp only[VK,aT,aZ,aS]);refine tkV 1 8 (YK (QJ ⟨c,0,QK⟩)) d λd=>?_;(try simp only[VK,aT,aZ,aS]);refine tkV 2 9 (YK (QJ ⟨c,0,QK⟩)) d λd=>?_;(try simp only[VK,aT,aZ,aS]);refine tkW 3 10 (QQ (QJ ⟨r,0,QK⟩) n cap) d (λw f=>?_) λd=>?_
 ·have p:=f.ps;unfold z_;go_simp
 (try simp only[VK,aT,aZ,aS]);refine tkV 4 11 (QY QU (a:Nat)) d λd=>?_;(try simp only[VK,aT,aZ,aS]);refine tkW 5 12 (YK (QJ ⟨r,a*18,QK⟩)) d (λw f=>?_) λd=>?_
 ·exact k_ (o5_ r n cap a M.o w)
 (try simp only[VK,aT,aZ,aS]);refine tkW 6 13 (.agg c1) d (λw f=>?_) λd=>?_
 ·have p:=q3_ (f.row a M.o) (show (cs a).size=18 from by rw[N.o];exact Z1.o);rw[N.o]at p;have q:=run_loadAt_mid (P:=QW) w r (a*18) 99 c1.toList _ p underlying99 rfl (by rw[Array.length_toList];exact Q1.o);rw[Array.toArray_toList]at q;exact k_ q
 (try simp only[VK,aT,aZ,aS]);refine tkW 7 14 (YK (QJ ⟨c,0,QK⟩)) d (λw f=>?_) λd=>?_
 ·have p:=f.ph;unfold z_;go_simp
 (try simp only[VK,aT,aZ,aS]);refine tkV 8 15 (YK (QJ ⟨c,0,QK⟩)) d λd=>?_;(try simp only[VK,aT,aZ,aS]);refine tkV 9 16 (YK (QJ ⟨c,0,QK⟩)) d λd=>?_;(try simp only[VK,aT,aZ,aS]);refine tkW 10 17 (QQ (QJ ⟨r,0,QK⟩) n cap) d (λw f=>?_) λd=>?_
 ·have p:=f.ps;unfold z_;go_simp
 (try simp only[VK,aT,aZ,aS]);refine tkV 11 18 (QY QU (b:Nat)) d λd=>?_;(try simp only[VK,aT,aZ,aS]);refine tkW 12 19 (YK (QJ ⟨r,b*18,QK⟩)) d (λw f=>?_) λd=>?_
 ·exact k_ (o5_ r n cap b V.o w)
 (try simp only[VK,aT,aZ,aS]);refine tkW 13 20 (.agg c2) d (λw f=>?_) λd=>?_
 ·have p:=q3_ (f.row b V.o) (show (cs b).size=18 from by rw[Z.o];exact Z2.o);rw[Z.o]at p;have q:=run_loadAt_mid (P:=QW) w r (b*18) 99 c2.toList _ p underlying99 rfl (by rw[Array.length_toList];exact Q2.o);rw[Array.toArray_toList]at q;exact k_ q
 (try simp only[VK,aT,aZ,aS]);refine tkW 14 21 (.agg wc) d (λw f=>?_) λd=>?_
 ·exact k_ (cb_ (Y.o w f) 101 _ underlying101 rfl (by rw[ZW.o];kernel_rfl))
 (try simp only[VK,aT,aZ,aS]);refine tlC 15 λK hK=>?_;go_simp;refine (m.o w.drew (XV _ _).drew).mono ?_;rintro e w2 ⟨rfl,E⟩;have D:=q_ (show XW w.heap.size w w2 from a1_ E);have X:=q_ (C.o.on (by_ C.o.ph) (by_ C.o.ps) (by have:=C.o.row a M.o 0 (by omega);exact by_ (p:=⟨r,a*18+0,QK⟩) (this.trans (by rw[N.o];exact Array.getElem?_eq_getElem (by rw[Z1.o];omega)))) D.o);clear E;dsimp only;refine hK.out _ _ X.o λd=>?_;clear hK K;(try simp only[VK,aT,aZ,aS]);refine tkV 16 6 (QY QU v) d λd=>?_;(try simp only[VK,aT,aZ,aS]);refine⟨VX (by kernel_rfl) ?_ _⟩;clear d;go_wp2_with fail;go_ret;exact⟨rfl,D.o⟩
def ixC (d:List Nat):List XJ:=d.map λk=>Value.int QU (k:Nat)
theorem mk_ {I:Type} [Inhabited I] {enc:I->XJ} {w:QV} {g n:Nat} {d:Array I} {os:Array Obj}:Turn (λb=>b=g) w (sortWorld enc w g 0 n d os):=by refine⟨rfl,rfl,rfl,by unfold sortWorld;rw[Go.Sort.size_grow,size_putRow];show w.heap.size<=w.heap.size+_;omega,λi hi f=>?_⟩;unfold sortWorld;rw[Go.Sort.heap_grow_old _ _ (by rw[size_putRow];exact hi)];have:g≠i:=λe=>f e.symm;simp[putRow,mapBlock,Sort.ahead,Array.getElem?_modify,this]
theorem A6_ (W:Way) (hW:W.Ok) (T:List e_) (h c r n cap g:Nat) (cs:Nat->Array XJ) (w0:QV) {w:QV} {f:List Nat} {s:XJ} (B:T.length=n)
    (a2:∀a t,T[a]?=QJ t->cj_ t/\(∀n,cg_ (t.get n))/\∃ss,cs a=N_ t ss) (G:w.ownsRow 0 3 1 s f.length (ixC f)) (a5:∀k,k∈f->k<n) (ar:f.length<=100000000) (Y:0<n\/s = QQ QK 0 0)
    (J:StC h c r n cap g W cs w) (hb:XW w0.heap.size w0 w) (ac:∀b,s.ownBlock=QJ b->w0.heap.size<=b) (ab:∀b,s.ownBlock=QJ b->b≠h/\b≠c/\b≠r/\b≠g) (ag:ad_ w0) (ah:ci_ w0) :
    Calls QW 54 #[s,.func (.func 55) #[] #[YK (QJ ⟨h,0,QK⟩),YK (QJ ⟨g,0,QK⟩)]] w λe w'=>e = YQ (ZJ #[])/\∃ix':List Nat,ix'.Perm f /\
     ix'.Pairwise (λa b=>∀s t,T[a]?=QJ s->T[b]?=QJ t->¬s_ W t s<0)/\w'.ownsRow 0 3 1 s ix'.length (ixC ix')/\Turn (λb=>s.ownBlock=QJ b) w w':=by
 rcases G.2 with⟨v,h0⟩ | ⟨b,E,au,v,_,N,a8,aa,ae,aq⟩
 ·subst v;have aj:f=[]:=UK h0;subst aj;refine (AnyF.slices_SortFunc_none { Tryz.sortI with } QK 0 _ w).mono λe w' ⟨v,Z⟩=>⟨v,[],List.Perm.refl _,List.Pairwise.nil,?_,?_⟩
  ·rw[Z];exact G
  ·rw[Z];exact Turn.refl _ _
 ·subst v
  have ak:0<n:=by
   rcases Y with Y | Y
   ·exact Y
   ·cases Y
  have:Inhabited {k:Nat // k<n}:=⟨⟨0,ak⟩⟩;have a7:=b_ N;obtain⟨d,hd⟩:∃d:Array {k:Nat // k<n},d.toList=f.pmap (λk hk=>⟨k,hk⟩) a5:=⟨(f.pmap (λk hk=>⟨k,hk⟩) a5).toArray,by simp⟩;have o:d.size=f.length:=by rw[<-Array.length_toList,hd];simp
  have a3:d.toList.map (·.1)=f:=by rw[hd];simp[List.map_pmap]
  have hH:Holds (λx:{k:Nat // k<n}=>Value.int QU ((x.1:Nat):Int)) w b 0 d:=by
   intro j V;refine⟨?_,by simp[World.frozen?,N]⟩;have h2:=G.cellAt j (by rw[o]at V;omega);rw[VQ,h2,getElem!_pos d j V];unfold ixC;have h3:f[j]?=QJ (d[j].1):=by rw[<-a3,List.getElem?_map];simp[V]
   rw[List.getElem?_map,h3];rfl
  have a0:d.size<4611686018427387904:=by rw[o];omega
  have a9:CmpLays1 QW 55 #[YK (QJ ⟨h,0,QK⟩),YK (QJ ⟨g,0,QK⟩)] (λx:{k:Nat // k<n}=>Value.int QU ((x.1:Nat):Int)) (λx y=>s_ W (T[x.1]'(by rw[B];exact x.2)) (T[y.1]'(by rw[B];exact y.2))) b 0 d.size w:=λm os dk _ x y=>by
   have ht:Turn (λi=>(Value.slice (QJ ⟨b,0,QK⟩) f.length E).ownBlock=QJ i) w (sortWorld (λx:{k:Nat // k<n}=>Value.int QU ((x.1:Nat):Int)) w b 0 m dk os):=mk_.mono λi _ hi=>by rw[hi];rfl
   have a1:=h_ hb ht ac;have M:=ab b rfl;obtain⟨ap,f1,s1,e1⟩:=a2 x.1 _ (XQ (by rw[B];exact x.2));obtain⟨av,f2,s2,e2⟩:=a2 y.1 _ (XQ (by rw[B];exact y.2));have hr:r<w.heap.size:=by_ (p:=⟨r,x.1*18+0,QK⟩) ((J.row x.1 x.2 0 (by omega)).trans (by rw[e1];exact Array.getElem?_eq_getElem (by rw[gd_];omega)));have L:∀q,q≠b->¬(Value.slice (QJ ⟨b,0,QK⟩) f.length E).ownBlock=QJ q:=λq hq e=>by injection e with e;exact hq e.symm
   have ao:StC h c r n cap g W cs (sortWorld (λx:{k:Nat // k<n}=>Value.int QU ((x.1:Nat):Int)) w b 0 m dk os):=
    ⟨(ht.cell (p:=⟨h,0,QK⟩) (by_ J.ph) (L h (λe=>M.1 e.symm))).trans J.ph,(ht.cell (p:=⟨c,0,QK⟩) (by_ J.ps) (L c (λe=>M.2.1 e.symm))).trans J.ps,
     λa ha j V=>(ht.cell (p:=⟨r,a*18+j,QK⟩) hr (L r (λe=>M.2.2.1 e.symm))).trans (J.row a ha j V),ht.heap J.way (L g (λe=>M.2.2.2 e.symm))⟩
   refine (Dn.calls_drawn (C1_ W hW h c r n cap g x.1 y.1 cs _ _ s1 s2 _ x.2 y.2 e1 e2 ao (λq=>⟨(ap.get q).2.1,f1 q⟩) f2 (j_ ag a1) (K_ ah a1))).mono λe w' ⟨⟨v,ad⟩,af⟩=>⟨v,?_⟩;exact Dn.grow_of_below ad (af (by rw[v];exact λh=>by cases h))
  have O:=Any.slices_SortFunc Tryz.sortI (λx:{k:Nat // k<n}=>Value.int QU ((x.1:Nat):Int)) (λ_=>rfl) (λx y=>s_ W (T[x.1]'(by rw[B];exact x.2)) (T[y.1]'(by rw[B];exact y.2))) (vo_ (az_ W) λx:{k:Nat // k<n}=>T[x.1]'(by rw[B];exact x.2)) 55 _ b 0 E d w (enters_of func55 (by kernel_rfl) rfl) a9 hH a7 a0;rw[o]at O;refine O.mono λe w' ⟨v,A,m,os,hp,am,Z⟩=>⟨v,A.toList.map (·.1),?_,?_,?_,?_⟩
  ·have a6:=hp.2.2;have e1:(A.extract 0 f.length).toList=A.toList:=by rw[show f.length=A.size by rw[hp.1,o]];simp
   have e2:(d.extract 0 f.length).toList=d.toList:=by rw[show f.length=d.size by rw[o]];simp
   rw[e1,e2]at a6;have:=a6.map (·.1);rwa [a3]at this
  ·rw[List.pairwise_iff_getElem];intro i j a4 X ai s t C D;simp only[List.length_map,Array.length_toList]at a4 X;have h2:=am i j (Nat.zero_le _) ai (by rw[<-o,<-hp.1];exact X);rw[getElem!_pos _ i a4,getElem!_pos _ j X]at h2;unfold ltOf at h2;simp only[List.getElem_map,Array.getElem_toList]at C D;rw[XQ (by rw[B];exact (A[i]).2)]at C;rw[XQ (by rw[B];exact (A[j]).2)]at D;injection C with C;injection D with D;rw[<-C,<-D];simpa using h2
  ·have U:A.size=f.length:=by rw[hp.1,o]
   have hl:(A.toList.map (·.1)).length=f.length:=by rw[List.length_map,Array.length_toList,U]
   rw[hl,Z];have:=Ch_ (e:=3) (m:=m) (os:=os) (sz:=1) (λx:{k:Nat // k<n}=>Value.int QU ((x.1:Nat):Int)) (d:=A) N a8 aa ae (by rw[U,Nat.mul_one]);unfold ixC;rw[List.map_map];exact this
  ·rw[Z];exact mk_.mono λi _ hi=>by rw[hi];rfl
end
section
open Go Go.RowKit Go.Maps
structure RwM (w:QV) (b cap n:Nat) (cs:Nat->Array XJ) (wx:QV):Prop where
 turn:Turn (λq=>q=b) w wx
 blk:∃cur,wx.heap[b]?=QJ (XX cur 99 (0,0))/\cur.size=cap*18/\∀a,a<n->∀j,j<18->cur[a*18+j]?=(cs a)[j]?
section
variable {w wx w':QV} {b cap n a:Nat} {cs:Nat->Array XJ}
theorem RwM.drew (h:RwM w b cap n cs wx):RwM w b cap n cs wx.drew:=⟨h.turn.drew,h.blk⟩
theorem RwM.on (h:RwM w b cap n cs wx) (hb:XW wx.heap.size wx w'):RwM w b cap n cs w':=by obtain⟨d,h1,h2,e⟩:=h.blk;exact⟨h.turn.trans ⟨hb.os,hb.tape,hb.output,hb.size,λk f _=>hb.block k f⟩,d,(hb.block b (b_ h1)).trans h1,h2,e⟩
theorem RwM.range (h:RwM w b cap n cs wx) (f:a<n) (g:(cs a).size=18):wx.rangeAt b (a*18) (cs a).toList:=by obtain⟨d,h1,h2,e⟩:=h.blk;refine q3_ (λj i=>?_) g;rw[UU wx b (a*18+j) d _ _ h1,e a f j i]
theorem RwM.there (h:RwM w b cap n cs wx) (g:a<n) (k:n<=cap):wx.there b (a*18) 18:=by
 obtain⟨d,h1,h2,f⟩:=h.blk;intro j i;have e:a*18+j<d.size:=by rw[h2];omega
 exact⟨by rw[UU wx b (a*18+j) d _ _ h1,Array.getElem?_eq_getElem e];rfl,frozen_of_row _ _ _ _ _ h1⟩
theorem RwM.store (h:RwM w b cap n cs wx) {c:Array XJ} (p:c.size=18) (v:n<=cap) (t:a<n):RwM w b cap n (λi=>if i=a then c else cs i) (wx.setCells b (a*18) c.toList):=by
 obtain⟨d,h1,h2,o⟩:=h.blk;obtain⟨c',g,k,m⟩:=hh_ c.toList (a*18) h1;refine⟨h4_ (S:=λq=>q=b) b (.inr rfl) _ _ h.turn,c',g,by rw[k,h2],λi hi j r=>?_⟩;rw[m,Array.length_toList,p];by_cases e:i=a
 ·subst e;have f:i*18+j<d.size:=by rw[h2];omega
  rw[iP_ ⟨by omega,by omega,f⟩,iP_ rfl,Nat.add_sub_cancel_left,Array.getElem?_toList]
 ·rw[iN_ (by omega),iN_ e];exact o i hi j r
theorem RwM.clear (h:RwM w b cap n cs wx) {k:Nat} (r:k<=n) (d:List XJ):RwM w b cap k cs (wx.setCells b (k*18) d):=by obtain⟨p,h1,h2,m⟩:=h.blk;obtain⟨c',e,f,g⟩:=hh_ d (k*18) h1;refine⟨h4_ (S:=λq=>q=b) b (.inr rfl) _ _ h.turn,c',e,by rw[f,h2],λi hi j o=>?_⟩;rw[g,iN_ (by omega)];exact m i (by omega) j o
theorem RwM.congr (h:RwM w b cap n cs wx) {d:Nat->Array XJ} (g:∀i,i<n->cs i=d i):RwM w b cap n d wx:=by obtain⟨e,h1,h2,f⟩:=h.blk;exact⟨h.turn,e,h1,h2,λi hi j k=>by rw[<-g i hi];exact f i hi j k⟩
def ElT (K:List e_) (cs:Nat->Array XJ):Prop:=∀i t,K[i]?=QJ t->cj_ t/\(∀n,cg_ (t.get n))/\∃ss:Nat->XJ,(∀n,n<3->∃A cap,ss n = QQ A 0 cap)/\cs i=N_ t ss
theorem RwM.own (h:RwM w b cap n cs wx) {K:List e_} (m:ElT K cs) (o:K.length=n) (y:n<=cap) (v:cap<=maxLen) {F:Nat->Prop} (r:F b):x_ 99 18 TrS wx F K (QQ (QJ ⟨b,0,QK⟩) n cap):=by
 obtain⟨j,h1,h2,p⟩:=h.blk
 have d:∀i,i<n->(cs i).size=18:=λi hi=>by
  obtain⟨_,_,ss,_,e⟩:=m i _ (XQ (by rw[o];exact hi));rw[e];rfl
 subst o;refine⟨cs,⟨ap_ d,.inr ⟨b,cap,j,rfl,Nat.zero_le _,h1,y,v,h2,?_⟩⟩,d,λg f=>by injection f with f;rw[<-f];exact r,λi x A=>m i x A⟩;apply List.ext_getElem?;intro t;by_cases ht:t<K.length*18
 ·have hi:t / 18<K.length:=by omega
  have k:=cr_ d hi (Nat.mod_lt t (by decide:0<18));rw[show t / 18*18+t % 18=t by omega]at k;rw[List.getElem?_take_of_lt ht,k,Array.getElem?_toList];have q:=p (t / 18) hi (t % 18) (Nat.mod_lt t (by decide:0<18));rwa [show t / 18*18+t % 18=t by omega]at q
 ·rw[List.getElem?_take_eq_none (by omega),ZK (by rw[ap_ d];omega)]
end
theorem O0_ {P:Program} {e:Array Oper} {rest:List Oper} {op:Oper} {d:Act} {w wx:QV} {Q:Exit->Act->QV->Prop} {b cap n:Nat} {cs:Nat->Array XJ} (k:op.guard=QK) (ty:TypeId) (x y:Operand) (o:op.op = .store ty x y) (a:Nat) (c:Array XJ)
    (p:d.eval x = YK (QJ ⟨b,a*18,QK⟩)) (q:d.eval y = .agg c) (g:RwM w b cap n cs wx) (j:a<n) (m:n<=cap) (f:c.size=18) (hi:(P.info? ty).map (·.size)=some 18) (h1:c.all (·.oneCell')=true)
    (h:∀w',RwM w b cap n (λi=>if i=a then c else cs i) w'->wpList P e Q rest (d.put op.dst undef) w'):wpList P e Q (op::rest) d wx:=
 wpList_store_mid k ty x y o b (a*18) c p q (by rw[f];exact g.there j m) (by rw[f];exact hi) h1 (h _ (g.store f m j))
theorem Jg_ {w:QV} {F:Nat->Prop} {L:List e_} {b n cap:Nat} (h:x_ 99 18 TrS w F L (QQ (QJ ⟨b,0,QK⟩) n cap)):∃cs,ElT L cs/\RwM w b cap n cs w/\L.length=n/\n<=cap/\cap<=maxLen/\F b:=by
 obtain⟨A,cp,e⟩:=h.form;injection e with _ e _;obtain⟨cs,d,o,p,t⟩:=h;rcases d.2 with⟨h0,_⟩ | ⟨g,v,f,h0,_,q,h1,h2,k,m⟩
 ·cases h0
 ·injection h0 with h0 h5 h6';injection h0 with h0;injection h0 with h0;subst h0 h6';refine⟨cs,t,⟨Turn.refl _ _,f,q,k,λa x j r=>?_⟩,e.symm,by omega,h2,p b rfl⟩;have i:=cr_ o (show a<L.length by omega) r;rw[<-m,List.getElem?_take_of_lt (by omega),Array.getElem?_toList]at i;exact i
theorem ll_ {o:e_->e_->Int} {L:List e_} {m:Nat} {x y:e_} (f:L[m+1]?=QJ x) (e:L[m]?=QJ y):cpt o (L.take (m+2))=cpt o (L.take (m+1))++(if o x y=0 then [] else [x]):=by
 cases L with
 | nil=>simp at f
 | cons a r=>
  have h1:r[m]?=QJ x:=by simpa using f
  rw[List.take_succ_cons,List.take_succ_cons];have g:=(List.getElem?_eq_some_iff.1 h1).1;rw[f_ h1];show a::kp_ o a (r.take m++[x])=a::kp_ o a (r.take m)++_;rw[Da_]
  have d:(r.take m).getLastD a=y:=by
   cases m with
   | zero=>simp at e;simpa using e
   | succ m=>
    have h2:r[m]?=QJ y:=by simpa using e
    rw[f_ h2];simp
  rw[d];rfl
theorem Kz_ (o:e_->e_->Int) (L:List e_):(cpt o L).length<=L.length:=by
 cases L with
 | nil=>exact XK _
 | cons a r=>
  show (kp_ o a r).length+1<=r.length+1
  have:∀p,(kp_ o p r).length<=r.length:=by
   induction r with
   | nil=>intro p;exact XK _
   | cons b r d=>
    intro p;unfold kp_;split
    ·exact ZX (d b) (by simp)
    ·have:=d b;simp;omega
  have:=this a;omega
theorem oz_ {P:Program} (w:QV) (b o:Nat) (d:List XJ) (h1:∀j,j<d.length->(w.cell? ⟨b,o+j,QK⟩).isSome=true) (h2:∀j,j<d.length->w.frozen? ⟨b,o+j,QK⟩=false) (f:∀v∈d,v.oneCell'=true) :
    (storeCells ⟨b,o,QK⟩ d).run P w = .ok () (w.setCells b o d):=run_storeCells_cells b o d 0 w (λj e=>h1 j e) (λj e=>h2 j e) f
theorem Oc_ (w:QV):(zeroValue 99).run QW w = .ok (.agg #[QY QU 0,XY false,QY QU 0,QZ ⟨#[]⟩,QZ ⟨#[]⟩,QQ QK 0 0,QY QU 0,XY false,QY QU 0,QZ ⟨#[]⟩,QZ ⟨#[]⟩,QQ QK 0 0,QY QU 0,XY false,QY QU 0,QZ ⟨#[]⟩,QZ ⟨#[]⟩,QQ QK 0 0]) w:=by kernel_rfl
theorem Cy_ {w wx:QV} {b cap n k:Nat} {cs:Nat->Array XJ} (h:RwM w b cap n cs wx) (D:n<=cap) (C:k<n):∃A,∀ty,(Builtin.clear_ #[93] ty #[QQ (QJ ⟨b,k*18,QK⟩) (n-k) (cap-k)]).run QW wx = .ok (ZJ #[]) (wx.setCells b (k*18) A):=by
 obtain⟨f,h1,h2,B⟩:=h.blk;obtain⟨Z,m⟩:∃Z:Array XJ,Z=#[QY QU 0,XY false,QY QU 0,QZ ⟨#[]⟩,QZ ⟨#[]⟩,QQ QK 0 0,QY QU 0,XY false,QY QU 0,QZ ⟨#[]⟩,QZ ⟨#[]⟩,QQ QK 0 0,QY QU 0,XY false,QY QU 0,QZ ⟨#[]⟩,QZ ⟨#[]⟩,QQ QK 0 0]:=⟨_,rfl⟩;have hz:=Oc_ wx;rw[<-m]at hz;have d:Z.size=18:=by rw[m];rfl
 have o:∀v∈Z.toList,v.oneCell'=true:=by rw[m];intro v e;simp only[List.mem_cons,List.not_mem_nil,or_false]at e;rcases e with rfl | rfl | rfl | rfl | rfl | rfl | rfl | rfl | rfl | rfl | rfl | rfl | rfl | rfl | rfl | rfl | rfl | rfl<;>rfl
 have r:(Builtin.zeroCells Z (n-k)).size=(n-k)*18:=by unfold Builtin.zeroCells;simp[d]
 refine⟨(Builtin.zeroCells Z (n-k)).toList,λty=>?_⟩
 have g:=oz_ (P:=QW) wx b (k*18) (Builtin.zeroCells Z (n-k)).toList (λj t=>by
     rw[Array.length_toList,r]at t;have p:k*18+j<f.size:=by rw[h2];omega
     rw[UU wx b (k*18+j) f _ _ h1,Array.getElem?_eq_getElem p];rfl) (λj _=>frozen_of_row _ _ _ _ _ h1) (λv e=>by
     unfold Builtin.zeroCells at e;simp only[Array.toList_map,List.mem_map]at e;obtain⟨i,_,rfl⟩:=e;rw[d,getElem!_pos Z (i % 18) (by rw[d];omega)];exact o _ (by simp))
 obtain⟨q,x⟩:∃q,n-k=q+1:=⟨n-k-1,by omega⟩;rw[x]at g ⊢;have y:=run_underlying (P:=QW) underlying93 wx;unfold Builtin.clear_;simp only[List.getElem?_toArray,List.getElem?_cons_zero,Sem.run_bind,y,Result.andThen_ok,hz,Value.cells,g,Sem.run_pure]
def Fr_ (o:e_->e_->Int) (L:List e_) (F:Nat->Prop) (s:XJ) (w:QV) (e:Ending) (w':QV):Prop:=
 ∃d,e = YQ d/\d.ownBlock=s.ownBlock/\x_ 99 18 TrS w' F (cpt o L) d/\Turn (λb=>s.ownBlock=QJ b) w w'
theorem xb_ (r o n cap a:Nat) (g:a<n) (w:QV):(Instr.indexAt 93 (QQ (QJ ⟨r,o,QK⟩) n cap) (QY QU (a:Nat))).run QW w = .ok (YK (QJ ⟨r,o+a*18,QK⟩)) w:=by
 have e:(0:Int)<=a:=by omega
 have f:(a:Int)<n:=by omega
 have d:(⟨r,o,QK⟩:Addr).add (a*18)=⟨r,o+a*18,QK⟩:=by unfold Addr.add;split<;>simp_all
 go_simp
theorem sm_ {o:e_->e_->Int} {L:List e_} (h:L.length<2):cpt o L=L:=by
 cases L with
 | nil=>rfl
 | cons a r=>
  cases r with
  | nil=>rfl
  | cons b r=>simp only[List.length_cons]at h;omega
theorem we_ (B:Way) (hW:B.Ok) (g:Nat) (w0:QV) {w:QV} {F:Nat->Prop} {L:List e_} {s:XJ} (h:x_ 99 18 TrS w F L s) (a1:L.length<=100000000)
    (ap:XW w0.heap.size w0 w) (am:∀b,s.ownBlock=QJ b->w0.heap.size<=b) (ar:ad_ w0) (au:ci_ w0) (hp:w.heap[g]?=QJ (XX (gs_ B) 101 (0,0))) :
    Calls QW 52 #[s,.func (.func 53) #[] #[YK (QJ ⟨g,0,QK⟩)]] w (Fr_ (s_ B) L F s w):=by
 obtain⟨A,cap,rfl⟩:=h.form;have HO:=q_ h;obtain⟨n,J⟩:=a_ L.length;rw[J.o];rw[J.o]at a1;by_cases av:n<2
 ·have e1:(n:Int)<2:=by omega
  have ad:=q_ (show cpt (s_ B) L=L from sm_ (by rw[J.o];exact av));have HR:=q_ (show Fr_ (s_ B) L F (QQ A n cap) w (YQ (QQ A n cap)) w from ⟨_,rfl,rfl,by rw[ad.o,<-J.o];exact HO.o,Turn.refl _ _⟩);clear av a1 ap am ar au hp h HO ad J;go_enter func52,ntmps52
  go_wp2_with fail;go_ret;exact HR.o
 ·have e1:¬(n:Int)<2:=by omega
  have a2:=HO.o;rw[J.o]at a2;have hA:∃b,A=QJ ⟨b,0,QK⟩:=by obtain⟨cs,bj,_⟩:=a2;obtain⟨b,cp,e,_⟩:=World.ownsRow.form bj (by rw[J.o];omega);injection e with e _ _;exact⟨b,e⟩
  obtain⟨b,rfl⟩:=hA;obtain⟨X,b6,az,bt,aw,aq,ao⟩:=Jg_ a2;have M:=q_ b6;have ah:=q_ az;have af:=q_ (And.intro aw (And.intro aq ao));have bl:=q_ (show 2<=n from by omega);have HL:=q_ (show n<=100000000 from a1)
  have bc:b≠g:=λe=>by
   obtain⟨c4,h1,_⟩:=az.blk;rw[e,hp]at h1;injection h1 with h1;injection h1 with _ h1;exact absurd h1 (by decide)
  have ae:=q_ (λ(V:QV) (ht:Turn (λq=>q=b) w V)=>h_ ap ht (λq hq=>am q (by rw[hq];rfl)))
  have a3:=q_ (λ(V:QV) (ht:Turn (λq=>q=b) w V) (x y:e_) (sx sy:Nat->XJ) (Z:cj_ x) (fx:∀n,cg_ (x.get n)) (fy:∀n,cg_ (y.get n))=>
   C0_ B hW x y sx sy g V (ht.heap hp (λe=>bc e.symm)) (λn=>⟨(Z.get n).2.1,fx n⟩) fy (j_ ar (ae.o V ht)) (K_ au (ae.o V ht)))
  unfold n_ at a3;have a0:=q_ (λ(K:List e_) (k:Nat) (cs:Nat->Array XJ) (V:QV) (hK:K=cpt (s_ B) L) (hk:K.length=k) (b9:k<=n) (he:ElT K cs) (hr:RwM w b cap k cs V)=>(show Fr_ (s_ B) L F (QQ (QJ ⟨b,0,QK⟩) n cap) w (YQ (QQ (QJ ⟨b,0,QK⟩) k cap)) V from ⟨_,rfl,rfl,hK▸hr.own he hk (ZX b9 aw) aq ao,hr.turn.mono λq _ hq=>by rw[hq];rfl⟩));have w2:∀k:Nat,k<=1000000000->IntKind.i64.wrap ((k:Int)+1)=(k:Int)+1:=λk hk=>YU _ (by omega);have ai:=q_ w2;clear w2 h HO a2 b6 az bt aw aq ao av a1 ap am ar au hp bc hW ae;go_enter func52,ntmps52
  go_wp2_with fail;go_loopw [5] (λs5 wx=>∃k:Nat,1<=k/\k<=n/\s5 = QY QU (k:Nat)/\Q_ (RwM w b cap n X wx/\cpt (s_ B) (L.take k)=L.take k)) (λs5 _=>n-(intOf s5).toNat)
  case atStart=>exact⟨1,by omega,by have:=bl.o;omega,rfl,q_ ⟨ah.o,sm_ (by simp;omega)⟩⟩
  case round=>
   obtain⟨k,c6,b9,rfl,hM⟩:=hrel;by_cases ba:k<n
   ·have e3:(k:Int)<n:=by omega
    obtain⟨m,hm⟩:∃m,k=m+1:=⟨k-1,by omega⟩;have T:=q_ hm;have e4:IntKind.i64.wrap ((k:Int)-1)=(m:Nat):=by have:=HL.o;rw[YU _ (by omega)];omega
    clear hm;obtain⟨x,Z⟩:∃x,L[k]?=QJ x:=⟨_,XQ (by rw[J.o];exact ba)⟩;obtain⟨y,hy⟩:∃y,L[m]?=QJ y:=⟨_,XQ (by rw[J.o];have:=T.o;omega)⟩;obtain⟨a5,fx,sx,_,ex⟩:=M.o _ _ Z;obtain⟨b0,fy,sy,_,ey⟩:=M.o _ _ hy;have a4:=q_ (a3.o wr.drew hM.o.1.turn.drew x y sx sy a5 fx fy);have HX:=q_ Z;have HY:=q_ hy;clear Z hy a5 fx b0 fy;obtain⟨v,Hv⟩:=a_ (s_ B x y==0);rw[Hv.o]at a4;obtain⟨c1,aa⟩:=ba_ x sx;obtain⟨c2,ab⟩:=ba_ y sy;rw[aa.o]at a4 ex;rw[ab.o]at a4 ey;have EX:=q_ ex;have EY:=q_ ey;have Z1:=q_ aa.size;have Z2:=q_ ab.size;have Q1:=q_ (fz_.trans (congrArg QJ aa.size.symm));have Q2:=q_ (fz_.trans (congrArg QJ ab.size.symm));have U:=q_ (show k<n from ba);have a9:=q_ (show L[m+1]?=QJ x from by rw[<-T.o];exact HX.o);clear ex ey aa ab;go_upto_region 6 with fail;refine UZ (S:=λW'=>RwM w b cap n X W') (by kernel_rfl) hM.o.1.drew λd=>?_;refine H_.o ?_;refine O_ 0 18 (.func (.func 53) #[] #[YK (QJ ⟨g,0,QK⟩)]) d λd=>?_;refine O_ 1 19 (QQ (QJ ⟨b,0,QK⟩) n cap) d λd=>?_;refine O_ 2 20 (QY QU (k:Nat)) d λd=>?_;refine tlW 3 21 (YK (QJ ⟨b,k*18,QK⟩)) d (λw G=>?_) λd=>?_
    ·exact k_ (o5_ b n cap k U.o w)
    refine tlW 4 22 (.agg c1) d (λw G=>?_) λd=>?_
    ·have p:=G.range U.o (show (X k).size=18 from by rw[EX.o];exact Z1.o);rw[EX.o]at p;have q:=run_loadAt_mid (P:=QW) w b (k*18) 99 c1.toList _ p underlying99 rfl (by rw[Array.length_toList];exact Q1.o);rw[Array.toArray_toList]at q;exact k_ q
    refine O_ 5 23 (QQ (QJ ⟨b,0,QK⟩) n cap) d λd=>?_;refine O_ 6 24 (QY QU (k:Nat)) d λd=>?_;refine O_ 7 25 (QY QU (m:Nat)) d λd=>?_;refine tlW 8 26 (YK (QJ ⟨b,m*18,QK⟩)) d (λw G=>?_) λd=>?_
    ·exact k_ (o5_ b n cap m (by have:=U.o;have:=T.o;omega) w)
    refine tlW 9 27 (.agg c2) d (λw G=>?_) λd=>?_
    ·have p:=G.range (by have:=U.o;have:=T.o;omega) (show (X m).size=18 from by rw[EY.o];exact Z2.o);rw[EY.o]at p;have q:=run_loadAt_mid (P:=QW) w b (m*18) 99 c2.toList _ p underlying99 rfl (by rw[Array.length_toList];exact Q2.o);rw[Array.toArray_toList]at q;exact k_ q
    refine tlC 10 λK hK=>?_;go_simp;refine (a4.o).mono ?_;rintro e w3 ⟨rfl,b4⟩;have ag:=q_ (hM.o.1.drew.on b4);have HC:=q_ hM.o.2;clear b4 a4 hM;dsimp only;refine tlB hK ag.o λd=>?_;clear hK K;refine⟨VX (by kernel_rfl) ?_ _⟩;clear d
    cases v with
    | false=>
     have w1:=ai.o k (by have:=U.o;have:=HL.o;omega);have hz:¬s_ B x y=0:=by simpa using Hv.o
     have HZ:=q_ hz;clear hz;go_wp2_with fail;go_roundw
     case rel=>exact⟨k+1,by omega,by have:=U.o;omega,by go_num,q_ ⟨ag.o,by have hc:=HC.o;rw[T.o]at hc ⊢;rw[ll_ a9.o HY.o,iN_ HZ.o,hc,<-f_ a9.o]⟩⟩
     case measure=>have:=U.o;simp[intOf];omega
    | true=>
     have hz:s_ B x y=0:=by simpa using Hv.o
     have HK:=q_ (show cpt (s_ B) (L.take (k+1))=L.take k from by have hc:=HC.o;rw[T.o]at hc ⊢;rw[ll_ a9.o HY.o,iP_ hz,hc,List.append_nil]);clear hz HC a9 T e4 Hv EX EY Q1 Q2 Z1 Z2 HX HY;have e5:(0:Int)<=k:=by omega
     have e6:(k:Int)<=n:=by omega
     have e7:(n:Int)<=cap:=by have:=af.o.1;omega
     have e8:(n:Int)-k=((n-k:Nat):Int):=by omega
     have bw:(⟨b,0,QK⟩:Addr).add (k*18)=⟨b,k*18,QK⟩:=by rw[Addr.add_mid,VQ]
     go_wp2_with fail;go_loopw [5,7] (λs5 s7 wx=>∃(j f:Nat) (E:Nat->Array XJ),1<=f/\k+f<=n/\j+1<=k+f/\s5 = QY QU (j:Nat)/\s7 = QY QU (f:Nat)/\Q_ (RwM w b cap n E wx/\(cpt (s_ B) (L.take (k+f))).length=j/\ElT (cpt (s_ B) (L.take (k+f))) E/\∀i,k+f<=i+1->i<n->E i=X i)) (λ_ s7 _=>n-(intOf s7).toNat)
     case atStart=>exact⟨k,1,X,by omega,by omega,by omega,rfl,rfl,q_ ⟨ag.o,by rw[HK.o,UJ,J.o];omega,by rw[HK.o];exact λi t hi=>M.o i t (by have:=(List.getElem?_eq_some_iff.1 hi).1;rw[UJ]at this;rw[List.getElem?_take_of_lt (by omega)]at hi;exact hi),λ_ _ _=>rfl⟩⟩
     case round=>
      obtain⟨j,f,E,c0,c3,c7,rfl,rfl,N⟩:=hrel;by_cases a7:k+f<n
      ·have e9:(f:Int)<((n-k:Nat):Int):=by omega
       obtain⟨C,bb⟩:∃C,f=C+1:=⟨f-1,by omega⟩;have D:=q_ bb;have c5:IntKind.i64.wrap ((f:Int)-1)=(C:Nat):=by have:=HL.o;rw[YU _ (by omega)];omega
       clear bb;obtain⟨x2,Z⟩:∃x2,L[k+f]?=QJ x2:=⟨_,XQ (by rw[J.o];exact a7)⟩;obtain⟨y2,hy⟩:∃y2,L[k+C]?=QJ y2:=⟨_,XQ (by rw[J.o];have:=D.o;omega)⟩;have bh:=q_ (M.o _ _ Z);obtain⟨a5,fx,b1,bd,ex⟩:=M.o _ _ Z;obtain⟨b0,fy,bg,_,ey⟩:=M.o _ _ hy;rw[<-N.o.2.2.2 (k+f) (by omega) a7]at ex;rw[<-N.o.2.2.2 (k+C) (by have:=D.o;omega) (by have:=D.o;omega)]at ey;have Y:=q_ (a3.o wr.drew N.o.1.turn.drew x2 y2 b1 bg a5 fx fy);have HX:=q_ Z;have HY:=q_ hy;clear Z hy a5 fx b0 fy;obtain⟨v2,ak⟩:=a_ (s_ B x2 y2==0);rw[ak.o]at Y;obtain⟨d1,ac⟩:=ba_ x2 b1;obtain⟨d2,aj⟩:=ba_ y2 bg;rw[ac.o]at Y ex;rw[aj.o]at Y ey;have EX:=q_ ex;have EY:=q_ ey;have Z1:=q_ ac.size;have Z2:=q_ aj.size;have Q1:=q_ (fz_.trans (congrArg QJ ac.size.symm));have Q2:=q_ (fz_.trans (congrArg QJ aj.size.symm));have r:=q_ a7;have o1:=ck_ x2 b1 λq hq=>by obtain⟨A,cp,e⟩:=bd q hq;exact⟨A,0,cp,e⟩
       rw[ac.o]at o1;have O1:=q_ (show d1.all (·.oneCell')=true from by rw[<-Array.toArray_toList (xs:=d1)];exact all_oneCell_toArray o1);clear o1 bd;clear ex ey;go_upto_region 11 with fail;refine UZ (S:=λW'=>RwM w b cap n E W') (by kernel_rfl) N.o.1.drew λd=>?_;refine H_.o ?_;refine O_ 0 38 (.func (.func 53) #[] #[YK (QJ ⟨g,0,QK⟩)]) d λd=>?_;refine O_ 1 39 (QQ (QJ ⟨b,k*18,QK⟩) (n-k) (cap-k)) d λd=>?_;refine O_ 2 40 (QY QU (f:Nat)) d λd=>?_;refine tlW 3 41 (YK (QJ ⟨b,k*18+f*18,QK⟩)) d (λw G=>?_) λd=>?_
       ·exact k_ (xb_ b (k*18) (n-k) (cap-k) f (by have:=r.o;omega) w)
       refine tlW 4 42 (.agg d1) d (λw G=>?_) λd=>?_
       ·have p:=G.range (a:=k+f) r.o (show (E (k+f)).size=18 from by rw[EX.o];exact Z1.o);rw[EX.o,show (k+f)*18=k*18+f*18 by omega]at p;have q:=run_loadAt_mid (P:=QW) w b (k*18+f*18) 99 d1.toList _ p underlying99 rfl (by rw[Array.length_toList];exact Q1.o);rw[Array.toArray_toList]at q;exact k_ q
       refine O_ 5 43 (QQ (QJ ⟨b,k*18,QK⟩) (n-k) (cap-k)) d λd=>?_;refine O_ 6 44 (QY QU (f:Nat)) d λd=>?_;refine O_ 7 45 (QY QU (C:Nat)) d λd=>?_;refine tlW 8 46 (YK (QJ ⟨b,k*18+C*18,QK⟩)) d (λw G=>?_) λd=>?_
       ·exact k_ (xb_ b (k*18) (n-k) (cap-k) C (by have:=r.o;have:=D.o;omega) w)
       refine tlW 9 47 (.agg d2) d (λw G=>?_) λd=>?_
       ·have p:=G.range (a:=k+C) (by have:=r.o;have:=D.o;omega) (show (E (k+C)).size=18 from by rw[EY.o];exact Z2.o);rw[EY.o,show (k+C)*18=k*18+C*18 by omega]at p;have q:=run_loadAt_mid (P:=QW) w b (k*18+C*18) 99 d2.toList _ p underlying99 rfl (by rw[Array.length_toList];exact Q2.o);rw[Array.toArray_toList]at q;exact k_ q
       refine tlC 10 λK hK=>?_;go_simp;refine (Y.o).mono ?_;rintro e w4 ⟨rfl,b5⟩;have a8:=q_ (N.o.1.drew.on b5);have O:=q_ N.o.2;clear b5 Y N;dsimp only;refine tlB hK a8.o λd=>?_;clear hK K;refine O_ 11 49 (XY (!v2)) d λd=>?_;refine⟨VX (by kernel_rfl) ?_ _⟩;clear d;have w5:=ai.o f (by have:=r.o;have:=HL.o;omega)
       cases v2 with
       | true=>
        have hz:s_ B x2 y2=0:=by simpa using ak.o
        have HZ:=q_ hz;clear hz;go_wp2_with fail;go_roundw
        case rel=>
         have h0:=ll_ (o:=s_ B) (L:=L) (m:=k+C) (x:=x2) (y:=y2) (by rw[show k+C+1=k+f by have:=D.o;omega];exact HX.o) HY.o;rw[iP_ HZ.o,List.append_nil,show k+C+2=k+(f+1) by have:=D.o;omega,show k+C+1=k+f by have:=D.o;omega]at h0;exact⟨j,f+1,E,by omega,by have:=r.o;omega,by omega,rfl,by go_num,q_ ⟨a8.o,by rw[h0];exact O.o.1,by rw[h0];exact O.o.2.1,λi h1 h2=>O.o.2.2 i (by omega) h2⟩⟩
        case measure=>have:=r.o;simp[intOf];omega
       | false=>
        have hz:¬s_ B x2 y2=0:=by simpa using ak.o
        have HZ:=q_ hz;clear hz;have w6:=ai.o j (by have:=r.o;have:=HL.o;omega);have bo:(0:Int)<=j:=by omega
        have bp:(j:Int)<n:=by have:=r.o;omega
        have bq:(0:Int)<=f:=by omega
        have b2:(⟨b,0,QK⟩:Addr).add (j*18)=⟨b,j*18,QK⟩:=by rw[Addr.add_mid,VQ]
        have bu:(⟨b,k*18,QK⟩:Addr).add (f*18)=⟨b,k*18+f*18,QK⟩:=Addr.add_mid _ _ _;have ay:=a8.o.range (a:=k+f) r.o (show (E (k+f)).size=18 from by rw[EX.o];exact Z1.o);rw[EX.o,show (k+f)*18=k*18+f*18 by omega]at ay;have bn:=q_ ay;clear ay
        go_wp2_with (first
         | ((with_reducible refine d_ (some 55) ?_);refine G_ rfl 99 _ rfl b (k*18+f*18) rfl d1 _ bn.o underlying99 rfl Q1.o ?_)
         | ((with_reducible refine w_ 56 ?_);refine O0_ rfl 99 _ _ rfl j d1 rfl rfl a8.o (by have:=r.o;omega) af.o.1 Z1.o fz_ O1.o ?_;intro w7 b3))
        have bm:=q_ b3;clear b3;go_roundw
        case rel=>
         have h0:=ll_ (o:=s_ B) (L:=L) (m:=k+C) (x:=x2) (y:=y2) (by rw[show k+C+1=k+f by have:=D.o;omega];exact HX.o) HY.o;rw[iN_ HZ.o,show k+C+2=k+(f+1) by have:=D.o;omega,show k+C+1=k+f by have:=D.o;omega]at h0;refine⟨j+1,f+1,λi=>if i=j then d1 else E i,by omega,by have:=r.o;omega,by omega,by go_num,by go_num,q_ ⟨bm.o,by rw[h0,ZZ,O.o.1];rfl,?_,λi h1 h2=>?_⟩⟩
         ·rw[h0];intro i t hi;rcases VZ i j with bi | bz
          ·rw[List.getElem?_append_left (by rw[O.o.1];exact bi)]at hi;dsimp only;rw[iN_ (show ¬i=j by omega)];exact O.o.2.1 i t hi
          ·have b7:=(List.getElem?_eq_some_iff.1 hi).1;rw[ZZ,O.o.1]at b7;have br:i=j:=by simp only[List.length_cons,List.length_nil]at b7;omega
           subst br;rw[List.getElem?_append_right (by rw[O.o.1];exact XK _),O.o.1,Nat.sub_self]at hi;injection hi with hi;subst hi;dsimp only;rw[iP_ rfl];obtain⟨g1,g2,g3,g4,g5⟩:=bh.o;exact⟨g1,g2,g3,g4,by rw[<-EX.o,O.o.2.2 (k+f) (by omega) r.o];exact g5⟩
         ·dsimp only;rw[iN_ (show ¬i=j by omega)];exact O.o.2.2 i (by omega) h2
        case measure=>have:=r.o;simp[intOf];omega
      ·have a6:k+f=n:=by omega
       have b8:j<n:=by omega
       obtain⟨zs,bf⟩:=Cy_ N.o.1 af.o.1 b8;have bx:=bf;have e9:¬(f:Int)<((n-k:Nat):Int):=by omega
       have bo:(0:Int)<=j:=by omega
       have bp:(j:Int)<=n:=by omega
       have bq:(j:Int)<=cap:=by omega
       have b2:(⟨b,0,QK⟩:Addr).add (j*18)=⟨b,j*18,QK⟩:=by rw[Addr.add_mid,VQ]
       have bk:=q_ (a0.o (cpt (s_ B) L) j E (wr.setCells b (j*18) zs) rfl (by have h:=N.o.2.1;rw[a6,YJ (by rw[J.o];exact XK _)]at h;exact h) (by omega) (by have h:=N.o.2.2.1;rw[a6,YJ (by rw[J.o];exact XK _)]at h;exact h) (N.o.1.clear (by omega) zs));clear N a0 a3 M ah a6 b8 bf;go_wp2_with fail;go_ret;exact bk.o
   ·have bs:n=k:=by omega
    subst bs;have HR:=q_ (a0.o L n X wr (by have h:=hM.o.2;rw[YJ (by rw[J.o];exact XK _)]at h;exact h.symm) J.o (XK _) M.o hM.o.1);have e3:¬(n:Int)<n:=by omega
    clear a0 a3 M ah hM;go_wp2_with fail;go_ret;exact HR.o
end
section
open Go Go.RowKit
def gt_ (i:Nat):ByteArray:=if i=0 then ⟨#[115,112,111]⟩ else if i=1 then ⟨#[115,111,112]⟩ else if i=2 then ⟨#[112,115,111]⟩ else if i=3 then ⟨#[112,111,115]⟩ else if i=4 then ⟨#[111,115,112]⟩ else ⟨#[111,112,115]⟩
def k8_ (i:Nat) (w:QV) (e:Ending) (w':QV):Prop:=e = YQ (ZJ #[.agg (gs_ (aa_ i)),QY QU (i:Nat),XY true])/\XW w.heap.size w w'
theorem df_ {P:Program} {f:Func} {a u v:Tmp} {T m:TypeId} {w:QV} (h:f.results=#[.cell a T,.tmp u,.tmp v]) {e:Array XJ} {g:Nat} (ht:e.getD a undef = YK (QJ ⟨g,0,QK⟩)) {c:Array XJ} (q:w.heap[g]?=QJ (XX c m (0,0)))
    (d:TypeDesc) (p:P.underlying T=QJ d) (o:d.isRow=true) (hi:(P.info? T).map (·.size)=QJ c.size) {x y:XJ} (r:e.getD u undef=x) (t:e.getD v undef=y):(results f e).run P w = .ok (.tuple #[.agg c,x,y]) w:=by
 have:=run_loadVar_mid (P:=P) w g 0 T c.toList d (m_ q) p o (by rw[Array.length_toList];exact hi);rw[Array.toArray_toList]at this;have i:e[a]?.getD undef = YK (QJ ⟨g,0,QK⟩):=by rw[<-ht];simp
 have j:e[u]?.getD undef=x:=by rw[<-r];simp
 have k:e[v]?.getD undef=y:=by rw[<-t];simp
 simp[results,h,i,asAddr,this,j,k]
theorem Ms_ (w:QV):Calls QW 48 #[QZ ⟨#[115,112,111]⟩] w (k8_ 0 w):=by
 obtain⟨z,f⟩:=a_ w.heap.size;obtain⟨p,e⟩:=a_ (w.alloc (XX #[QY QU 0,QY QU 0,QY QU 0] 101));have h:=q_ (show XW w.heap.size w p from by rw[<-e.o];exact (XV _ _).alloc (XK _) _);have r:=q_ (show p.heap[z]?=QJ (XX #[QY QU 0,QY QU 0,QY QU 0] 101 (0,0)) from by rw[<-e.o,<-f.o];exact XU w _);have j:=q_ (show (Tryz.prog.info? 101).map (·.size)=some 3 from by kernel_rfl);go_enter func48,ntmps48
 go_upto_region 1 with fail;rw[e.o,f.o];clear e;have q:=q_ (show (#[QY QU 0,QY QU 1,QY QU 2]:Array XJ).all (·.oneCell')=true from by kernel_rfl);go_wp2_with ((with_reducible refine w_ 2 ?_);refine o_ rfl 101 _ _ rfl z (#[QY QU 0,QY QU 0,QY QU 0]) (#[QY QU 0,QY QU 1,QY QU 2]) 101 rfl rfl r.o rfl j.o q.o ?_;intro w2 m d)
 have i:=q_ (show XW w.heap.size w w2 from h.o.trans ⟨d.os,d.tape,d.output,d.size,λk t=>d.block k (XZ t h.o.size) (by rw[<-f.o];omega)⟩);refine ZV (v:=ZJ #[.agg (#[QY QU 0,QY QU 1,QY QU 2]),QY QU 0,XY true]) (df_ results48 (g:=z) rfl m _ underlying101 rfl j.o rfl rfl) rfl ⟨rfl,i.o⟩
theorem O3_ (w:QV):Calls QW 48 #[QZ ⟨#[115,111,112]⟩] w (k8_ 1 w):=by
 obtain⟨z,f⟩:=a_ w.heap.size;obtain⟨p,e⟩:=a_ (w.alloc (XX #[QY QU 0,QY QU 0,QY QU 0] 101));have h:=q_ (show XW w.heap.size w p from by rw[<-e.o];exact (XV _ _).alloc (XK _) _);have r:=q_ (show p.heap[z]?=QJ (XX #[QY QU 0,QY QU 0,QY QU 0] 101 (0,0)) from by rw[<-e.o,<-f.o];exact XU w _);have j:=q_ (show (Tryz.prog.info? 101).map (·.size)=some 3 from by kernel_rfl);go_enter func48,ntmps48
 go_upto_region 1 with fail;rw[e.o,f.o];clear e;have q:=q_ (show (#[QY QU 0,QY QU 2,QY QU 1]:Array XJ).all (·.oneCell')=true from by kernel_rfl);go_wp2_with ((with_reducible refine w_ 2 ?_);refine o_ rfl 101 _ _ rfl z (#[QY QU 0,QY QU 0,QY QU 0]) (#[QY QU 0,QY QU 2,QY QU 1]) 101 rfl rfl r.o rfl j.o q.o ?_;intro w2 m d)
 have i:=q_ (show XW w.heap.size w w2 from h.o.trans ⟨d.os,d.tape,d.output,d.size,λk t=>d.block k (XZ t h.o.size) (by rw[<-f.o];omega)⟩);refine ZV (v:=ZJ #[.agg (#[QY QU 0,QY QU 2,QY QU 1]),QY QU 1,XY true]) (df_ results48 (g:=z) rfl m _ underlying101 rfl j.o rfl rfl) rfl ⟨rfl,i.o⟩
theorem O4_ (w:QV):Calls QW 48 #[QZ ⟨#[112,115,111]⟩] w (k8_ 2 w):=by
 obtain⟨z,f⟩:=a_ w.heap.size;obtain⟨p,e⟩:=a_ (w.alloc (XX #[QY QU 0,QY QU 0,QY QU 0] 101));have h:=q_ (show XW w.heap.size w p from by rw[<-e.o];exact (XV _ _).alloc (XK _) _);have r:=q_ (show p.heap[z]?=QJ (XX #[QY QU 0,QY QU 0,QY QU 0] 101 (0,0)) from by rw[<-e.o,<-f.o];exact XU w _);have j:=q_ (show (Tryz.prog.info? 101).map (·.size)=some 3 from by kernel_rfl);go_enter func48,ntmps48
 go_upto_region 1 with fail;rw[e.o,f.o];clear e;have q:=q_ (show (#[QY QU 1,QY QU 0,QY QU 2]:Array XJ).all (·.oneCell')=true from by kernel_rfl);go_wp2_with ((with_reducible refine w_ 2 ?_);refine o_ rfl 101 _ _ rfl z (#[QY QU 0,QY QU 0,QY QU 0]) (#[QY QU 1,QY QU 0,QY QU 2]) 101 rfl rfl r.o rfl j.o q.o ?_;intro w2 m d)
 have i:=q_ (show XW w.heap.size w w2 from h.o.trans ⟨d.os,d.tape,d.output,d.size,λk t=>d.block k (XZ t h.o.size) (by rw[<-f.o];omega)⟩);refine ZV (v:=ZJ #[.agg (#[QY QU 1,QY QU 0,QY QU 2]),QY QU 2,XY true]) (df_ results48 (g:=z) rfl m _ underlying101 rfl j.o rfl rfl) rfl ⟨rfl,i.o⟩
theorem O5_ (w:QV):Calls QW 48 #[QZ ⟨#[112,111,115]⟩] w (k8_ 3 w):=by
 obtain⟨z,f⟩:=a_ w.heap.size;obtain⟨p,e⟩:=a_ (w.alloc (XX #[QY QU 0,QY QU 0,QY QU 0] 101));have h:=q_ (show XW w.heap.size w p from by rw[<-e.o];exact (XV _ _).alloc (XK _) _);have r:=q_ (show p.heap[z]?=QJ (XX #[QY QU 0,QY QU 0,QY QU 0] 101 (0,0)) from by rw[<-e.o,<-f.o];exact XU w _);have j:=q_ (show (Tryz.prog.info? 101).map (·.size)=some 3 from by kernel_rfl);go_enter func48,ntmps48
 go_upto_region 1 with fail;rw[e.o,f.o];clear e;have q:=q_ (show (#[QY QU 1,QY QU 2,QY QU 0]:Array XJ).all (·.oneCell')=true from by kernel_rfl);go_wp2_with ((with_reducible refine w_ 2 ?_);refine o_ rfl 101 _ _ rfl z (#[QY QU 0,QY QU 0,QY QU 0]) (#[QY QU 1,QY QU 2,QY QU 0]) 101 rfl rfl r.o rfl j.o q.o ?_;intro w2 m d)
 have i:=q_ (show XW w.heap.size w w2 from h.o.trans ⟨d.os,d.tape,d.output,d.size,λk t=>d.block k (XZ t h.o.size) (by rw[<-f.o];omega)⟩);refine ZV (v:=ZJ #[.agg (#[QY QU 1,QY QU 2,QY QU 0]),QY QU 3,XY true]) (df_ results48 (g:=z) rfl m _ underlying101 rfl j.o rfl rfl) rfl ⟨rfl,i.o⟩
theorem O6_ (w:QV):Calls QW 48 #[QZ ⟨#[111,115,112]⟩] w (k8_ 4 w):=by
 obtain⟨z,f⟩:=a_ w.heap.size;obtain⟨p,e⟩:=a_ (w.alloc (XX #[QY QU 0,QY QU 0,QY QU 0] 101));have h:=q_ (show XW w.heap.size w p from by rw[<-e.o];exact (XV _ _).alloc (XK _) _);have r:=q_ (show p.heap[z]?=QJ (XX #[QY QU 0,QY QU 0,QY QU 0] 101 (0,0)) from by rw[<-e.o,<-f.o];exact XU w _);have j:=q_ (show (Tryz.prog.info? 101).map (·.size)=some 3 from by kernel_rfl);go_enter func48,ntmps48
 go_upto_region 1 with fail;rw[e.o,f.o];clear e;have q:=q_ (show (#[QY QU 2,QY QU 0,QY QU 1]:Array XJ).all (·.oneCell')=true from by kernel_rfl);go_wp2_with ((with_reducible refine w_ 2 ?_);refine o_ rfl 101 _ _ rfl z (#[QY QU 0,QY QU 0,QY QU 0]) (#[QY QU 2,QY QU 0,QY QU 1]) 101 rfl rfl r.o rfl j.o q.o ?_;intro w2 m d)
 have i:=q_ (show XW w.heap.size w w2 from h.o.trans ⟨d.os,d.tape,d.output,d.size,λk t=>d.block k (XZ t h.o.size) (by rw[<-f.o];omega)⟩);refine ZV (v:=ZJ #[.agg (#[QY QU 2,QY QU 0,QY QU 1]),QY QU 4,XY true]) (df_ results48 (g:=z) rfl m _ underlying101 rfl j.o rfl rfl) rfl ⟨rfl,i.o⟩
theorem O7_ (w:QV):Calls QW 48 #[QZ ⟨#[111,112,115]⟩] w (k8_ 5 w):=by
 obtain⟨z,f⟩:=a_ w.heap.size;obtain⟨p,e⟩:=a_ (w.alloc (XX #[QY QU 0,QY QU 0,QY QU 0] 101));have h:=q_ (show XW w.heap.size w p from by rw[<-e.o];exact (XV _ _).alloc (XK _) _);have r:=q_ (show p.heap[z]?=QJ (XX #[QY QU 0,QY QU 0,QY QU 0] 101 (0,0)) from by rw[<-e.o,<-f.o];exact XU w _);have j:=q_ (show (Tryz.prog.info? 101).map (·.size)=some 3 from by kernel_rfl);go_enter func48,ntmps48
 go_upto_region 1 with fail;rw[e.o,f.o];clear e;have q:=q_ (show (#[QY QU 2,QY QU 1,QY QU 0]:Array XJ).all (·.oneCell')=true from by kernel_rfl);go_wp2_with ((with_reducible refine w_ 2 ?_);refine o_ rfl 101 _ _ rfl z (#[QY QU 0,QY QU 0,QY QU 0]) (#[QY QU 2,QY QU 1,QY QU 0]) 101 rfl rfl r.o rfl j.o q.o ?_;intro w2 m d)
 have i:=q_ (show XW w.heap.size w w2 from h.o.trans ⟨d.os,d.tape,d.output,d.size,λk t=>d.block k (XZ t h.o.size) (by rw[<-f.o];omega)⟩);refine ZV (v:=ZJ #[.agg (#[QY QU 2,QY QU 1,QY QU 0]),QY QU 5,XY true]) (df_ results48 (g:=z) rfl m _ underlying101 rfl j.o rfl rfl) rfl ⟨rfl,i.o⟩
theorem Mf_ (i:Nat) (hi:i<6) (w:QV):Calls QW 48 #[QZ (gt_ i)] w (k8_ i w):=by
 rcases (show i=0\/i=1\/i=2\/i=3\/i=4\/i=5 by omega) with rfl | rfl | rfl | rfl | rfl | rfl
 ·exact Ms_ w
 ·exact O3_ w
 ·exact O4_ w
 ·exact O5_ w
 ·exact O6_ w
 ·exact O7_ w
end
section
open Go Go.RowKit Go.Maps
theorem pb_ {w:QV} {b e sz:Nat} {v:XJ} {n:Nat} {xs j:List XJ} (h1:w.ownsRow b e sz v n xs) (h2:w.ownsRow b e sz v n j):xs=j:=by
 rcases h1.2 with⟨g,m⟩ | ⟨t,q,A,g,_,k,_,_,_,o⟩
 ·have h:=h1.1;have i:=h2.1;rw[m,Nat.zero_mul]at h i;rw[UK h,UK i]
 ·rcases h2.2 with⟨d,y⟩ | ⟨x,r,B,d,_,f,_,_,_,p⟩
  ·rw[g]at d;cases d
  ·rw[g]at d;injection d with d _ e3;injection d with d;injection d with d;subst d e3;rw[k]at f;injection f with f;injection f with f;subst f;rw[<-o,<-p]
theorem Le_:(Tryz.prog.info? 99).map (λi=>(i.zero,i.size,i.bytes))=QJ (QJ (.agg #[QY QU 0,XY false,QY QU 0,QZ ⟨#[]⟩,QZ ⟨#[]⟩,QQ QK 0 0,QY QU 0,XY false,QY QU 0,QZ ⟨#[]⟩,QZ ⟨#[]⟩,QQ QK 0 0,QY QU 0,XY false,QY QU 0,QZ ⟨#[]⟩,QZ ⟨#[]⟩,QQ QK 0 0]),18,240):=by kernel_rfl
theorem Nn_:(Tryz.prog.info? 3).map (λi=>(i.zero,i.size,i.bytes))=QJ (QJ (QY QU 0),1,8):=by kernel_rfl
theorem rk_ {op:Oper} {a:Act} {K:Act->QV->Prop} {Q:Exit->Act->QV->Prop} (s x:Operand) (U:op.op = .call { callee:=.builtin .append,args:=#[s,x],argTypes:=#[93,93] })
    {wr:QV} {F:Nat->Prop} {L:List e_} {S:XJ} {t:e_} {c:Array XJ} {n:Nat} (O:a.eval s=S) (j:x_ 99 18 TrS wr F L S) (N:L.length=n) (Z:a.eval x = QQ (QJ ⟨wr.heap.size,0,QK⟩) 1 1) (i:∀w F,TrS w F t c) (T:n<=1000000) (M:∀b,F b->b<wr.heap.size)
    (h:∀g cap w',x_ 99 18 TrS w' (λb=>F b\/b=g) (L++[t]) (QQ (QJ ⟨g,0,QK⟩) (n+1) cap)->wr.grownBy w' S.ownBlock->(S.ownBlock=QJ g\/wr.heap.size<=g)->g<w'.heap.size->K (a.put op.dst (QQ (QJ ⟨g,0,QK⟩) (n+1) cap)) w') :
    op.wp QW a (wr.alloc (XX c 99)) K Q:=by
 subst N;obtain⟨i0,hi,v,y,B⟩:=info_parts Le_;obtain⟨cs,d,J,k,X⟩:=j;have f:c.size=18:=by obtain⟨_,_,ss,_,e⟩:=i wr F;rw[e];rfl
 have m:∀u∈c.toList,u.oneCell'=true:=by obtain⟨_,_,ss,Y,e⟩:=i wr F;rw[e];exact ck_ t ss λq V=>by obtain⟨A,cp,e⟩:=Y q V;exact⟨A,0,cp,e⟩
 refine wp_append_lies _ s x _ U 0 99 i0 _ 18 240 underlying93 hi v y B rfl (by decide) S L.length (R_ cs L.length) O (d.alloc _) ⟨wr.heap.size,0,none⟩ 1 1 c.toList Z (by rw[Array.length_toList,f]) (World.news_of_block (XU wr _)) m (by omega) (by unfold maxLen;omega) (by omega) (Nat.zero_le _) (wr.heap.size+1) (by simp) λg cap w' h1 h2 D E=>?_;have o:=ak_ h2;have p:S.ownBlock=some g\/wr.heap.size<=g:=D.imp id (λe=>by rw[e];omega);have r:=x_.snoc (x:=t) (c:=c) (G:=λ_=>False) TrS.good ⟨cs,d,J,k,X⟩ (i _ _) f (λb hb=>hb.elim) M (λb hb=>hb.elim) (λa0 C=>by rw[pb_ C d];exact h1) o p;exact h g cap w' (r.mono TrS.good λb hb=>by rcases hb with hb | hb | hb;exact .inl hb;exact hb.elim;exact .inr hb) o p E
theorem y9_ {op:Oper} {a:Act} {K:Act->QV->Prop} {Q:Exit->Act->QV->Prop} (s x:Operand) (v:op.op = .call { callee:=.builtin .append,args:=#[s,x],argTypes:=#[94,94] })
    {wr:QV} {d:List Nat} {S:XJ} {k n:Nat} (r:a.eval s=S) (B:d.length=n) (f:wr.ownsRow 0 3 1 S n (ixC d)) (y:a.eval x = QQ (QJ ⟨wr.heap.size,0,QK⟩) 1 1) (t:n<=1000000)
    (h:∀g cap w',w'.ownsRow 0 3 1 (QQ (QJ ⟨g,0,QK⟩) (n+1) cap) (n+1) (ixC (d++[k]))->wr.grownBy w' S.ownBlock->(S.ownBlock=QJ g\/wr.heap.size<=g)->g<w'.heap.size->K (a.put op.dst (QQ (QJ ⟨g,0,QK⟩) (n+1) cap)) w') :
    op.wp QW a (wr.alloc (XX #[QY QU (k:Nat)] 3)) K Q:=by
 obtain⟨A,hi,j,m,o⟩:=info_parts Nn_;refine wp_append_lies _ s x _ v 0 3 A _ 1 8 underlying94 hi j m o rfl (by decide) S n (ixC d) r (f.alloc _) ⟨wr.heap.size,0,QK⟩ 1 1 [QY QU (k:Nat)] y rfl (World.news_of_block (cs:=#[QY QU (k:Nat)]) (XU wr _)) (λu i=>by simp at i;subst i;rfl) (by omega) (by unfold maxLen;omega) (by omega) (Nat.zero_le _) (wr.heap.size+1) (by simp) λg cap w' h1 h2 p q=>?_;exact h g cap w' (by unfold ixC at h1 ⊢;rw[List.map_append];exact h1) (ak_ h2) (p.imp id (λe=>by rw[e];omega)) q
structure LdM (w0:QV) (c:Nat) (S:XJ) (ss:Nat->XJ) (wx:QV):Prop where
 hb:XW w0.heap.size w0 wx
 c0:w0.heap.size<=c
 ph:wx.heap[c+1]?=QJ (XX #[YK (QJ ⟨c,0,QK⟩)] 29 (0,0))
 pc:wx.heap[c]?=QJ (XX #[S,ss 0,ss 1,ss 2,ss 3,ss 4,ss 5] 97 (0,0))
section
variable {w0 wx w':QV} {c:Nat} {S:XJ} {ss:Nat->XJ}
theorem LdM.on (h:LdM w0 c S ss wx) (hb:XW wx.heap.size wx w'):LdM w0 c S ss w':=
 ⟨h.hb.trans (hb.mono h.hb.size),h.c0,(hb.block _ (b_ h.ph)).trans h.ph,(hb.block _ (b_ h.pc)).trans h.pc⟩
theorem LdM.turn (h:LdM w0 c S ss wx) {T:Nat->Prop} (ht:Turn T wx w') (h1:∀b,T b->c+2<=b):LdM w0 c S ss w':=
 ⟨h_ h.hb ht (λb hb=>by have:=h1 b hb;have:=h.c0;omega),h.c0,ht.heap h.ph (λhb=>by have:=h1 _ hb;omega),ht.heap h.pc (λhb=>by have:=h1 _ hb;omega)⟩
theorem LdM.drew (h:LdM w0 c S ss wx):LdM w0 c S ss wx.drew:=⟨h.hb.drew,h.c0,h.ph,h.pc⟩
theorem LdM.cellS (h:LdM w0 c S ss wx):wx.cell? ⟨c,0,QK⟩=QJ S:=QX h.pc 0
theorem LdM.cellP (h:LdM w0 c S ss wx):wx.cell? ⟨c+1,0,QK⟩=QJ (YK (QJ ⟨c,0,QK⟩)):=QX h.ph 0
theorem LdM.setS (h:LdM w0 c S ss wx) (S':XJ):LdM w0 c S' ss (wx.setCell ⟨c,0,QK⟩ S'):=by
 refine⟨h.hb.trans ?_,h.c0,?_,?_⟩
 ·have ht:=(Turn.refl (λb=>b=c) wx).setCell (p:=⟨c,0,QK⟩) (.inr rfl) S';exact⟨ht.os,ht.tape,ht.output,ht.size,λk d=>ht.block k (XZ d h.hb.size) (λe=>by have:=h.c0;omega)⟩
 ·have ht:=(Turn.refl (λb=>b=c) wx).setCell (p:=⟨c,0,QK⟩) (.inr rfl) S';exact ht.heap h.ph (by show ¬c+1=c;omega)
 ·exact heap_setCell_same wx c 0 _ _ S' h.pc
end
def va_:Nat->XJ:=λ_=>.slice QK 0 0
structure LdT (w0:QV) (c:Nat) (S:XJ) (K:List e_) (wx:QV):Prop where
 m:LdM w0 c S va_ wx
 own:x_ 99 18 TrS wx (λb=>c+2<=b/\b<wx.heap.size) K S
theorem LdT.on {w0 wx w':QV} {c:Nat} {S:XJ} {K:List e_} (h:LdT w0 c S K wx) (hb:XW wx.heap.size wx w'):LdT w0 c S K w':=
 ⟨h.m.on hb,(h.own.turn TrS.good (Turn.of_below hb) (λb hb=>hb.2) (λb hb h=>by have h2:wx.heap.size<=b:=h;omega)).mono TrS.good λb d=>⟨d.1,XZ d.2 hb.size⟩⟩
theorem LdT.drew {w0 wx:QV} {c:Nat} {S:XJ} {K:List e_} (h:LdT w0 c S K wx):LdT w0 c S K wx.drew:=⟨h.m.drew,h.own⟩
theorem LdT.blk {w0 wx:QV} {c:Nat} {S:XJ} {K:List e_} (h:LdT w0 c S K wx):∀b,S.ownBlock=QJ b->c+2<=b/\b<wx.heap.size:=by obtain⟨cs,_,_,d,_⟩:=h.own;exact d
theorem LdT.more {w0 wr w':QV} {c g cap:Nat} {S:XJ} {K:List e_} {t:e_} {n:Nat} (h:LdT w0 c S K wr) (f:wr.grownBy w' S.ownBlock) (j:S.ownBlock=QJ g\/wr.heap.size<=g) (d:g<w'.heap.size)
    (o:x_ 99 18 TrS w' (λb=>(c+2<=b/\b<wr.heap.size)\/b=g) (K++[t]) (QQ (QJ ⟨g,0,QK⟩) (n+1) cap)) :
    LdT w0 c (QQ (QJ ⟨g,0,QK⟩) (n+1) cap) (K++[t]) (w'.setCell ⟨c,0,QK⟩ (QQ (QJ ⟨g,0,QK⟩) (n+1) cap)):=by
 have q:c+2<=wr.heap.size:=by have:=b_ h.m.ph;omega
 have k:LdM w0 c S va_ w':=h.m.turn (Turn.of_grown f) λb hb=>(h.blk b hb.symm).1
 have i:c+2<=g:=by
  rcases j with h1 | h1
  ·exact (h.blk g h1).1
  ·omega
 refine⟨k.setS _,?_⟩;have ht:=(Turn.refl (λb=>b=c) w').setCell (p:=⟨c,0,QK⟩) (.inr rfl) (QQ (QJ ⟨g,0,QK⟩) (n+1) cap);refine (o.turn TrS.good ht (λb hb=>?_) (λb hb e=>?_)).mono TrS.good λb hb=>?_
 ·rcases hb with hb | hb
  ·exact XZ hb.2 f.size
  ·rw[hb];exact d
 ·rcases hb with hb | hb
  ·have:b=c:=e;omega
  ·have:b=c:=e;omega
 ·rcases hb with hb | hb
  ·exact⟨hb.1,XZ (XZ hb.2 f.size) ht.size⟩
  ·rw[hb];exact⟨i,XZ d ht.size⟩
end
end Go.Proofs.YtefhfadjajcmkaaGreatDoor
