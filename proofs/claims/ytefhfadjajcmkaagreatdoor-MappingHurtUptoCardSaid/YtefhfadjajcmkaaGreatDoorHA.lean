/- Rows of one element, cells of a struct: what mapping's node is made of. -/
import Derived.Lone
import Derived.Calls
import Derived.Below
import Derived.Sort.Grow
import Derived.Deep.Draws
import Derived.Test.YtefhfadjajcmkaaGreatDoorH8
import Derived.Test.YtefhfadjajcmkaaGreatDoorGS
import Derived.Test.YtefhfadjajcmkaaGreatDoorH9
set_option linter.unusedVariables false
set_option linter.unusedSimpArgs false
set_option maxRecDepth 100000
set_option maxHeartbeats 64000000
namespace Go.Proofs.YtefhfadjajcmkaaGreatDoor.Dn
open Go Go.RowKit
def Kd_ {α : Type}:Result α -> World
 | .ok _ w=>w
 | .halt _ w=>w
theorem Av_ {α : Type} (x:Ask α):∀w:World,w.drawn<=(w.ask x).2.drawn:=by
 induction x with
 | done a=>intro w;exact Nat.le_refl _
 | ask d c k b=>
  intro w;unfold World.ask;simp only[];split
  ·exact b _ _
  ·exact Nat.le_trans (Nat.le_succ _) (b _ { w with drawn:=w.drawn+1 })
theorem rb_ (w:World) (c:Sys):w.drawn<=(w.sys c).2.drawn:=by
 unfold World.sys;have h:=Av_ (Kernel.perform c w.os) w;split
 ·exact Nat.le_refl _
 ·rename_i a;rw[a]at h;exact h
theorem Aw_ {p:Program} {w w':World} {a:Addr} {v:Value} {b:Bool} {l:List Addr} (h:w.farStore p a v b = .ok (w',l)):w'.drawn=w.drawn:=by
 unfold World.farStore at h;split at h
 ·rename_i at_ u _
  cases hv:w.viewStore p at_ u a v b with
  | error e=>rw[hv]at h;cases h
  | ok r=>
   rw[hv]at h;injection h with h;subst h;unfold World.viewStore at hv;simp only[bind,Except.bind,pure,Except.pure]at hv
   repeat' first
    | (cases hv;done)
    | (injection hv with hv;injection hv with hv _;subst hv;rfl)
    | split at hv
 ·cases h
theorem i6_ {α : Type} (p:Program) (e:Sem α):∀w:World,w.drawn<=(Kd_ (e.run p w)).drawn:=by
 induction e with
 | pure a=>intro w;exact Nat.le_refl _
 | load m a k b=>
  intro w;simp only[Sem.run];split
  ·exact b _ _
  ·split
   ·exact b _ _
   ·exact Nat.le_refl _
 | store m a v k b=>
  intro w
  cases v<;>simp only[Sem.run]<;>first
   | exact Nat.le_refl _
   | (split
      ·split
       ·exact Nat.le_refl _
       ·exact b (w.setCell a _)
      ·split
       ·rename_i d;have:=b ‹World›;rw[Aw_ d]at this;exact this
       ·exact Nat.le_refl _)
 | new o k b=>intro w;exact b _ { w with heap:=w.heap.push o }
 | shape r k b=>intro w;exact b _ w
 | freeze a n k b=>
  intro w;have h:=b (w.freeze a n);have:(w.freeze a n).drawn=w.drawn:=by unfold World.freeze;split<;>rfl
  rw[this]at h;exact h
 | frozen a k b=>intro w;exact b _ w
 | getObj r k b=>
  intro w;simp only[Sem.run];split
  ·exact Nat.le_refl _
  ·exact b _ _
  ·exact Nat.le_refl _
 | setObj r o k b=>
  intro w;simp only[Sem.run];split
  ·exact Nat.le_refl _
  ·exact b { w with heap:=w.heap.setIfInBounds r o }
  ·exact Nat.le_refl _
 | choose q k b=>
  intro w;simp only[Sem.run];split
  ·exact b _ w
  ·exact Nat.le_trans (Nat.le_succ _) (b _ { w with drawn:=w.drawn+1 })
 | sys c k b=>intro w;exact Nat.le_trans (rb_ w c) (b _ _)
 | program k b=>intro w;exact b _ w
 | mark m k b=>intro w;exact b w
 | halt h=>intro w;exact Nat.le_refl _
theorem ca_ {α : Type} {p:Program} {e:Sem α} {w w':World} {a:α} (h:e.run p w = .ok a w'):w.drawn<=w'.drawn:=by have:=i6_ p e w;rw[h]at this;exact this
theorem br_ {α : Type} {p:Program} {e:Sem α} {w w':World} {a:Halt} (h:e.run p w = .halt a w'):w.drawn<=w'.drawn:=by have:=i6_ p e w;rw[h]at this;exact this
theorem bl_ (α : Type) (p:Program) (e:Sem α) (w:World) (a:Array Event):w.drawn<=(Kd_ (e.runT p w a).1).drawn:=by rw[Sem.runT_fst];exact i6_ p e w
def gsW:GStep->World
 | .go _ w _=>w
 | .comm _ _ _ _ w _=>w
 | .spawn _ _ w _=>w
 | .count _ w _=>w
 | .timer _ _ w _=>w
 | .alone _ _ w _=>w
 | .newcoro _ _ _ w _=>w
 | .coroswitch _ _ _ w _=>w
 | .collect _ w _=>w
 | .watch _ w _=>w
 | .ended _ w _=>w
theorem b5_ (a:Array Event) (s:GStep):gsW (GStep.after a s)=gsW s:=by cases s<;>rfl
theorem xl_ {c:Prop} [Decidable c] {a b:GStep} {n:Nat} (d:n<=(gsW a).drawn) (hb:n<=(gsW b).drawn):n<=(gsW (if c then a else b)).drawn:=by split<;>assumption
theorem Ax_ (w:World) (b:Nat) (t:ByteArray) (o:Outcome):w.drawn<=(gsW (endWith w b t o)).drawn:=by
 unfold endWith;have h:=rb_ w (.write b t);simp only[];split<;>rename_i a<;>rw[a]at h
 ·split<;>exact h
 ·exact h
 ·exact h
theorem xm_ (a:Frame) (m:String) (w:World):gsW (endThrow a m w)=w:=rfl
theorem jo_ (p:Program) (a:Frame) (v:Value) (w:World):gsW (endPrinting p a v w)=w:=by unfold endPrinting;simp only[];split<;>rfl
theorem o9_ (p:Program) (b:Frame) (cs:List Frame) (d:Option Dying) (m:String) (w:World):w.drawn<=(gsW (endFatal p b cs d m w)).drawn:=by
 unfold endFatal;simp only[];split<;>rename_i a
 ·exact ca_ a
 ·exact br_ a
 ·exact br_ a
theorem Ay_ (p:Program) (b:Frame) (d:Dying) (f:Fatal) (w:World):w.drawn<=(gsW (writeOn p b d f w)).drawn:=by
 unfold writeOn;simp only[];split
 ·exact Nat.le_refl _
 ·split<;>rename_i a
  all_goals
   have h:=congrArg Prod.fst a;rw[Sem.runT_fst]at h
   first | exact ca_ h | exact br_ h
theorem Ll_ (p:Program) (e:Frame) (d:Dying) (w:World):w.drawn<=(gsW (die p e d w)).drawn:=by
 unfold die;split
 ·exact Ay_ ..
 ·split
  ·split
   ·exact Nat.le_refl _
   ·exact Ax_ ..
  ·simp only[];split
   ·exact Nat.le_refl _
   ·split<;>rename_i c
    ·exact ca_ c
    ·exact br_ c
   ·rename_i t a b _;rw[b5_];have h:=bl_ _ p (invoke (.fn (.method b) #[]) #[.iface t a]) w #[];generalize (Sem.runT p (invoke (.fn (.method b) #[]) #[.iface t a]) w #[])=r at h ⊢;obtain⟨r,f⟩:=r;simp only[]at h ⊢;split
    ·exact h
    ·exact h
    ·exact h
    ·rw[jo_];exact h
    ·exact Nat.le_refl _
   ·exact Nat.le_refl _
theorem d9_ (p:Program) (a:Bool) (b:Frame) (cs:List Frame) (d:Option Dying) (v:Value) (w:World):gsW (doReturn p a b cs d v w)=w:=by
 unfold doReturn;repeat' split
 all_goals rfl
theorem pa_ (p:Program) (a:Frame) (cs:List Frame) (b:Option Dying) (d:Deferred) (w:World):w.drawn<=(gsW (callDeferred p a cs b d w)).drawn:=by
 unfold callDeferred;refine xl_ (Nat.le_refl _) ?_
 ·have h:=bl_ _ p (invoke d.target d.args) w #[];generalize (Sem.runT p (invoke d.target d.args) w #[])=r at h ⊢;obtain⟨r,c⟩:=r;simp only[b5_]at h ⊢;split
  all_goals first
   | exact h
   | (split<;>exact h)
   | exact Nat.le_trans h (o9_ ..)
theorem u5_ (p:Program) (d:Bool) (c:Frame) (cs:List Frame) (g:Option Dying) (w:World):w.drawn<=(gsW (unwind p d c cs g w)).drawn:=by
 unfold unwind;split
 ·rename_i a _ ds _;have h:=bl_ _ p (Instr.takeDeferred a) w #[];generalize (Sem.runT p (Instr.takeDeferred a) w #[])=r at h ⊢;obtain⟨r,f⟩:=r;simp only[b5_]at h ⊢;split<;>exact h
 ·exact pa_ ..
 ·split
  ·exact Nat.le_refl _
  ·split
   ·exact Nat.le_refl _
   ·split
    ·exact Nat.le_refl _
    ·split
     ·split
      ·exact Nat.le_refl _
      ·split<;>rename_i b
       ·exact ca_ b
       ·exact br_ b
       ·exact br_ b
     ·split
      ·rw[jo_];exact Nat.le_refl _
      ·exact Nat.le_refl _
  ·split
   ·rw[d9_];exact Nat.le_refl _
   ·rename_i e _;have h:=bl_ _ p (results e c.tmps) w #[];generalize (Sem.runT p (results e c.tmps) w #[])=r at h ⊢;obtain⟨r,f⟩:=r;simp only[b5_]at h ⊢;split
    ·rw[d9_];exact h
    ·exact h
    ·exact h
theorem H0_ (p:Program) (d:Frame) (cs:List Frame) (e:Option Dying) (g:Nat) (w:World):w.drawn<=(gsW (early p d cs e g w)).drawn:=by
 unfold early;simp only[];repeat' split
 all_goals first
  | exact Nat.le_refl _
  | (rename_i a;first | exact ca_ a | exact br_ a)
  | (rename_i a _;first | exact ca_ a | exact br_ a)
  | (rename_i a _ _;first | exact ca_ a | exact br_ a)
  | (rename_i a _ _ _;first | exact ca_ a | exact br_ a)
  | (rename_i a _ _ _ _;first | exact ca_ a | exact br_ a)
  | (rename_i a _ _ _ _ _;first | exact ca_ a | exact br_ a)
  | (rename_i a _ _ _ _;have b:=ca_ a;exact b)
  | (rename_i c a _ _ _ _;have b:w.drawn<=c.drawn:=ca_ a;show w.drawn<=c.drawn;exact b)
theorem k1_ (p:Program) (a:Bool) (b:Frame) (cs:List Frame) (c:Option Dying) (s:Sem Next) (w:World):w.drawn<=(gsW (stepG.apply p a b cs c s w)).drawn:=by
 unfold stepG.apply;simp only[]
 have h:w.drawn<=(Kd_ (if a=true then s.runT p w #[] else (s.run p w,#[])).1).drawn:=by
  split
  ·exact bl_ _ p s w #[]
  ·exact i6_ p s w
 generalize (if a=true then s.runT p w #[] else (s.run p w,#[]))=r at h ⊢
 obtain⟨r,d⟩:=r;simp only[b5_]at h ⊢;split
 all_goals first
  | exact h
  | (split<;>exact h)
  | (split<;>(try split)<;>exact h)
  | exact Nat.le_trans h (o9_ ..)
  | exact Nat.le_trans h (H0_ ..)
theorem Ke_ (p:Program) (a:Bool) (b:Frame) (cs:List Frame) (c:Option Dying) (w:World):w.drawn<=(gsW (stepG.oper p a b cs c w)).drawn:=by
 unfold stepG.oper;split
 ·exact Nat.le_refl _
 ·split<;>exact k1_ ..
theorem Ez_ (p:Program) (z y:Bool) (G:Frame) (cs:List Frame) (N:Option Dying) (w:World):w.drawn<=(gsW (stepG.exec p z y G cs N w)).drawn:=by
 obtain⟨B,u,n,C,J,kind,g⟩:=G;unfold stepG.exec;simp only[]
 cases n with
 | nil=>
  simp only[]
  cases g with
  | none=>first | exact Nat.le_refl _ | (split<;>exact Nat.le_refl _)
  | some l=>
   simp only[];have h:=bl_ _ p (Instr.endRound l none) w #[];generalize (Sem.runT p (Instr.endRound l none) w #[])=r at h ⊢;obtain⟨r,q⟩:=r;simp only[b5_]at h ⊢
   cases r with
   | ok v w'=>simp only[d9_];exact h
   | halt v w'=>exact h
 | cons M k=>
  cases M with
  | code c=>
   cases c with
   | ret=>
    simp only[]
    cases g with
    | none=>first | exact Nat.le_refl _ | (split<;>exact Nat.le_refl _)
    | some l=>
     simp only[];have h:=bl_ _ p (Instr.endRound l (some .ret)) w #[];generalize (Sem.runT p (Instr.endRound l (some .ret)) w #[])=r at h ⊢;obtain⟨r,q⟩:=r;simp only[b5_]at h ⊢
     cases r with
     | ok v w'=>simp only[d9_];exact h
     | halt v w'=>exact h
   | exit o=>
    simp only[]
    cases he:exitTo o k with
    | some l=>exact Nat.le_refl _
    | none=>
     simp only[Option.elim_none]
     cases g with
     | none=>first | exact Nat.le_refl _ | (split<;>exact Nat.le_refl _)
     | some l=>
      simp only[];have h:=bl_ _ p (Instr.endRound l (some (.exit o))) w #[];generalize (Sem.runT p (Instr.endRound l (some (.exit o))) w #[])=r at h ⊢;obtain⟨r,q⟩:=r;simp only[b5_]at h ⊢
      cases r with
      | ok v w'=>simp only[d9_];exact h
      | halt v w'=>exact h
   | goto A=>
    simp only[]
    cases he:gotoIn A k with
    | some l=>exact Nat.le_refl _
    | none=>
     simp only[Option.elim_none]
     cases g with
     | none=>first | exact Nat.le_refl _ | (split<;>exact Nat.le_refl _)
     | some l=>
      simp only[];have h:=bl_ _ p (Instr.endRound l (some (.goto A))) w #[];generalize (Sem.runT p (Instr.endRound l (some (.goto A))) w #[])=r at h ⊢;obtain⟨r,q⟩:=r;simp only[b5_]at h ⊢
      cases r with
      | ok v w'=>simp only[d9_];exact h
      | halt v w'=>exact h
   | cond c a b=>
    simp only[];split<;>exact Nat.le_refl _
   | rangeFunc f j m x=>
    simp only[];have h:=bl_ _ p (Instr.enterLoop B u j m x g) w #[];generalize (Sem.runT p (Instr.enterLoop B u j m x g) w #[])=r at h ⊢;obtain⟨r,q⟩:=r;simp only[b5_]at h ⊢
    cases r with
    | ok v w'=>exact Nat.le_trans h (k1_ ..)
    | halt v w'=>exact h
   | region o D L=>
    simp only[];refine xl_ (Nat.le_refl _) ?_
    cases hr:Sem.run p (choose (.order B o)) w with
    | ok t w'=>exact ca_ hr
    | halt t w'=>exact br_ hr
   | _=>exact Nat.le_refl _
  | inRegion D n=>
   cases n with
   | nil=>exact Nat.le_refl _
   | cons i r=>
    simp only[];exact xl_ (Ke_ ..) (Nat.le_refl _)
  | beginRound=>simp only[];exact k1_ ..
  | endRangeFunc l=>
   simp only[];have h:=bl_ _ p (Instr.endLoop l) w #[];generalize (Sem.runT p (Instr.endLoop l) w #[])=r at h ⊢;obtain⟨r,q⟩:=r;simp only[b5_]at h ⊢
   cases r with
   | ok v w'=>exact h
   | halt v w'=>cases v<;>exact h
  | call d b s v=>simp only[];exact k1_ ..
  | extern E args=>
   simp only[]
   cases he:Extern.next E with
   | none=>exact Nat.le_refl _
   | some e=>simp only[Option.elim_some];exact k1_ ..
  | _=>exact Nat.le_refl _
theorem H1_ (p:Program) (k:Bool) (g:Goroutine) (w:World) (i:Bool):w.drawn<=(gsW (stepG p k g w i)).drawn:=by
 obtain⟨m,cs,o,j,n⟩:=g;unfold stepG;simp only[]
 cases j with
 | none=>
  cases hm:m.mode with
  | run=>exact Ez_ ..
  | _=>exact u5_ ..
 | some d=>
  obtain⟨a,b,c,e,f,g,h⟩:=d
  cases c with
  | false=>exact Ll_ ..
  | true=>
   cases hm:m.mode with
   | run=>exact Ez_ ..
   | _=>exact u5_ ..
theorem qg_ (rest:Rest) (cases:Array CommCase) (w w':World) (h:waitingAt rest cases w=some w'):w'.drawn=w.drawn:=by
 unfold waitingAt at h;split at h
 ·split at h
  ·injection h with h;rw[<-h]
  ·cases h
 ·injection h with h;rw[<-h]
theorem qh_ (p:Program) (rest:Rest) (m:Array Goroutine) (i:Nat) (g:Goroutine) (cases:Array CommCase) (a:Bool)
    (d:CommShape) (w:World) (f:Machine) (h:(communicate p rest m i g cases a d w).1 = .next f):w.drawn<=f.world.drawn:=by
 unfold communicate at h;simp only[]at h;split at h
 ·simp at h
 ·split at h
  ·split at h
   ·split at h
    ·rename_i j b;simp only[Stepped.next.injEq]at h;subst h;exact Nat.le_of_eq (qg_ _ _ _ _ b).symm
    ·simp at h
   ·simp only[Stepped.next.injEq]at h;subst h;exact Nat.le_refl _
  ·split at h
   ·simp at h
   ·rename_i k c n j b;have h1:=ca_ b;clear b
    repeat' first
     | (simp at h;done)
     | (simp only[Stepped.next.injEq]at h;subst h;first
         | exact h1
         | (have e:=br_ (by assumption);exact Nat.le_trans h1 e)
         | (have e:=ca_ (by assumption);exact Nat.le_trans h1 e))
     | split at h
theorem E0_ (p:Program) (c:Array Goroutine) (rest:Rest) (w:World) (a:Machine)
    (h:look p c rest w = .next a):w.drawn<=a.world.drawn:=by
 unfold look at h;simp only[]at h
 repeat' first
  | (simp at h;done)
  | (simp only[Stepped.next.injEq]at h;subst h;have b:=ca_ (by assumption);exact b)
  | split at h
theorem H2_ (w:World) (c:Nat):(drain w c).2.drawn=w.drawn:=by unfold drain;split<;>rfl
theorem u6_ (m:Machine) (k:Nat) (t:Timer) (a b:Nat):(retime m k t a b).2.world.drawn=m.world.drawn:=by
 unfold retime;simp only[];split
 ·exact H2_ _ _
 ·rfl
theorem y9_ (m:Machine) (a:Addr) (f:Nat->Timer->Value×Machine) (d:Nat) (c:∀k t,(f k t).2.world.drawn=d) (v:Value) (b:Machine) (h:timerOp.named m a f = .ok (v,b)):b.world.drawn=d:=by
 unfold timerOp.named at h;split at h
 ·injection h with h;rw[<-congrArg (λx=>x.2.world.drawn) h];exact c _ _
 ·cases h
theorem Az_ (m:Machine) (op:TimerOp) (v:Value) (d:Machine) (h:timerOp m op = .ok (v,d)):d.world.drawn=m.world.drawn:=by
 unfold timerOp at h
 cases op with
 | new t=>
  simp only[]at h
  repeat' first
   | (cases h;done)
   | (injection h with h;injection h with _ h;subst h;rfl)
   | split at h
 | stop c=>exact y9_ _ _ _ _ (λk t=>u6_ ..) _ _ h
 | reset c g b=>
  simp only[]at h;split at h
  ·rename_i f a
   have e:f.world.drawn=m.world.drawn:=by
    unfold timerOp.opened at a;split at a
    ·split at a
     ·injection a with a;rw[<-a]
     ·cases a
    ·injection a with a;rw[<-a]
   exact (y9_ _ _ _ _ (λk t=>u6_ ..) _ _ h).trans e
  ·cases h
 | deadline i r w t=>
  injection h with h;injection h with _ h;rw[<-h];rfl
theorem Kf_ (p:Program) (m e:Machine) (i:Nat) (b:Bool) (h:(runT p m i b).1 = .next e):m.world.drawn<=e.world.drawn:=by
 simp only[runT]at h;revert h
 generalize m.gs.swapAt! _ _=gg;have a:=H1_ p (i==0) gg.1 m.world b;revert a
 generalize stepG p _ gg.1 m.world b=s;intro a h
 cases s<;>simp only[gsW]at h a
 all_goals first
  | (simp at h;done)
  | (simp only[Stepped.next.injEq]at h;subst h;exact a)
  | (have c:=qh_ _ _ _ _ _ _ _ _ _ _ h;exact Nat.le_trans a c)
  | (have c:=E0_ _ _ _ _ _ h;exact Nat.le_trans a c)
  | (repeat' first
      | (simp at h;done)
      | (simp only[Stepped.next.injEq]at h;subst h;first
          | exact a
          | (rename_i d;have c:=Az_ _ _ _ _ d;simp only[]at c ⊢;omega)
          | (rename_i d;have f:=congrArg gsW d;rw[xm_]at f;have g:=congrArg World.drawn f;exact Nat.le_trans a (Nat.le_of_eq g)))
      | split at h)
theorem H3_ (p:Program) (m a:Machine) (k:Nat) (h:serve p m k = .next a):m.world.drawn<=a.world.drawn:=by
 unfold serve at h;simp only[]at h
 repeat' first
  | (simp at h;done)
  | (simp only[Stepped.next.injEq]at h;subst h;exact Nat.le_refl _)
  | split at h
theorem H4_ (p:Program) (m b:Machine) (i:Nat) (h:askOn p m = .goroutine b i):m.world.drawn<=b.world.drawn:=by
 unfold askOn at h;simp only[]at h
 repeat' first
  | (simp at h;done)
  | (simp only [Move.goroutine.injEq] at h; obtain ⟨c, hi⟩ := h; rw [<- c]; simp only [Machine.advanceTo] at *; omega)
  | (split at h<;>(try (rename_i a;have d:=ca_ a;clear a)))
theorem H5_ (p:Program) (m b:Machine) (a:Array MemOp) (h:askOn p m = .machine (.next b) a):m.world.drawn<=b.world.drawn:=by
 unfold askOn at h;simp only[]at h
 repeat' first
  | (simp at h;done)
  | (simp only[Move.machine.injEq]at h;have e:=H3_ _ _ _ _ h.1;simp only[]at e;omega)
  | (simp only [Move.machine.injEq, Stepped.next.injEq] at h; obtain ⟨d, _⟩ := h; rw [<- d]; simp only [Machine.advanceTo] at *; omega)
  | (split at h<;>(try (rename_i c;have f:=ca_ c;clear c)))
theorem Jr_ (p:Program) (m:Machine):(∃m₂,m.world.drawn<=m₂.world.drawn/\ask p m=askOn p m₂)\/(∃o w,ask p m = .machine (.ended o w) #[]):=by
 unfold ask
 by_cases hw:m.rest.watch=true
 ·rw[if_pos hw]
  cases hr : (choose (.extern "collector.look" 2)).run p m.world with
  | halt h w=>exact .inr ⟨_,_,rfl⟩
  | ok k world=>
   have hd:=ca_ hr
   rcases k with _ | _ | k
   ·exact .inl ⟨{ m with world },hd,rfl⟩
   ·show (∃m₂,m.world.drawn<=m₂.world.drawn/\(match look p m.gs m.rest world with | .next m=>askOn p m | e=>Move.machine e)=askOn p m₂) \/
      (∃o w,(match look p m.gs m.rest world with | .next m=>askOn p m | e=>Move.machine e) = .machine (.ended o w) #[])
    cases hl:look p m.gs m.rest world with
    | next m₂=>exact .inl ⟨m₂,Nat.le_trans hd (E0_ _ _ _ _ _ hl),rfl⟩
    | ended o w=>exact .inr ⟨o,w,rfl⟩
   ·exact .inl ⟨{ m with world },hd,rfl⟩
 ·simp only[hw,Bool.false_eq_true,if_false]
  exact .inl ⟨m,Nat.le_refl _,rfl⟩
theorem Kg_ (p:Program) (m c:Machine) (i:Nat) (h:move p m = .goroutine c i):m.world.drawn<=c.world.drawn:=by
 have key:∀b:Machine,b.world=m.world->ask p b = .goroutine c i->m.world.drawn<=c.world.drawn:=λb h1 a=>by
  rcases Jr_ p b with⟨f,e,d⟩ | ⟨o,w,d⟩
  ·rw[d]at a;have:=H4_ _ _ _ _ a;rw[h1]at e;omega
  ·rw[d]at a;cases a
 unfold move at h;split at h
 ·split at h
  ·simp only[Move.goroutine.injEq]at h;rw[<-h.1];exact Nat.le_refl _
  ·cases h
 ·split at h
  ·split at h
   ·simp only[Move.goroutine.injEq]at h;rw[<-h.1];exact Nat.le_refl _
   ·exact key { m with rest:={ m.rest with slice:=none } } rfl h
  ·exact key m rfl h
theorem Kh_ (p:Program) (m c:Machine) (d:Array MemOp) (h:move p m = .machine (.next c) d):m.world.drawn<=c.world.drawn:=by
 have key:∀b:Machine,b.world=m.world->ask p b = .machine (.next c) d->m.world.drawn<=c.world.drawn:=λb h1 a=>by
  rcases Jr_ p b with⟨g,f,e⟩ | ⟨o,w,e⟩
  ·rw[e]at a;have:=H5_ _ _ _ _ a;rw[h1]at f;omega
  ·rw[e]at a;simp at a
 unfold move at h;split at h
 ·split at h
  ·cases h
  ·simp at h
 ·split at h
  ·split at h
   ·cases h
   ·exact key { m with rest:={ m.rest with slice:=none } } rfl h
  ·exact key m rfl h
theorem Ki_ (p:Program) (m a:Machine) (h:step p m = .next a):m.world.drawn<=a.world.drawn:=by
 unfold step stepT at h
 cases hm:move p m with
 | goroutine c i=>
  rw[hm]at h;exact Nat.le_trans (Kg_ _ _ _ _ hm) (Kf_ _ _ _ _ _ h)
 | machine s b=>
  rw[hm]at h;simp only[]at h;subst h;exact Kh_ _ _ _ _ hm
theorem E1_ (p:Program) (n:Nat):∀(m a:Machine),runN p n m = .next a->m.world.drawn<=a.world.drawn:=by
 induction n with
 | zero=>
  intro m a h;unfold runN at h;injection h with h;rw[h];exact Nat.le_refl _
 | succ n b=>
  intro m a h;unfold runN at h
  cases hs:step p m with
  | next c=>rw[hs]at h;exact Nat.le_trans (Ki_ _ _ _ hs) (b _ _ h)
  | ended o w=>rw[hs]at h;cases h
theorem calls_drawn {P:Program} {f:FuncId} {args:Array Value} {w:World} {R:Ending->World->Prop} (h:Calls P f args w R) :
    Calls P f args w λe w'=>R e w'/\(e ≠ .outgrown->w.drawn<=w'.drawn):=λcs=>by
 obtain⟨e,w',i,j,b,a⟩:=h cs;refine⟨e,w',i,⟨j,λg=>?_⟩,b,a⟩
 cases e with
 | returned v=>obtain⟨n,d⟩:=b;exact E1_ _ _ _ _ d
 | panicked c=>obtain⟨n,d⟩:=b;exact E1_ _ _ _ _ d
 | outgrown=>exact absurd rfl g
theorem grow_of_below {w w':World} (h:Below w.heap.size w w') (c:w.drawn<=w'.drawn):∃q os,w'=Sort.grow (w.drewN q) os:=by
 refine⟨w'.drawn-w.drawn,w'.heap.extract w.heap.size w'.heap.size,?_⟩;obtain⟨heap,tape,drawn,os,output⟩:=w';have h1:os=w.os:=h.os;have b:tape=w.tape:=h.tape;have d:output=w.output:=h.output
 have a:heap=w.heap++heap.extract w.heap.size heap.size:=by
  apply Array.ext_getElem?;intro i;rcases Nat.lt_or_ge i w.heap.size with hi | hi
  ·rw[Array.getElem?_append_left hi];exact h.block i hi
  ·rw[Array.getElem?_append_right hi,Array.getElem?_extract];have e:w.heap.size<=heap.size:=h.size;split
   ·congr 1;omega
   ·rw[Array.getElem?_eq_none (by omega)]
 have f:w.drawn<=drawn:=c;unfold Sort.grow World.drewN;rw[h1,b,d];show World.mk heap _ _ _ _=World.mk (w.heap++heap.extract w.heap.size heap.size) _ _ _ _;rw[<-a];congr 1
 show drawn=w.drawn+(drawn-w.drawn);omega
end Go.Proofs.YtefhfadjajcmkaaGreatDoor.Dn
namespace Go.Proofs.YtefhfadjajcmkaaGreatDoor
open Go.Lib (cell_of_heap)
section
open Go Go.RowKit Go.Shelf Go.Lib Go.Sort Go.Proofs
def TrS:bi_ d_:=λ_ _ t c=>ce_ t/\(∀n,a9_ (t.get n))/\∃b:Nat->Value,(∀n,n<3->∃A a,b n = .slice A 0 a)/\c=L_ t b
theorem TrS.good:TrS.Good:=⟨λh _=>h,λh _=>h⟩
structure ItT where
 t:d_
 ss:Nat->Value
 sc:ce_ t
 fit:∀n,a9_ (t.get n)
 sl:∀n,n<3->∃A cap,ss n = .slice A 0 cap
def u7_:h_:=.mk 1 true 0 ⟨#[]⟩ ⟨#[]⟩ []
theorem i7_:Y_ u7_:=by refine⟨?_,.inl rfl,by decide,by decide⟩;unfold u7_ K_;simp[bh_]
theorem u8_:a9_ u7_:=⟨by decide,by decide,by decide⟩
def za_:d_:=⟨u7_,u7_,u7_⟩
theorem A0_ (n:Nat):za_.get n=u7_:=by unfold d_.get za_;(repeat' split)<;>rfl
instance:Inhabited ItT:=⟨⟨za_,λ_=>.slice none 0 0,⟨i7_,i7_,i7_⟩,λn=>by rw[A0_];exact u8_,λ_ _=>⟨none,0,rfl⟩⟩⟩
def A1_ (x:ItT):List Value:=(L_ x.t x.ss).toList
theorem E2_ (x:ItT):(A1_ x).length=18:=rfl
theorem u9_ (x:ItT):(A1_ x).toArray=L_ x.t x.ss:=by unfold A1_;rw[Array.toArray_toList]
theorem ct_ (t:d_) (c:Nat->Value) (h:∀n,n<3->∃A l b,c n = .slice A l b):∀v∈(L_ t c).toList,v.oneCell'=true:=by obtain⟨j,i,o,h0⟩:=h 0 (by omega);obtain⟨m,p,e,h1⟩:=h 1 (by omega);obtain⟨f,g,k,d⟩:=h 2 (by omega);intro v a;unfold L_ c_ at a;rw[h0,h1,d]at a;simp only[Array.toList_append,List.mem_append,List.mem_cons,List.not_mem_nil,or_false]at a;rcases a with ((rfl | rfl | rfl | rfl | rfl | rfl) | (rfl | rfl | rfl | rfl | rfl | rfl)) | (rfl | rfl | rfl | rfl | rfl | rfl)<;>rfl
theorem E3_ (x:ItT):∀v∈A1_ x,v.oneCell'=true:=ct_ x.t x.ss λn b=>by
 obtain⟨A,a,e⟩:=x.sl n b;exact⟨A,0,a,e⟩
theorem j_ {c w w':World} {S:Nat->Prop} (hb:Below c.heap.size c w) (a:Turn S w w') (d:∀b,S b->c.heap.size<=b):Below c.heap.size c w':=
 hb.trans ⟨a.os,a.tape,a.output,a.size,λk e=>a.block k (Nat.lt_of_lt_of_le e hb.size) (λh=>by have:=d k h;omega)⟩
theorem s2_ {α I:Type} {o:α -> α -> Int} (h:g1_ o) (a : I -> α):SWO (ltOf λx y:I=>o (a x) (a y)) where
 irrefl x:=by show decide (o (a x) (a x)<0)=false;rw[h.refl];rfl
 trans x y z h1 h2:=by unfold ltOf at *;simp only [decide_eq_true_eq] at *;exact h.lt_trans h1 (by omega)
 ntrans x y z h1 h2:=by unfold ltOf at *;simp only [decide_eq_false_iff_not] at *;intro e;have b:=h.anti (a x) (a y);have d:=h.anti (a y) (a z);have c:=h.anti (a x) (a z);have:=h.trans (a z) (a y) (a x) (by omega) (by omega);omega
theorem zb_ {α : Type} [Inhabited α] (enc:α -> Value) {w:World} {b m n sz a:Nat} {e:TypeId} {c:Array Value} {d:Array α} {os:Array Obj} (h:w.heap[b]?=some (.cells c e (0,0))) (h1:n<=a) (k:a<=maxLen) (o:c.size=a*sz) (f:d.size=n*sz) :
    (grow (putRow enc (Sort.ahead w m) b 0 d) os).ownsRow 0 e sz (.slice (some ⟨b,0,none⟩) n a) n (d.toList.map enc):=by
 have g:=b_ h;have hb:(grow (putRow enc (Sort.ahead w m) b 0 d) os).heap[b]?=some (.cells (putCells enc 0 d c) e (0,0)):=by rw[heap_grow_old _ _ (by simpa using g)];simp[putRow,mapBlock,Sort.ahead,Array.getElem?_modify,h,onCells]
 have p:n*sz<=a*sz:=Nat.mul_le_mul_right sz h1;refine⟨by simp[f],.inr ⟨b,a,_,rfl,Nat.zero_le _,hb,h1,k,by simp[putCells,o],?_⟩⟩;apply List.ext_getElem?;intro j;by_cases i:j<n*sz
 ·rw[List.getElem?_take_of_lt i,Array.getElem?_toList];simp[putCells,f,i,show j<c.size by omega]
 ·rw[List.getElem?_take_eq_none (by omega),List.getElem?_eq_none (by simp[f];omega)]
theorem va_ {I:Type} [Inhabited I] (enc:I->List Value) (k:Nat) (f:∀x,(enc x).length=k) (d:Array I):(flatK enc k d).toList.map id=I_ (λi=>(enc d[i]!).toArray) d.size:=by
 rw[List.map_id];apply List.ext_getElem?;intro t;have a:∀i,i<d.size->((λi=>(enc d[i]!).toArray) i).size=k:=λi _=>by simp[f]
 by_cases h:t<d.size*k
 ·have j:0<k:=by
    rcases Nat.eq_zero_or_pos k with h0 | h0
    ·rw[h0,Nat.mul_zero]at h;omega
    ·exact h0
  have hi:t / k<d.size:=Nat.div_lt_of_lt_mul (by rw[Nat.mul_comm];exact h);have c:t % k<k:=Nat.mod_lt _ j;have g:t / k*k+t % k=t:=by rw[Nat.mul_comm];exact Nat.div_add_mod t k
  have b:=az_ a hi c;rw[g]at b;rw[b,Array.getElem?_toList];have e:=get_flatK enc k d t h;rw[getElem!_pos _ t (by simpa using h)]at e;rw[Array.getElem?_eq_getElem (by simpa using h),e];simp[f,c]
 ·rw[List.getElem?_eq_none (by simp;omega),List.getElem?_eq_none (by rw[al_ a];omega)]
section
variable {P:Program} {ρ : Ren} {α I:Type} [Inhabited I] {R:bi_ α} {w:World} {F:Nat->Prop} {l:List α} {s:Value} {sz:Nat}
theorem rc_ (L:SlLaysF0.n6 P ρ) (hR:R.Good) (a8:0<sz) (aE:∀w,(isAgg (ρ.t 24)).run P w = .ok true w) (zE:∀w,(Go.sizeOf (ρ.t 24)).run P w = .ok sz w) (enc:I->List Value) (val:I -> α)
    (hk:∀x,(enc x).length=sz) (h1:∀x,∀v∈enc x,v.oneCell'=true) (ac:∀{w:World} {F:Nat->Prop} {x:α} {c:Array Value},R w F x c->∃r,enc r=c.toList/\val r=x)
    (U:α -> α -> Int) (hO:SWO (ltOf λx y:I=>U (val x) (val y))) (g:Nat) (cb:Array Value) (eg:∀args w,(callFunc g args).run P w = .ok (.enter g args) w)
    (ai:∀(x y:I) (W:World),Turn (λb=>s.ownBlock=some b) w W->Calls P g (#[.agg (enc x).toArray,.agg (enc y).toArray]++cb) W λe w'=>e = .returned (.int .i64 (U (val x) (val y)))/\Below W.heap.size W w')
    (h:x_ (ρ.t 24) sz R w F l s) (ao:l.length<=100000000) (hF:∀b,F b->b<w.heap.size) :
    Calls P (ρ.f 6) #[s,.func (.func g) #[] cb] w λe w'=>e = .returned (.tuple #[])/\∃l':List α,l'.Perm l/\l'.Pairwise (λa b=>¬U b a<0)/\x_ (ρ.t 24) sz R w' F l' s/\Turn (λb=>s.ownBlock=some b) w w':=by
 obtain⟨cs,T,h6,aj,hr⟩:=h;rcases T.2 with⟨hs,h0⟩ | ⟨b,V,ap,hs,_,hb,a3,a4,ak,am⟩
 ·subst hs;have a6:l=[]:=List.eq_nil_of_length_eq_zero h0;subst a6;refine (AnyF.slices_SortFunc_none L none 0 _ w).mono λe w' ⟨A,N⟩=>⟨A,[],List.Perm.refl _,List.Pairwise.nil,?_,?_⟩
  ·rw[N];exact x_.nil ..
  ·rw[N];exact Turn.refl _ _
 ·subst hs;have a2:=b_ hb
  have Z:∀i,∃r:I,∀x,l[i]?=some x->enc r=(cs i).toList/\val r=x:=λi=>by
   cases D:l[i]? with
   | none=>exact⟨default,λx h=>by cases h⟩
   | some x=>
    obtain⟨r,E,J⟩:=ac (hr i x D);exact⟨r,λy hy=>by injection hy with hy;subst hy;exact⟨E,J⟩⟩
  obtain⟨r,hi⟩:∃r:Nat->I,∀i x,l[i]?=some x->enc (r i)=(cs i).toList/\val (r i)=x:=⟨λi=>(Z i).choose,λi=>(Z i).choose_spec⟩;clear Z;obtain⟨d,hd⟩:∃d:Array I,d=((List.range l.length).map r).toArray:=⟨_,rfl⟩;have k:d.size=l.length:=by rw[hd];simp
  have ab:∀i,i<l.length->d[i]! = r i:=λi hi=>by rw[getElem!_pos _ i (by rw[k];exact hi)];simp[hd]
  have hH:HoldsK enc sz w b 0 d:=by
   intro j hj;rw[size_flatK,k]at hj;have u:j / sz<l.length:=Nat.div_lt_of_lt_mul (by rw[Nat.mul_comm];exact hj);have Y:j % sz<sz:=Nat.mod_lt _ a8;have A:j / sz*sz+j % sz=j:=by rw[Nat.mul_comm];exact Nat.div_add_mod j sz
   refine⟨?_,by simp[World.frozen?,hb]⟩;rw[get_flatK _ _ _ _ (by rw[k];exact hj),ab _ u,(hi _ _ (List.getElem?_eq_getElem u)).1];have O:=T.cellAt j hj;have h3:=az_ h6 u Y;rw[A]at h3;rw[h3]at O;rw[show (0+j)=j by omega,O];rw[getElem!_pos (cs (j / sz)).toList (j % sz) (by rw[Array.length_toList,h6 _ u];exact Y)];simp[h6 _ u,Y]
  have a1:d.size<4611686018427387904:=by rw[k];omega
  have a5:CmpLays P g cb enc sz (λx y=>U (val x) (val y)) b 0 d.size w:=λm os dk _ x y=>by
   have ht:Turn (λi=>(Value.slice (some ⟨b,0,none⟩) l.length V).ownBlock=some i) w (sortWorldK enc sz w b 0 m dk os):=en_.mono λi _ hi=>by rw[hi];rfl
   refine (Dn.calls_drawn (ai x y _ ht)).mono λe w' ⟨⟨A,af⟩,ae⟩=>⟨A,?_⟩;exact Dn.grow_of_below af (ae (by rw[A];exact λh=>by cases h))
  have S:=AnyQ.slices_SortFunc L sz aE zE enc hk h1 (λx y=>U (val x) (val y)) hO g cb b 0 V d w eg a5 hH a2 a1;rw[k]at S;refine S.mono λe w' ⟨A,o,n,os,B,a9,N⟩=>⟨A,o.toList.map val,?_,?_,?_,?_⟩
  ·have C:=B.2.2;have E:(o.extract 0 l.length).toList=o.toList:=by rw[show l.length=o.size by rw[B.1,k]];simp
   have J:(d.extract 0 l.length).toList=d.toList:=by rw[show l.length=d.size by rw[k]];simp
   rw[E,J]at C;refine (C.map val).trans (List.Perm.of_eq ?_);rw[hd];apply List.ext_getElem?;intro i;simp only[List.map_map,List.getElem?_map];rcases Nat.lt_or_ge i l.length with h | h
   ·rw[List.getElem?_range h,List.getElem?_eq_getElem h];simp[(hi i _ (List.getElem?_eq_getElem h)).2]
   ·rw[List.getElem?_eq_none (by simpa using h),List.getElem?_eq_none h];rfl
  ·rw[List.pairwise_iff_getElem];intro i j u X a7;simp only[List.length_map,Array.length_toList]at u X;have O:=a9 i j (Nat.zero_le _) a7 (by rw[<-k,<-B.1];exact X);rw[getElem!_pos _ i u,getElem!_pos _ j X]at O;unfold ltOf at O;simpa using O
  ·have z:o.size=l.length:=by rw[B.1,k]
   have aa:(o.toList.map val).length=l.length:=by simp[z]
   have ht:Turn (λi=>i=b) w w':=by rw[N];exact en_
   have a0:w'.ownsRow 0 (ρ.t 24) sz (.slice (some ⟨b,0,none⟩) l.length V) l.length (I_ (λi=>(enc o[i]!).toArray) l.length):=by rw[N];have:=zb_ (e:=ρ.t 24) (m:=n) (os:=os) id (d:=flatK enc sz o) hb a3 a4 ak (by rw[size_flatK,z]);rw[va_ enc sz hk o,z]at this;exact this
   refine⟨λi=>(enc o[i]!).toArray,by rw[aa];exact a0,λi _=>by simp[hk],aj,λi x D=>?_⟩;have M:=b8_ D;rw[List.length_map,Array.length_toList]at M;rw[List.getElem?_map]at D;have ag:x=val o[i]!:=by rw[List.getElem?_eq_getElem (by simpa using M)]at D;injection D with D;rw[getElem!_pos _ i M,<-D];rfl
   have G:o[i]! ∈ d.toList:=by
    have C:=B.2.2;have E:(o.extract 0 l.length).toList=o.toList:=by rw[<-z];simp
    have J:(d.extract 0 l.length).toList=d.toList:=by rw[<-k];simp
    rw[E,J]at C;refine C.mem_iff.1 ?_;rw[getElem!_pos _ i M];simp
   rw[hd]at G;simp only[List.mem_map,List.mem_range]at G;obtain⟨q,hq,ad⟩:=G;obtain⟨E,J⟩:=hi q _ (List.getElem?_eq_getElem hq);have ah:=hr q _ (List.getElem?_eq_getElem hq);show R w' _ x (enc o[i]!).toArray;rw[ag,<-ad,E,J];exact hR.keep ah (w':=w') λp B=>ht.cell (hF _ B.1) λe=>B.2 (by rw[e];rfl)
  ·rw[N];exact en_.mono λi _ hi=>by rw[hi];rfl
end
theorem itT {w:World} {F:Nat->Prop} {x:d_} {c:Array Value} (h:TrS w F x c):∃a:ItT,A1_ a=c.toList/\a.t=x:=by obtain⟨h1,b,e,d,rfl⟩:=h;exact⟨⟨x,e,h1,b,d⟩,rfl,rfl⟩
theorem A2_ (W:Way) (u:W.Ok) (g:Nat) (c:World) {w:World} {F:Nat->Prop} {l:List d_} {s:Value} (h:x_ 99 18 TrS w F l s) (i:l.length<=100000000) (v:∀b,F b->b<w.heap.size)
    (hb:Below c.heap.size c w) (k:∀b,s.ownBlock=some b->c.heap.size<=b) (o:M_ c) (p:bc_ c) (q:w.heap[g]?=some (.cells (gt_ W) 101 (0,0))) :
    Calls Tryz.prog 49 #[s,.func (.func 50) #[] #[.pointer (some ⟨g,0,none⟩)]] w λe w'=>e = .returned (.tuple #[])/\∃j:List d_,j.Perm l/\j.Pairwise (λa b=>¬A_ W b a<0)/\x_ 99 18 TrS w' F j s/\Turn (λb=>s.ownBlock=some b) w w':=by
 have r:s.ownBlock≠some g:=by obtain⟨cs,f,_⟩:=h;exact dj_ f q (by decide)
 refine rc_ Tryz.sortP TrS.good (by decide) Tryz.isAgg99 Tryz.sizeOf99 A1_ ItT.t E2_ E3_ itT (A_ W) (s2_ (be_ W) ItT.t) 50 #[.pointer (some ⟨g,0,none⟩)] (enters_of Tryz.func50 (by kernel_rfl) rfl) (λx y V m=>?_) h i v;rw[u9_,u9_];have d:=j_ hb m k;exact At_ W u x.t y.t x.ss y.ss g V (m.heap q r) (λn=>⟨(x.sc.get n).2.1,x.fit n⟩) y.fit (g_ o d) (p_ p d)
end
section
open Go Go.RowKit Go.Maps
def irV (s:ByteArray):h_:=.mk 8 false 0 s ⟨#[]⟩ []
theorem A3_ (t:ByteArray) (W:World):(Instr.build 39 #[(0,.int .i64 4),(3,.string t)]).run Tryz.prog W = .ok (.agg (c_ (txV t) (.slice none 0 0))) W:=by kernel_rfl
theorem A4_ (t:ByteArray) (W:World):(Instr.build 39 #[(0,.int .i64 8),(3,.string t)]).run Tryz.prog W = .ok (.agg (c_ (irV t) (.slice none 0 0))) W:=by kernel_rfl
def e8_ (t:ByteArray) (w:World) (e:Ending) (w':World):Prop:=e = .returned (.agg (c_ (txV t) (.slice none 0 0)))/\Below w.heap.size w w'
theorem ea_ (t:ByteArray) (w:World):Calls Tryz.prog 137 #[.string t] w (e8_ t w):=by
 obtain⟨u,c⟩:=F_ (txV t) (.slice none 0 0);have r:=q_ (show u.size=(#[.int .i64 0,.bool false,.int .i64 0,.string ⟨#[]⟩,.string ⟨#[]⟩,.slice none 0 0]:Array Value).size from by rw[c.size];rfl);have h:=q_ (show (Tryz.prog.info? 39).map (·.size)=some u.size from cs_.trans (congrArg some c.size.symm));have q:=q_ (show u.all (·.oneCell')=true from by rw[<-c.o];kernel_rfl);have e:=q_ (λW:World=>(show (Instr.build 39 #[(0,.int .i64 4),(3,.string t)]).run Tryz.prog W = .ok (.agg u) W from by rw[<-c.o];exact A3_ t W));obtain⟨z,d⟩:=a_ w.heap.size;obtain⟨m,a⟩:=a_ (w.alloc (.cells #[.int .i64 0,.bool false,.int .i64 0,.string ⟨#[]⟩,.string ⟨#[]⟩,.slice none 0 0] 39));have i:=q_ (show Below w.heap.size w m from by rw[<-a.o];exact (Below.refl _ _).alloc (Nat.le_refl _) _);have f:=q_ (show m.heap[z]?=some (.cells #[.int .i64 0,.bool false,.int .i64 0,.string ⟨#[]⟩,.string ⟨#[]⟩,.slice none 0 0] 39 (0,0)) from by rw[<-a.o,<-d.o];exact heap_alloc_new w _);have p:=q_ (λ(w':World) (hb:Below w.heap.size w w')=>(show e8_ t w (.returned (.agg u)) w' from ⟨by rw[<-c.o],hb⟩));clear c;go_enter Tryz.func137,Tryz.ntmps137
 go_upto_region 1 with fail;rw[a.o,d.o];clear a
 go_wp2_with (first
  | ((with_reducible refine e_ (some 4) ?_);refine N_ rfl 39 _ rfl #[(0,.int .i64 4),(3,.string t)] (by kernel_rfl) (.agg u) (e.o _) ?_)
  | ((with_reducible refine y_ 2 ?_);refine m_ rfl 39 _ _ rfl z (#[.int .i64 0,.bool false,.int .i64 0,.string ⟨#[]⟩,.string ⟨#[]⟩,.slice none 0 0]) u 39 rfl rfl f.o r.o h.o q.o ?_;intro w2 n k))
 have j:=q_ (show Below w.heap.size w w2 from j_ i.o k (λb hb=>by have hb:b=z:=hb;have x:w.heap.size=z:=d.o;omega));refine bodyPost_ret (v:=.agg u) (ad_ Tryz.results137 (g:=z) rfl n _ Tryz.underlying39 rfl h.o) rfl (p.o _ j.o)
def s3_ (t:ByteArray) (w:World) (e:Ending) (w':World):Prop:=e = .returned (.agg (c_ (irV t) (.slice none 0 0)))/\Below w.heap.size w w'
theorem vb_ (t:ByteArray) (w:World):Calls Tryz.prog 65 #[.string t] w (s3_ t w):=by
 obtain⟨u,c⟩:=F_ (irV t) (.slice none 0 0);have r:=q_ (show u.size=(#[.int .i64 0,.bool false,.int .i64 0,.string ⟨#[]⟩,.string ⟨#[]⟩,.slice none 0 0]:Array Value).size from by rw[c.size];rfl);have h:=q_ (show (Tryz.prog.info? 39).map (·.size)=some u.size from cs_.trans (congrArg some c.size.symm));have q:=q_ (show u.all (·.oneCell')=true from by rw[<-c.o];kernel_rfl);have e:=q_ (λW:World=>(show (Instr.build 39 #[(0,.int .i64 8),(3,.string t)]).run Tryz.prog W = .ok (.agg u) W from by rw[<-c.o];exact A4_ t W));obtain⟨z,d⟩:=a_ w.heap.size;obtain⟨m,a⟩:=a_ (w.alloc (.cells #[.int .i64 0,.bool false,.int .i64 0,.string ⟨#[]⟩,.string ⟨#[]⟩,.slice none 0 0] 39));have i:=q_ (show Below w.heap.size w m from by rw[<-a.o];exact (Below.refl _ _).alloc (Nat.le_refl _) _);have f:=q_ (show m.heap[z]?=some (.cells #[.int .i64 0,.bool false,.int .i64 0,.string ⟨#[]⟩,.string ⟨#[]⟩,.slice none 0 0] 39 (0,0)) from by rw[<-a.o,<-d.o];exact heap_alloc_new w _);have p:=q_ (λ(w':World) (hb:Below w.heap.size w w')=>(show s3_ t w (.returned (.agg u)) w' from ⟨by rw[<-c.o],hb⟩));clear c;go_enter Tryz.func65,Tryz.ntmps65
 go_upto_region 1 with fail;rw[a.o,d.o];clear a
 go_wp2_with (first
  | ((with_reducible refine e_ (some 4) ?_);refine N_ rfl 39 _ rfl #[(0,.int .i64 8),(3,.string t)] (by kernel_rfl) (.agg u) (e.o _) ?_)
  | ((with_reducible refine y_ 2 ?_);refine m_ rfl 39 _ _ rfl z (#[.int .i64 0,.bool false,.int .i64 0,.string ⟨#[]⟩,.string ⟨#[]⟩,.slice none 0 0]) u 39 rfl rfl f.o r.o h.o q.o ?_;intro w2 n k))
 have j:=q_ (show Below w.heap.size w w2 from j_ i.o k (λb hb=>by have hb:b=z:=hb;have x:w.heap.size=z:=d.o;omega));refine bodyPost_ret (v:=.agg u) (ad_ Tryz.results65 (g:=z) rfl n _ Tryz.underlying39 rfl h.o) rfl (p.o _ j.o)
theorem c6_ {P:Program} {c:Array Oper} {rest:List Oper} {op:Oper} {a:Act} {w:World} {Q:Exit->Act->World->Prop} (f:op.guard=none) (ty:TypeId) (n:Nat) (b:Array (Nat×Operand)) (k:op.op = .buildSlice ty n b) (d:Array (Nat×Value)) (g:(b.map λ(i,x)=>(i,a.eval x))=d) (v:Value) (w':World) (j:(Instr.buildSlice ty n d).run P w = .ok v w') (h:wpList P c Q rest (a.put op.dst v) w'):wpList P c Q (op::rest) a w:=
 wpList_plain f λ_ m=>by
  unfold Oper.wp execOp;simp only[k];have e:(Instr.buildSlice ty n (b.map λ(i,x)=>(i,a.eval x))).run P w = .ok v w':=by rw[g];exact j
  simp only[Sem.run_bind,Sem.run_pure,e,Result.andThen_ok];exact m _ _ h
theorem e9_ {P:Program} {d:Array Oper} {rest:List Oper} {op:Oper} {a:Act} {w:World} {Q:Exit->Act->World->Prop} (f:op.guard=none) (ty:TypeId) (x y:Operand) (k:op.op = .store ty x y) (g j:Nat) (c:Array Value) (T:TypeId) (v:Value) (i:a.eval x = .pointer (some ⟨g,j,none⟩)) (m:a.eval y=v)
    (e:(Instr.storeAt ty (.pointer (some ⟨g,j,none⟩)) v).run P w = .ok () (w.setCell ⟨g,j,none⟩ v)) (o:w.heap[g]?=some (.cells c T (0,0)))
    (h:∀w',w'.heap[g]?=some (.cells (c.setIfInBounds j v) T (0,0))->Turn (λb=>b=g) w w'->wpList P d Q rest (a.put op.dst undef) w'):wpList P d Q (op::rest) a w:=
 wpList_plain f λ_ n=>by
  unfold Oper.wp execOp;simp only[k,i,m,Sem.run_bind,Sem.run_pure,e,Result.andThen_ok];exact n _ _ (h _ (heap_setCell_same w g j _ T _ o) (Turn.setCell (S:=λb=>b=g) (Turn.refl _ w) (p:=⟨g,j,none⟩) (.inr rfl) v))
theorem ai_ {w:World} {g j:Nat} {c:Array Value} {T:TypeId} (b:w.heap[g]?=some (.cells c T (0,0))) (d:j<c.size) (A:Option Addr) (n a:Nat):(Instr.storeAt 67 (.pointer (some ⟨g,j,none⟩)) (.slice A n a)).run Tryz.prog w = .ok () (w.setCell ⟨g,j,none⟩ (.slice A n a)):=by have h1:=cell_of_heap b j;rw[Array.getElem?_eq_getElem d]at h1;have e:=Lib.frozen_of_heap b j;go_simp
theorem T_ {w:World} {g j:Nat} {c:Array Value} {T:TypeId} (b:w.heap[g]?=some (.cells c T (0,0))) (d:j<c.size) (A:Option Addr) (n a:Nat):(Instr.storeAt 70 (.pointer (some ⟨g,j,none⟩)) (.slice A n a)).run Tryz.prog w = .ok () (w.setCell ⟨g,j,none⟩ (.slice A n a)):=by have h1:=cell_of_heap b j;rw[Array.getElem?_eq_getElem d]at h1;have e:=Lib.frozen_of_heap b j;go_simp
theorem fa_ {w:World} {g j:Nat} {c:Array Value} {T:TypeId} (b:w.heap[g]?=some (.cells c T (0,0))) (d:j<c.size) (A:Option Addr) (n a:Nat):(Instr.storeAt 51 (.pointer (some ⟨g,j,none⟩)) (.slice A n a)).run Tryz.prog w = .ok () (w.setCell ⟨g,j,none⟩ (.slice A n a)):=by have h1:=cell_of_heap b j;rw[Array.getElem?_eq_getElem d]at h1;have e:=Lib.frozen_of_heap b j;go_simp
theorem s4_ {w:World} {g j:Nat} {c:Array Value} {T:TypeId} (b:w.heap[g]?=some (.cells c T (0,0))) (d:j<c.size) (A:Option Addr) (n a:Nat):(Instr.storeAt 52 (.pointer (some ⟨g,j,none⟩)) (.slice A n a)).run Tryz.prog w = .ok () (w.setCell ⟨g,j,none⟩ (.slice A n a)):=by have h1:=cell_of_heap b j;rw[Array.getElem?_eq_getElem d]at h1;have e:=Lib.frozen_of_heap b j;go_simp
theorem fb_ {α : Type} {R:bi_ α} {sz:Nat} {w:World} {F:Nat->Prop} {g:Nat} {c:Array Value} {T:TypeId} {b:Nat×Nat} {x:α} (h:w.heap[g]?=some (.cells c T b)) (d:c.size=sz) (f:F g) (e:R w F x c):SlR sz R w F [x] (.slice (some ⟨g,0,none⟩) 1 1):=
 ⟨_,_,rfl,Nat.le_refl _,rfl,λ_=>⟨_,rfl,f,λi y a=>by
  have hi:i=0:=by have:=(List.getElem?_eq_some_iff.1 a).1;simp at this;omega
  subst hi;simp at a;subst a;refine⟨c,d,λj k=>?_,e⟩;rw[Addr.add_mid,Nat.zero_mul,Nat.zero_add,Nat.zero_add];exact cell_of_row w g j c T b h⟩⟩
theorem gf_ {α : Type} {R:bi_ α} {sz:Nat} {w:World} {F:Nat->Prop} {g:Nat} {c d:Array Value} {T:TypeId} {a:Nat×Nat} {x y:α} (e:w.heap[g]?=some (.cells (c++d) T a)) (b:c.size=sz) (k:d.size=sz) (n:F g) (m:R w F x c) (h:R w F y d):SlR sz R w F [x,y] (.slice (some ⟨g,0,none⟩) 2 2):=
 ⟨_,_,rfl,Nat.le_refl _,rfl,λ_=>⟨_,rfl,n,λi z hz=>by
  have hi:i=0\/i=1:=by have:=(List.getElem?_eq_some_iff.1 hz).1;simp at this;omega
  rcases hi with rfl | rfl
  ·simp at hz;subst hz;refine⟨c,b,λj f=>?_,m⟩;rw[Addr.add_mid,Nat.zero_mul,Nat.zero_add,Nat.zero_add,cell_of_row w g j _ T a e,Array.getElem?_append_left (by omega)]
  ·simp at hz;subst hz;refine⟨d,k,λj f=>?_,h⟩;rw[Addr.add_mid,Nat.one_mul,Nat.zero_add,cell_of_row w g _ _ T a e,Array.getElem?_append_right (by omega),b,Nat.add_sub_cancel_left]⟩⟩
theorem dp_ (s:ByteArray) (w:World):(Instr.buildSlice 67 1 #[(0,.string s)]).run Tryz.prog w = .ok (.slice (some ⟨w.heap.size,0,none⟩) 1 1) (w.alloc (.cells #[.string s] 9)):=by kernel_rfl
theorem gg_ (k:ByteArray) (v:h_) (s:Value) (w:World):(Instr.build 69 #[(0,.string k),(1,.agg (c_ v s))]).run Tryz.prog w = .ok (.agg (b3_ ⟨k,v⟩ s)) w:=by kernel_rfl
theorem eo_ (p:C_) (s:Value) (w:World):(Instr.buildSlice 70 1 #[(0,.agg (b3_ p s))]).run Tryz.prog w = .ok (.slice (some ⟨w.heap.size,0,none⟩) 1 1) (w.alloc (.cells (b3_ p s) 69)):=by kernel_rfl
theorem fw_ (p q:C_) (s t:Value) (w:World):(Instr.buildSlice 70 2 #[(0,.agg (b3_ p s)),(1,.agg (b3_ q t))]).run Tryz.prog w = .ok (.slice (some ⟨w.heap.size,0,none⟩) 2 2) (w.alloc (.cells (b3_ p s++b3_ q t) 69)):=by kernel_rfl
structure Eq7 (c:Array Value) (p:C_) (s:Value):Prop where
 o :b3_ p s=c
theorem jp_ (p:C_) (s:Value):∃c,Eq7 c p s:=⟨_,⟨rfl⟩⟩
def k2_ (a:Int) (v:h_) (w:World) (e:Ending) (w':World):Prop:=∃L P,e = .returned (.agg #[.int .i64 a,L,P])/\SlR 1 TxR w' (λb=>w.heap.size<=b/\b<w'.heap.size) (E_ a v).labels L/\SlR 7 PaR w' (λb=>w.heap.size<=b/\b<w'.heap.size) (E_ a v).props P/\Below w.heap.size w w'
end
end Go.Proofs.YtefhfadjajcmkaaGreatDoor
