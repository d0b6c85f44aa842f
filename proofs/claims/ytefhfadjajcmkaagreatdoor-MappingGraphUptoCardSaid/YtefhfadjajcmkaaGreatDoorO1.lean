/- Amounts digit by digit: plain facts. -/
import Derived.Test.YtefhfadjajcmkaaGreatDoorO0
import Derived.BigRegion
import Derived.OneCell
import Derived.Laws.OwnMore
import Derived.Lib.AppendStr
set_option linter.unusedVariables false
set_option linter.unusedSimpArgs false
set_option maxRecDepth 100000
set_option maxHeartbeats 64000000
namespace Go.Proofs.YtefhfadjajcmkaaGreatDoor
open _root_.Go.Proofs.Tryz
open Bool renaming and_eq_true→YW
open Go.IntWalk renaming i64_in→YU
open Go.Instr renaming typeAssert→YX
open Go.Ending renaming returned→YQ
open Go.RowKit renaming Below→XW
open Go.RowKit.Below renaming refl→XV
open Nat renaming lt_of_lt_of_le→XZ,le_refl→XK,le_trans→ZX,zero_add→VQ,lt_or_ge→VZ
open Go.Obj renaming cells→XX
open List renaming getElem?_eq_getElem→XQ,mem_of_getElem?→YZ,take_of_length_le→YJ,length_append→ZZ,getElem?_eq_none→ZK,eq_nil_of_length_eq_zero→UK,append_assoc→UW,mem_cons_self→VJ
open _root_.Go.Proofs.Tryz renaming prog→QW
open Go renaming World→QV,Value→XJ,heap_alloc_new→XU,bodyPost_ret→ZV
open Go.IntKind renaming i64→QU,u64→UY
open Option renaming some→QJ,none→QK
open Go.Lib renaming cell_of_heap→QX,frozen_of_heap→YY
open Go.Value renaming slice→QQ,string→QZ,int→QY,bool→XY,pointer→YK,tuple→ZJ,iface→UX
open Go.Lib (cell_of_heap)
section
open Go Go.RowKit
theorem pw_ (w:QV) (a b c:Obj):XW w.heap.size w (((w.alloc a).alloc b).alloc c):=(((XV _ _).alloc (XK _) _).alloc (by simp) _).alloc (by simp;omega) _
theorem ug_ (y:XJ) (w:QV):(YX (UX 233 y) 20 233 true).run QW w = .ok (ZJ #[y,XY true]) w:=by kernel_rfl
theorem oi_ (y:XJ) (w:QV):(YX (UX 194 y) 20 233 true).run QW w = .ok (ZJ #[.agg #[],XY false]) w:=by kernel_rfl
theorem kg_ (y:XJ) (w:QV):(YX (UX 194 y) 20 194 true).run QW w = .ok (ZJ #[y,XY true]) w:=by kernel_rfl
theorem rs_ (y:XJ) (w:QV):(YX (UX 188 y) 20 233 true).run QW w = .ok (ZJ #[.agg #[],XY false]) w:=by kernel_rfl
theorem m4_ (y:XJ) (w:QV):(YX (UX 188 y) 20 194 true).run QW w = .ok (ZJ #[XY false,XY false]) w:=by kernel_rfl
theorem ps_ (y:XJ) (w:QV):(YX (UX 188 y) 20 188 true).run QW w = .ok (ZJ #[y,XY true]) w:=by kernel_rfl
theorem pm_ (y:XJ) (w:QV):(YX (UX 189 y) 20 233 true).run QW w = .ok (ZJ #[.agg #[],XY false]) w:=by kernel_rfl
theorem ld_ (y:XJ) (w:QV):(YX (UX 189 y) 20 194 true).run QW w = .ok (ZJ #[XY false,XY false]) w:=by kernel_rfl
theorem oj_ (y:XJ) (w:QV):(YX (UX 189 y) 20 188 true).run QW w = .ok (ZJ #[QY QU 0,XY false]) w:=by kernel_rfl
theorem my_ (y:XJ) (w:QV):(YX (UX 189 y) 20 189 true).run QW w = .ok (ZJ #[y,XY true]) w:=by kernel_rfl
theorem gp_ (y:XJ) (w:QV):(YX (UX 234 y) 20 233 true).run QW w = .ok (ZJ #[.agg #[],XY false]) w:=by kernel_rfl
theorem eg_ (y:XJ) (w:QV):(YX (UX 234 y) 20 194 true).run QW w = .ok (ZJ #[XY false,XY false]) w:=by kernel_rfl
theorem fq_ (y:XJ) (w:QV):(YX (UX 234 y) 20 188 true).run QW w = .ok (ZJ #[QY QU 0,XY false]) w:=by kernel_rfl
theorem e3_ (y:XJ) (w:QV):(YX (UX 234 y) 20 189 true).run QW w = .ok (ZJ #[QZ ⟨#[]⟩,XY false]) w:=by kernel_rfl
theorem fr_ (y:XJ) (w:QV):(YX (UX 234 y) 20 234 true).run QW w = .ok (ZJ #[y,XY true]) w:=by kernel_rfl
theorem uf_ (y:XJ) (w:QV):(YX (UX 191 y) 20 233 true).run QW w = .ok (ZJ #[.agg #[],XY false]) w:=by kernel_rfl
theorem ok_ (y:XJ) (w:QV):(YX (UX 191 y) 20 194 true).run QW w = .ok (ZJ #[XY false,XY false]) w:=by kernel_rfl
theorem ro_ (y:XJ) (w:QV):(YX (UX 191 y) 20 188 true).run QW w = .ok (ZJ #[QY QU 0,XY false]) w:=by kernel_rfl
theorem pn_ (y:XJ) (w:QV):(YX (UX 191 y) 20 189 true).run QW w = .ok (ZJ #[QZ ⟨#[]⟩,XY false]) w:=by kernel_rfl
theorem rp_ (y:XJ) (w:QV):(YX (UX 191 y) 20 234 true).run QW w = .ok (ZJ #[QZ ⟨#[]⟩,XY false]) w:=by kernel_rfl
theorem ue_ (y:XJ) (w:QV):(YX (UX 191 y) 20 191 true).run QW w = .ok (ZJ #[y,XY true]) w:=by kernel_rfl
theorem j0_ (y:XJ) (w:QV):(YX (UX 193 y) 20 233 true).run QW w = .ok (ZJ #[.agg #[],XY false]) w:=by kernel_rfl
theorem gy_ (y:XJ) (w:QV):(YX (UX 193 y) 20 194 true).run QW w = .ok (ZJ #[XY false,XY false]) w:=by kernel_rfl
theorem il_ (y:XJ) (w:QV):(YX (UX 193 y) 20 188 true).run QW w = .ok (ZJ #[QY QU 0,XY false]) w:=by kernel_rfl
theorem h7_ (y:XJ) (w:QV):(YX (UX 193 y) 20 189 true).run QW w = .ok (ZJ #[QZ ⟨#[]⟩,XY false]) w:=by kernel_rfl
theorem im_ (y:XJ) (w:QV):(YX (UX 193 y) 20 234 true).run QW w = .ok (ZJ #[QZ ⟨#[]⟩,XY false]) w:=by kernel_rfl
theorem jz_ (y:XJ) (w:QV):(YX (UX 193 y) 20 191 true).run QW w = .ok (ZJ #[QQ QK 0 0,XY false]) w:=by kernel_rfl
theorem ik_ (y:XJ) (w:QV):(YX (UX 193 y) 20 193 true).run QW w = .ok (ZJ #[y,XY true]) w:=by kernel_rfl
theorem om_ (y:XJ) (w:QV):(YX (UX 237 y) 20 233 true).run QW w = .ok (ZJ #[.agg #[],XY false]) w:=by kernel_rfl
theorem kh_ (y:XJ) (w:QV):(YX (UX 237 y) 20 194 true).run QW w = .ok (ZJ #[XY false,XY false]) w:=by kernel_rfl
theorem m0_ (y:XJ) (w:QV):(YX (UX 237 y) 20 188 true).run QW w = .ok (ZJ #[QY QU 0,XY false]) w:=by kernel_rfl
theorem le_ (y:XJ) (w:QV):(YX (UX 237 y) 20 189 true).run QW w = .ok (ZJ #[QZ ⟨#[]⟩,XY false]) w:=by kernel_rfl
theorem m1_ (y:XJ) (w:QV):(YX (UX 237 y) 20 234 true).run QW w = .ok (ZJ #[QZ ⟨#[]⟩,XY false]) w:=by kernel_rfl
theorem ol_ (y:XJ) (w:QV):(YX (UX 237 y) 20 191 true).run QW w = .ok (ZJ #[QQ QK 0 0,XY false]) w:=by kernel_rfl
theorem mz_ (y:XJ) (w:QV):(YX (UX 237 y) 20 193 true).run QW w = .ok (ZJ #[QY QU 0,XY false]) w:=by kernel_rfl
theorem ki_ (y:XJ) (w:QV):(YX (UX 237 y) 20 237 true).run QW w = .ok (ZJ #[y,XY true]) w:=by kernel_rfl
theorem rr_ (y:XJ) (w:QV):(YX (UX 238 y) 20 233 true).run QW w = .ok (ZJ #[.agg #[],XY false]) w:=by kernel_rfl
theorem m2_ (y:XJ) (w:QV):(YX (UX 238 y) 20 194 true).run QW w = .ok (ZJ #[XY false,XY false]) w:=by kernel_rfl
theorem pq_ (y:XJ) (w:QV):(YX (UX 238 y) 20 188 true).run QW w = .ok (ZJ #[QY QU 0,XY false]) w:=by kernel_rfl
theorem on_ (y:XJ) (w:QV):(YX (UX 238 y) 20 189 true).run QW w = .ok (ZJ #[QZ ⟨#[]⟩,XY false]) w:=by kernel_rfl
theorem pr_ (y:XJ) (w:QV):(YX (UX 238 y) 20 234 true).run QW w = .ok (ZJ #[QZ ⟨#[]⟩,XY false]) w:=by kernel_rfl
theorem rq_ (y:XJ) (w:QV):(YX (UX 238 y) 20 191 true).run QW w = .ok (ZJ #[QQ QK 0 0,XY false]) w:=by kernel_rfl
theorem pp_ (y:XJ) (w:QV):(YX (UX 238 y) 20 193 true).run QW w = .ok (ZJ #[QY QU 0,XY false]) w:=by kernel_rfl
theorem m3_ (y:XJ) (w:QV):(YX (UX 238 y) 20 237 true).run QW w = .ok (ZJ #[.agg #[QZ ⟨#[]⟩,QZ ⟨#[]⟩],XY false]) w:=by kernel_rfl
theorem po_ (y:XJ) (w:QV):(YX (UX 238 y) 20 238 true).run QW w = .ok (ZJ #[y,XY true]) w:=by kernel_rfl
structure k2_ (w:QV) (h:Nat) (k:Int) (b:Bool) (n:Int) (t x:ByteArray) (s:XJ) (d:Nat) (b':Bool) (n':Int) (t' x':ByteArray) (wr:QV):Prop where
 below:XW w.heap.size w wr
 val:wr.heap[h]?=QJ (XX #[QY QU k,XY b,QY QU n,QZ t,QZ x,s] 39 (0,0))
 dp:wr.heap[h+1]?=QJ (XX #[QY QU (d:Int)] 3 (0,0))
 bare:wr.heap[h+1+1]?=QJ (XX #[QY QU k,XY b',QY QU n',QZ t',QZ x',QQ QK 0 0] 39 (0,0))
 size:h+3<=wr.heap.size
 low:w.heap.size<=h
section
variable {w:QV} {h:Nat} {k:Int} {b:Bool} {n:Int} {t x:ByteArray} {s:XJ} {d:Nat} {b':Bool} {n':Int} {t' x':ByteArray} {wr:QV}
theorem k2_.on (c:k2_ w h k b n t x s d b' n' t' x' wr) {w2:QV} (hb:XW wr.heap.size wr w2):k2_ w h k b n t x s d b' n' t' x' w2:=
 ⟨c.below.trans (hb.mono c.below.size),(hb.block h (by have:=c.size;omega)).trans c.val,(hb.block (h+1) (by have:=c.size;omega)).trans c.dp,(hb.block (h+1+1) (by have:=c.size;omega)).trans c.bare,ZX c.size hb.size,c.low⟩
theorem k2_.alloc (c:k2_ w h k b n t x s d b' n' t' x' wr) (a:Obj):k2_ w h k b n t x s d b' n' t' x' (wr.alloc a):=c.on ((XV _ _).alloc (XK _) _)
theorem k2_.drew (c:k2_ w h k b n t x s d b' n' t' x' wr):k2_ w h k b n t x s d b' n' t' x' wr.drew:=c.on (dy_ (XV _ _) 1)
theorem k2_.set (c:k2_ w h k b n t x s d b' n' t' x' wr) (j:Nat) (v:XJ) {a:Bool} {f:Int} {g i:ByteArray}
    (e:(#[QY QU k,XY b',QY QU n',QZ t',QZ x',QQ QK 0 0]:Array XJ).setIfInBounds j v=#[QY QU k,XY a,QY QU f,QZ g,QZ i,QQ QK 0 0]):k2_ w h k b n t x s d a f g i (wr.setCell ⟨h+1+1,j,QK⟩ v):=
 ⟨c.below.setCell (p:=⟨h+1+1,j,QK⟩) (by have:=c.low;show _<=h+1+1;omega) v,(Below.heap_setCell _ _ _ _ (by show h≠h+1+1;omega)).trans c.val,(Below.heap_setCell _ _ _ _ (by show h+1≠h+1+1;omega)).trans c.dp,by rw[<-e];exact heap_setCell_same _ _ j _ _ v c.bare,by simpa using c.size,c.low⟩
end
theorem If_ (b:Bool) (n:Int) (t x:ByteArray) (l:List g_) (d:Nat):I_ (.mk 0 b n t x l) d=aw_ 0 b n t x l false 0 ⟨#[]⟩ ⟨#[]⟩:=by unfold I_;rfl
theorem Ig_ (b:Bool) (n:Int) (t x:ByteArray) (l:List g_) (d:Nat):I_ (.mk 1 b n t x l) d=aw_ 1 b n t x l b 0 ⟨#[]⟩ ⟨#[]⟩:=by unfold I_;rfl
theorem Ih_ (b:Bool) (n:Int) (t x:ByteArray) (l:List g_) (d:Nat):I_ (.mk 2 b n t x l) d=aw_ 2 b n t x l false n ⟨#[]⟩ ⟨#[]⟩:=by unfold I_;rfl
theorem Ii_ (b:Bool) (n:Int) (t x:ByteArray) (l:List g_) (d:Nat):I_ (.mk 3 b n t x l) d=(bl_ t&&aw_ 3 b n t x l false 0 t ⟨#[]⟩):=by unfold I_;rfl
theorem Ij_ (b:Bool) (n:Int) (t x:ByteArray) (l:List g_) (d:Nat):I_ (.mk 4 b n t x l) d=(decide (t.size<=1048576)&&aw_ 4 b n t x l false 0 t ⟨#[]⟩):=by unfold I_;rfl
theorem B2_ (b:Bool) (n:Int) (t x:ByteArray) (l:List g_) (d:Nat):I_ (.mk 8 b n t x l) d=(d5_ t&&aw_ 8 b n t x l false 0 t ⟨#[]⟩):=by unfold I_;rfl
theorem Im_ (b:Bool) (n:Int) (t x:ByteArray) (l:List g_) (d:Nat):I_ (.mk 9 b n t x l) d=(d8_ t&&aw_ 9 b n t x l false 0 t ⟨#[]⟩):=by unfold I_;rfl
theorem B1_ (b:Bool) (n:Int) (t x:ByteArray) (l:List g_) (d:Nat):I_ (.mk 5 b n t x l) d=(decide (l.length<=4096)&&(decide (d<60)&&(g4_ l (d+1)&&aw_ 5 b n t x l false 0 ⟨#[]⟩ ⟨#[]⟩))):=by unfold I_;rfl
theorem Ik_ (b:Bool) (n:Int) (t x:ByteArray) (l:List g_) (d:Nat):I_ (.mk 6 b n t x l) d=(decide (0<=n)&&aw_ 6 b n t x l false n ⟨#[]⟩ ⟨#[]⟩):=by unfold I_;rfl
theorem Il_ (b:Bool) (n:Int) (t x:ByteArray) (l:List g_) (d:Nat):I_ (.mk 7 b n t x l) d=(decide (0<=n)&&aw_ 7 b n t x l false n ⟨#[]⟩ ⟨#[]⟩):=by unfold I_;rfl
theorem Af_ (b:Bool) (n:Int) (t x:ByteArray) (l:List g_) (d:Nat):I_ (.mk 10 b n t x l) d=(decide (t.size<=1048576)&&(d5_ x&&aw_ 10 b n t x l false 0 t x)):=by unfold I_;rfl
theorem Kt_ (N:Nat):∀(v:g_) (_:S_ v<N) (_:S_ v<=10000000000000000) (d:Nat) (_:d<=60) (F:Nat->Prop) (u:XJ) (w:QV) (_:∀g,F g->g<w.heap.size) (_:VRd w F v u) (_:ad_ w),
    Calls QW 117 #[u,QY QU (d:Int)] w (n_ (I_ v d) w):=by
 induction N with
 | zero=>exact λ_ h=>absurd h (Nat.not_lt_zero _)
 | succ N ih=>
  intro v hN hs d hd F u w hF hv hg;obtain⟨A,a7,rfl,aa,hl⟩:=hv.inv;have IH:=q_ ih;have HL:=q_ hl;have HF:=q_ hF;have HG:=q_ hg;clear ih hl hF hg hv;obtain⟨s,HS⟩:=a_ (Value.slice A v.list.length a7);have HP:=q_ (λW=>i3_ v s W);rw[HS.o];obtain⟨q,m⟩:=a_ (I_ v d);rw[m.o]
  cases v with
  | mk k b n t x l=>
  obtain⟨pv,p⟩:=a_ (s9_ (.mk k b n t x l) s);unfold j7_ c_ at HP;unfold c_;rw[p.o]at HP;simp only[g_.kind,g_.truth,g_.num,g_.text,g_.extra,g_.list]at HP HL HS aa ⊢;have a3:t.size<=9223372036854775807/\x.size<=9223372036854775807/\l.length<=10000000000000000/\V_ l<N/\V_ l<=10000000000000000:=by simp only[S_]at hs hN;have:=dc_ l;omega
  obtain⟨a3,av,b5,b4,b6⟩:=a3;clear hN hs;go_enter func117,ntmps117
  go_wp2_with fail;obtain⟨h,Hh⟩:=a_ w.heap.size
  have ab:=q_ (show k2_ w h k b n t x s d false 0 ⟨#[]⟩ ⟨#[]⟩ (((w.alloc (XX #[QY QU k,XY b,QY QU n,QZ t,QZ x,s] 39)).alloc (XX #[QY QU (d:Int)] 3)).alloc (XX #[QY QU k,XY false,QY QU 0,QZ ⟨#[]⟩,QZ ⟨#[]⟩,QQ QK 0 0] 39)) from by
   rw[<-Hh.o];refine⟨pw_ w _ _ _,?_,?_,?_,by simp,XK _⟩
   ·rw[Below.heap_alloc _ _ _ (by simp;omega),Below.heap_alloc _ _ _ (by simp)];exact XU w _
   ·rw[Below.heap_alloc _ _ _ (by simp)];have:=XU (w.alloc (XX #[QY QU k,XY b,QY QU n,QZ t,QZ x,s] 39)) (XX #[QY QU (d:Int)] 3);rwa [show (w.alloc (XX #[QY QU k,XY b,QY QU n,QZ t,QZ x,s] 39)).heap.size=w.heap.size+1 by simp]at this
   ·have:=XU ((w.alloc (XX #[QY QU k,XY b,QY QU n,QZ t,QZ x,s] 39)).alloc (XX #[QY QU (d:Int)] 3)) (XX #[QY QU k,XY false,QY QU 0,QZ ⟨#[]⟩,QZ ⟨#[]⟩,QQ QK 0 0] 39);rwa [show ((w.alloc (XX #[QY QU k,XY b,QY QU n,QZ t,QZ x,s] 39)).alloc (XX #[QY QU (d:Int)] 3)).heap.size=w.heap.size+1+1 by simp]at this)
  rw[Hh.o];obtain⟨w0,au⟩:=a_ (((w.alloc (XX #[QY QU k,XY b,QY QU n,QZ t,QZ x,s] 39)).alloc (XX #[QY QU (d:Int)] 3)).alloc (XX #[QY QU k,XY false,QY QU 0,QZ ⟨#[]⟩,QZ ⟨#[]⟩,QQ QK 0 0] 39));rw[au.o]at ab ⊢;refine (HP.o _).mono ?_;rintro e J ⟨rfl,aq⟩;have j:=q_ (ab.o.on aq);clear aq ab HP;have ak:J.cell? ⟨h,0,QK⟩=QJ (QY QU k):=QX j.o.val 0;have cd:J.cell? ⟨h+1,0,QK⟩=QJ (QY QU (d:Int)):=QX j.o.dp 0;have ah:J.cell? ⟨h+1+1,1,QK⟩=QJ (XY false):=QX j.o.bare 1;have ai:J.cell? ⟨h+1+1,2,QK⟩=QJ (QY QU 0):=QX j.o.bare 2;have a8:J.cell? ⟨h+1+1,3,QK⟩=QJ (QZ ⟨#[]⟩):=QX j.o.bare 3;have aj:J.cell? ⟨h+1+1,4,QK⟩=QJ (QZ ⟨#[]⟩):=QX j.o.bare 4;have am:J.frozen? ⟨h+1+1,1,QK⟩=false:=YY j.o.bare 1;have ao:J.frozen? ⟨h+1+1,2,QK⟩=false:=YY j.o.bare 2;have a9:J.frozen? ⟨h+1+1,3,QK⟩=false:=YY j.o.bare 3;have ap:J.frozen? ⟨h+1+1,4,QK⟩=false:=YY j.o.bare 4;go_upto_block 0 with fail;go_cut [] (λwx=>Q_ (∃b' n' t' x',k2_ w h k b n t x s d b' n' t' x' wx/\q=aw_ k b n t x l b' n' t' x'))
  case first=>
   by_cases h0:k=0
   ·subst h0;have D:pv = UX 233 (.agg #[]):=by rw[<-p.o];rfl
    subst D;have a:=q_ (show q=aw_ 0 b n t x l false 0 ⟨#[]⟩ ⟨#[]⟩ from by rw[<-m.o];exact If_ b n t x l d);have B:=ug_ (.agg #[]);clear p m;go_wp2_with fail;go_meet;exact q_ ⟨_,_,_,_,j.o.alloc _,a.o⟩
   ·have e0:((k:Int)==0)=false:=bN_.2 h0;by_cases h1:k=1
    ·subst h1;have D:pv = UX 194 (XY b):=by rw[<-p.o];rfl
     subst D;have a:=q_ (show q=aw_ 1 b n t x l b 0 ⟨#[]⟩ ⟨#[]⟩ from by rw[<-m.o];exact Ig_ b n t x l d);have B:=oi_ (XY b);have i:=kg_ (XY b);clear p m;go_wp2_with fail;go_meet;exact q_ ⟨_,_,_,_,j.o.set 1 _ rfl,a.o⟩
    ·have e1:((k:Int)==1)=false:=bN_.2 h1;by_cases h2:k=2
     ·subst h2;have D:pv = UX 188 (QY QU n):=by rw[<-p.o];rfl
      subst D;have a:=q_ (show q=aw_ 2 b n t x l false n ⟨#[]⟩ ⟨#[]⟩ from by rw[<-m.o];exact Ih_ b n t x l d);have B:=rs_ (QY QU n);have i:=m4_ (QY QU n);have E:=ps_ (QY QU n);clear p m;go_wp2_with fail;go_meet;exact q_ ⟨_,_,_,_,j.o.set 2 _ rfl,a.o⟩
     ·have e2:((k:Int)==2)=false:=bN_.2 h2;by_cases h3:k=3
      ·subst h3;have D:pv = UX 189 (QZ t):=by rw[<-p.o];rfl
       subst D;have a:=q_ (show q=(bl_ t&&aw_ 3 b n t x l false 0 t ⟨#[]⟩) from by rw[<-m.o];exact Ii_ b n t x l d);have B:=pm_ (QZ t);have i:=ld_ (QZ t);have E:=oj_ (QZ t);have z:=my_ (QZ t);clear p m;have a5:=q_ (uo_ t a3 J (j_ HG.o j.o.below));obtain⟨r,Y⟩:=a_ (bl_ t);rw[Y.o]at a5 a
       cases r with
       | false=>
        have C:=q_ (show false=q from by rw[a.o];rfl);go_wp2_with fail;refine a5.o.mono ?_;rintro e w2 ⟨rfl,L⟩;have f:=q_ (j.o.on L);clear L;go_wp2_with fail;go_ret;exact⟨p_ C.o,f.o.below⟩
       | true=>
        go_wp2_with fail;refine a5.o.mono ?_;rintro e w2 ⟨rfl,L⟩
        have f:=q_ (j.o.on L);clear L a8 a9;have a8:w2.cell? ⟨h+1+1,3,QK⟩=QJ (QZ ⟨#[]⟩):=QX f.o.bare 3;have a9:w2.frozen? ⟨h+1+1,3,QK⟩=false:=YY f.o.bare 3;go_wp2_with fail;go_meet;exact q_ ⟨_,_,_,_,f.o.set 3 _ rfl,a.o⟩
      ·have e3:((k:Int)==3)=false:=bN_.2 h3;by_cases h4:k=4
       ·subst h4;have D:pv = UX 234 (QZ t):=by rw[<-p.o];rfl
        subst D;have a:=q_ (show q=(decide (t.size<=1048576)&&aw_ 4 b n t x l false 0 t ⟨#[]⟩) from by rw[<-m.o];exact Ij_ b n t x l d);have B:=gp_ (QZ t);have i:=eg_ (QZ t);have E:=fq_ (QZ t);have z:=e3_ (QZ t);have I:=fr_ (QZ t);clear p m;by_cases X:t.size<=1048576
        ·have z1:(t.size:Int)<=1048576:=by omega
         have O:=q_ (show q=aw_ 4 b n t x l false 0 t ⟨#[]⟩ from by rw[a.o,dT_ X];rfl);go_wp2_with fail;go_meet;exact q_ ⟨_,_,_,_,j.o.set 3 _ rfl,O.o⟩
        ·have z1:¬(t.size:Int)<=1048576:=by omega
         have C:=q_ (show false=q from by rw[a.o];rw[dF_ X];rfl);go_wp2_with fail;go_ret;exact⟨p_ C.o,j.o.below⟩
       ·have e4:((k:Int)==4)=false:=bN_.2 h4;by_cases h8:k=8
        ·subst h8;have D:pv = UX 234 (QZ t):=by rw[<-p.o];rfl
         subst D;have a:=q_ (show q=(d5_ t&&aw_ 8 b n t x l false 0 t ⟨#[]⟩) from by rw[<-m.o];exact B2_ b n t x l d);have B:=gp_ (QZ t);have i:=eg_ (QZ t);have E:=fq_ (QZ t);have z:=e3_ (QZ t);have I:=fr_ (QZ t);clear p m;have U:=q_ (By_ t a3 J);obtain⟨r,Y⟩:=a_ (d5_ t);rw[Y.o]at U a
         cases r with
         | false=>
          have C:=q_ (show false=q from by rw[a.o];rfl);go_wp2_with fail;refine U.o.mono ?_;rintro e w2 ⟨rfl,rfl⟩;go_wp2_with fail;go_ret;exact⟨p_ C.o,j.o.below⟩
         | true=>
          go_wp2_with fail;refine U.o.mono ?_;rintro e w2 ⟨rfl,rfl⟩
          go_wp2_with fail;go_meet;exact q_ ⟨_,_,_,_,j.o.set 3 _ rfl,a.o⟩
        ·have e8:((k:Int)==8)=false:=bN_.2 h8;by_cases h9:k=9
         ·subst h9;have D:pv = UX 234 (QZ t):=by rw[<-p.o];rfl
          subst D;have a:=q_ (show q=(d8_ t&&aw_ 9 b n t x l false 0 t ⟨#[]⟩) from by rw[<-m.o];exact Im_ b n t x l d);have B:=gp_ (QZ t);have i:=eg_ (QZ t);have E:=fq_ (QZ t);have z:=e3_ (QZ t);have I:=fr_ (QZ t);clear p m;have U:=q_ (Ip_ t a3 J);obtain⟨r,Y⟩:=a_ (d8_ t);rw[Y.o]at U a
          cases r with
          | false=>
           have C:=q_ (show false=q from by rw[a.o];rfl);go_wp2_with fail;refine U.o.mono ?_;rintro e w2 ⟨rfl,rfl⟩;go_wp2_with fail;go_ret;exact⟨p_ C.o,j.o.below⟩
          | true=>
           go_wp2_with fail;refine U.o.mono ?_;rintro e w2 ⟨rfl,rfl⟩
           go_wp2_with fail;go_meet;exact q_ ⟨_,_,_,_,j.o.set 3 _ rfl,a.o⟩
         ·have e9:((k:Int)==9)=false:=bN_.2 h9;by_cases h5:k=5
          ·subst h5;have D:pv = UX 191 (s):=by rw[<-p.o];rfl
           subst D;have a:=q_ (show q=(decide (l.length<=4096)&&(decide (d<60)&&(g4_ l (d+1)&&aw_ 5 b n t x l false 0 ⟨#[]⟩ ⟨#[]⟩))) from by rw[<-m.o];exact B1_ b n t x l d);have B:=uf_ (s);have i:=ok_ (s);have E:=ro_ (s);have z:=pn_ (s);have I:=rp_ (s);have M:=ue_ (s);clear p m;have af:=HS.o;subst af;by_cases ae:l.length<=4096
           ·have z1:¬(4096:Int)<(l.length:Int):=by omega
            by_cases ad:d<60
            ·have z2:¬(60:Int)<=(d:Int):=by omega
             have ac:=q_ (Gu_ l (d+1) (.func (.func 189) #[] #[YK (QJ ⟨h+1,0,QK⟩)]) A l.length a7 J (Ld_ l d ad ⟨h+1,0,QK⟩ F A l.length a7 J (λg hg=>XZ (HF.o g hg) j.o.below.size) (HL.o.under j.o.below HF.o) ae cd (by have:=j.o.size;show h+1<_;omega)
              (λy hy u W hW hv=>IH.o y (by have:=el_ hy;omega) (by have:=el_ hy;omega) (d+1) (by omega) F u W (λg hg=>XZ (HF.o g hg) (ZX j.o.below.size hW.size)) hv (j_ HG.o (j.o.below.trans (hW.mono j.o.below.size))))))
             obtain⟨r,Y⟩:=a_ (g4_ l (d+1));rw[Y.o]at ac a
             cases r with
             | false=>
              have C:=q_ (show false=q from by rw[a.o];simp);go_wp2_with fail;refine ac.o.mono ?_;rintro e w2 ⟨rfl,L⟩;have f:=q_ (j.o.on L);clear L;go_wp2_with fail;go_ret;exact⟨p_ C.o,f.o.below⟩
             | true=>
              have O:=q_ (show q=aw_ 5 b n t x l false 0 ⟨#[]⟩ ⟨#[]⟩ from by rw[a.o,dT_ ae,dT_ ad];rfl);go_wp2_with fail;refine ac.o.mono ?_;rintro e w2 ⟨rfl,L⟩;have f:=q_ (j.o.on L);clear L;go_wp2_with fail;go_meet;exact q_ ⟨_,_,_,_,f.o,O.o⟩
            ·have z2:(60:Int)<=(d:Int):=by omega
             have C:=q_ (show false=q from by rw[a.o];rw[dF_ ad];simp);go_wp2_with fail;go_ret;exact⟨p_ C.o,j.o.below⟩
           ·have z1:(4096:Int)<(l.length:Int):=by omega
            have C:=q_ (show false=q from by rw[a.o];rw[dF_ ae];rfl);go_wp2_with fail;go_ret;exact⟨p_ C.o,j.o.below⟩
          ·have e5:((k:Int)==5)=false:=bN_.2 h5;by_cases h6:k=6
           ·subst h6;have D:pv = UX 193 (QY QU n):=by rw[<-p.o];rfl
            subst D;have a:=q_ (show q=(decide (0<=n)&&aw_ 6 b n t x l false n ⟨#[]⟩ ⟨#[]⟩) from by rw[<-m.o];exact Ik_ b n t x l d);have B:=j0_ (QY QU n);have i:=gy_ (QY QU n);have E:=il_ (QY QU n);have z:=h7_ (QY QU n);have I:=im_ (QY QU n);have M:=jz_ (QY QU n);have P:=ik_ (QY QU n);clear p m;by_cases a2:0<=n
            ·have z1:¬n<0:=by omega
             have O:=q_ (show q=aw_ 6 b n t x l false n ⟨#[]⟩ ⟨#[]⟩ from by rw[a.o,dT_ a2];rfl);go_wp2_with fail;go_meet;exact q_ ⟨_,_,_,_,j.o.set 2 _ rfl,O.o⟩
            ·have z1:n<0:=by omega
             have C:=q_ (show false=q from by rw[a.o];rw[dF_ a2];rfl);go_wp2_with fail;go_ret;exact⟨p_ C.o,j.o.below⟩
           ·have e6:((k:Int)==6)=false:=bN_.2 h6;by_cases h7:k=7
            ·subst h7;have D:pv = UX 193 (QY QU n):=by rw[<-p.o];rfl
             subst D;have a:=q_ (show q=(decide (0<=n)&&aw_ 7 b n t x l false n ⟨#[]⟩ ⟨#[]⟩) from by rw[<-m.o];exact Il_ b n t x l d);have B:=j0_ (QY QU n);have i:=gy_ (QY QU n);have E:=il_ (QY QU n);have z:=h7_ (QY QU n);have I:=im_ (QY QU n);have M:=jz_ (QY QU n);have P:=ik_ (QY QU n);clear p m;by_cases a2:0<=n
             ·have z1:¬n<0:=by omega
              have O:=q_ (show q=aw_ 7 b n t x l false n ⟨#[]⟩ ⟨#[]⟩ from by rw[a.o,dT_ a2];rfl);go_wp2_with fail;go_meet;exact q_ ⟨_,_,_,_,j.o.set 2 _ rfl,O.o⟩
             ·have z1:n<0:=by omega
              have C:=q_ (show false=q from by rw[a.o];rw[dF_ a2];rfl);go_wp2_with fail;go_ret;exact⟨p_ C.o,j.o.below⟩
            ·have e7:((k:Int)==7)=false:=bN_.2 h7;by_cases a1:k=10
             ·subst a1;have D:pv = UX 237 (.agg #[QZ t,QZ x]):=by rw[<-p.o];rfl
              subst D;have a:=q_ (show q=(decide (t.size<=1048576)&&(d5_ x&&aw_ 10 b n t x l false 0 t x)) from by rw[<-m.o];exact Af_ b n t x l d);have B:=om_ (.agg #[QZ t,QZ x]);have i:=kh_ (.agg #[QZ t,QZ x]);have E:=m0_ (.agg #[QZ t,QZ x]);have z:=le_ (.agg #[QZ t,QZ x]);have I:=m1_ (.agg #[QZ t,QZ x]);have M:=ol_ (.agg #[QZ t,QZ x]);have P:=mz_ (.agg #[QZ t,QZ x]);have a0:=ki_ (.agg #[QZ t,QZ x]);clear p m;obtain⟨w2,a6⟩:=a_ (J.alloc (XX #[QZ t,QZ x] 237));obtain⟨g,Hg⟩:=a_ J.heap.size;have f:=q_ (j.o.alloc (XX #[QZ t,QZ x] 237));rw[a6.o]at f;have a4:=q_ (XU J (XX #[QZ t,QZ x] 237));rw[a6.o,Hg.o]at a4;have b3:=q_ (show h+1+1<g from by rw[<-Hg.o];have:=j.o.size;omega);have U:=q_ (By_ x av w2);obtain⟨r,Y⟩:=a_ (d5_ x);rw[Y.o]at U a;have l0:w2.cell? ⟨g,0,none⟩=some (QZ t):=QX a4.o 0;have l1:w2.cell? ⟨g,1,none⟩=some (QZ x):=QX a4.o 1;have aw:w2.cell? ⟨h+1+1,3,none⟩=some (QZ ⟨#[]⟩):=QX f.o.bare 3;have az:w2.frozen? ⟨h+1+1,3,none⟩=false:=YY f.o.bare 3;have ay:w2.cell? ⟨h+1+1,4,none⟩=some (QZ ⟨#[]⟩):=QX f.o.bare 4;have b0:w2.frozen? ⟨h+1+1,4,none⟩=false:=YY f.o.bare 4;have b1:w2.cell? ⟨h,0,none⟩=some (QY QU 10):=QX f.o.val 0;clear ah ai a8 aj am ao a9 ap ak cd;by_cases X:t.size<=1048576
              ·have z1:¬(1048576:Int)<(t.size:Int):=by omega
               go_upto_region 40 with fail;rw[a6.o,Hg.o]
               cases r with
               | false=>
                have C:=q_ (show false=q from by rw[a.o];rw[dT_ X];rfl);go_wp2_with fail;refine U.o.mono ?_;rintro e w3 ⟨rfl,rfl⟩;go_wp2_with fail;go_ret;exact⟨p_ C.o,f.o.below⟩
               | true=>
                have O:=q_ (show q=aw_ 10 b n t x l false 0 t x from by rw[a.o,dT_ X];rfl);go_wp2_with fail;refine U.o.mono ?_;rintro e w3 ⟨rfl,rfl⟩;go_wp2_with fail;go_region
                go_wp2_with fail;go_meet;exact q_ ⟨_,_,_,_,((f.o.set 3 _ rfl).set 4 _ rfl).drew,O.o⟩
              ·have z1:(1048576:Int)<(t.size:Int):=by omega
               have C:=q_ (show false=q from by rw[a.o];rw[dF_ X];rfl);go_upto_region 40 with fail;rw[a6.o,Hg.o];go_wp2_with fail;go_ret;exact⟨p_ C.o,f.o.below⟩
             ·have b2:((k:Int)==10)=false:=bN_.2 a1;have D:pv = UX 238 (QY QU k):=by rw[<-p.o];unfold s9_;simp only[g_.kind,h0,h1,h2,h3,h4,h8,h9,h5,h6,h7,a1,if_false]
              subst D;have C:=q_ (show false=q from by rw[<-m.o];unfold I_;simp only[h0,h1,h2,h3,h4,h8,h9,h5,h6,h7,a1,if_false]);have B:=rr_ (QY QU k);have i:=m2_ (QY QU k);have E:=pq_ (QY QU k);have z:=on_ (QY QU k);have I:=pr_ (QY QU k);have M:=rq_ (QY QU k);have P:=pp_ (QY QU k);have a0:=m3_ (QY QU k);have ar:=po_ (QY QU k);clear p m h0 h1 h2 h3 h4 h8 h9 h5 h6 h7 a1;go_wp2_with fail;go_ret;exact⟨p_ C.o,j.o.below⟩
  case rest=>
   obtain⟨b',n',t',x',hc,hm⟩:=hcut.o;have af:=HS.o;subst af;have f:=q_ hc;have HM:=q_ hm;clear hc hm hcut j ak cd ah ai a8 aj am ao a9 ap;have v0:wc.cell? ⟨h,0,none⟩=some (QY QU k):=QX f.o.val 0;have v1:wc.cell? ⟨h,1,none⟩=some (XY b):=QX f.o.val 1;have v2:wc.cell? ⟨h,2,none⟩=some (QY QU n):=QX f.o.val 2;have v3:wc.cell? ⟨h,3,none⟩=some (QZ t):=QX f.o.val 3;have v4:wc.cell? ⟨h,4,none⟩=some (QZ x):=QX f.o.val 4;have v5:wc.cell? ⟨h,5,none⟩=some (QQ A l.length a7):=QX f.o.val 5;have u1:wc.cell? ⟨h+1+1,1,none⟩=some (XY b'):=QX f.o.bare 1;have u2:wc.cell? ⟨h+1+1,2,none⟩=some (QY QU n'):=QX f.o.bare 2;have u3:wc.cell? ⟨h+1+1,3,none⟩=some (QZ t'):=QX f.o.bare 3;have u4:wc.cell? ⟨h+1+1,4,none⟩=some (QZ x'):=QX f.o.bare 4;obtain⟨ln,ag⟩:=a_ l.length;have S:=q_ (show q=((b==b')&&(decide (n=n')&&(decide (t=t')&&(decide (x=x')&&(decide (ln=0) || decide (k=5)))))) from by rw[HM.o,<-ag.o];rfl);rw[ag.o]at v5;clear aa HM;by_cases q1:b=b'
   ·have e1:(b==b')=true:=by rw[q1];simp
    by_cases V:n=n'
    ·have e2:(n==n')=true:=by rw[V];simp
     by_cases Z:t=t'
     ·have e3:(t.toList==t'.toList)=true:=by rw[Z];simp
      by_cases q4:x=x'
      ·have e4:(x.toList==x'.toList)=true:=by rw[q4];simp
       by_cases q5:ln=0
       ·have e5:((ln:Int)==0)=true:=by rw[q5];rfl
        have T:=q_ (show true=q from by rw[S.o,e1,dT_ V,dT_ Z,dT_ q4,dT_ q5];rfl);clear q1 V Z q4 q5;go_wp2_with fail;go_ret;exact⟨p_ T.o,f.o.below⟩
       ·have e5:((ln:Int)==0)=false:=bN_.2 (by omega)
        have T:=q_ (show ((k:Int)==5)=q from by
         rw[S.o,e1,dT_ V,dT_ Z,dT_ q4,dF_ q5];by_cases q6:k=5
         ·rw[q6];rfl
         ·rw[dF_ q6,bN_.2 q6];rfl)
        clear q1 V Z q4 q5;go_wp2_with fail;go_ret;exact⟨p_ T.o,f.o.below⟩
      ·have e4:(x.toList==x'.toList)=false:=br_ q4;have T:=q_ (show false=q from by rw[S.o,dF_ q4];simp);clear q1 V Z q4;go_wp2_with fail;go_ret;exact⟨p_ T.o,f.o.below⟩
     ·have e3:(t.toList==t'.toList)=false:=br_ Z;have T:=q_ (show false=q from by rw[S.o,dF_ Z];simp);clear q1 V Z;go_wp2_with fail;go_ret;exact⟨p_ T.o,f.o.below⟩
    ·have e2:(n==n')=false:=bN_.2 V;have T:=q_ (show false=q from by rw[S.o,dF_ V];simp);clear q1 V;go_wp2_with fail;go_ret;exact⟨p_ T.o,f.o.below⟩
   ·have e1:(b==b')=false:=bN_.2 q1;have T:=q_ (show false=q from by rw[S.o,e1];rfl);clear q1;go_wp2_with fail;go_ret;exact⟨p_ T.o,f.o.below⟩
theorem ei_ (v:g_) (B:S_ v<=10000000000000000) (F:Nat->Prop) (u:XJ) (w:QV) (j:∀g,F g->g<w.heap.size) (p:VRd w F v u) (f:ad_ w) :
    Calls QW 57 #[u] w (n_ (I_ v 0) w):=by
 obtain⟨A,q,C,m,z⟩:=p.inv;have a:=q_ (λo:Obj=>Kt_ (S_ v+1) v (by omega) B 0 (by omega) F u (w.alloc o) (λg f=>by have:=j g f;simp;omega) (p.under ((XV _ _).alloc (XK _) _) j) (j_ f ((XV _ _).alloc (XK _) _)));subst C;obtain⟨s,y⟩:=a_ (Value.slice A v.list.length q);obtain⟨D,i⟩:=a_ (I_ v 0);rw[i.o]at a;rw[i.o];rw[y.o]at a ⊢;clear z m f
 cases v with
 | mk k b n t x l=>
 unfold c_ at a ⊢;simp only[g_.kind,g_.truth,g_.num,g_.text,g_.extra]at a ⊢;clear p j;go_enter func57,ntmps57
 go_wp2_with fail;refine (a.o _).mono ?_;rintro e E ⟨rfl,hb⟩;have r:=q_ (((XV w.heap.size w).alloc (XK _) (XX #[QY QU k,XY b,QY QU n,QZ t,QZ x,s] 39)).trans (hb.mono (by simp)));clear hb;go_wp2_with fail;go_ret;exact⟨rfl,r.o⟩
theorem G9_ (n:Int):decide (n=0) = !(n != 0):=by by_cases h:n=0<;>simp[h]
theorem ut_ (t:ByteArray):decide (t=⟨#[]⟩) = !(!t.toList.isEmpty):=by
 rw[Bool.not_not];by_cases h:t=⟨#[]⟩
 ·rw[dT_ h,h,Lib.toList_data];rfl
 ·rw[dF_ h]
  cases he:t.toList with
  | nil=>exact absurd (by apply ByteArray.ext;rw[<-Array.toList_inj];rw[<-Lib.toList_data,he]) h
  | cons a l=>rfl
theorem G8_ (n:Nat):decide (n=0) = !decide (0<n):=by by_cases h:n=0<;>simp[h];omega
theorem Gs_ (k:Int) (b:Bool) (n:Int) (t x:ByteArray) (l:List g_) (a:decide (k=5)=false):aw_ k b n t x l false 0 ⟨#[]⟩ ⟨#[]⟩=(!b&&(!(n != 0)&&(!(!t.toList.isEmpty)&&(!(!x.toList.isEmpty) && !decide (0<l.length))))):=by unfold aw_;rw[G9_,ut_,ut_,G8_,a];cases b<;>simp
theorem Op_ (k:Int) (b:Bool) (n:Int) (t x:ByteArray) (l:List g_) (a:decide (k=5)=false):aw_ k b n t x l b 0 ⟨#[]⟩ ⟨#[]⟩=(!(n != 0)&&(!(!t.toList.isEmpty)&&(!(!x.toList.isEmpty) && !decide (0<l.length)))):=by unfold aw_;rw[G9_,ut_,ut_,G8_,a];cases b<;>simp
theorem Gt_ (k:Int) (b:Bool) (n:Int) (t x:ByteArray) (l:List g_) (a:decide (k=5)=false):aw_ k b n t x l false n ⟨#[]⟩ ⟨#[]⟩=(!b&&(!(!t.toList.isEmpty)&&(!(!x.toList.isEmpty) && !decide (0<l.length)))):=by unfold aw_;rw[ut_,ut_,G8_,a];cases b<;>simp
theorem Bq_ (k:Int) (b:Bool) (n:Int) (t x:ByteArray) (l:List g_) (a:decide (k=5)=false):aw_ k b n t x l false 0 t ⟨#[]⟩=(!b&&(!(n != 0)&&(!(!x.toList.isEmpty) && !decide (0<l.length)))):=by unfold aw_;rw[G9_,ut_,G8_,a];cases b<;>simp
theorem Nh_ (k:Int) (b:Bool) (n:Int) (t x:ByteArray) (l:List g_) (a:decide (k=5)=false):aw_ k b n t x l false 0 t x=(!b&&(!(n != 0) && !decide (0<l.length))):=by unfold aw_;rw[G9_,G8_,a];cases b<;>simp
theorem Oo_ (b:Bool) (n:Int) (t x:ByteArray) (l:List g_):aw_ 5 b n t x l false 0 ⟨#[]⟩ ⟨#[]⟩=(!b&&(!(n != 0)&&(!(!t.toList.isEmpty) && !(!x.toList.isEmpty)))):=by unfold aw_;rw[G9_,ut_,ut_];cases b<;>simp
theorem Lq_ (N:Nat):∀(v:g_) (_:S_ v<N) (_:S_ v<=10000000000) (d:Nat) (_:d<=60) (F:Nat->Prop) (u:XJ) (w:QV) (_:∀g,F g->g<w.heap.size) (_:VRd w F v u),
    Calls QW 119 #[u,QY QU (d:Int)] w (n_ (I_ v d) w):=by
 induction N with
 | zero=>exact λ_ h=>absurd h (Nat.not_lt_zero _)
 | succ N ih=>
  intro v hN hs d hd F u w hF hv;obtain⟨A,a2,rfl,a8,hl⟩:=hv.inv;have IH:=q_ ih;have HL:=q_ hl;have HF:=q_ hF;clear ih hl hF hv;obtain⟨m,p⟩:=a_ (I_ v d);rw[p.o]
  cases v with
  | mk k b n t x l=>
  unfold c_;simp only[g_.kind,g_.truth,g_.num,g_.text,g_.extra,g_.list]at HL a8 ⊢;have ah:t.size<=1000000000000/\x.size<=1000000000000/\l.length<=10000000000/\V_ l<N/\V_ l<=10000000000:=by simp only[S_]at hs hN;have:=dc_ l;omega
  obtain⟨ah,b1,ao,az,b0⟩:=ah;clear hN hs;obtain⟨M,q⟩:=a_ l.length;rw[q.o]at HL a8 ao ⊢;have z0:¬(60:Int)<(d:Int):=by omega
  obtain⟨J,L⟩:=a_ (n != 0);obtain⟨S,T⟩:=a_ (!t.toList.isEmpty);obtain⟨C,I⟩:=a_ (!x.toList.isEmpty);obtain⟨z,E⟩:=a_ (decide (0<M));obtain⟨P,a1⟩:=a_ (w.alloc (XX #[QY QU k,XY b,QY QU n,QZ t,QZ x,QQ A M a2] 39));obtain⟨h,Hh⟩:=a_ w.heap.size;have j:=q_ (show XW w.heap.size w P from by rw[<-a1.o];exact (XV _ _).alloc (XK _) _);have U:=q_ (show P.heap[h]?=QJ (XX #[QY QU k,XY b,QY QU n,QZ t,QZ x,QQ A M a2] 39 (0,0)) from by rw[<-a1.o,<-Hh.o];exact XU w _);have am:=q_ (show h<P.heap.size from by rw[<-a1.o,<-Hh.o];simp);go_enter func119,ntmps119
  go_upto_block 0 with fail;rw[a1.o,Hh.o,L.o,T.o,I.o,E.o];have c2:P.cell? ⟨h,2,none⟩=some (QY QU n):=QX U.o 2;have c3:P.cell? ⟨h,3,none⟩=some (QZ t):=QX U.o 3;have c4:P.cell? ⟨h,4,none⟩=some (QZ x):=QX U.o 4;have c5:P.cell? ⟨h,5,none⟩=some (QQ A M a2):=QX U.o 5;by_cases h0:k=0
  ·subst h0;have a:=q_ (show m=(!b&&(!J&&(!S&&(!C && !z)))) from by rw[<-p.o,If_,Gs_ 0 b n t x l rfl,L.o,T.o,I.o,q.o,E.o]);clear p;repeat' first | (go_wp2_with fail;go_ret;refine⟨p_ ?_,j.o⟩;rw[a.o];simp;done) | cases b | cases J | cases S | cases C | cases z
  ·have e0:((k:Int)==0)=false:=bN_.2 h0;by_cases h1:k=1
   ·subst h1;have a:=q_ (show m=(!J&&(!S&&(!C && !z))) from by rw[<-p.o,Ig_,Op_ 1 b n t x l rfl,L.o,T.o,I.o,q.o,E.o]);clear p;repeat' first | (go_wp2_with fail;go_ret;refine⟨p_ ?_,j.o⟩;rw[a.o];simp;done) | cases J | cases S | cases C | cases z
   ·have e1:((k:Int)==1)=false:=bN_.2 h1;by_cases h2:k=2
    ·subst h2;have a:=q_ (show m=(!b&&(!S&&(!C && !z))) from by rw[<-p.o,Ih_,Gt_ 2 b n t x l rfl,T.o,I.o,q.o,E.o]);clear p;repeat' first | (go_wp2_with fail;go_ret;refine⟨p_ ?_,j.o⟩;rw[a.o];simp;done) | cases b | cases S | cases C | cases z
    ·have e2:((k:Int)==2)=false:=bN_.2 h2;by_cases h3:k=3
     ·subst h3;have a:=q_ (show m=(bl_ t&&(!b&&(!J&&(!C && !z)))) from by rw[<-p.o,Ii_,Bq_ 3 b n t x l rfl,L.o,I.o,q.o,E.o]);clear p;have D:=q_ (hv_ t (by omega) P);obtain⟨r,V⟩:=a_ (bl_ t);rw[V.o]at D a;repeat' first | (go_wp2_with fail;go_ret;refine⟨p_ ?_,j.o⟩;rw[a.o];simp;done) | (go_wp2_with fail;refine D.o.mono ?_;rintro e w2 ⟨rfl,W⟩;have Z:=q_ (j.o.trans (W.mono j.o.size));clear W;go_wp2_with fail;go_ret;refine⟨p_ ?_,Z.o⟩;rw[a.o];simp;done) | cases b | cases J | cases C | cases z | cases r
     ·have e3:((k:Int)==3)=false:=bN_.2 h3;by_cases h4:k=4
      ·subst h4;have a:=q_ (show m=(decide (t.size<=1048576)&&(!b&&(!J&&(!C && !z)))) from by rw[<-p.o,Ij_,Bq_ 4 b n t x l rfl,L.o,I.o,q.o,E.o]);clear p
       cases b with
       | true=>
        have f:=q_ (show false=m from by rw[a.o];simp);go_wp2_with fail;go_ret;exact⟨p_ f.o,j.o⟩
       | false=>
        cases J with
        | true=>
         have f:=q_ (show false=m from by rw[a.o];simp);go_wp2_with fail;go_ret;exact⟨p_ f.o,j.o⟩
        | false=>
         cases C with
         | true=>
          have f:=q_ (show false=m from by rw[a.o];simp);go_wp2_with fail;go_ret;exact⟨p_ f.o,j.o⟩
         | false=>
          cases z with
          | true=>
           have f:=q_ (show false=m from by rw[a.o];simp);go_wp2_with fail;go_ret;exact⟨p_ f.o,j.o⟩
          | false=>
           by_cases Y:t.size<=1048576
           ·have z1:(t.size:Int)<=1048576:=by omega
            rw[dT_ Y]at a;have f:=q_ (show true=m from by rw[a.o];simp);go_wp2_with fail;go_ret;exact⟨p_ f.o,j.o⟩
           ·have z1:¬(t.size:Int)<=1048576:=by omega
            rw[dF_ Y]at a;have f:=q_ (show false=m from by rw[a.o];simp);go_wp2_with fail;go_ret;exact⟨p_ f.o,j.o⟩
      ·have e4:((k:Int)==4)=false:=bN_.2 h4;by_cases h8:k=8
       ·subst h8;have a:=q_ (show m=(d5_ t&&(!b&&(!J&&(!C && !z)))) from by rw[<-p.o,B2_,Bq_ 8 b n t x l rfl,L.o,I.o,q.o,E.o]);clear p;have D:=q_ (q4_ t P);obtain⟨r,V⟩:=a_ (d5_ t);rw[V.o]at D a;repeat' first | (go_wp2_with fail;go_ret;refine⟨p_ ?_,j.o⟩;rw[a.o];simp;done) | (go_wp2_with fail;refine D.o.mono ?_;rintro e w2 ⟨rfl,rfl⟩;go_wp2_with fail;go_ret;refine⟨p_ ?_,j.o⟩;rw[a.o];simp;done) | cases b | cases J | cases C | cases z | cases r
       ·have e8:((k:Int)==8)=false:=bN_.2 h8;by_cases h9:k=9
        ·subst h9;have a:=q_ (show m=(d8_ t&&(!b&&(!J&&(!C && !z)))) from by rw[<-p.o,Im_,Bq_ 9 b n t x l rfl,L.o,I.o,q.o,E.o]);clear p;have D:=q_ (yc_ t P);obtain⟨r,V⟩:=a_ (d8_ t);rw[V.o]at D a;repeat' first | (go_wp2_with fail;go_ret;refine⟨p_ ?_,j.o⟩;rw[a.o];simp;done) | (go_wp2_with fail;refine D.o.mono ?_;rintro e w2 ⟨rfl,rfl⟩;go_wp2_with fail;go_ret;refine⟨p_ ?_,j.o⟩;rw[a.o];simp;done) | cases b | cases J | cases C | cases z | cases r
        ·have e9:((k:Int)==9)=false:=bN_.2 h9;by_cases h5:k=5
         ·subst h5;have a:=q_ (show m=(decide (M<=4096)&&(decide (d<60)&&(g4_ l (d+1)&&(!b&&(!J&&(!S && !C)))))) from by rw[<-p.o,B1_,Oo_ b n t x l,L.o,T.o,I.o,q.o]);clear p
          cases b with
          | true=>
           have f:=q_ (show false=m from by rw[a.o];simp);go_wp2_with fail;go_ret;exact⟨p_ f.o,j.o⟩
          | false=>
           cases J with
           | true=>
            have f:=q_ (show false=m from by rw[a.o];simp);go_wp2_with fail;go_ret;exact⟨p_ f.o,j.o⟩
           | false=>
            cases S with
            | true=>
             have f:=q_ (show false=m from by rw[a.o];simp);go_wp2_with fail;go_ret;exact⟨p_ f.o,j.o⟩
            | false=>
             cases C with
             | true=>
              have f:=q_ (show false=m from by rw[a.o];simp);go_wp2_with fail;go_ret;exact⟨p_ f.o,j.o⟩
             | false=>
              by_cases ag:M<=4096
              ·have z1:¬(4096:Int)<(M:Int):=by omega
               rw[dT_ ag]at a;obtain⟨O,a0⟩:=a_ (d+1);have ay:O<=61:=by rw[<-a0.o];omega
               have w1:IntKind.i64.wrap ((d:Int)+1)=(O:Int):=by rw[YU _ (by omega),<-a0.o];push_cast;rfl
               have w2:(d:Int)+1=(O:Int):=by rw[<-a0.o];push_cast;rfl
               by_cases a9:d<60
               ·have z2:¬(60:Int)<(O:Int):=by rw[<-w2];omega
                rw[dT_ a9,a0.o]at a;have ac:=q_ (show m=g4_ l O from by rw[a.o];simp);clear a a9;go_wp2_with fail;go_loopw [10] (λae wr=>∃i:Nat,i<=M/\ae = QY QU (i:Nat)/\Q_ (((l.take i).all λv=>I_ v O)=true)/\Q_ (XW P.heap.size P wr)) (λae _=>M-(intOf ae).toNat)
                case atStart=>exact⟨0,by omega,rfl,q_ (by simp),q_ (XV _ _)⟩
                case round=>
                 obtain⟨i,hi,rfl,a7,hB⟩:=hrel;have a6:=q_ (j.o.trans (hB.o.mono j.o.size));have r5:wr.cell? ⟨h,5,none⟩=some (QQ A M a2):=QX ((hB.o.block h am.o).trans U.o) 5;by_cases ap:i<M
                 ·obtain⟨y,hy⟩:∃y,l[i]?=QJ y:=⟨l[i]'(by rw[q.o];exact ap),XQ _⟩;have HR:=q_ (HL.o.under a6.o HF.o);obtain⟨ad,s,rfl,ak,⟨B,av,rfl,au,aq⟩,ai,e0,e1,e2,e3,e4,e5⟩:=HR.o.cellsAt hy;have HY:=q_ hy;have ab:=q_ (YZ hy);have ar:=el_ ab.o;have aa:=q_ (IH.o y (by omega) (by omega) O (by omega) F _ wr (λg hg=>XZ (HF.o g hg) a6.o.size) ai);unfold c_ at aa;have a4:=q_ (λ(h:I_ y O=true)=>show ((l.take (i+1)).all λv=>I_ v O)=true from by rw[f_ HY.o,List.all_append,a7.o];simp[h]);have a5:=q_ (λ(h:I_ y O=false)=>show g4_ l O=false from by rw[i0_,List.all_eq_false];exact⟨y,ab.o,by simp[h]⟩);obtain⟨r,V⟩:=a_ (I_ y O);rw[V.o]at aa a4 a5;have q1:(0:Int)<=i:=by omega
                  have q2:(i:Int)<M:=by omega
                  clear hy aq ai ak ar;go_wp2_with fail;refine aa.o.mono ?_;rintro e w2 ⟨rfl,W⟩;have Z:=q_ (hB.o.trans (W.mono hB.o.size));clear W
                  cases r with
                  | true=>
                   have HM:=q_ (a4.o rfl);have w3:IntKind.i64.wrap ((i:Int)+1)=(i:Int)+1:=YU _ (by omega);go_wp2_with fail;go_roundw
                   case rel=>exact⟨i+1,by omega,by go_num,HM,Z⟩
                   case measure=>simp[intOf];omega
                  | false=>
                   have HS:=q_ (show false=m from by rw[ac.o,a5.o rfl]);have aj:=q_ (j.o.trans (Z.o.mono j.o.size));go_wp2_with fail;go_ret;exact⟨p_ HS.o,aj.o⟩
                 ·have af:i=M:=by omega
                  have HS:=q_ (show true=m from by have:=a7.o;rw[YJ (by rw[af,q.o];exact XK _)]at this;rw[ac.o,i0_];exact this.symm);clear af;go_wp2_with fail;go_ret;exact⟨p_ HS.o,a6.o⟩
               ·have z2:(60:Int)<(O:Int):=by rw[<-w2];omega
                rw[dF_ a9]at a;have f:=q_ (show false=m from by rw[a.o];simp);go_wp2_with fail;go_ret;exact⟨p_ f.o,j.o⟩
              ·have z1:(4096:Int)<(M:Int):=by omega
               rw[dF_ ag]at a;have f:=q_ (show false=m from by rw[a.o];simp);go_wp2_with fail;go_ret;exact⟨p_ f.o,j.o⟩
         ·have e5:((k:Int)==5)=false:=bN_.2 h5;by_cases h6:k=6
          ·subst h6;have a:=q_ (show m=(decide (0<=n)&&(!b&&(!S&&(!C && !z)))) from by rw[<-p.o,Ik_,Gt_ 6 b n t x l rfl,T.o,I.o,q.o,E.o]);clear p
           cases b with
           | true=>
            have f:=q_ (show false=m from by rw[a.o];simp);go_wp2_with fail;go_ret;exact⟨p_ f.o,j.o⟩
           | false=>
            by_cases X:0<=n
            ·rw[dT_ X]at a;repeat' first | (go_wp2_with fail;go_ret;refine⟨p_ ?_,j.o⟩;rw[a.o];simp;done) | cases S | cases C | cases z
            ·rw[dF_ X]at a;have f:=q_ (show false=m from by rw[a.o];simp);go_wp2_with fail;go_ret;exact⟨p_ f.o,j.o⟩
          ·have e6:((k:Int)==6)=false:=bN_.2 h6;by_cases h7:k=7
           ·subst h7;have a:=q_ (show m=(decide (0<=n)&&(!b&&(!S&&(!C && !z)))) from by rw[<-p.o,Il_,Gt_ 7 b n t x l rfl,T.o,I.o,q.o,E.o]);clear p
            cases b with
            | true=>
             have f:=q_ (show false=m from by rw[a.o];simp);go_wp2_with fail;go_ret;exact⟨p_ f.o,j.o⟩
            | false=>
             by_cases X:0<=n
             ·rw[dT_ X]at a;repeat' first | (go_wp2_with fail;go_ret;refine⟨p_ ?_,j.o⟩;rw[a.o];simp;done) | cases S | cases C | cases z
             ·rw[dF_ X]at a;have f:=q_ (show false=m from by rw[a.o];simp);go_wp2_with fail;go_ret;exact⟨p_ f.o,j.o⟩
           ·have e7:((k:Int)==7)=false:=bN_.2 h7;by_cases a3:k=10
            ·subst a3;have a:=q_ (show m=(decide (t.size<=1048576)&&(d5_ x&&(!b&&(!J && !z)))) from by rw[<-p.o,Af_,Nh_ 10 b n t x l rfl,L.o,q.o,E.o]);clear p
             cases b with
             | true=>
              have f:=q_ (show false=m from by rw[a.o];simp);go_wp2_with fail;go_ret;exact⟨p_ f.o,j.o⟩
             | false=>
              cases J with
              | true=>
               have f:=q_ (show false=m from by rw[a.o];simp);go_wp2_with fail;go_ret;exact⟨p_ f.o,j.o⟩
              | false=>
               cases z with
               | true=>
                have f:=q_ (show false=m from by rw[a.o];simp);go_wp2_with fail;go_ret;exact⟨p_ f.o,j.o⟩
               | false=>
                by_cases Y:t.size<=1048576
                ·have z1:(t.size:Int)<=1048576:=by omega
                 rw[dT_ Y]at a;have D:=q_ (q4_ x P);obtain⟨r,V⟩:=a_ (d5_ x);rw[V.o]at D a
                 cases r with
                 | false=>
                  have f:=q_ (show false=m from by rw[a.o];simp);go_wp2_with fail;refine D.o.mono ?_;rintro e w2 ⟨rfl,rfl⟩;go_wp2_with fail;go_ret;exact⟨p_ f.o,j.o⟩
                 | true=>
                  have f:=q_ (show true=m from by rw[a.o];simp);go_wp2_with fail;refine D.o.mono ?_;rintro e w2 ⟨rfl,rfl⟩;go_wp2_with fail;go_ret;exact⟨p_ f.o,j.o⟩
                ·have z1:¬(t.size:Int)<=1048576:=by omega
                 rw[dF_ Y]at a;have f:=q_ (show false=m from by rw[a.o];simp);go_wp2_with fail;go_ret;exact⟨p_ f.o,j.o⟩
            ·have aw:((k:Int)==10)=false:=bN_.2 a3;have f:=q_ (show false=m from by rw[<-p.o];unfold I_;simp only[h0,h1,h2,h3,h4,h8,h9,h5,h6,h7,a3,if_false]);clear h0 h1 h2 h3 h4 h8 h9 h5 h6 h7 a3;go_wp2_with fail;go_ret;exact⟨p_ f.o,j.o⟩
theorem kw_ (v:g_) (B:S_ v<=10000000000) (F:Nat->Prop) (u:XJ) (w:QV) (i:∀g,F g->g<w.heap.size) (m:VRd w F v u) :
    Calls QW 59 #[u] w (n_ (I_ v 0) w):=by
 obtain⟨A,p,C,j,z⟩:=m.inv;have a:=q_ (λo:Obj=>Lq_ (S_ v+1) v (by omega) B 0 (by omega) F u (w.alloc o) (λg y=>by have:=i g y;simp;omega) (m.under ((XV _ _).alloc (XK _) _) i));subst C;obtain⟨s,r⟩:=a_ (Value.slice A v.list.length p);obtain⟨D,f⟩:=a_ (I_ v 0);rw[f.o]at a;rw[f.o];rw[r.o]at a ⊢;clear z j
 cases v with
 | mk k b n t x l=>
 unfold c_ at a ⊢;simp only[g_.kind,g_.truth,g_.num,g_.text,g_.extra]at a ⊢;clear m i;go_enter func59,ntmps59
 go_wp2_with fail;refine (a.o _).mono ?_;rintro e E ⟨rfl,hb⟩;have q:=q_ (((XV w.heap.size w).alloc (XK _) (XX #[QY QU k,XY b,QY QU n,QZ t,QZ x,s] 39)).trans (hb.mono (by simp)));clear hb;go_wp2_with fail;go_ret;exact⟨rfl,q.o⟩
def iu_ (cs:Nat->Array XJ) (n:Nat):List XJ:=(List.range n).flatMap λi=>(cs i).toList
theorem fx_ (cs:Nat->Array XJ) (n:Nat):iu_ cs (n+1)=iu_ cs n++(cs n).toList:=by unfold iu_;rw[List.range_succ];simp
theorem w3_ {cs ds:Nat->Array XJ} {n:Nat} (h:∀i,i<n->cs i=ds i):iu_ cs n=iu_ ds n:=by
 induction n with
 | zero=>rfl
 | succ n a=>rw[fx_,fx_,a (λi hi=>h i (by omega)),h n (by omega)]
theorem ux_ {cs:Nat->Array XJ} {n:Nat} (h:∀i,i<n->(cs i).size=6):(iu_ cs n).length=n*6:=by
 induction n with
 | zero=>rfl
 | succ n a=>rw[fx_,ZZ,a (λi hi=>h i (by omega))];simp[h n (by omega)];omega
theorem Hf_ {cs:Nat->Array XJ} {n i j:Nat} (h:∀i,i<n->(cs i).size=6) (hi:i<n) (m:j<6):(iu_ cs n)[i*6+j]?=(cs i)[j]?:=by
 induction n with
 | zero=>omega
 | succ n g=>
  rw[fx_];have f:=ux_ (cs:=cs) (n:=n) (λi hi=>h i (by omega));by_cases a:i=n
  ·subst a;rw[List.getElem?_append_right (by omega),f,show i*6+j-i*6=j by omega];simp
  ·rw[List.getElem?_append_left (by omega)];exact g (λi hi=>h i (by omega)) (by omega)
inductive ib_ (w:QV):(Nat->Prop)->g_->XJ->Prop where
 | mk (v:g_) (F:Nat->Prop) (s:XJ) (cs:Nat->Array XJ) (Fs:Nat->Nat->Prop) (hrow:w.ownsRow 0 39 6 s v.list.length (iu_ cs v.list.length)) (h6:∀i,i<v.list.length->(cs i).size=6)
     (hF:∀g,s.ownBlock=QJ g->F g) (hFs:∀i b,i<v.list.length->Fs i b->F b/\s.ownBlock≠QJ b) (hdis:∀i j b,i<v.list.length->j<v.list.length->i≠j->Fs i b->¬Fs j b)
     (hr:∀i x,v.list[i]?=QJ x->ib_ w (Fs i) x (.agg (cs i))):ib_ w F v (.agg (c_ v s))
def gn_ (w:QV) (F:Nat->Prop) (l:List g_) (s:XJ):Prop:=
 ∃(cs:Nat->Array XJ) (Fs:Nat->Nat->Prop),w.ownsRow 0 39 6 s l.length (iu_ cs l.length)/\(∀i,i<l.length->(cs i).size=6)/\(∀g,s.ownBlock=QJ g->F g) /\
  (∀i b,i<l.length->Fs i b->F b/\s.ownBlock≠QJ b)/\(∀i j b,i<l.length->j<l.length->i≠j->Fs i b->¬Fs j b)/\∀i x,l[i]?=QJ x->ib_ w (Fs i) x (.agg (cs i))
section
variable {w w':QV} {F F':Nat->Prop} {v:g_} {u s:XJ} {l:List g_}
theorem ib_.inv (h:ib_ w F v u):∃s,u = .agg (c_ v s)/\gn_ w F v.list s:=by
 cases h with
 | mk _ _ s cs Fs f i j g a m=>exact⟨s,rfl,cs,Fs,f,i,j,g,a,m⟩
theorem ib_.of_list (h:gn_ w F v.list s):ib_ w F v (.agg (c_ v s)):=by obtain⟨cs,Fs,f,i,j,g,a,m⟩:=h;exact .mk v F s cs Fs f i j g a m
theorem ib_.turn (h:ib_ w F v u) {S:Nat->Prop} (ht:Turn S w w') (p:∀b,F b->¬S b):ib_ w' F v u:=by
 induction h with
 | mk v F s cs Fs j q o a f z y=>
  exact .mk v F s cs Fs (ht.owns j (λg r=>p g (o g r))) q o a f (λi x m=>y i x m (λb hb=>p b (a i b (by
   rcases VZ i v.list.length with h | h
   ·exact h
   ·rw[ZK h]at m;cases m) hb).1))
theorem ib_.mono (h:ib_ w F v u) (m:∀b,F b->F' b):ib_ w F' v u:=by
 cases h with
 | mk _ _ s cs Fs j p o a f r=>exact .mk v F' s cs Fs j p (λg q=>m g (o g q)) (λi b hi hb=>⟨m b (a i b hi hb).1,(a i b hi hb).2⟩) f r
theorem gn_.turn (h:gn_ w F l s) {S:Nat->Prop} (ht:Turn S w w') (p:∀b,F b->¬S b):gn_ w' F l s:=by
 obtain⟨cs,Fs,j,q,o,a,f,y⟩:=h
 refine⟨cs,Fs,ht.owns j (λg r=>p g (o g r)),q,o,a,f,λi x m=>(y i x m).turn ht (λb hb=>p b (a i b (by
     rcases VZ i l.length with h | h
     ·exact h
     ·rw[ZK h]at m;cases m) hb).1)⟩
theorem gn_.mono (h:gn_ w F l s) (m:∀b,F b->F' b):gn_ w F' l s:=by obtain⟨cs,Fs,j,p,o,a,f,r⟩:=h;exact⟨cs,Fs,j,p,λg q=>m g (o g q),λi b hi hb=>⟨m b (a i b hi hb).1,(a i b hi hb).2⟩,f,r⟩
theorem gn_.nil (w:QV) (F:Nat->Prop):gn_ w F [] (QQ QK 0 0):=
 ⟨λ_=>#[],λ_ _=>False,World.ownsRow_nil _ _ _ _,(λ_ hi=>absurd hi (Nat.not_lt_zero _)),(λg a=>by cases a),(λ_ _ hi=>absurd hi (Nat.not_lt_zero _)),(λ_ _ _ hi=>absurd hi (Nat.not_lt_zero _)),(λi x f=>by simp at f)⟩
theorem gn_.form (h:gn_ w F l s):∃A f,s = QQ A l.length f:=by
 obtain⟨cs,Fs,a,_⟩:=h;rcases a.2 with⟨rfl,h0⟩ | ⟨g,cp,i,rfl,_⟩
 ·exact⟨QK,0,by rw[h0]⟩
 ·exact⟨_,cp,rfl⟩
theorem Cb_ {f e i:Nat} {A:Option Addr} {n a:Nat} {xs:List XJ} (h:w.ownsRow f e i (QQ A n a) n xs):n<=a:=by
 rcases h.2 with⟨h0,h1⟩ | ⟨g,cp,j,h0,_,_,h1,_⟩
 ·injection h0 with _ h2 h3;omega
 ·injection h0 with _ _ h3;omega
theorem Jd_ {cs:Nat->Array XJ} {A:Option Addr} {f:Nat} (a:w.ownsRow 0 39 6 (QQ A l.length f) l.length (iu_ cs l.length)) (p:∀i,i<l.length->(cs i).size=6) (q:∀g,(Value.slice A l.length f).ownBlock=QJ g->F g)
    (z:∀i x,l[i]?=QJ x->VRd w F x (.agg (cs i))):LRd w F l A l.length:=by
 refine⟨rfl,λy=>?_⟩;obtain⟨g,cp,m,_,_⟩:=a.form y;injection m with m _ hcp;subst m;subst hcp;refine⟨⟨g,0,QK⟩,rfl,q g rfl,λi x o=>?_⟩
 have hi:i<l.length:=by
  rcases VZ i l.length with h | h
  ·exact h
  ·rw[ZK h]at o;cases o
 refine⟨cs i,p i hi,λj r=>?_,z i x o⟩;have h1:=a.cellAt (i*6+j) (by omega);rw[Hf_ p hi r]at h1;rw[<-h1];unfold Addr.add;split<;>simp_all
theorem ib_.rd (h:ib_ w F v u):VRd w F v u:=by
 induction h with
 | mk v F s cs Fs a o p m q z r=>
  obtain⟨A,f,rfl⟩:∃A f,s = QQ A v.list.length f:=by
   rcases a.2 with⟨rfl,h0⟩ | ⟨g,cp,y,rfl,_⟩
   ·exact⟨QK,0,by rw[h0]⟩
   ·exact⟨_,cp,rfl⟩
  exact .of_list (Cb_ a) (Jd_ a o p (λi x j=>(r i x j).mono (λb hb=>(m i b (by
   rcases VZ i v.list.length with h | h
   ·exact h
   ·rw[ZK h]at j;cases j) hb).1)))
theorem gn_.rd (h:gn_ w F l s):∃A a,s = QQ A l.length a/\l.length<=a/\LRd w F l A l.length:=by
 obtain⟨A,a,rfl⟩:=h.form;obtain⟨cs,Fs,f,m,o,j,_,p⟩:=h
 exact⟨A,a,rfl,Cb_ f,Jd_ f m o (λi x g=>(p i x g).rd.mono (λb hb=>(j i b (by
     rcases VZ i l.length with h | h
     ·exact h
     ·rw[ZK h]at g;cases g) hb).1))⟩
theorem Ix_ {w5 w6:QV} {F G:Nat->Prop} {l:List g_} {x:g_} {s sx:XJ} {g4 c4:Nat} {cs:Nat->Array XJ} {Fs:Nat->Nat->Prop}
    (N:∀i,i<l.length->(cs i).size=6) (A:∀g,s.ownBlock=QJ g->F g) (f:∀i b,i<l.length->Fs i b->F b/\s.ownBlock≠QJ b) (r:∀i j b,i<l.length->j<l.length->i≠j->Fs i b->¬Fs j b)
    (P:∀i y,l[i]?=QJ y->ib_ w5 (Fs i) y (.agg (cs i))) (S:gn_ w5 G x.list sx) (m:∀b,F b->¬G b) (B:∀b,F b->b<w5.heap.size) (D:∀b,G b->b<w5.heap.size)
    (O:w6.ownsRow 0 39 6 (QQ (QJ ⟨g4,0,QK⟩) (l.length+1) c4) (l.length+1) (iu_ cs l.length++(c_ x sx).toList)) (J:w5.grownBy w6 s.ownBlock) (L:s.ownBlock=QJ g4\/w5.heap.size<=g4) :
    gn_ w6 (λb=>F b\/G b\/b=g4) (l++[x]) (QQ (QJ ⟨g4,0,QK⟩) (l.length+1) c4):=by
 have z:(l++[x]).length=l.length+1:=by simp
 have I:∀i,i<l.length->(λi=>if i<l.length then cs i else c_ x sx) i=cs i:=λi hi=>iP_ hi
 have C:∀i b,i<l.length->Fs i b->b≠g4:=λi b hi hb e=>by
  obtain⟨h1,h2⟩:=f i b hi hb;rcases L with h | h
  ·exact h2 (by rw[h,e])
  ·have:=B b h1;omega
 have E:∀b,G b->b≠g4:=λb hb e=>by
  rcases L with h | h
  ·exact m b (by rw[e];exact A g4 h) hb
  ·have:=D b hb;omega
 refine⟨λi=>if i<l.length then cs i else c_ x sx,λi=>if i<l.length then Fs i else G,?_,λi hi=>?_,λg q=>?_,λi b hi hb=>?_,λi j b hi T M hb a=>?_,λi y p=>?_⟩
 ·rw[z,fx_,w3_ I,iN_ (Nat.lt_irrefl _)];exact O
 ·by_cases h:i<l.length
  ·simp only[iP_ h];exact N i h
  ·simp only[iN_ h];rfl
 ·injection q with q;exact .inr (.inr q.symm)
 ·by_cases h:i<l.length
  ·simp only[iP_ h]at hb;exact⟨.inl (f i b h hb).1,λe=>by injection e with e;exact C i b h hb e.symm⟩
  ·simp only[iN_ h]at hb;exact⟨.inr (.inl hb),λe=>by injection e with e;exact E b hb e.symm⟩
 ·by_cases h:i<l.length
  ·simp only[iP_ h]at hb;by_cases o:j<l.length
   ·simp only[iP_ o]at a;exact r i j b h o M hb a
   ·simp only[iN_ o]at a;exact m b (f i b h hb).1 a
  ·simp only[iN_ h]at hb;by_cases o:j<l.length
   ·simp only[iP_ o]at a;exact m b (f j b o a).1 hb
   ·omega
 ·by_cases h:i<l.length
  ·simp only[iP_ h];rw[List.getElem?_append_left h]at p;exact (P i y p).turn (Turn.of_grown J) λb hb e=>(f i b h hb).2 e.symm
  ·simp only[iN_ h]
   have hi:i=l.length:=by
    rcases VZ i (l++[x]).length with h1 | h1
    ·omega
    ·rw[ZK h1]at p;cases p
   subst hi;simp at p;subst p;exact (ib_.of_list S).turn (Turn.of_grown J) λb hb e=>m b (A b e.symm) hb
end
def Fq_ (l:List g_) (w:QV) (e:Ending) (w':QV):Prop:=∃s,e = YQ s/\XW w.heap.size w w'/\gn_ w' (λb=>w.heap.size<=b/\b<w'.heap.size) l s
def k4_ (v:g_) (w:QV) (e:Ending) (w':QV):Prop:=∃s,e = YQ (.agg (c_ v s))/\XW w.heap.size w w'/\gn_ w' (λb=>w.heap.size<=b/\b<w'.heap.size) v.list s
theorem nc_ (v:g_) {F:Nat->Prop} (A:Option Addr) (m:Nat) (w:QV) (Z:∀g,F g->g<w.heap.size) (Y:LRd w F v.list A v.list.length)
    (E:∀w',LRd w' F v.list A v.list.length->(∀g,F g->g<w'.heap.size)->Calls QW 110 #[QQ A v.list.length m] w' (Fq_ v.list w')) :
    Calls QW 44 #[.agg (c_ v (QQ A v.list.length m))] w (k4_ v w):=by
 obtain⟨k,t,n,s,x,l⟩:=v;unfold c_;simp only[g_.kind,g_.truth,g_.num,g_.text,g_.extra,g_.list]at Y E ⊢;have M:=q_ (F_ w (XX #[QY QU k,XY t,QY QU n,QZ s,QZ x,QQ A l.length m] 39) (XX #[QY QU 0,XY false,QY QU 0,QZ ⟨#[]⟩,QZ ⟨#[]⟩,QQ QK 0 0] 39));have J:((w.alloc (XX #[QY QU k,XY t,QY QU n,QZ s,QZ x,QQ A l.length m] 39)).alloc (XX #[QY QU 0,XY false,QY QU 0,QZ ⟨#[]⟩,QZ ⟨#[]⟩,QQ QK 0 0] 39)).heap.size=w.heap.size+2:=by simp
 have C:((w.alloc (XX #[QY QU k,XY t,QY QU n,QZ s,QZ x,QQ A l.length m] 39)).alloc (XX #[QY QU 0,XY false,QY QU 0,QZ ⟨#[]⟩,QZ ⟨#[]⟩,QQ QK 0 0] 39)).heap[w.heap.size]?=QJ (XX #[QY QU k,XY t,QY QU n,QZ s,QZ x,QQ A l.length m] 39 (0,0)):=by rw[Below.heap_alloc _ _ _ (by simp)];exact XU w _
 have I:((w.alloc (XX #[QY QU k,XY t,QY QU n,QZ s,QZ x,QQ A l.length m] 39)).alloc (XX #[QY QU 0,XY false,QY QU 0,QZ ⟨#[]⟩,QZ ⟨#[]⟩,QQ QK 0 0] 39)).heap[w.heap.size+1]?=QJ (XX #[QY QU 0,XY false,QY QU 0,QZ ⟨#[]⟩,QZ ⟨#[]⟩,QQ QK 0 0] 39 (0,0)):=by have:=XU (w.alloc (XX #[QY QU k,XY t,QY QU n,QZ s,QZ x,QQ A l.length m] 39)) (XX #[QY QU 0,XY false,QY QU 0,QZ ⟨#[]⟩,QZ ⟨#[]⟩,QQ QK 0 0] 39);simpa using this
 obtain⟨z,T⟩:=a_ w.heap.size;obtain⟨W2,U⟩:=a_ ((w.alloc (XX #[QY QU k,XY t,QY QU n,QZ s,QZ x,QQ A l.length m] 39)).alloc (XX #[QY QU 0,XY false,QY QU 0,QZ ⟨#[]⟩,QZ ⟨#[]⟩,QQ QK 0 0] 39));rw[U.o]at M J C I;have HC:=q_ (E W2 (Y.under M.o Z) (λg hg=>by have:=Z g hg;have:=M.o.size;omega));rw[T.o]at M J C I;have a0:=q_ C;have a1:=q_ I;have y:=q_ J;have c5:W2.cell? ⟨z,5,QK⟩=QJ (QQ A l.length m):=QX C 5;clear Y E Z C I J;go_enter func44,ntmps44
 go_upto_region 1 with fail;rw[U.o,T.o];go_wp2_with fail;refine HC.o.mono ?_;rintro e w5 ⟨s',rfl,D,O⟩;obtain⟨A',j,rfl⟩:=O.form;have a3:=q_ O;have a2:=q_ D;have a7:z+2<=w5.heap.size:=by have:=D.size;have:=y.o;omega
 have B:=q_ ((D.block z (by have:=y.o;omega)).trans a0.o);have W:=q_ ((D.block (z+1) (by have:=y.o;omega)).trans a1.o);have d0:w5.cell? ⟨z,0,QK⟩=QJ (QY QU k):=QX B.o 0;have d5:w5.cell? ⟨z,5,QK⟩=QJ (QQ A l.length m):=QX B.o 5;have f5:w5.frozen? ⟨z,5,QK⟩=false:=YY B.o 5;have q:=heap_setCell_same w5 z 5 _ 39 (QQ A' l.length j) B.o;have a:(w5.setCell ⟨z,5,QK⟩ (QQ A' l.length j)).heap[z+1]?=_:=(Below.heap_setCell w5 ⟨z,5,QK⟩ (QQ A' l.length j) (z+1) (by simp)).trans W.o;have P:=(Turn.refl (λb=>b=z\/b=z+1) w5).setCell (p:=⟨z,5,QK⟩) (.inr (.inl rfl)) (QQ A' l.length j);obtain⟨f,V⟩:=a_ (w5.setCell ⟨z,5,QK⟩ (QQ A' l.length j));rw[V.o]at q a P;have g0:f.cell? ⟨z,0,QK⟩=QJ (QY QU k):=QX q 0;have g1:f.cell? ⟨z,1,QK⟩=QJ (XY t):=QX q 1;have g2:f.cell? ⟨z,2,QK⟩=QJ (QY QU n):=QX q 2;have g3:f.cell? ⟨z,3,QK⟩=QJ (QZ s):=QX q 3;have g4:f.cell? ⟨z,4,QK⟩=QJ (QZ x):=QX q 4;have g5:f.cell? ⟨z,5,QK⟩=QJ (QQ A' l.length j):=QX q 5;have r0:f.cell? ⟨z+1,0,QK⟩=QJ (QY QU 0):=QX a 0;have y0:f.frozen? ⟨z+1,0,QK⟩=false:=YY a 0;have r1:f.cell? ⟨z+1,1,QK⟩=QJ (XY false):=QX a 1;have y1:f.frozen? ⟨z+1,1,QK⟩=false:=YY a 1;have r2:f.cell? ⟨z+1,2,QK⟩=QJ (QY QU 0):=QX a 2;have y2:f.frozen? ⟨z+1,2,QK⟩=false:=YY a 2;have r3:f.cell? ⟨z+1,3,QK⟩=QJ (QZ ⟨#[]⟩):=QX a 3;have y3:f.frozen? ⟨z+1,3,QK⟩=false:=YY a 3;have r4:f.cell? ⟨z+1,4,QK⟩=QJ (QZ ⟨#[]⟩):=QX a 4;have y4:f.frozen? ⟨z+1,4,QK⟩=false:=YY a 4;have r5:f.cell? ⟨z+1,5,QK⟩=QJ (QQ QK 0 0):=QX a 5;have y5:f.frozen? ⟨z+1,5,QK⟩=false:=YY a 5;have a6:=q_ q;have X:=q_ a;have a4:=q_ P;clear D O q a P c5;go_upto_region 2 with fail;rw[V.o];go_wp2_with fail;have r:((((((f.setCell ⟨z+1,0,QK⟩ (QY QU k)).setCell ⟨z+1,1,QK⟩ (XY t)).setCell ⟨z+1,2,QK⟩ (QY QU n)).setCell ⟨z+1,3,QK⟩ (QZ s)).setCell ⟨z+1,4,QK⟩ (QZ x)).setCell ⟨z+1,5,QK⟩ (QQ A' l.length j)).heap[z+1]?=QJ (XX #[QY QU k,XY t,QY QU n,QZ s,QZ x,QQ A' l.length j] 39 (0,0)):=(heap_setCell_same _ (z+1) 5 _ 39 _ (heap_setCell_same _ (z+1) 4 _ 39 _ (heap_setCell_same _ (z+1) 3 _ 39 _ (heap_setCell_same _ (z+1) 2 _ 39 _ (heap_setCell_same _ (z+1) 1 _ 39 _ (heap_setCell_same _ (z+1) 0 _ 39 _ X.o))))));have S:Turn (λb=>b=z\/b=z+1) w5 ((((((f.setCell ⟨z+1,0,QK⟩ (QY QU k)).setCell ⟨z+1,1,QK⟩ (XY t)).setCell ⟨z+1,2,QK⟩ (QY QU n)).setCell ⟨z+1,3,QK⟩ (QZ s)).setCell ⟨z+1,4,QK⟩ (QZ x)).setCell ⟨z+1,5,QK⟩ (QQ A' l.length j)):=((((((a4.o.setCell (p:=⟨z+1,0,QK⟩) (.inr (.inr rfl)) _).setCell (p:=⟨z+1,1,QK⟩) (.inr (.inr rfl)) _).setCell (p:=⟨z+1,2,QK⟩) (.inr (.inr rfl)) _).setCell (p:=⟨z+1,3,QK⟩) (.inr (.inr rfl)) _).setCell (p:=⟨z+1,4,QK⟩) (.inr (.inr rfl)) _).setCell (p:=⟨z+1,5,QK⟩) (.inr (.inr rfl)) _);obtain⟨L,a5⟩:=a_ ((((((f.setCell ⟨z+1,0,QK⟩ (QY QU k)).setCell ⟨z+1,1,QK⟩ (XY t)).setCell ⟨z+1,2,QK⟩ (QY QU n)).setCell ⟨z+1,3,QK⟩ (QZ s)).setCell ⟨z+1,4,QK⟩ (QZ x)).setCell ⟨z+1,5,QK⟩ (QQ A' l.length j));rw[a5.o]at r S ⊢;have q0:L.cell? ⟨z+1,0,QK⟩=QJ (QY QU k):=QX r 0;have q1:L.cell? ⟨z+1,1,QK⟩=QJ (XY t):=QX r 1;have q2:L.cell? ⟨z+1,2,QK⟩=QJ (QY QU n):=QX r 2;have q3:L.cell? ⟨z+1,3,QK⟩=QJ (QZ s):=QX r 3;have q4:L.cell? ⟨z+1,4,QK⟩=QJ (QZ x):=QX r 4;have q5:L.cell? ⟨z+1,5,QK⟩=QJ (QQ A' l.length j):=QX r 5;have N:=q_ S;clear S r r0 r1 r2 r3 r4 r5 y0 y1 y2 y3 y4 y5 g0 g1 g2 g3 g4 g5 d0 d5 f5;go_wp2_with fail;refine ZV (v:=.agg #[QY QU k,XY t,QY QU n,QZ s,QZ x,QQ A' l.length j]) (by simp[results,results44,go_sem,q0,q1,q2,q3,q4,q5]) rfl ⟨QQ A' l.length j,rfl,?_,?_⟩
 ·rw[T.o];exact (M.o.trans (a2.o.mono (by have:=y.o;omega))).trans (N.o.below (λi _ h=>by omega) (by omega))
 ·have h1:=a3.o.turn N.o (λb hb h=>by have:=y.o;omega);refine h1.mono λb hb=>⟨?_,?_⟩
  ·have:=y.o;have:=T.o;omega
  ·have:=N.o.size;omega
theorem Bx_:(Tryz.prog.info? 39).map (λi=>(i.zero,i.size,i.bytes))=QJ (QJ (.agg #[QY QU 0,XY false,QY QU 0,QZ ⟨#[]⟩,QZ ⟨#[]⟩,QQ QK 0 0]),6,80):=by kernel_rfl
theorem Ca_ (x:g_) (B:Option Addr) (n c:Nat):∀u∈(c_ x (QQ B n c)).toList,u.oneCell'=true:=by intro u a;simp[c_]at a;rcases a with h | h | h | h | h | h<;>subst h<;>rfl
theorem wi_ (N:Nat):∀(l:List g_) (_:V_ l<N) (_:V_ l<=100000000) (F:Nat->Prop) (A:Option Addr) (n Y:Nat) (w:QV) (_:∀g,F g->g<w.heap.size) (_:LRd w F l A n),
    Calls QW 110 #[QQ A n Y] w (Fq_ l w):=by
 induction N with
 | zero=>exact λ_ h=>absurd h (Nat.not_lt_zero _)
 | succ N ih=>
  intro l hN hs F A n Y w hF S;have HL:=q_ S;have HF:=q_ hF;have IH:=q_ ih;have ag:n<=l.length:=Nat.le_of_eq S.1;have ah:l.length<=n:=Nat.le_of_eq S.1.symm;have ai:=dc_ l;clear S hF ih;go_enter func110,ntmps110
  go_wp2_with fail;go_loopw [3,4] (λs3 s4 wr=>∃k:Nat,k<=n/\s4 = QY QU (k:Nat)/\XW w.heap.size w wr/\gn_ wr (λb=>w.heap.size<=b/\b<wr.heap.size) (l.take k) s3) (λ_ s4 _=>n-(intOf s4).toNat)
  case atStart=>exact⟨0,by omega,rfl,XV _ _,gn_.nil _ _⟩
  case round=>
   obtain⟨k,hk,rfl,B,p⟩:=hrel;have V:=q_ B;have E:=q_ p;have a8:=q_ (HL.o.under B HF.o);have a5:w.heap.size<=wr.heap.size:=B.size;have r:(l.take k).length=k:=by simp;omega
   have m:=q_ r;obtain⟨L,O,h3⟩:=p.form;rw[r]at h3;subst h3;clear B p r;by_cases aj:k<n
   ·obtain⟨x,U⟩:∃x,l[k]?=QJ x:=⟨l[k]'(by omega),XQ _⟩;have af:=el_ (YZ U);have ae:=dv_ x;obtain⟨ad,sx,rfl,_,⟨Bx,cx,rfl,_,a2⟩,_,d0,d1,d2,d3,d4,d5⟩:=a8.o.cellsAt U;have HC:=q_ (nc_ x Bx cx wr (F:=F) (λg hg=>XZ (HF.o g hg) a5) a2 (λw' h1 h2=>IH.o x.list (by omega) (by omega) F Bx _ cx w' h2 h1));have HX:=q_ U;have e1:(0:Int)<=k:=by omega
    have e2:(k:Int)<n:=by omega
    clear U af ae a2;unfold c_ at HC;obtain⟨lx,f⟩:=a_ x.list.length;rw[f.o]at d5 HC;go_wp2_with fail;refine HC.o.mono ?_;rintro e w5 ⟨s',rfl,z,I⟩;obtain⟨A',Z,rfl⟩:=I.form;unfold c_;rw[f.o];have W:=q_ I;have a7:=q_ z;obtain⟨cs,Fs,q,P,i,y,a,T⟩:=E.o.turn (Turn.of_below z) (λb hb h=>by omega);rw[m.o]at q;have a6:=q_ q;have ak:wr.heap.size<=w5.heap.size:=z.size;have M:=q_ (And.intro P (And.intro i (And.intro y (And.intro a T))));rw[f.o]at W;clear z I q P i y a T;go_wp2_with (at_builtin;refine c5_ rfl _ _ 37 rfl 0 39 (.agg #[QY QU 0,XY false,QY QU 0,QZ ⟨#[]⟩,QZ ⟨#[]⟩,QQ QK 0 0]) 6 80 underlying37 Bx_ rfl (by decide) _ _ _ rfl a6.o (Nat.zero_le _) _ 1 1 rfl rfl (Ca_ x A' lx Z) (by omega) (by omega) (by decide) ?_)
    intro g4 c4 w6 j a0 a1;have a9:=q_ j;have D:=q_ (show w5.grownBy w6 (Value.slice L k O).ownBlock from a0);have X:=q_ (show (Value.slice L k O).ownBlock=QJ g4\/w5.heap.size<=g4 from a1);clear j a0 a1;go_wp2_with fail;go_roundw
    case rel=>
     obtain⟨P,i,y,a,T⟩:=M.o;have J:=W.o;rw[<-f.o]at J;have j:=a9.o;have ab:g4<w6.heap.size:=(j.lt g4 rfl).2;have am:w5.heap.size<=w6.heap.size:=D.o.size;have C:∀b,QJ b=(Value.slice L k O).ownBlock->w.heap.size<=b:=λb hb=>(i b hb.symm).1
     have a3:=Ix_ (w5:=w5) (w6:=w6) (F:=λb=>w.heap.size<=b/\b<wr.heap.size) (G:=λb=>wr.heap.size<=b/\b<w5.heap.size) (l:=l.take k) (x:=x) (s:=QQ L k O) (sx:=QQ A' x.list.length Z) (g4:=g4) (c4:=c4) (cs:=cs) (Fs:=Fs) P i y a T J
      (λb hb h=>by obtain⟨_,h1⟩:=hb;obtain⟨h2,_⟩:=h;omega) (λb hb=>by obtain⟨_,h1⟩:=hb;omega) (λb hb=>hb.2) (by
      rw[m.o];unfold c_;rw[f.o];exact j) D.o X.o
     rw[m.o]at a3;refine⟨k+1,by omega,by go_num,(V.o.trans (a7.o.mono a5)).trans ((Turn.of_grown D.o).below (λb _ hb=>C b hb) (by omega)),?_⟩;rw[f_ HX.o];refine a3.mono λb hb=>?_;rcases hb with hb | hb | hb
     ·exact⟨hb.1,by omega⟩
     ·exact⟨by omega,by omega⟩
     ·subst hb;refine⟨?_,ab⟩;rcases X.o with h | h
      ·exact C b h.symm
      ·omega
    case measure=>simp[intOf];omega
   ·have ac:k=n:=by omega
    subst ac;have a4:l.take k=l:=YJ (by omega);have aa:=q_ a4;clear a4;go_wp2_with fail;go_ret;exact⟨_,rfl,V.o,by have h:=E.o;rw[aa.o]at h;exact h⟩
end
section
open Go Go.RowKit Go.Maps Go.WideMaps
def beN (W m:Nat):List UInt8:=(List.range W).map λj=>UInt8.ofNat (m / 2 ^ (8*(W-1-j)) % 256)
theorem c9_ (W m:Nat):(beN W m).length=W:=by simp[beN]
structure dl_ (v v':XJ) (w w':QV):Prop where
 turn:Turn (λi=>QJ i=v.ownBlock) w w'
 lies:v'.ownBlock=v.ownBlock\/∀g,v'.ownBlock=QJ g->w.heap.size<=g
theorem dl_.refl (v:XJ) (w:QV):dl_ v v w w:=⟨Turn.refl _ _,.inl rfl⟩
theorem dl_.trans {v m o:XJ} {w p w2:QV} (h:dl_ v m w p) (k:dl_ m o p w2):dl_ v o w w2:=by
 refine⟨h.turn.andThen k.turn (λi hi j=>?_),?_⟩
 ·rcases h.lies with e | e
  ·rw[<-e];exact j
  ·have:=e i j.symm;omega
 ·rcases k.lies with e | e
  ·rcases h.lies with a | a
   ·exact .inl (e.trans a)
   ·exact .inr (λg f=>a g (by rw[<-e];exact f))
  ·exact .inr λg f=>ZX h.turn.size (e g f)
theorem dl_.below {v:XJ} {w w':QV} (h:XW w.heap.size w w'):dl_ v v w w':=⟨(Turn.of_below h).mono (λi hi a=>by omega),.inl rfl⟩
theorem dl_.keeps {v i:XJ} {w w':QV} (h:dl_ v i w w') {g:Nat} (a:g<w.heap.size) (f:v.ownBlock≠QJ g):w'.heap[g]?=w.heap[g]?:=h.turn.block g a (λe=>f e.symm)
def j4_ (B:Nat) (v:XJ) (L M:List UInt8) (w:QV) (e:Ending) (w':QV):Prop:=
 ∃a,e = YQ a/\w'.ownsRow B 5 1 a (L++M).length (Lib.byteCells (L++M))/\dl_ v a w w'
theorem b8_ (a b:List UInt8):Lib.byteCells (a++b)=Lib.byteCells a++Lib.byteCells b:=by unfold Lib.byteCells;exact List.map_append
theorem py_ (W m j:Nat) (k:Nat) (a:k=W-1-j):Value.int .u8 ((m:Int) / 2 ^ (8*k) % 256) = QY .u8 ((UInt8.ofNat (m / 2 ^ (8*(W-1-j)) % 256)).toNat:Int):=by subst a;generalize 8*(W-1-j)=e;rw[UInt8.toNat_ofNat'];have h:m / 2 ^ e % 256 % 2 ^ 8=m / 2 ^ e % 256:=Nat.mod_eq_of_lt (Nat.mod_lt _ (by decide));rw[h,Int.natCast_emod,Int.natCast_ediv,Int.natCast_pow];rfl
def Bo_ (n:Int) (j:Nat):XJ:=QY .u8 (n / 2 ^ (8*(7-j)) % 256)
theorem On_ (B:Nat) (v:XJ) (xs:List XJ) (n:Int) (w:QV) (W:xs.length<=60000000) (N:w.ownsRow B 5 1 v xs.length xs) (M:B<=w.heap.size) :
    Calls QW 267 #[v,QY UY n,QY QU 8] w λe w'=>∃j,e = YQ j/\w'.ownsRow B 5 1 j (xs.length+8) (xs++(List.range 8).map (Bo_ n))/\Turn (λi=>QJ i=v.ownBlock) w w'/\(j.ownBlock=v.ownBlock\/∀g,j.ownBlock=QJ g->w.heap.size<=g):=by
 go_enter func267,ntmps267
 go_wp2
 go_loopw [0,7] (λu i wr=>∃(k:Nat),k<=8/\i = QY QU (7-(k:Int))/\wr.ownsRow B 5 1 u (xs.length+k) (xs++(List.range k).map (Bo_ n))/\Turn (λi=>QJ i=v.ownBlock) w wr/\(u.ownBlock=v.ownBlock\/∀g,u.ownBlock=QJ g->w.heap.size<=g)) (λ_ i _=>(intOf i+1).toNat)
 case atStart=>exact⟨0,by omega,rfl,by simpa using N,Turn.refl _ _,.inl rfl⟩
 case round=>
  obtain⟨k,V,rfl,f,ht,L⟩:=hrel;have C:=q_ f;have E:=q_ ht;have r:=q_ L;have I:B<=wr.heap.size:=ZX M ht.size;have T:w.heap.size<=wr.heap.size:=ht.size;clear f ht L;by_cases S:k<8
  ·have X:decide ((0:Int)<=7-k)=true:=dT_ (by omega);have U:(0:Int)<=7-k:=by omega
   go_wp2_with (at_builtin;refine c5_ rfl _ _ 197 rfl B 5 (QY .u8 0) 1 1 underlying197 infoByte rfl (by decide) _ _ _ rfl C.o I #[QY .u8 _] 1 1 rfl rfl (hq_ _) (by omega) (by omega) (by decide) ?_)
   intro g4 P O q m p;have D:=q_ q;have z:=q_ (show wr.grownBy O u0.ownBlock from m);have A:=q_ (show u0.ownBlock=QJ g4\/wr.heap.size<=g4 from p);clear q m p;go_wp2
   go_roundw
   case rel=>
    refine⟨k+1,by omega,by go_num,?_,?_,?_⟩
    ·have:=D.o;rw[List.range_succ,List.map_append];simpa [Bo_,Nat.add_assoc] using this
    ·refine E.o.andThen (Turn.of_grown z.o) λi hi h=>?_;rcases r.o with h2 | h2
     ·rw[<-h2];exact h
     ·have:=h2 i h.symm;omega
    ·rcases A.o with h2 | h2
     ·rcases r.o with y | y
      ·left;rw[<-y,h2];rfl
      ·right;intro g a;exact y g (by rw[h2];exact a)
     ·right;intro g a;injection a with a;have a:g4=g:=a;omega
   case measure=>simp[intOf];omega
  ·have J:k=8:=by omega
   subst J;go_wp2
   go_ret;exact⟨_,rfl,C.o,E.o,r.o⟩
theorem px_ (B:Nat) (v:XJ) (L:List UInt8) (m:Nat) (w:QV) (y:L.length<=60000000) (q:w.ownsRow B 5 1 v L.length (Lib.byteCells L)) (o:B<=w.heap.size) :
    Calls QW 267 #[v,QY UY (m:Int),QY QU 8] w (j4_ B v L (beN 8 m) w):=by
 have f:=Lib.byteCells_length L;have h:=On_ B v (Lib.byteCells L) (m:Int) w (by omega) (by rw[f];exact q) o;refine h.mono ?_;rintro e w' ⟨r,p,a,ht,g⟩;refine⟨r,p,?_,ht,g⟩;rw[b8_,ZZ,c9_];rw[f]at a;have i:(List.range 8).map (Bo_ (m:Int))=Lib.byteCells (beN 8 m):=by unfold Lib.byteCells beN;rw[List.map_map];refine List.map_congr_left λj _=>?_;exact py_ 8 m j (7-j) rfl
 rw[<-i];exact a
def Bn_ (n:Int) (j:Nat):XJ:=QY .u8 (n / 2 ^ (8*(3-j)) % 256)
theorem Om_ (B:Nat) (v:XJ) (xs:List XJ) (n:Int) (w:QV) (W:xs.length<=60000000) (N:w.ownsRow B 5 1 v xs.length xs) (M:B<=w.heap.size) :
    Calls QW 267 #[v,QY UY n,QY QU 4] w λe w'=>∃j,e = YQ j/\w'.ownsRow B 5 1 j (xs.length+4) (xs++(List.range 4).map (Bn_ n))/\Turn (λi=>QJ i=v.ownBlock) w w'/\(j.ownBlock=v.ownBlock\/∀g,j.ownBlock=QJ g->w.heap.size<=g):=by
 go_enter func267,ntmps267
 go_wp2
 go_loopw [0,7] (λu i wr=>∃(k:Nat),k<=4/\i = QY QU (3-(k:Int))/\wr.ownsRow B 5 1 u (xs.length+k) (xs++(List.range k).map (Bn_ n))/\Turn (λi=>QJ i=v.ownBlock) w wr/\(u.ownBlock=v.ownBlock\/∀g,u.ownBlock=QJ g->w.heap.size<=g)) (λ_ i _=>(intOf i+1).toNat)
 case atStart=>exact⟨0,by omega,rfl,by simpa using N,Turn.refl _ _,.inl rfl⟩
 case round=>
  obtain⟨k,V,rfl,f,ht,L⟩:=hrel;have C:=q_ f;have E:=q_ ht;have r:=q_ L;have I:B<=wr.heap.size:=ZX M ht.size;have T:w.heap.size<=wr.heap.size:=ht.size;clear f ht L;by_cases S:k<4
  ·have X:decide ((0:Int)<=3-k)=true:=dT_ (by omega);have U:(0:Int)<=3-k:=by omega
   go_wp2_with (at_builtin;refine c5_ rfl _ _ 197 rfl B 5 (QY .u8 0) 1 1 underlying197 infoByte rfl (by decide) _ _ _ rfl C.o I #[QY .u8 _] 1 1 rfl rfl (hq_ _) (by omega) (by omega) (by decide) ?_)
   intro g4 P O q m p;have D:=q_ q;have z:=q_ (show wr.grownBy O u0.ownBlock from m);have A:=q_ (show u0.ownBlock=QJ g4\/wr.heap.size<=g4 from p);clear q m p;go_wp2
   go_roundw
   case rel=>
    refine⟨k+1,by omega,by go_num,?_,?_,?_⟩
    ·have:=D.o;rw[List.range_succ,List.map_append];simpa [Bn_,Nat.add_assoc] using this
    ·refine E.o.andThen (Turn.of_grown z.o) λi hi h=>?_;rcases r.o with h2 | h2
     ·rw[<-h2];exact h
     ·have:=h2 i h.symm;omega
    ·rcases A.o with h2 | h2
     ·rcases r.o with y | y
      ·left;rw[<-y,h2];rfl
      ·right;intro g a;exact y g (by rw[h2];exact a)
     ·right;intro g a;injection a with a;have a:g4=g:=a;omega
   case measure=>simp[intOf];omega
  ·have J:k=4:=by omega
   subst J;go_wp2
   go_ret;exact⟨_,rfl,C.o,E.o,r.o⟩
theorem v9_ (B:Nat) (v:XJ) (L:List UInt8) (m:Nat) (w:QV) (y:L.length<=60000000) (q:w.ownsRow B 5 1 v L.length (Lib.byteCells L)) (o:B<=w.heap.size) :
    Calls QW 267 #[v,QY UY (m:Int),QY QU 4] w (j4_ B v L (beN 4 m) w):=by
 have f:=Lib.byteCells_length L;have h:=Om_ B v (Lib.byteCells L) (m:Int) w (by omega) (by rw[f];exact q) o;refine h.mono ?_;rintro e w' ⟨r,p,a,ht,g⟩;refine⟨r,p,?_,ht,g⟩;rw[b8_,ZZ,c9_];rw[f]at a;have i:(List.range 4).map (Bn_ (m:Int))=Lib.byteCells (beN 4 m):=by unfold Lib.byteCells beN;rw[List.map_map];refine List.map_congr_left λj _=>?_;exact py_ 4 m j (3-j) rfl
 rw[<-i];exact a
open Go.Lib in
theorem Kk_ {P:Program} {w:QV} (a:Nat) (t u ty e:TypeId) (i:TypeInfo) (ht:P.underlying t=QJ (.slice e)) (A:P.underlying u=some .string) (hi:P.info? e=QJ i) (hz:i.zero=QJ (.int .u8 0))
    (j:i.size=1) (r:i.bytes=1) (v:XJ) (n:Nat) (xs:List XJ) (f:w.ownsRow a e 1 v n xs) (s:ByteArray) (hb:n+s.size<=100000000) (y:a<=w.heap.size) :
    ∃p w',(Builtin.append_ #[t,u] ty #[v,QZ s]).run P w = .ok p w'/\w'.ownsRow a e 1 p (n+s.size) (xs++strCells s)/\w.grownBy w' v.ownBlock/\(p.ownBlock=v.ownBlock\/p.ownBlock=QJ w.heap.size):=by
 obtain⟨p,w',o,h1,h2,E⟩:=run_append_own_string (P:=P) w a t u ty e i ht A hi hz j r v n xs f s (by unfold maxLen;omega) (by omega) y;refine⟨p,w',o,h1,h2,?_⟩;have C:xs.length=n:=by simpa using f.1
 rcases f.2 with⟨rfl,rfl⟩ | ⟨g,q,B,rfl,L,I,O,M,N,D⟩
 ·by_cases J:s.size=0
  ·rw[E.2 ⟨rfl,J⟩];exact .inl rfl
  ·have m:=run_append_nil_string (P:=P) w t u ty e i (QY .u8 0) ht A hi hz s (by omega) (by omega) (by rw[r];omega);rw[m]at o;injection o with hv _;rw[<-hv];exact .inr rfl
 ·by_cases z:n+s.size<=q
  ·have m:=run_append_room_string (P:=P) w t u ty e i ht A hi j g n q B I s z (by omega);rw[m]at o;injection o with hv _;rw[<-hv];exact .inl rfl
  ·have m:=run_append_grow_string (P:=P) w t u ty e i (QY .u8 0) ht A hi hz ⟨g,0,QK⟩ n q xs (by rw[j];simpa using C) (f.cells (g:=g) rfl) s (by omega) (by omega) (by rw[r];exact growslice_fits (by omega) (by omega));rw[m]at o;injection o with hv _;rw[<-hv];exact .inr rfl
open Go.Lib in
theorem F9_ {P:Program} {w:QV} {p:Array Oper} {rest:List Oper} {o:Oper} {a:Act} {Q:Exit->Act->QV->Prop} (r:o.guard=QK) (B x:Operand) (t u:TypeId)
    (I:o.op = .call { callee:=.builtin .append,args:=#[B,x],argTypes:=#[t,u] })
    (f:Nat) (e:TypeId) (ht:P.underlying t=QJ (.slice e)) (M:P.underlying u=some .string) (m:(P.info? e).map (λi=>(i.zero,i.size,i.bytes))=QJ (QJ (.int .u8 0),1,1))
    (v:XJ) (n:Nat) (xs:List XJ) (L:a.eval B=v) (q:w.ownsRow f e 1 v n xs) (s:ByteArray) (N:a.eval x = QZ s) (hb:n+s.size<=100000000) (j:f<=w.heap.size)
    (h:∀g w',w'.ownsRow f e 1 g (n+s.size) (xs++strCells s)->w.grownBy w' v.ownBlock->(g.ownBlock=v.ownBlock\/g.ownBlock=QJ w.heap.size)->wpList P p Q rest (a.put o.dst g) w'):wpList P p Q (o::rest) a w:=by
 obtain⟨i,hi,y,z,A⟩:=info_parts m;refine wpList_plain r λK E=>?_;obtain⟨g,w',J,h2,C,D⟩:=Kk_ (P:=P) (w:=w) f t u o.type e i ht M hi y z A v n xs q s hb j;unfold Oper.wp execOp;simp only[I,resolve,invoke,builtin,Sem.run_bind,Sem.run_pure,Result.andThen_ok,List.map_toArray,List.map_cons,List.map_nil,L,N,J];exact E _ _ (h g w' h2 C D)
def a7_ (s:ByteArray):List UInt8:=beN 4 s.size++s.data.toList
theorem h3_ (s:ByteArray):(a7_ s).length=4+s.size:=by unfold a7_;rw[ZZ,c9_,al_]
theorem hb_ (B:Nat) (v:XJ) (L:List UInt8) (s:ByteArray) (w:QV) (T:L.length+s.size<=50000000) (O:w.ownsRow B 5 1 v L.length (Lib.byteCells L)) (J:B<=w.heap.size) :
    Calls QW 268 #[v,QZ s] w (j4_ B v L (a7_ s) w):=by
 have r:=q_ (v9_ B v L s.size w (by omega) O J);have z:=q_ (c9_ 4 s.size);have P:IntKind.u64.wrap (s.size:Int)=(s.size:Int):=IntWalk.u64_in _ (by omega);clear O;go_enter func268,ntmps268
 go_wp2_with fail;refine r.o.mono ?_;rintro e P ⟨U,rfl,p,a⟩;have f:=q_ p;have A:=q_ a;have N:B<=P.heap.size:=ZX J a.turn.size;have j:(L++beN 4 s.size).length+s.size<=100000000:=by rw[ZZ,z.o];omega
 obtain⟨M,E⟩:=a_ (L++beN 4 s.size);rw[E.o]at f j;clear p a;go_wp2_with (at_builtin;refine F9_ rfl _ _ 197 9 rfl B 5 underlying197 (by kernel_rfl) infoByte _ _ _ rfl f.o s rfl j N ?_;intro S w2 q i m;have I:=q_ q;have C:=q_ i;have D:=q_ m;clear q i m)
 go_ret;refine⟨S,rfl,?_,A.o.trans ⟨Turn.of_grown C.o,?_⟩⟩
 ·unfold a7_;rw[<-UW,E.o,b8_,ZZ,al_];exact I.o
 ·rcases D.o with e | e
  ·exact .inl e
  ·refine .inr λg y=>?_;rw[e]at y;injection y with y;omega
mutual
def d3_:g_->List UInt8
 | .mk k b n t x l=>UInt8.ofNat k.toNat ::
  (if k=1 then [if b=true then 1 else 0] else if k=2 then beN 8 (n % 18446744073709551616).toNat else if k=6 then beN 8 (n % 18446744073709551616).toNat else if k=7 then beN 8 (n % 18446744073709551616).toNat
  else if k=3 then a7_ t else if k=4 then a7_ t else if k=8 then a7_ t else if k=9 then a7_ t else if k=10 then a7_ t++a7_ x else if k=5 then beN 4 l.length++e7_ l else [])
def e7_:List g_->List UInt8
 | []=>[]
 | v::r=>d3_ v++e7_ r
end
theorem wu_ (a b:List g_):e7_ (a++b)=e7_ a++e7_ b:=by
 induction a with
 | nil=>simp[e7_]
 | cons v r f=>simp[e7_,f]
mutual
theorem n3_:∀v:g_,(d3_ v).length<=200*S_ v
 | .mk k b n t x l=>by
  have h:=it_ l;have h1:=h3_ t;have h2:=h3_ x;unfold d3_ S_;rw[List.length_cons];repeat' split
  all_goals (first | (simp only[ZZ,c9_,List.length_cons,List.length_nil];omega) | omega)
theorem it_:∀l:List g_,(e7_ l).length<=200*V_ l
 | []=>by simp[e7_]
 | v::r=>by
  have h:=n3_ v;have h2:=it_ r;simp only[e7_,V_,ZZ];omega
end
theorem qq_ {v:g_} {d:Nat} (h:I_ v d=true):0<=v.kind/\v.kind<=10:=by
 cases v with
 | mk k b n t x l=>
 show 0<=k/\k<=10;unfold I_ at h;refine Classical.byContradiction λa=>?_;rw[iN_ (by omega),iN_ (by omega),iN_ (by omega),iN_ (by omega),iN_ (by omega),iN_ (by omega),iN_ (by omega),iN_ (by omega),iN_ (by omega),iN_ (by omega),iN_ (by omega)]at h
 cases h
theorem In_ {b:Bool} {n:Int} {t x:ByteArray} {l:List g_} {d:Nat} (h:I_ (.mk 5 b n t x l) d=true):g4_ l (d+1)=true/\l.length<=4096:=by rw[B1_]at h;simp only[YW,decide_eq_true_iff]at h;exact⟨h.2.2.1,h.1⟩
theorem A7_ (l:List g_) {k:Nat} {y:g_} (h:l[k]?=QJ y):V_ (l.take k)+S_ y<=V_ l:=by have h1:=A5_ l (k+1);rw[f_ h,mi_]at h1;simp only[V_]at h1;omega
theorem os_ (y:XJ) (w:QV):(YX (UX 233 y) 20 194 true).run QW w = .ok (ZJ #[XY false,XY false]) w:=by kernel_rfl
theorem rx_ (y:XJ) (w:QV):(YX (UX 233 y) 20 188 true).run QW w = .ok (ZJ #[QY QU 0,XY false]) w:=by kernel_rfl
theorem rw_ (y:XJ) (w:QV):(YX (UX 233 y) 20 193 true).run QW w = .ok (ZJ #[QY QU 0,XY false]) w:=by kernel_rfl
theorem pu_ (y:XJ) (w:QV):(YX (UX 233 y) 20 189 true).run QW w = .ok (ZJ #[QZ ⟨#[]⟩,XY false]) w:=by kernel_rfl
theorem ry_ (y:XJ) (w:QV):(YX (UX 233 y) 20 234 true).run QW w = .ok (ZJ #[QZ ⟨#[]⟩,XY false]) w:=by kernel_rfl
theorem ot_ (y:XJ) (w:QV):(YX (UX 233 y) 20 237 true).run QW w = .ok (ZJ #[.agg #[QZ ⟨#[]⟩,QZ ⟨#[]⟩],XY false]) w:=by kernel_rfl
theorem uj_ (y:XJ) (w:QV):(YX (UX 233 y) 20 191 true).run QW w = .ok (ZJ #[QQ QK 0 0,XY false]) w:=by kernel_rfl
theorem kj_ (y:XJ) (w:QV):(YX (UX 194 y) 20 194 true).run QW w = .ok (ZJ #[y,XY true]) w:=by kernel_rfl
theorem m9_ (y:XJ) (w:QV):(YX (UX 188 y) 20 194 true).run QW w = .ok (ZJ #[XY false,XY false]) w:=by kernel_rfl
theorem pv_ (y:XJ) (w:QV):(YX (UX 188 y) 20 188 true).run QW w = .ok (ZJ #[y,XY true]) w:=by kernel_rfl
theorem gz_ (y:XJ) (w:QV):(YX (UX 193 y) 20 194 true).run QW w = .ok (ZJ #[XY false,XY false]) w:=by kernel_rfl
theorem ip_ (y:XJ) (w:QV):(YX (UX 193 y) 20 188 true).run QW w = .ok (ZJ #[QY QU 0,XY false]) w:=by kernel_rfl
theorem io_ (y:XJ) (w:QV):(YX (UX 193 y) 20 193 true).run QW w = .ok (ZJ #[y,XY true]) w:=by kernel_rfl
theorem lg_ (y:XJ) (w:QV):(YX (UX 189 y) 20 194 true).run QW w = .ok (ZJ #[XY false,XY false]) w:=by kernel_rfl
theorem op_ (y:XJ) (w:QV):(YX (UX 189 y) 20 188 true).run QW w = .ok (ZJ #[QY QU 0,XY false]) w:=by kernel_rfl
theorem oo_ (y:XJ) (w:QV):(YX (UX 189 y) 20 193 true).run QW w = .ok (ZJ #[QY QU 0,XY false]) w:=by kernel_rfl
theorem m5_ (y:XJ) (w:QV):(YX (UX 189 y) 20 189 true).run QW w = .ok (ZJ #[y,XY true]) w:=by kernel_rfl
theorem eh_ (y:XJ) (w:QV):(YX (UX 234 y) 20 194 true).run QW w = .ok (ZJ #[XY false,XY false]) w:=by kernel_rfl
theorem ft_ (y:XJ) (w:QV):(YX (UX 234 y) 20 188 true).run QW w = .ok (ZJ #[QY QU 0,XY false]) w:=by kernel_rfl
theorem fs_ (y:XJ) (w:QV):(YX (UX 234 y) 20 193 true).run QW w = .ok (ZJ #[QY QU 0,XY false]) w:=by kernel_rfl
theorem e4_ (y:XJ) (w:QV):(YX (UX 234 y) 20 189 true).run QW w = .ok (ZJ #[QZ ⟨#[]⟩,XY false]) w:=by kernel_rfl
theorem fu_ (y:XJ) (w:QV):(YX (UX 234 y) 20 234 true).run QW w = .ok (ZJ #[y,XY true]) w:=by kernel_rfl
theorem kk_ (y:XJ) (w:QV):(YX (UX 237 y) 20 194 true).run QW w = .ok (ZJ #[XY false,XY false]) w:=by kernel_rfl
theorem m7_ (y:XJ) (w:QV):(YX (UX 237 y) 20 188 true).run QW w = .ok (ZJ #[QY QU 0,XY false]) w:=by kernel_rfl
theorem m6_ (y:XJ) (w:QV):(YX (UX 237 y) 20 193 true).run QW w = .ok (ZJ #[QY QU 0,XY false]) w:=by kernel_rfl
theorem lh_ (y:XJ) (w:QV):(YX (UX 237 y) 20 189 true).run QW w = .ok (ZJ #[QZ ⟨#[]⟩,XY false]) w:=by kernel_rfl
theorem m8_ (y:XJ) (w:QV):(YX (UX 237 y) 20 234 true).run QW w = .ok (ZJ #[QZ ⟨#[]⟩,XY false]) w:=by kernel_rfl
theorem kl_ (y:XJ) (w:QV):(YX (UX 237 y) 20 237 true).run QW w = .ok (ZJ #[y,XY true]) w:=by kernel_rfl
theorem oq_ (y:XJ) (w:QV):(YX (UX 191 y) 20 194 true).run QW w = .ok (ZJ #[XY false,XY false]) w:=by kernel_rfl
theorem ru_ (y:XJ) (w:QV):(YX (UX 191 y) 20 188 true).run QW w = .ok (ZJ #[QY QU 0,XY false]) w:=by kernel_rfl
theorem rt_ (y:XJ) (w:QV):(YX (UX 191 y) 20 193 true).run QW w = .ok (ZJ #[QY QU 0,XY false]) w:=by kernel_rfl
theorem pt_ (y:XJ) (w:QV):(YX (UX 191 y) 20 189 true).run QW w = .ok (ZJ #[QZ ⟨#[]⟩,XY false]) w:=by kernel_rfl
theorem rv_ (y:XJ) (w:QV):(YX (UX 191 y) 20 234 true).run QW w = .ok (ZJ #[QZ ⟨#[]⟩,XY false]) w:=by kernel_rfl
theorem or_ (y:XJ) (w:QV):(YX (UX 191 y) 20 237 true).run QW w = .ok (ZJ #[.agg #[QZ ⟨#[]⟩,QZ ⟨#[]⟩],XY false]) w:=by kernel_rfl
theorem ui_ (y:XJ) (w:QV):(YX (UX 191 y) 20 191 true).run QW w = .ok (ZJ #[y,XY true]) w:=by kernel_rfl
theorem Ff_ (b:Bool) (w:QV):Calls QW 134 #[XY b] w λe w'=>e = YQ (QY QU (if b=true then 1 else 0))/\w'=w:=by
 cases b with
 | true=>
  go_enter func134,ntmps134
  go_wp2
  go_ret;exact⟨rfl,rfl⟩
 | false=>
  go_enter func134,ntmps134
  go_wp2
  go_ret;exact⟨rfl,rfl⟩
theorem Bb_ (n:Int):IntKind.u64.wrap n=(((n % 18446744073709551616).toNat:Nat):Int):=by have h:=Int.emod_nonneg n (show (18446744073709551616:Int)≠0 by decide);rw[Int.toNat_of_nonneg h];rfl
theorem Lm_ (N:Nat):∀(v:g_) (_:S_ v<N) (d:Nat) (_:I_ v d=true) (B:Nat) (F:Nat->Prop) (r:XJ) (L:List UInt8) (u:XJ) (w:QV) (_:L.length+200*S_ v<=40000000) (_:∀g,F g->g<B) (_:B<=w.heap.size)
    (_:w.ownsRow B 5 1 r L.length (Lib.byteCells L)) (_:VRd w F v u),Calls QW 216 #[r,u] w (j4_ B r L (d3_ v) w):=by
 induction N with
 | zero=>exact λ_ h=>absurd h (Nat.not_lt_zero _)
 | succ N ih=>
  intro v hN d ac B F r L u w hL hF hB ho hv;obtain⟨A,a3,rfl,b3,hl⟩:=hv.inv;have IH:=q_ ih;have HL:=q_ hl;have HF:=q_ hF;have HO:=q_ ho;have bu:=q_ ac;have hk:=qq_ ac;clear ih hl hF hv ho ac;obtain⟨s,HS⟩:=a_ (Value.slice A v.list.length a3);have HP:=q_ (λW=>i3_ v s W);rw[HS.o];obtain⟨ev,j⟩:=a_ (d3_ v);rw[j.o]
  cases v with
  | mk k b n t x l=>
  obtain⟨pv,q⟩:=a_ (s9_ (.mk k b n t x l) s);unfold j7_ c_ at HP;unfold c_;rw[q.o]at HP;simp only[g_.kind,g_.truth,g_.num,g_.text,g_.extra,g_.list]at HP HL HS b3 hk ⊢;have b5:L.length+200+t.size+x.size<=40000200/\L.length+200+200*V_ l<=40000000/\V_ l<N/\l.length<=V_ l:=by simp only[S_]at hL hN;have:=dc_ l;omega
  obtain⟨b5,ce,cz,cf⟩:=b5;clear hN hL;obtain⟨h,Hh⟩:=a_ w.heap.size;obtain⟨w0,ag⟩:=a_ (w.alloc (XX #[QY QU k,XY b,QY QU n,QZ t,QZ x,s] 39));have b0:=q_ (show XW w.heap.size w w0 from by rw[<-ag.o];exact (XV _ _).alloc (XK _) _);have b2:=q_ (show w0.heap[h]?=QJ (XX #[QY QU k,XY b,QY QU n,QZ t,QZ x,s] 39 (0,0)) from by rw[<-ag.o,<-Hh.o];exact XU w _);have cc:=q_ (show h<w0.heap.size from by rw[<-ag.o,<-Hh.o];simp);have bd:=q_ ((Turn.of_below b0.o).owns HO.o (λg hg hx=>by have:=(HO.o.lt g hg).2;omega));have cq:B<=h:=by rw[<-Hh.o];exact hB
  have c6:B<=w0.heap.size:=ZX hB b0.o.size;obtain⟨c,Hc⟩:=a_ (UInt8.ofNat k.toNat);have ca:IntKind.u8.wrap k=(c.toNat:Int):=by rw[IntWalk.u8_in _ (by omega),<-Hc.o,UInt8.toNat_ofNat'];have:k.toNat % 2 ^ 8=k.toNat:=Nat.mod_eq_of_lt (by omega);rw[this];omega
  obtain⟨a5,ab⟩:=a_ L.length;rw[ab.o]at bd HO b5 ce;have c0:w0.cell? ⟨h,0,QK⟩=QJ (QY QU k):=QX b2.o 0;go_enter func216,ntmps216
  go_upto_region 1 with fail;rw[ag.o,Hh.o];go_wp2_with (at_builtin;refine c5_ rfl _ _ 197 rfl B 5 (QY .u8 0) 1 1 underlying197 infoByte rfl (by decide) _ _ _ rfl bd.o c6 #[QY .u8 (c.toNat:Int)] 1 1 rfl rfl (hq_ _) (by omega) (by omega) (by decide) ?_;intro g4 ah w4 bq bi bm;have av:=q_ bq;have ap:=q_ bi;have b9:=q_ bm;have a6:=q_ ((ap.o.block h cc.o (λe=>by have:=(HO.o.lt h e.symm).2;have:=Hh.o;omega)).trans b2.o);have d0:w4.cell? ⟨h,0,QK⟩=QJ (QY QU k):=QX a6.o 0;have d1:w4.cell? ⟨h,1,QK⟩=QJ (XY b):=QX a6.o 1;have d2:w4.cell? ⟨h,2,QK⟩=QJ (QY QU n):=QX a6.o 2;have d3:w4.cell? ⟨h,3,QK⟩=QJ (QZ t):=QX a6.o 3;have d4:w4.cell? ⟨h,4,QK⟩=QJ (QZ x):=QX a6.o 4;have d5:w4.cell? ⟨h,5,QK⟩=QJ s:=QX a6.o 5;clear bq bi bm)
  refine (HP.o _).mono ?_;rintro e w5 ⟨rfl,b1⟩
  have af:=q_ (show dl_ r (QQ (QJ ⟨g4,0,QK⟩) (a5+1) ah) w w5 from by
   have h1:dl_ r r w w0:=dl_.below b0.o
   have h2:dl_ r (QQ (QJ ⟨g4,0,QK⟩) (a5+1) ah) w0 w4:=⟨Turn.of_grown ap.o,by
    rcases b9.o with e | e
    ·exact .inl e.symm
    ·exact .inr (λg hg=>by injection hg with hg;rw[<-hg];exact e)⟩
   exact (h1.trans h2).trans (dl_.below b1))
  have V:=q_ (show w5.ownsRow B 5 1 (QQ (QJ ⟨g4,0,QK⟩) (a5+1) ah) (L++[c]).length (Lib.byteCells (L++[c])) from by rw[b8_,ZZ,ab.o];exact (Turn.of_below b1).owns av.o (λg hg hx=>by have:=(av.o.lt g hg).2;omega));have Y:B<=w5.heap.size:=ZX hB af.o.turn.size;have ba:=q_ (HL.o.keep (w':=w5) (λp hp=>World.cell?_of_block (af.o.turn.block p.block (by have:=HF.o _ hp;omega) (λe=>by have:=(HO.o.lt p.block e.symm).1;have:=HF.o _ hp;omega))));have b4:(L++[c]).length=a5+1:=by rw[ZZ,ab.o];rfl
  obtain⟨L1,aq⟩:=a_ (L++[c]);obtain⟨r5,aw⟩:=a_ (Value.slice (some ⟨g4,0,none⟩) (a5+1) ah);rw[aq.o,aw.o]at V;rw[aq.o]at b4;have cm:L1.length<=a5+1:=Nat.le_of_eq b4;clear b4;rw[aw.o]at af;rw[aw.o];have bw:=q_ (λ(M:List UInt8) (hM:ev=c::M)=>show L++ev=L1++M from by rw[hM,<-aq.o];simp);have U:=q_ (λ(M:List UInt8) (hM:ev=c::M) (e:Ending) (w6:QV) (h6:j4_ B r5 L1 M w5 e w6)=>show j4_ B r L ev w e w6 from by obtain⟨v',he,ho,hg⟩:=h6;exact⟨v',he,by rw[bw.o M hM];exact ho,af.o.trans hg⟩);clear b1 d0 d1 d2 d3 d4 d5 av ap b9 a6 c0 ca HP;by_cases h0:k=0
  ·subst h0;have I:pv = UX 233 (.agg #[]):=by rw[<-q.o];rfl
   subst I;have f:=q_ (show ev=c::([]) from by rw[<-j.o,<-Hc.o];unfold d3_;rfl);have a:=os_ (.agg #[]);have E:=rx_ (.agg #[]);have O:=rw_ (.agg #[]);have P:=pu_ (.agg #[]);have X:=ry_ (.agg #[]);have a2:=ot_ (.agg #[]);have az:=uj_ (.agg #[]);clear q j;go_wp2_with fail;go_ret;exact U.o [] f.o _ _ ⟨r5,rfl,by rw[List.append_nil];exact V.o,dl_.refl _ _⟩
  ·have e0:((k:Int)==0)=false:=bN_.2 h0;by_cases h1:k=1
   ·subst h1;have I:pv = UX 194 (XY b):=by rw[<-q.o];rfl
    subst I;have f:=q_ (show ev=c::([if b=true then 1 else 0]) from by rw[<-j.o,<-Hc.o];unfold d3_;rfl)
    have a:=kj_ (XY b);clear q j;have ht:=q_ (Ff_ b w5);obtain⟨z,Hz⟩:=a_ (if b=true then (1:Int) else 0)
    obtain⟨zc,bf⟩:=a_ (if b=true then (1:UInt8) else 0)
    rw[Hz.o]at ht;rw[bf.o]at f;have d6:IntKind.u8.wrap z=(zc.toNat:Int):=by rw[<-Hz.o,<-bf.o];cases b<;>rfl
    go_wp2_with fail;refine ht.o.mono ?_;rintro e w6 ⟨rfl,rfl⟩
    go_wp2_with (at_builtin;refine c5_ rfl _ _ 197 rfl B 5 (QY .u8 0) 1 1 underlying197 infoByte rfl (by decide) _ _ _ rfl V.o Y #[QY .u8 (zc.toNat:Int)] 1 1 rfl rfl (hq_ _) (by omega) (by omega) (by decide) ?_;intro g7 cn w7 a4 a0 bn;have a7:=q_ a4;have a9:=q_ a0;have c3:=q_ bn;clear a4 a0 bn)
    go_ret
    exact U.o _ f.o _ _ ⟨_,rfl,by rw[b8_,ZZ];exact a7.o,⟨Turn.of_grown a9.o,by
     rcases c3.o with e | e
     ·exact .inl e.symm
     ·exact .inr (λg hg=>by injection hg with hg;rw[<-hg];exact e)⟩⟩
   ·have e1:((k:Int)==1)=false:=bN_.2 h1;by_cases h2:k=2
    ·subst h2;have I:pv = UX 188 (QY QU n):=by rw[<-q.o];rfl
     subst I;have f:=q_ (show ev=c::(beN 8 (n % 18446744073709551616).toNat) from by rw[<-j.o,<-Hc.o];unfold d3_;rfl);have a:=m9_ (QY QU n);have E:=pv_ (QY QU n);clear q j;obtain⟨m,Hm⟩:=a_ (n % 18446744073709551616).toNat;rw[Hm.o]at f;have hu:IntKind.u64.wrap n=(m:Int):=by rw[Bb_,Hm.o]
     have T:=q_ (px_ B r5 L1 m w5 (by omega) V.o Y);go_wp2_with fail;refine T.o.mono ?_;rintro e w6 ⟨v6,rfl,D,C⟩;have J:=q_ D;have S:=q_ C;clear D C;go_wp2_with fail;go_ret;exact U.o _ f.o _ _ ⟨v6,rfl,J.o,S.o⟩
    ·have e2:((k:Int)==2)=false:=bN_.2 h2;by_cases h6:k=6
     ·subst h6;have I:pv = UX 193 (QY QU n):=by rw[<-q.o];rfl
      subst I;have f:=q_ (show ev=c::(beN 8 (n % 18446744073709551616).toNat) from by rw[<-j.o,<-Hc.o];unfold d3_;rfl);have a:=gz_ (QY QU n);have E:=ip_ (QY QU n);have O:=io_ (QY QU n);clear q j;obtain⟨m,Hm⟩:=a_ (n % 18446744073709551616).toNat;rw[Hm.o]at f;have hu:IntKind.u64.wrap n=(m:Int):=by rw[Bb_,Hm.o]
      have T:=q_ (px_ B r5 L1 m w5 (by omega) V.o Y);go_wp2_with fail;refine T.o.mono ?_;rintro e w6 ⟨v6,rfl,D,C⟩;have J:=q_ D;have S:=q_ C;clear D C;go_wp2_with fail;go_ret;exact U.o _ f.o _ _ ⟨v6,rfl,J.o,S.o⟩
     ·have e6:((k:Int)==6)=false:=bN_.2 h6;by_cases h7:k=7
      ·subst h7;have I:pv = UX 193 (QY QU n):=by rw[<-q.o];rfl
       subst I;have f:=q_ (show ev=c::(beN 8 (n % 18446744073709551616).toNat) from by rw[<-j.o,<-Hc.o];unfold d3_;rfl);have a:=gz_ (QY QU n);have E:=ip_ (QY QU n);have O:=io_ (QY QU n);clear q j;obtain⟨m,Hm⟩:=a_ (n % 18446744073709551616).toNat;rw[Hm.o]at f;have hu:IntKind.u64.wrap n=(m:Int):=by rw[Bb_,Hm.o]
       have T:=q_ (px_ B r5 L1 m w5 (by omega) V.o Y);go_wp2_with fail;refine T.o.mono ?_;rintro e w6 ⟨v6,rfl,D,C⟩;have J:=q_ D;have S:=q_ C;clear D C;go_wp2_with fail;go_ret;exact U.o _ f.o _ _ ⟨v6,rfl,J.o,S.o⟩
      ·have e7:((k:Int)==7)=false:=bN_.2 h7;by_cases h3:k=3
       ·subst h3;have I:pv = UX 189 (QZ t):=by rw[<-q.o];rfl
        subst I;have f:=q_ (show ev=c::(a7_ t) from by rw[<-j.o,<-Hc.o];unfold d3_;rfl);have a:=lg_ (QZ t);have E:=op_ (QZ t);have O:=oo_ (QZ t);have P:=m5_ (QZ t);clear q j;have T:=q_ (hb_ B r5 L1 t w5 (by omega) V.o Y);go_wp2_with fail;refine T.o.mono ?_;rintro e w6 ⟨v6,rfl,D,C⟩;have J:=q_ D;have S:=q_ C;clear D C;go_wp2_with fail;go_ret;exact U.o _ f.o _ _ ⟨v6,rfl,J.o,S.o⟩
       ·have e3:((k:Int)==3)=false:=bN_.2 h3;by_cases h4:k=4
        ·subst h4;have I:pv = UX 234 (QZ t):=by rw[<-q.o];rfl
         subst I;have f:=q_ (show ev=c::(a7_ t) from by rw[<-j.o,<-Hc.o];unfold d3_;rfl);have a:=eh_ (QZ t);have E:=ft_ (QZ t);have O:=fs_ (QZ t);have P:=e4_ (QZ t);have X:=fu_ (QZ t);clear q j;have T:=q_ (hb_ B r5 L1 t w5 (by omega) V.o Y);go_wp2_with fail;refine T.o.mono ?_;rintro e w6 ⟨v6,rfl,D,C⟩;have J:=q_ D;have S:=q_ C;clear D C;go_wp2_with fail;go_ret;exact U.o _ f.o _ _ ⟨v6,rfl,J.o,S.o⟩
        ·have e4:((k:Int)==4)=false:=bN_.2 h4;by_cases h8:k=8
         ·subst h8;have I:pv = UX 234 (QZ t):=by rw[<-q.o];rfl
          subst I;have f:=q_ (show ev=c::(a7_ t) from by rw[<-j.o,<-Hc.o];unfold d3_;rfl);have a:=eh_ (QZ t);have E:=ft_ (QZ t);have O:=fs_ (QZ t);have P:=e4_ (QZ t);have X:=fu_ (QZ t);clear q j;have T:=q_ (hb_ B r5 L1 t w5 (by omega) V.o Y);go_wp2_with fail;refine T.o.mono ?_;rintro e w6 ⟨v6,rfl,D,C⟩;have J:=q_ D;have S:=q_ C;clear D C;go_wp2_with fail;go_ret;exact U.o _ f.o _ _ ⟨v6,rfl,J.o,S.o⟩
         ·have e8:((k:Int)==8)=false:=bN_.2 h8;by_cases h9:k=9
          ·subst h9;have I:pv = UX 234 (QZ t):=by rw[<-q.o];rfl
           subst I;have f:=q_ (show ev=c::(a7_ t) from by rw[<-j.o,<-Hc.o];unfold d3_;rfl);have a:=eh_ (QZ t);have E:=ft_ (QZ t);have O:=fs_ (QZ t);have P:=e4_ (QZ t);have X:=fu_ (QZ t);clear q j;have T:=q_ (hb_ B r5 L1 t w5 (by omega) V.o Y);go_wp2_with fail;refine T.o.mono ?_;rintro e w6 ⟨v6,rfl,D,C⟩;have J:=q_ D;have S:=q_ C;clear D C;go_wp2_with fail;go_ret;exact U.o _ f.o _ _ ⟨v6,rfl,J.o,S.o⟩
          ·have e9:((k:Int)==9)=false:=bN_.2 h9;by_cases bg:k=10
           ·subst bg;have I:pv = UX 237 (.agg #[QZ t,QZ x]):=by rw[<-q.o];rfl
            subst I;have f:=q_ (show ev=c::(a7_ t++a7_ x) from by rw[<-j.o,<-Hc.o];unfold d3_;rfl);have a:=kk_ (.agg #[QZ t,QZ x]);have E:=m7_ (.agg #[QZ t,QZ x]);have O:=m6_ (.agg #[QZ t,QZ x]);have P:=lh_ (.agg #[QZ t,QZ x]);have X:=m8_ (.agg #[QZ t,QZ x]);have a2:=kl_ (.agg #[QZ t,QZ x]);clear q j;go_upto_region 20 with fail;obtain⟨w6,ay⟩:=a_ (w5.alloc (XX #[QZ t,QZ x] 237));obtain⟨g,Hg⟩:=a_ w5.heap.size;have ai:=q_ (show XW w5.heap.size w5 w6.drew from by rw[<-ay.o];exact dy_ ((XV _ _).alloc (XK _) _) 1);have a8:=q_ (show w6.drew.heap[g]?=QJ (XX #[QZ t,QZ x] 237 (0,0)) from by rw[<-ay.o,<-Hg.o];exact XU w5 _);have J:=q_ ((Turn.of_below ai.o).owns V.o (λz hz hx=>by have:=(V.o.lt z hz).2;omega));rw[ay.o,Hg.o];have p1:w6.drew.cell? ⟨g,0,QK⟩=QJ (QZ t)/\w6.drew.cell? ⟨g,1,QK⟩=QJ (QZ x):=⟨QX a8.o 0,QX a8.o 1⟩;have cj:=q_ (hb_ B r5 L1 t w6.drew (by omega) J.o (ZX Y ai.o.size));have bx:=h3_ t;obtain⟨L2,ar⟩:=a_ (L1++a7_ t);have cx:L2.length<=a5+5+t.size:=by rw[<-ar.o,ZZ];omega
            clear bx;go_cut [4] (λs4 wx=>Q_ (j4_ B r5 L1 (a7_ t++a7_ x) w5 (YQ s4) wx))
            case first=>
             go_region_held3 (λW'=>W'.cell? ⟨g,0,QK⟩=QJ (QZ t)/\W'.cell? ⟨g,1,QK⟩=QJ (QZ x)) (first | exact p1 | exact p2 | exact p3 | (trace_state;fail))
              (first | (go_at_call 268;(with_reducible refine cj.o.mono ?_);rintro e w7 ⟨v7,rfl,a4,a0⟩;have a7:=q_ a4;have a9:=q_ a0;have a1:=q_ ((a9.o.keeps (Array.getElem?_eq_some_iff.1 a8.o).1 (cm_ J.o a8.o (by decide))).trans a8.o);have p2:w7.cell? ⟨g,0,QK⟩=QJ (QZ t)/\w7.cell? ⟨g,1,QK⟩=QJ (QZ x):=⟨QX a1.o 0,QX a1.o 1⟩;have c7:B<=w7.heap.size:=ZX (ZX Y ai.o.size) a0.turn.size;rw[ar.o]at a7;clear a4 a0) | (go_at_call 268;(with_reducible refine (hb_ B v7 L2 x w7 (by omega) a7.o c7).mono ?_);rintro e w8 ⟨v8,rfl,br,bj⟩;have c5:=q_ br;have b8:=q_ bj;have am:=q_ ((b8.o.keeps (Array.getElem?_eq_some_iff.1 a1.o).1 (cm_ a7.o a1.o (by decide))).trans a1.o);have p3:w8.cell? ⟨g,0,QK⟩=QJ (QZ t)/\w8.cell? ⟨g,1,QK⟩=QJ (QZ x):=⟨QX am.o 0,QX am.o 1⟩;clear br bj))
             go_wp2_with fail;go_meet;exact q_ ⟨v8,rfl,by rw[<-UW,ar.o];exact c5.o,(dl_.below ai.o).trans (a9.o.trans b8.o)⟩
            case rest=>
             have HC:=q_ hcut.o;go_wp2_with fail;go_ret;exact U.o _ f.o _ _ HC.o
           ·have co:((k:Int)==10)=false:=bN_.2 bg;by_cases h5:k=5
            ·subst h5;have I:pv = UX 191 (s):=by rw[<-q.o];rfl
             subst I;have f:=q_ (show ev=c::(beN 4 l.length++e7_ l) from by rw[<-j.o,<-Hc.o];unfold d3_;rfl);obtain⟨bo,bz⟩:=In_ bu.o;have c4:=q_ bo;clear bo;have ci:=HS.o;subst ci;obtain⟨Z,au⟩:=a_ l.length;rw[au.o]at bz f ba cf b3 ⊢;have a:=oq_ (QQ A Z a3);have E:=ru_ (QQ A Z a3);have O:=rt_ (QQ A Z a3);have P:=pt_ (QQ A Z a3);have X:=rv_ (QQ A Z a3);have a2:=or_ (QQ A Z a3);have az:=ui_ (QQ A Z a3);clear q j;have T:=q_ (v9_ B r5 L1 Z w5 (by omega) V.o Y);have hu:IntKind.u64.wrap (Z:Int)=(Z:Int):=IntWalk.u64_in _ (by omega);go_wp2_with fail;refine T.o.mono ?_;rintro e w6 ⟨v6,rfl,D,C⟩;have J:=q_ D;have S:=q_ C;clear D C;go_wp2_with fail;have bh:=q_ (S.o.turn.size);have cd:(L1++beN 4 Z).length<=a5+5:=by rw[ZZ,c9_];omega
             obtain⟨L6,bb⟩:=a_ (L1++beN 4 Z);rw[bb.o]at J cd;have cp:B<=w6.heap.size:=ZX Y bh.o;have bt:=q_ (ba.o.keep (w':=w6) (λp hp=>World.cell?_of_block (S.o.turn.block p.block (by have:=HF.o _ hp;omega) (λe=>by have:=(V.o.lt p.block e.symm).1;have:=HF.o _ hp;omega))));go_loopw [0,77] (λs0 b6 wr=>∃i:Nat,i<=Z/\b6 = QY QU (i:Nat)/\Q_ (wr.ownsRow B 5 1 s0 (L6++e7_ (l.take i)).length (Lib.byteCells (L6++e7_ (l.take i))))/\Q_ (dl_ v6 s0 w6 wr)) (λ_ b6 _=>Z-(intOf b6).toNat)
             case atStart=>exact⟨0,by omega,rfl,q_ (by rw[List.take_zero];unfold e7_;rw[List.append_nil];exact J.o),q_ (dl_.refl _ _)⟩
             case round=>
              obtain⟨i,hi,rfl,ao,ak⟩:=hrel;have c1:w6.heap.size<=wr.heap.size:=ak.o.turn.size;have c8:B<=wr.heap.size:=ZX (ZX Y bh.o) c1;by_cases cg:i<Z
              ·obtain⟨y,hy⟩:∃y,l[i]?=QJ y:=⟨l[i]'(by rw[au.o];exact cg),XQ _⟩;have HR:=q_ (bt.o.keep (w':=wr) (λp hp=>World.cell?_of_block (ak.o.turn.block p.block (by have:=HF.o _ hp;omega) (λe=>by have:=(J.o.lt p.block e.symm).1;have:=HF.o _ hp;omega))));obtain⟨ad,sy,rfl,c9,⟨Ay,cy,rfl,cl,ch⟩,bs,e0,e1,e2,e3,e4,e5⟩:=HR.o.cellsAt hy;have ae:=YZ hy;have bp:I_ y (d+1)=true:=by have:=c4.o;rw[i0_,List.all_eq_true]at this;exact this y ae
               have c2:=el_ ae;have ck:=A7_ l hy;have cb:=it_ (l.take i);have aa:(L6++e7_ (l.take i)).length+200*S_ y<=40000000:=by rw[ZZ];omega
               obtain⟨Lc,bc⟩:=a_ (L6++e7_ (l.take i));rw[bc.o]at ao aa;have b7:=q_ (show L6++e7_ (l.take (i+1))=Lc++d3_ y from by rw[f_ hy,wu_,<-bc.o,UW];simp[e7_]);obtain⟨W,HW⟩:=a_ (wr.alloc (XX #[QY QU y.kind,XY y.truth,QY QU y.num,QZ y.text,QZ y.extra,QQ Ay y.list.length cy] 39));have aj:=q_ (show XW wr.heap.size wr W from by rw[<-HW.o];exact (XV _ _).alloc (XK _) _);have bl:=q_ (IH.o y (by omega) (d+1) bp B F u0 Lc _ W aa HF.o (ZX c8 aj.o.size) ((Turn.of_below aj.o).owns ao.o (λz hz hx=>by have:=(ao.o.lt z hz).2;omega)) (bs.under aj.o (λg hg=>by have:=HF.o g hg;omega)));unfold c_ at bl;have q1:(0:Int)<=i:=by omega
               have q2:(i:Int)<Z:=by omega
               have w1:IntKind.i64.wrap ((i:Int)+1)=(i:Int)+1:=YU _ (by omega);have cr:W.cell? ⟨wr.heap.size,0,QK⟩=QJ (QY QU y.kind):=by rw[<-HW.o];exact QX (XU wr _) 0
               have cs:W.cell? ⟨wr.heap.size,1,QK⟩=QJ (XY y.truth):=by rw[<-HW.o];exact QX (XU wr _) 1
               have ct:W.cell? ⟨wr.heap.size,2,QK⟩=QJ (QY QU y.num):=by rw[<-HW.o];exact QX (XU wr _) 2
               have cu:W.cell? ⟨wr.heap.size,3,QK⟩=QJ (QZ y.text):=by rw[<-HW.o];exact QX (XU wr _) 3
               have cv:W.cell? ⟨wr.heap.size,4,QK⟩=QJ (QZ y.extra):=by rw[<-HW.o];exact QX (XU wr _) 4
               have cw:W.cell? ⟨wr.heap.size,5,QK⟩=QJ (QQ Ay y.list.length cy):=by rw[<-HW.o];exact QX (XU wr _) 5
               clear hy ae bp c2 ck cb aa ch bs c9;go_upto_region 27 with fail;rw[HW.o];go_wp2_with fail;refine bl.o.mono ?_;rintro e w7 ⟨v7,rfl,a4,a0⟩;have a7:=q_ a4;have a9:=q_ ((ak.o.trans (dl_.below aj.o)).trans a0);clear a4 a0;go_wp2_with fail;go_roundw
               case rel=>exact⟨i+1,by omega,by go_num,q_ (by rw[b7.o];exact a7.o),a9⟩
               case measure=>simp[intOf];omega
              ·have bk:i=Z:=by omega
               have HE:=q_ (show L1++(beN 4 Z++e7_ l)=L6++e7_ (l.take i) from by rw[YJ (by rw[bk,au.o];exact XK _),<-UW,bb.o]);clear bk;go_wp2_with fail;go_ret;exact U.o _ (by rw[f.o]) _ _ ⟨_,rfl,by rw[HE.o];exact ao.o,S.o.trans ak.o⟩
            ·omega
def Fs_ (v:g_) (w:QV) (e:Ending) (w':QV):Prop:=XW w.heap.size w w' /\
 if I_ v 0=true then ∃r,e = YQ (ZJ #[r,QY QU 0])/\w'.ownsRow w.heap.size 5 1 r (d3_ v).length (Lib.byteCells (d3_ v)) else e = YQ (ZJ #[QQ QK 0 0,QY QU 1])
theorem z2_ (v:g_) (hs:S_ v<=200000) (F:Nat->Prop) (u:XJ) (w:QV) (U:∀g,F g->g<w.heap.size) (N:VRd w F v u) (D:ad_ w) :
    Calls QW 136 #[u] w (Fs_ v w):=by
 obtain⟨A,T,hu,M,hl⟩:=N.inv;have C:=q_ U;have S:=q_ N;have Z:=q_ D;have m:=q_ (λ(W:QV) (hb:XW w.heap.size w W)=>ei_ v (by omega) F u W (λg D=>XZ (C.o g D) hb.size) (S.o.under hb C.o) (j_ Z.o hb));have p:=q_ (λ(W:QV) (hb:XW w.heap.size w W) (hm:I_ v 0=true)=>Lm_ (S_ v+1) v (by omega) 0 hm w.heap.size F (QQ QK 0 0) [] u W (by simp;omega) C.o hb.size (World.ownsRow_nil _ _ _ _) (S.o.under hb C.o));subst hu;obtain⟨s,HS⟩:=a_ (Value.slice A v.list.length T);obtain⟨mv,E⟩:=a_ (I_ v 0);unfold Fs_;rw[E.o]at m p;rw[E.o];rw[HS.o]at m p ⊢;clear hl M D N U
 cases v with
 | mk k b n t x l=>
 unfold c_ at m p ⊢;simp only[g_.kind,g_.truth,g_.num,g_.text,g_.extra]at m p ⊢;obtain⟨h,L⟩:=a_ w.heap.size;obtain⟨j,y⟩:=a_ (w.alloc (XX #[QY QU k,XY b,QY QU n,QZ t,QZ x,s] 39));have z:=q_ (show XW w.heap.size w j from by rw[<-y.o];exact (XV _ _).alloc (XK _) _);have f:=q_ (show j.heap[h]?=QJ (XX #[QY QU k,XY b,QY QU n,QZ t,QZ x,s] 39 (0,0)) from by rw[<-y.o,<-L.o];exact XU w _);have V:=q_ (show h<j.heap.size from by rw[<-y.o,<-L.o];simp);have q0:j.cell? ⟨h,0,QK⟩=QJ (QY QU k):=QX f.o 0;have q1:j.cell? ⟨h,1,QK⟩=QJ (XY b):=QX f.o 1;have q2:j.cell? ⟨h,2,QK⟩=QJ (QY QU n):=QX f.o 2;have q3:j.cell? ⟨h,3,QK⟩=QJ (QZ t):=QX f.o 3;have q4:j.cell? ⟨h,4,QK⟩=QJ (QZ x):=QX f.o 4;have q5:j.cell? ⟨h,5,QK⟩=QJ s:=QX f.o 5;go_enter func136,ntmps136
 go_upto_region 1 with fail;rw[y.o,L.o];go_wp2_with fail;refine (m.o _ z.o).mono ?_;rintro e q ⟨rfl,hb⟩;have r:=q_ (z.o.trans (hb.mono z.o.size));have a:=q_ ((hb.block h V.o).trans f.o);clear hb q0 q1 q2 q3 q4 q5;have c0:q.cell? ⟨h,0,QK⟩=QJ (QY QU k):=QX a.o 0;have c1:q.cell? ⟨h,1,QK⟩=QJ (XY b):=QX a.o 1;have c2:q.cell? ⟨h,2,QK⟩=QJ (QY QU n):=QX a.o 2;have c3:q.cell? ⟨h,3,QK⟩=QJ (QZ t):=QX a.o 3;have c4:q.cell? ⟨h,4,QK⟩=QJ (QZ x):=QX a.o 4;have c5:q.cell? ⟨h,5,QK⟩=QJ s:=QX a.o 5
 cases mv with
 | false=>
  go_wp2_with fail;exact ZV (v:=ZJ #[QQ QK 0 0,QY QU 1]) (by simp[results,results136,go_sem]) rfl ⟨r.o,rfl⟩
 | true=>
  have X:=q_ (p.o q r.o rfl);go_wp2_with fail;refine X.o.mono ?_;rintro e w2 ⟨Y,rfl,J,I⟩;have P:=q_ J;have O:=q_ (I.turn.below (B:=w.heap.size) (λi _ hi=>by cases hi) r.o.size);clear J I;go_wp2_with fail;exact ZV (v:=ZJ #[Y,QY QU 0]) (by simp[results,results136,go_sem]) rfl ⟨r.o.trans O.o,Y,rfl,P.o⟩
def BRd (w:QV) (G:Nat) (s:XJ) (R:List UInt8):Prop:=
 ∃ad a,s = QQ (QJ ad) R.length a/\R.length<=a/\ad.block=G/\∀i c,R[i]?=QJ c->w.cell? (ad.add i)=QJ (QY .u8 (c.toNat:Int))
theorem BRd.keep {w w':QV} {G:Nat} {s:XJ} {R:List UInt8} (h:BRd w G s R) (g:w'.heap[G]?=w.heap[G]?):BRd w' G s R:=by obtain⟨ad,a,e,f,hb,j⟩:=h;exact⟨ad,a,e,f,hb,λi c hi=>(World.cell?_of_block (by rw[block_of_add,hb];exact g)).trans (j i c hi)⟩
def Jx_ (l:List UInt8):Nat:=l.foldl (λa c=>a*256+c.toNat) 0
theorem Fh_ (l:List UInt8) (c:UInt8):Jx_ (l++[c])=Jx_ l*256+c.toNat:=by unfold Jx_;rw[List.foldl_append];rfl
theorem Gc_ (W m:Nat):beN (W+1) m=beN W (m / 256)++[UInt8.ofNat (m % 256)]:=by
 unfold beN;rw[List.range_succ,List.map_append];congr 1
 ·refine List.map_congr_left λj a=>?_;have a:j<W:=List.mem_range.1 a;have h1:m / 2 ^ (8*(W+1-1-j))=m / 256 / 2 ^ (8*(W-1-j)):=by rw[Nat.div_div_eq_div_mul,show 8*(W+1-1-j)=8+8*(W-1-j) by omega,Nat.pow_add]
  rw[h1]
 ·simp
theorem Cn_ (W:Nat):∀m,m<256 ^ W->Jx_ (beN W m)=m:=by
 induction W with
 | zero=>intro m h;simp at h;subst h;rfl
 | succ W a=>
  intro m h;rw[Gc_,Fh_,a _ (by rw[Nat.pow_succ]at h;omega),UInt8.toNat_ofNat'];have:m % 256 % 2 ^ 8=m % 256:=Nat.mod_eq_of_lt (Nat.mod_lt _ (by decide));rw[this];omega
mutual
def lq_:g_->Prop
 | .mk _ _ n _ _ l=>(-9223372036854775808<=n/\n<=9223372036854775807)/\u3_ l
def u3_:List g_->Prop
 | []=>True
 | v::r=>lq_ v/\u3_ r
end
theorem db_ {k:Int} {b:Bool} {n:Int} {t x:ByteArray} {l:List g_} {b':Bool} {n':Int} {t' x':ByteArray} (h:aw_ k b n t x l b' n' t' x'=true):b=b'/\n=n'/\t=t'/\x=x'/\(l=[]\/k=5):=by unfold aw_ at h;simp only[YW,decide_eq_true_iff,Bool.or_eq_true,beq_iff_eq]at h;exact⟨h.1,h.2.1,h.2.2.1,h.2.2.2.1,h.2.2.2.2.imp UK id⟩
theorem w9_ (n:Int) (h:-9223372036854775808<=n/\n<=9223372036854775807):IntKind.i64.wrap (((n % 18446744073709551616).toNat:Nat):Int)=n:=by
 have h1:=Int.emod_nonneg n (show (18446744073709551616:Int)≠0 by decide);rw[Int.toNat_of_nonneg h1];by_cases g:0<=n
 ·rw[Int.emod_eq_of_lt g (by omega)];exact YU _ (by omega)
 ·have h2:n % 18446744073709551616=n+18446744073709551616:=by omega
  rw[h2];unfold IntKind.wrap;have a:(2 ^ IntKind.i64.bits:Int)=18446744073709551616:=rfl;have f:(2 ^ (IntKind.i64.bits-1):Int)=9223372036854775808:=rfl;simp only[a,f,show IntKind.i64.signed=true from rfl,Bool.true_and,decide_eq_true_iff];split<;>omega
section
variable {w:QV} {h rb G:Nat} {R:List UInt8} {k:Int} {b:Bool} {n:Int} {t x:ByteArray} {l:List g_} {s:XJ} {wr:QV}
end
theorem Gy_ {s:ByteArray} (h:bl_ s=true):s.size<=1048576:=by
 rcases VZ 62 s.size with h2 | h2
 ·rw[is_ h2]at h;cases h
 ·omega
theorem xk_ {s:ByteArray} (h:d5_ s=true):s.size<=1048576:=by unfold d5_ at h;simp only[YW,decide_eq_true_iff]at h;exact h.1.2
theorem Ah_ {s:ByteArray} (h:d8_ s=true):s.size<=1048576:=by unfold d8_ at h;simp only[YW,decide_eq_true_iff]at h;omega
theorem Hg_ {b:Bool} {n:Int} {t x:ByteArray} {l:List g_} {d:Nat} (h:I_ (.mk 0 b n t x l) d=true):n=0/\b=false/\t=⟨#[]⟩/\x=⟨#[]⟩/\l=[]:=by rw[If_]at h;have h:=db_ h;exact⟨h.2.1,h.1,h.2.2.1,h.2.2.2.1,h.2.2.2.2.elim id (λe=>by cases e)⟩
theorem Hh_ {b:Bool} {n:Int} {t x:ByteArray} {l:List g_} {d:Nat} (h:I_ (.mk 1 b n t x l) d=true):n=0/\t=⟨#[]⟩/\x=⟨#[]⟩/\l=[]:=by rw[Ig_]at h;have h:=db_ h;exact⟨h.2.1,h.2.2.1,h.2.2.2.1,h.2.2.2.2.elim id (λe=>by cases e)⟩
theorem Hi_ {b:Bool} {n:Int} {t x:ByteArray} {l:List g_} {d:Nat} (h:I_ (.mk 2 b n t x l) d=true):b=false/\t=⟨#[]⟩/\x=⟨#[]⟩/\l=[]:=by rw[Ih_]at h;have h:=db_ h;exact⟨h.1,h.2.2.1,h.2.2.2.1,h.2.2.2.2.elim id (λe=>by cases e)⟩
theorem uy_ {b:Bool} {n:Int} {t x:ByteArray} {l:List g_} {d:Nat} (h:I_ (.mk 3 b n t x l) d=true):b=false/\n=0/\x=⟨#[]⟩/\l=[]/\t.size<=1048576:=by rw[Ii_]at h;have h2:=Bool.and_eq_true_iff.1 h;have h:=db_ h2.2;exact⟨h.1,h.2.1,h.2.2.2.1,h.2.2.2.2.elim id (λe=>by cases e),Gy_ h2.1⟩
theorem Hk_ {b:Bool} {n:Int} {t x:ByteArray} {l:List g_} {d:Nat} (h:I_ (.mk 6 b n t x l) d=true):b=false/\t=⟨#[]⟩/\x=⟨#[]⟩/\l=[]:=by rw[Ik_]at h;have h2:=Bool.and_eq_true_iff.1 h;have h:=db_ h2.2;exact⟨h.1,h.2.2.1,h.2.2.2.1,h.2.2.2.2.elim id (λe=>by cases e)⟩
theorem Hl_ {b:Bool} {n:Int} {t x:ByteArray} {l:List g_} {d:Nat} (h:I_ (.mk 7 b n t x l) d=true):b=false/\t=⟨#[]⟩/\x=⟨#[]⟩/\l=[]:=by rw[Il_]at h;have h2:=Bool.and_eq_true_iff.1 h;have h:=db_ h2.2;exact⟨h.1,h.2.2.1,h.2.2.2.1,h.2.2.2.2.elim id (λe=>by cases e)⟩
theorem uz_ {b:Bool} {n:Int} {t x:ByteArray} {l:List g_} {d:Nat} (h:I_ (.mk 4 b n t x l) d=true):b=false/\n=0/\x=⟨#[]⟩/\l=[]/\t.size<=1048576:=by rw[Ij_]at h;have h2:=Bool.and_eq_true_iff.1 h;have h:=db_ h2.2;exact⟨h.1,h.2.1,h.2.2.2.1,h.2.2.2.2.elim id (λe=>by cases e),of_decide_eq_true h2.1⟩
theorem ni_ {b:Bool} {n:Int} {t x:ByteArray} {l:List g_} {d:Nat} (h:I_ (.mk 8 b n t x l) d=true):b=false/\n=0/\x=⟨#[]⟩/\l=[]/\t.size<=1048576:=by rw[B2_]at h;have h2:=Bool.and_eq_true_iff.1 h;have h:=db_ h2.2;exact⟨h.1,h.2.1,h.2.2.2.1,h.2.2.2.2.elim id (λe=>by cases e),xk_ h2.1⟩
theorem qf_ {b:Bool} {n:Int} {t x:ByteArray} {l:List g_} {d:Nat} (h:I_ (.mk 9 b n t x l) d=true):b=false/\n=0/\x=⟨#[]⟩/\l=[]/\t.size<=1048576:=by rw[Im_]at h;have h2:=Bool.and_eq_true_iff.1 h;have h:=db_ h2.2;exact⟨h.1,h.2.1,h.2.2.2.1,h.2.2.2.2.elim id (λe=>by cases e),Ah_ h2.1⟩
theorem o4_ {b:Bool} {n:Int} {t x:ByteArray} {l:List g_} {d:Nat} (h:I_ (.mk 10 b n t x l) d=true):b=false/\n=0/\l=[]/\t.size<=1048576/\x.size<=1048576:=by rw[Af_]at h;have h2:=Bool.and_eq_true_iff.1 h;have a:=Bool.and_eq_true_iff.1 h2.2;have h:=db_ a.2;exact⟨h.1,h.2.1,h.2.2.2.2.elim id (λe=>by cases e),of_decide_eq_true h2.1,xk_ a.1⟩
theorem Hj_ {b:Bool} {n:Int} {t x:ByteArray} {l:List g_} {d:Nat} (h:I_ (.mk 5 b n t x l) d=true):b=false/\n=0/\t=⟨#[]⟩/\x=⟨#[]⟩/\l.length<=4096/\d<60/\g4_ l (d+1)=true:=by rw[B1_]at h;have h2:=Bool.and_eq_true_iff.1 h;have a:=Bool.and_eq_true_iff.1 h2.2;have f:=Bool.and_eq_true_iff.1 a.2;have h:=db_ f.2;exact⟨h.1,h.2.1,h.2.2.1,h.2.2.2.1,of_decide_eq_true h2.1,of_decide_eq_true a.1,f.1⟩
theorem zl_ {W a b:Nat} {R S:List UInt8} (f:a<256 ^ W) (hb:b<256 ^ W) (h:beN W a++R=beN W b++S):a=b/\R=S:=by obtain⟨h1,h2⟩:=List.append_inj h (by rw[c9_,c9_]);refine⟨?_,h2⟩;have:=congrArg Jx_ h1;rwa [Cn_ W a f,Cn_ W b hb]at this
theorem hc_ {s t:ByteArray} {R S:List UInt8} (g:s.size<=1048576) (ht:t.size<=1048576) (h:a7_ s++R=a7_ t++S):s=t/\R=S:=by unfold a7_ at h;rw[UW,UW]at h;obtain⟨h1,h2⟩:=zl_ (by omega) (by omega) h;obtain⟨a,f⟩:=List.append_inj h2 (by rw[al_,al_,h1]);exact⟨by apply ByteArray.ext;exact Array.toList_inj.1 a,f⟩
theorem H5_ {a b:Int} (f:0<=a/\a<=10) (hb:0<=b/\b<=10) (h:UInt8.ofNat a.toNat=UInt8.ofNat b.toNat):a=b:=by have:=congrArg UInt8.toNat h;rw[UInt8.toNat_ofNat',UInt8.toNat_ofNat']at this;have h1:a.toNat % 2 ^ 8=a.toNat:=Nat.mod_eq_of_lt (by omega);have h2:b.toNat % 2 ^ 8=b.toNat:=Nat.mod_eq_of_lt (by omega);rw[h1,h2]at this;omega
theorem vc_ {n m:Int} {R S:List UInt8} (g:-9223372036854775808<=n/\n<=9223372036854775807) (f:-9223372036854775808<=m/\m<=9223372036854775807) (h:beN 8 (n % 18446744073709551616).toNat++R=beN 8 (m % 18446744073709551616).toNat++S):n=m/\R=S:=by
 have i:(256:Nat) ^ 8=18446744073709551616:=by decide
 have j:=Int.emod_lt_of_pos n (show (0:Int)<18446744073709551616 by decide);have o:=Int.emod_lt_of_pos m (show (0:Int)<18446744073709551616 by decide);obtain⟨h1,h2⟩:=zl_ (by omega) (by omega) h;refine⟨?_,h2⟩;have a:=w9_ n g;rw[h1,w9_ m f]at a;exact a.symm
theorem K5_ (N:Nat):∀(v u:g_) (_:S_ v<N) (d:Nat) (_:I_ v d=true) (_:I_ u d=true) (_:lq_ v) (_:lq_ u) (R S:List UInt8) (_:d3_ v++R=d3_ u++S),v=u/\R=S:=by
 induction N with
 | zero=>exact λ_ _ h=>absurd h (Nat.not_lt_zero _)
 | succ N ih=>
  intro v u hN d m j h1 h2 R S h;have g:=qq_ m;have f:=qq_ j
  cases v with
  | mk k b n t x l=>
  cases u with
  | mk k2 C P r x2 L=>
  simp only[g_.kind]at g f;unfold d3_ at h;simp only[List.cons_append]at h;obtain⟨D,h⟩:=List.cons_eq_cons.1 h;have D:=H5_ g f D;subst D;simp only[lq_]at h1 h2;by_cases h0:k=0
  ·subst h0;obtain⟨rfl,rfl,rfl,rfl,rfl⟩:=Hg_ m;obtain⟨rfl,rfl,rfl,rfl,rfl⟩:=Hg_ j;clear g f;have h:([]:List UInt8)++R=[]++S:=h;exact⟨rfl,h⟩
  ·have e0:=h0;by_cases h1:k=1
   ·subst h1;obtain⟨rfl,rfl,rfl,rfl⟩:=Hh_ m;obtain⟨rfl,rfl,rfl,rfl⟩:=Hh_ j;clear g f;have h:([if b=true then 1 else 0]:List UInt8)++R=[if C=true then 1 else 0]++S:=h
    obtain⟨hb,i⟩:=List.cons_eq_cons.1 h;have hb:b=C:=by cases b<;>cases C<;>first | rfl | (exact absurd hb (by decide))
    exact⟨by rw[hb],i⟩
   ·have V:=h1;by_cases h2:k=2
    ·subst h2;obtain⟨rfl,rfl,rfl,rfl⟩:=Hi_ m;obtain⟨rfl,rfl,rfl,rfl⟩:=Hi_ j;clear g f;have h:beN 8 (n % 18446744073709551616).toNat++R=beN 8 (P % 18446744073709551616).toNat++S:=h;obtain⟨q,i⟩:=vc_ h1.1 h2.1 h;exact⟨by rw[q],i⟩
    ·have W:=h2;by_cases Z:k=6
     ·subst Z;obtain⟨rfl,rfl,rfl,rfl⟩:=Hk_ m;obtain⟨rfl,rfl,rfl,rfl⟩:=Hk_ j;clear g f;have h:beN 8 (n % 18446744073709551616).toNat++R=beN 8 (P % 18446744073709551616).toNat++S:=h;obtain⟨q,i⟩:=vc_ h1.1 h2.1 h;exact⟨by rw[q],i⟩
     ·have e6:=Z;by_cases h7:k=7
      ·subst h7;obtain⟨rfl,rfl,rfl,rfl⟩:=Hl_ m;obtain⟨rfl,rfl,rfl,rfl⟩:=Hl_ j;clear g f;have h:beN 8 (n % 18446744073709551616).toNat++R=beN 8 (P % 18446744073709551616).toNat++S:=h;obtain⟨q,i⟩:=vc_ h1.1 h2.1 h;exact⟨by rw[q],i⟩
      ·have e7:=h7;by_cases X:k=3
       ·subst X;obtain⟨rfl,rfl,rfl,rfl,o⟩:=uy_ m;obtain⟨rfl,rfl,rfl,rfl,p⟩:=uy_ j;clear g f;have h:a7_ t++R=a7_ r++S:=h;obtain⟨ht,i⟩:=hc_ o p h;exact⟨by rw[ht],i⟩
       ·have e3:=X;by_cases Y:k=4
        ·subst Y;obtain⟨rfl,rfl,rfl,rfl,o⟩:=uz_ m;obtain⟨rfl,rfl,rfl,rfl,p⟩:=uz_ j;clear g f;have h:a7_ t++R=a7_ r++S:=h;obtain⟨ht,i⟩:=hc_ o p h;exact⟨by rw[ht],i⟩
        ·have e4:=Y;by_cases h8:k=8
         ·subst h8;obtain⟨rfl,rfl,rfl,rfl,o⟩:=ni_ m;obtain⟨rfl,rfl,rfl,rfl,p⟩:=ni_ j;clear g f;have h:a7_ t++R=a7_ r++S:=h;obtain⟨ht,i⟩:=hc_ o p h;exact⟨by rw[ht],i⟩
         ·have e8:=h8;by_cases h9:k=9
          ·subst h9;obtain⟨rfl,rfl,rfl,rfl,o⟩:=qf_ m;obtain⟨rfl,rfl,rfl,rfl,p⟩:=qf_ j;clear g f;have h:a7_ t++R=a7_ r++S:=h;obtain⟨ht,i⟩:=hc_ o p h;exact⟨by rw[ht],i⟩
          ·have e9:=h9;by_cases B:k=10
           ·subst B;obtain⟨rfl,rfl,rfl,o,T⟩:=o4_ m;obtain⟨rfl,rfl,rfl,p,U⟩:=o4_ j;clear g f;have h:a7_ t++a7_ x++R=a7_ r++a7_ x2++S:=h;rw[UW,UW]at h;obtain⟨ht,h⟩:=hc_ o p h;obtain⟨hx,i⟩:=hc_ T U h;exact⟨by rw[ht,hx],i⟩
           ·have a1:=B;by_cases h5:k=5
            ·subst h5;obtain⟨rfl,rfl,rfl,rfl,o,_,T⟩:=Hj_ m;obtain⟨rfl,rfl,rfl,rfl,p,_,U⟩:=Hj_ j;clear g f;have h:beN 4 l.length++e7_ l++R=beN 4 L.length++e7_ L++S:=h;rw[UW,UW]at h;obtain⟨E,h⟩:=zl_ (by omega) (by omega) h
             have key:∀(a c:List g_),V_ a<N->a.length=c.length->g4_ a (d+1)=true->g4_ c (d+1)=true->u3_ a->u3_ c->∀R S:List UInt8,e7_ a++R=e7_ c++S->a=c/\R=S:=by
              intro a;induction a with
              | nil=>
               intro c _ A _ _ _ _ R S h;have:c=[]:=UK A.symm;subst this;exact⟨rfl,h⟩
              | cons y a a0=>
               intro c hs A M O I J R S h
               cases c with
               | nil=>cases A
               | cons z c=>
                simp only[g4_,YW]at M O;simp only[u3_]at I J;simp only[e7_,UW]at h;simp only[V_]at hs;obtain⟨V,h⟩:=ih y z (by omega) (d+1) M.1 O.1 I.1 J.1 _ _ h;obtain⟨W,h⟩:=a0 c (by omega) (by simpa using A) M.2 O.2 I.2 J.2 _ _ h;exact⟨by rw[V,W],h⟩
             obtain⟨E,i⟩:=key l L (by simp only[S_]at hN;omega) E T U h1.2 h2.2 R S h;exact⟨by rw[E],i⟩
            ·omega
theorem Ni_ {v u:g_} (f:I_ v 0=true) (a:I_ u 0=true) (h1:lq_ v) (h2:lq_ u) (h:d3_ v=d3_ u):v=u:=
 (K5_ (S_ v+1) v u (by omega) 0 f a h1 h2 [] [] (by rw[List.append_nil,List.append_nil,h])).1
end
section
open Go Go.RowKit Go.Maps Go.WideMaps Go.MapKept
theorem J7_ (w:QV):(zeroValue 2).run QW w = .ok (QY QU 0) w:=by kernel_rfl
def ua_ (w:QV) (m:Nat) (ks:List ByteArray):Prop:=∃D:DataW Unit,w.ownsMap QW 9 (plainElem QW 2) m ks.length D/\IdsOf VS jy_ D ks/\Tidy D/\Maps.size D=ks.length
theorem ua_.turn {w w':QV} {m:Nat} {ks:List ByteArray} {S:Nat->Prop} (h:ua_ w m ks) (ht:Turn S w w') (a:¬S m):ua_ w' m ks:=by obtain⟨D,h1,h2⟩:=h;exact⟨D,ht.map h1 a,h2⟩
theorem ua_.lt {w:QV} {m:Nat} {ks:List ByteArray} (h:ua_ w m ks):m<w.heap.size:=by obtain⟨D,⟨f,a,hb,_⟩,_⟩:=h;exact b_ hb
theorem ua_.fresh {w:QV} {m:Nat} (h:w.heap[m]?=QJ (.map #[] 0)):ua_ w m []:=
 ⟨.map [],⟨#[],0,h,⟨by simp,stamped_empty 0,by simp⟩,XK _,rfl⟩,ids_empty,tidy_empty,rfl⟩
structure j6_ (w:QV) (b m:Nat) (ks:List ByteArray):Prop where
 blk:w.heap[b]?=QJ (XX #[.map (QJ m)] 124 (0,0))
 set:ua_ w m ks
theorem j6_.turn {w w':QV} {b m:Nat} {ks:List ByteArray} {S:Nat->Prop} (h:j6_ w b m ks) (ht:Turn S w w') (hb:¬S b) (a:¬S m):j6_ w' b m ks:=
 ⟨(ht.block b (b_ h.blk) hb).trans h.blk,h.set.turn ht a⟩
theorem j6_.on {w w':QV} {b m:Nat} {ks:List ByteArray} (h:j6_ w b m ks) (hb:XW w.heap.size w w'):j6_ w' b m ks:=
 h.turn (Turn.of_below hb) (λe=>by have:=b_ h.blk;omega) (λe=>by have:=h.set.lt;omega)
theorem j6_.ne {w:QV} {b m:Nat} {ks:List ByteArray} (h:j6_ w b m ks):b≠m:=by
 rintro rfl;obtain⟨D,⟨f,a,hb,_⟩,_⟩:=h.set;rw[h.blk]at hb
 cases hb
theorem kr_ {w:QV} {b m:Nat} {ks:List ByteArray} (h:j6_ w b m ks) (k:ByteArray) (p:VS k) (f:k∈ks) :
    Calls QW 69 #[YK (QJ ⟨b,0,QK⟩),QZ k] w λe w'=>e = YQ (ZJ #[QY QU ((place ks k:Nat):Int),XY false])/\w'=w:=by
 obtain⟨D,j,g,_,_⟩:=h.set;have z:w.cell? ⟨b,0,QK⟩=QJ (.map (QJ m)):=QX h.blk 0;have i:=keyOf_string_mk underlying9 p;obtain⟨h1,h2⟩:=g.2 k p;have y:=q_ (show Maps.has D (.string k.data.toList)=true by rw[show (Lit.string k.data.toList)=jy_ k from rfl,h1];simp[f]);have r:=q_ (h2 f);clear h1 h2;go_enter func69,ntmps69
 go_wp2_with (at_lookup;refine wpList_lookup_own_ok_int _ rfl _ _ 122 rfl 9 2 QU H8_ underlying122 underlying2 (J7_ _) m _ D rfl j _ _ rfl i ?_;intro c a q;obtain rfl:=Nm_ a r.o;rw[y.o];clear a q)
 go_ret2;exact⟨rfl,rfl⟩
theorem Aj_ {w:QV} {b m:Nat} {ks:List ByteArray} (h:j6_ w b m ks) (k:ByteArray) (B:VS k) (j:k∉ks) (U:ks.length<=1000000) :
    Calls QW 69 #[YK (QJ ⟨b,0,QK⟩),QZ k] w λe w'=>e = YQ (ZJ #[QY QU ((ks.length:Nat):Int),XY true])/\j6_ w' b m (ks++[k])/\Turn (λi=>i=m) w w':=by
 obtain⟨D,a,g,r,q⟩:=h.set;have C:=q_ r;have y:=q_ q;have W:w.cell? ⟨b,0,QK⟩=QJ (.map (QJ m)):=QX h.blk 0;have z:=keyOf_string_mk underlying9 B;obtain⟨h1,_⟩:=g.2 k B;have M:=q_ (show Maps.has D (.string k.data.toList)=false by rw[show (Lit.string k.data.toList)=jy_ k from rfl,h1];simp[j]);have I:=q_ g;have J:=q_ j;have E:=q_ h.blk;have O:=q_ h.ne;have S:=b_ h.blk;obtain⟨n,A⟩:=a_ ks.length;rw[A.o]at U a y ⊢;clear h1 h g j r q;go_enter func69,ntmps69
 go_wp2_with (first
  | (at_lookup;refine wpList_lookup_own_ok_int _ rfl _ _ 122 rfl 9 2 QU H8_ underlying122 underlying2 (J7_ _) m _ D rfl a _ _ rfl z ?_;intro c P T;rw[M.o];clear P T)
  | (at_len;refine wpList_len_own _ rfl _ 122 rfl 9 2 underlying122 _ m n D rfl a ?_;rw[y.o])
  | (at_mapUpdate;refine wpList_mapUpdate_in _ rfl _ _ _ 122 rfl 9 2 H8_ underlying122 _ m n D rfl a (by unfold maxLen;omega) _ _ _ rfl rfl z _ [] (plainElem_int underlying2 (WalkArith.wf_i64 (by omega))) ?_;intro V p f;have L:=q_ f.grown;have N:=q_ p;clear p f))
 go_ret2;have ht:Turn (λi=>i=m) w V:=(Turn.of_grown L.o).mono (λi _ hi=>by injection hi);refine⟨rfl,⟨(ht.block b S O.o).trans E.o,⟨_,by rw[ZZ,A.o];exact N.o,?_,C.o.put (qm_ k B) _,?_⟩⟩,ht⟩
 ·have:=ids_put xq_ qm_ I.o B J.o;rw[A.o]at this;exact this
 ·rw[size_put C.o,show has D (jy_ k)=false from M.o,iN_ Bool.false_ne_true,y.o,ZZ,A.o];rfl
end
section
def bW:Nat:=1000000000
def pv (f:Nat->Nat):Nat->Nat
 | 0=>0
 | i+1=>pv f i+f i*bW ^ i
theorem mc_ {f g:Nat->Nat} {n:Nat} (h:∀i,i<n->f i=g i):pv f n=pv g n:=by
 induction n with
 | zero=>rfl
 | succ n a=>rw[pv,pv,a (λi hi=>h i (by omega)),h n (by omega)]
theorem Mr_ {f:Nat->Nat} {n:Nat} (h:∀i,i<n->f i<bW):pv f n<bW ^ n:=by
 induction n with
 | zero=>simp[pv]
 | succ n g=>
  have h1:=g (λi hi=>h i (by omega));have h2:=h n (by omega);rw[pv,Nat.pow_succ];have a:(f n+1)*bW ^ n<=bW*bW ^ n:=Nat.mul_le_mul_right _ h2;rw[Nat.succ_mul]at a;rw[Nat.mul_comm (bW ^ n) bW];omega
theorem N3_ {f g o:Nat->Nat} {i c:Nat} (h:pv o i+c*bW ^ i=pv f i+pv g i) (m:o i=(f i+g i+c) % bW) :
    pv o (i+1)+(f i+g i+c) / bW*bW ^ (i+1)=pv f (i+1)+pv g (i+1):=by
 have e:=Nat.div_add_mod (f i+g i+c) bW;have a:(o i+bW*((f i+g i+c) / bW))*bW ^ i=(f i+g i+c)*bW ^ i:=by rw[m,Nat.add_comm,e]
 rw[pv,pv,pv,Nat.pow_succ];rw[Nat.add_mul,Nat.mul_assoc]at a;rw[Nat.add_mul,Nat.add_mul]at a;have j:(f i+g i+c) / bW*(bW ^ i*bW)=bW*((f i+g i+c) / bW*bW ^ i):=by rw[<-Nat.mul_assoc,Nat.mul_comm]
 rw[j];omega
theorem N4_ {f g o:Nat->Nat} {i b:Nat} (h:pv o i+pv g i=pv f i+b*bW ^ i) (z:g i<bW) (hb:b<=1) (y:f i<bW) (q:o i=(f i+bW-g i-b) % bW) :
    pv o (i+1)+pv g (i+1)=pv f (i+1)+(1-(f i+bW-g i-b) / bW)*bW ^ (i+1)/\(f i+bW-g i-b) / bW<=1:=by
 have r:f i+bW-g i-b<bW*2:=by omega
 have e:=Nat.div_add_mod (f i+bW-g i-b) bW;have a:(f i+bW-g i-b) / bW<=1:=Nat.le_of_lt_succ (Nat.div_lt_of_lt_mul r);refine⟨?_,a⟩
 have j:o i+g i+b=f i+(1-(f i+bW-g i-b) / bW)*bW:=by
  rw[q];rcases VZ ((f i+bW-g i-b) / bW) 1 with h1 | h1
  ·have h2:(f i+bW-g i-b) / bW=0:=Nat.lt_one_iff.1 h1;rw[h2]at e ⊢;omega
  ·have h2:(f i+bW-g i-b) / bW=1:=Nat.le_antisymm a h1;rw[h2]at e ⊢;omega
 rw[pv,pv,pv,Nat.pow_succ];have m:=congrArg (· * bW ^ i) j;simp only[Nat.add_mul,Nat.mul_assoc]at m;have p:(1-(f i+bW-g i-b) / bW)*(bW ^ i*bW)=(1-(f i+bW-g i-b) / bW)*(bW*bW ^ i):=by rw[Nat.mul_comm (bW ^ i)]
 rw[p];omega
theorem Aw_ {f g o:Nat->Nat} {n b:Nat} (h:pv o n+pv g n=pv f n+b*bW ^ n) (a:∀i,i<n->o i<bW) (j:pv g n<=pv f n):pv o n=pv f n-pv g n:=by
 have h1:=Mr_ a;rcases Nat.eq_zero_or_pos b with h2 | h2
 ·subst h2;omega
 ·have m:1*bW ^ n<=b*bW ^ n:=Nat.mul_le_mul_right _ h2;omega
theorem I9_ {f g:Nat->Nat} {n i:Nat} (m:∀j,j<n->f j<bW) (hi:i<n) (a:∀j,i<j->j<n->f j=g j) (o:f i<g i):pv f n<pv g n:=by
 induction n with
 | zero=>omega
 | succ n q=>
  rw[pv,pv];by_cases e:i=n
  ·subst e;have h1:=Mr_ (f:=f) (n:=i) (λj p=>m j (by omega));have h2:(f i+1)*bW ^ i<=g i*bW ^ i:=Nat.mul_le_mul_right _ o;rw[Nat.succ_mul]at h2;omega
  ·have:=q (λj p=>m j (by omega)) (by omega) (λj h1 h2=>a j h1 (by omega));rw[a n (by omega) (by omega)];omega
def a0_:List UInt8->Nat:=λl=>l.foldl (λn c=>n*10+(c.toNat-48)) 0
theorem p8_ (l:List UInt8) (c:UInt8):a0_ (l++[c])=a0_ l*10+(c.toNat-48):=by simp[a0_]
theorem G0_ (m:List UInt8):∀n:Nat,m.foldl (λn c=>n*10+(c.toNat-48)) n=n*10 ^ m.length+a0_ m:=by
 induction m with
 | nil=>intro n;simp[a0_]
 | cons c r a=>
  intro n;have h1:=a (n*10+(c.toNat-48));have h2:=a (0*10+(c.toNat-48));rw[List.foldl_cons,h1];show _=n*10 ^ (r.length+1)+(c::r).foldl (λn c=>n*10+(c.toNat-48)) 0;rw[List.foldl_cons,h2,Nat.pow_succ,Nat.add_mul,Nat.mul_assoc,Nat.mul_comm 10,Nat.zero_mul,VQ,Nat.add_assoc]
theorem ej_ (l m:List UInt8):a0_ (l++m)=a0_ l*10 ^ m.length+a0_ m:=by unfold a0_;rw[List.foldl_append];exact G0_ m _
end
section
structure vx_ (s:ByteArray) (neg:Bool) (a b:List UInt8):Prop where
 eq:s.data.toList=cond neg [45] []++(a++46::b)
 la:1<=a.length/\a.length<=40
 lb:1<=b.length/\b.length<=20
 da:a.all bm_=true
 db:b.all bm_=true
theorem wo_ {D:List Nat} (a:∀i,atD D i<=9) (hi lo:Nat):(cq_ D hi lo).all bm_=true:=by rw[List.all_eq_true];intro c f;obtain⟨j,_,rfl⟩:=List.mem_map.1 f;rw[dm_,p7_ (a _)];have:=a (hi-1-j);omega
theorem je_ {s:ByteArray} (h:bl_ s=true):∃f a b,vx_ s f a b:=by
 unfold bl_ at h;rw[YW,decide_eq_true_iff,decide_eq_true_iff]at h;obtain⟨h1,h2⟩:=h
 cases hp:c4_ s with
 | none=>
  unfold cu_ at h1;rw[hp]at h1
  cases h1
 | some q=>
  obtain⟨f,D,S⟩:=q;have g:=(hr_ hp).1;unfold cu_ at h1 h2;rw[hp]at h1 h2;simp only at h1 h2
  cases ho:bq_ D S with
  | true=>rw[ho]at h1;cases h1
  | false=>
   rw[ho]at h2;simp only[cond_false]at h2;unfold bq_ at ho;rw[Bool.or_eq_false_iff,decide_eq_false_iff_not,decide_eq_false_iff_not]at ho;have i:S+1<=gg_ D S:=Nat.le_max_right _ _;have j:lw_ D S<=S:=Ln_ D S S 0 (by omega);refine⟨f && !gm_ D,cq_ D (gg_ D S) S,cq_ D S (lw_ D S)++cond (decide (lw_ D S=S)) [48] [],?_,?_,?_,wo_ g _ _,?_⟩
   ·rw[<-h2];show (iv_ f D S).data.toList=_;unfold iv_;simp[UW]
   ·rw[cl_];omega
   ·rw[ZZ,cl_];by_cases e:lw_ D S=S
    ·rw[dT_ e];simp only[cond_true,List.length_singleton];omega
    ·rw[dF_ e];simp only[cond_false,List.length_nil];omega
   ·rw[List.all_append,wo_ g,Bool.true_and];by_cases e:lw_ D S=S
    ·rw[dT_ e];rfl
    ·rw[dF_ e];rfl
def e6_ (s:ByteArray):Int:=
 let l:=s.data.toList
 let a:=l.head?==some 45
 let r:=cond a l.tail l
 let m:Int:=((a0_ (r.takeWhile (· != 46)++(r.dropWhile (· != 46)).tail)*10 ^ (20-((r.dropWhile (· != 46)).tail).length):Nat):Int)
 cond a (-m) m
theorem Js_ {a b:List UInt8} (h:46∉a):(a++46::b).takeWhile (· != 46)=a/\(a++46::b).dropWhile (· != 46)=46::b:=by
 induction a with
 | nil=>simp
 | cons c r i=>
  have f:(c != 46)=true:=by rw[bne_iff_ne];exact λe=>h (by rw[e];exact VJ ..)
  have h2:=i (λg=>h (List.mem_cons_of_mem _ g));simp[f,h2.1,h2.2]
theorem o3_ {s:ByteArray} {f:Bool} {a b:List UInt8} (h:vx_ s f a b):e6_ s=cond f (-((a0_ (a++b)*10 ^ (20-b.length):Nat):Int)) ((a0_ (a++b)*10 ^ (20-b.length):Nat):Int):=by
 have g:=D4_ h.da
 have i:(a++46::b).head?≠some 45:=by
  cases a with
  | nil=>exact absurd h.la.1 (by simp)
  | cons c r=>
   intro e;have o:c=45:=by simpa using e
   have h1:=h.da;rw[List.all_cons,YW,dm_,o]at h1;have:=h1.1.1;revert this
   decide
 obtain⟨j,m⟩:=Js_ (b:=b) g;unfold e6_;simp only[h.eq]
 cases f with
 | true=>simp[j,m]
 | false=>
  simp only[cond_false,List.nil_append];have hb:((a++46::b).head?==some 45)=false:=bN_.2 i;rw[hb];simp only[cond_false];rw[j,m];rfl
def es_ (a b:ByteArray):Int:=if e6_ a<e6_ b then -1 else if e6_ b<e6_ a then 1 else 0
theorem Db_ (k:Nat):a0_ (List.replicate k 48)=0:=by
 induction k with
 | zero=>rfl
 | succ k a=>
  rw[List.replicate_succ',p8_,a];rfl
theorem K0_ (l:List UInt8) (k:Nat):a0_ (l++List.replicate k 48)=a0_ l*10 ^ k:=by rw[ej_,Db_,List.length_replicate,Nat.add_zero]
theorem I8_ {w:Nat->Nat} {l r:List UInt8} {i:Nat} (h:pv w i+a0_ r*bW ^ i=a0_ l) (f:w i=a0_ (r.drop (r.length-9))):pv w (i+1)+a0_ (r.take (r.length-9))*bW ^ (i+1)=a0_ l:=by
 have e:=ej_ (r.take (r.length-9)) (r.drop (r.length-9));rw[List.take_append_drop,<-f]at e
 have a:a0_ (r.take (r.length-9))*10 ^ (r.drop (r.length-9)).length=a0_ (r.take (r.length-9))*bW:=by
  rcases VZ r.length 9 with h1 | h1
  ·have h2:r.length-9=0:=by omega
   rw[h2,List.take_zero];simp[a0_]
  ·have h2:(r.drop (r.length-9)).length=9:=by rw[List.length_drop];omega
   rw[h2];rfl
 rw[a]at e;rw[pv,Nat.pow_succ,<-h,e,Nat.add_mul,Nat.mul_assoc,Nat.mul_comm (bW ^ i) bW];omega
end
section
open Go
structure j5_ {α : Type} (c:α -> α -> Int):Prop where
 val:∀a b,c a b = -1\/c a b=0\/c a b=1
 eqv:∀a b,c a b=0↔a=b
 anti:∀a b,c b a = -c a b
 trans:∀a b d,c a b<=0->c b d<=0->c a d<=0
section
variable {α β : Type} {c:α -> α -> Int} {e:β -> β -> Int}
theorem j5_.refl (h:j5_ c) (a:α):c a a=0:=(h.eqv a a).2 rfl
theorem j5_.lt_trans (h:j5_ c) {a b d:α} (h1:c a b<0) (h2:c b d<=0):c a d<0:=by
 have g:=h.trans a b d (by omega) h2;rcases Int.lt_or_eq_of_le g with f | f
 ·exact f
 ·have i:=(h.eqv a d).1 f;subst i;have:=h.anti a b;omega
theorem j5_.trans_lt (h:j5_ c) {a b d:α} (h1:c a b<=0) (h2:c b d<0):c a d<0:=by
 have g:=h.trans a b d h1 (by omega);rcases Int.lt_or_eq_of_le g with f | f
 ·exact f
 ·have i:=(h.eqv a d).1 f;subst i;have:=h.anti a b;omega
def ar_ (x y:Int):Int:=if x=0 then y else x
theorem j5_.prod (h:j5_ c) (k:j5_ e):j5_ (λp q:α × β=>ar_ (c p.1 q.1) (e p.2 q.2)) where
 val p q:=by
  unfold ar_;split
  ·exact k.val _ _
  ·exact h.val _ _
 eqv p q:=by
  unfold ar_;constructor
  ·intro h0;split at h0
   ·rename_i h1;exact Prod.ext ((h.eqv _ _).1 h1) ((k.eqv _ _).1 h0)
   ·rename_i h1;exact absurd h0 h1
  ·rintro rfl;rw[iP_ (h.refl _)];exact k.refl _
 anti p q:=by
  unfold ar_;have h1:=h.anti p.1 q.1;have h2:=k.anti p.2 q.2;by_cases a:c p.1 q.1=0
  ·rw[iP_ a,iP_ (by omega),h2]
  ·rw[iN_ a,iN_ (by omega),h1]
 trans p q r:=by
  unfold ar_;intro h1 h2;by_cases a:c p.1 q.1=0
  ·rw[iP_ a]at h1;have g:=(h.eqv _ _).1 a;rw[g];by_cases f:c q.1 r.1=0
   ·rw[iP_ f]at h2 ⊢;exact k.trans _ _ _ h1 h2
   ·rw[iN_ f]at h2 ⊢;exact h2
  ·rw[iN_ a]at h1;by_cases f:c q.1 r.1=0
   ·have g:=(h.eqv _ _).1 f;rw[<-g,iN_ a];exact h1
   ·rw[iN_ f]at h2;have i:=h.lt_trans (show c p.1 q.1<0 by omega) h2;rw[iN_ (by omega)];omega
end
def c7_ (a b:Int):Int:=if a<b then -1 else if b<a then 1 else 0
theorem et_:j5_ c7_ where
 val a b:=by unfold c7_;split<;>(try split)<;>omega
 eqv a b:=by unfold c7_;split<;>(try split)<;>omega
 anti a b:=by unfold c7_;split<;>(try split)<;>(try split)<;>omega
 trans a b d:=by unfold c7_;split<;>split<;>(try split)<;>(try split)<;>(try split)<;>omega
theorem xn_ (a:List UInt8):Op.bytesLess a a=false:=by
 induction a with
 | nil=>rfl
 | cons x r f=>simp[Op.bytesLess,f]
theorem Dz_ (a b:List UInt8):Op.bytesLess a b=true->Op.bytesLess b a=false:=by
 induction a generalizing b with
 | nil=>intro _;cases b<;>rfl
 | cons x r f=>
  cases b with
  | nil=>intro h;cases h
  | cons y s=>
   intro h;simp only[Op.bytesLess,Bool.or_eq_true,YW,decide_eq_true_eq,beq_iff_eq]at h;simp only[Op.bytesLess,Bool.or_eq_false_iff,Bool.and_eq_false_iff,decide_eq_false_iff_not,bN_];rcases h with h | ⟨rfl,h⟩
   ·exact⟨λh2=>absurd (UInt8.lt_trans h h2) (UInt8.lt_irrefl _),.inl (λe=>by subst e;exact absurd h (UInt8.lt_irrefl _))⟩
   ·exact⟨UInt8.lt_irrefl _,.inr (f s h)⟩
theorem hm_ (a b:List UInt8):Op.bytesLess a b=false->Op.bytesLess b a=false->a=b:=by
 induction a generalizing b with
 | nil=>cases b with
  | nil=>intro _ _;rfl
  | cons y s=>intro h;cases h
 | cons x r j=>
  cases b with
  | nil=>intro _ h;cases h
  | cons y s=>
   intro h1 h2;simp only[Op.bytesLess,Bool.or_eq_false_iff,Bool.and_eq_false_iff,decide_eq_false_iff_not,bN_]at h1 h2;have f:x=y:=UInt8.le_antisymm (UInt8.not_lt.1 h2.1) (UInt8.not_lt.1 h1.1);subst f;have g:Op.bytesLess r s=false:=by rcases h1.2 with h | h;exact absurd rfl h;exact h
   have i:Op.bytesLess s r=false:=by rcases h2.2 with h | h;exact absurd rfl h;exact h
   rw[j s g i]
theorem Ae_ (a b d:List UInt8):Op.bytesLess a b=true->Op.bytesLess b d=true->Op.bytesLess a d=true:=by
 induction a generalizing b d with
 | nil=> 
  intro h1 h2
  cases d with
  | nil=>cases b<;>cases h2
  | cons z t=>rfl
 | cons x r f=>
  cases b with
  | nil=>intro h;cases h
  | cons y s=>
   cases d with
   | nil=>intro _ h;cases h
   | cons z t=>
    intro h1 h2;simp only[Op.bytesLess,Bool.or_eq_true,YW,decide_eq_true_eq,beq_iff_eq]at h1 h2 ⊢;rcases h1 with h1 | ⟨rfl,h1⟩
    ·rcases h2 with h2 | ⟨rfl,h2⟩
     ·exact .inl (UInt8.lt_trans h1 h2)
     ·exact .inl h1
    ·rcases h2 with h2 | ⟨rfl,h2⟩
     ·exact .inl h2
     ·exact .inr ⟨rfl,f s t h1 h2⟩
def ec_ (a b:List UInt8):Int:=if Op.bytesLess a b=true then -1 else if Op.bytesLess b a=true then 1 else 0
theorem lk_:j5_ ec_ where
 val a b:=by
  unfold ec_;split
  ·exact .inl rfl
  ·split
   ·exact .inr (.inr rfl)
   ·exact .inr (.inl rfl)
 eqv a b:=by
  unfold ec_;constructor
  ·intro h;split at h
   ·cases h
   ·split at h
    ·cases h
    ·exact hm_ a b (by simpa using ‹¬Op.bytesLess a b=true›) (by simpa using ‹¬Op.bytesLess b a=true›)
  ·rintro rfl;rw[xn_,iN_ Bool.false_ne_true,iN_ Bool.false_ne_true]
 anti a b:=by
  unfold ec_
  cases h1:Op.bytesLess a b with
  | true=>rw[Dz_ a b h1];rfl
  | false=>
   cases h2:Op.bytesLess b a with
   | true=>rfl
   | false=>rfl
 trans a b d:=by
  unfold ec_
  cases h1:Op.bytesLess a b with
  | true=>
   cases h2:Op.bytesLess b d with
   | true=>rw[Ae_ a b d h1 h2,iP_ rfl,iP_ rfl];exact λh _=>h
   | false=>
    cases h3:Op.bytesLess d b with
    | true=>intro _ h;exact absurd h (by decide)
    | false=>
     have:=hm_ b d h2 h3;subst this;rw[h1,iP_ rfl];exact λh _=>h
  | false=>
   cases h2:Op.bytesLess b a with
   | true=>intro h;exact absurd h (by decide)
   | false=>
    have:=hm_ a b h1 h2;subst this;intro _ h;exact h
end
section
open Go Go.RowKit
def X_ (f:Nat->Nat):Array XJ:=Array.ofFn (n:=16) λi=>.int UY (f i.val:Int)
theorem dz_ (f:Nat->Nat) {i:Nat} (h:i<16):(X_ f)[i]?=QJ (QY UY (f i:Int)):=by unfold X_;rw[Array.getElem?_ofFn,dif_pos h]
def WAt (w:QV) (b o:Nat) (f:Nat->Nat):Prop:=∀i,i<16->w.cell? ⟨b,o+i,QK⟩=QJ (QY UY (f i:Int))
theorem WAt.turn {S:Nat->Prop} {w w':QV} {b o:Nat} {f:Nat->Nat} (h:WAt w b o f) (ht:Turn S w w') (hb:b<w.heap.size) (a:¬S b):WAt w' b o f:=λi hi=>(ht.cell (p:=⟨b,o+i,QK⟩) hb a).trans (h i hi)
theorem WAt.congr {w:QV} {b o:Nat} {f g:Nat->Nat} (h:WAt w b o f) (a:∀i,i<16->f i=g i):WAt w b o g:=λi hi=>by rw[<-a i hi];exact h i hi
theorem WAt.put {w:QV} {b o:Nat} {f:Nat->Nat} (h:WAt w b o f) {i:Nat} (hi:i<16) (m:Nat):WAt (w.setCell ⟨b,o+i,QK⟩ (QY UY (m:Int))) b o (λj=>if j=i then m else f j):=λj g=>by
 by_cases e:j=i
 ·subst e;simp only[iP_];exact World.cell?_setCell_same w _ _ (h j g)
 ·simp only[iN_ e];exact (World.cell?_setCell_other w _ _ _ (λa=>by injection a with _ a;omega)).trans (h j g)
theorem mm_ {w:QV} {b:Nat} {f:Nat->Nat} {T:TypeId} (h:w.heap[b]?=QJ (XX (X_ f) T (0,0))):WAt w b 0 f:=λi hi=>by
 rw[VQ];exact (QX h i).trans (dz_ f hi)
theorem Cm_ {S:Nat->Prop} {w w':QV} (h:Turn S w w') (m:Nat):Turn S w (w'.drewN m):=⟨h.os,h.tape,h.output,h.size,h.block⟩
theorem zk_ (b o i:Nat):(⟨b,o,QK⟩:Addr).add i=⟨b,o+i,QK⟩:=by
 unfold Addr.add;split
 ·rename_i h;rw[h];rfl
 ·rfl
theorem lp_ {S:Nat->Prop} {w w':QV} {g o:Nat} (h:Turn S w w') (i:g<w.heap.size) (a:¬S g) (f:w.frozen? ⟨g,o,QK⟩=false):w'.frozen? ⟨g,o,QK⟩=false:=by have hb:=h.block g i a;unfold World.frozen? at *;simpa [hb] using f
theorem d2_ (g n:Nat):(⟨g,0,QK⟩:Addr).add n=⟨g,n,QK⟩:=by rw[zk_,VQ]
theorem u64_in {n:Nat} (h:n<18446744073709551616):IntKind.u64.wrap (n:Int)=(n:Int):=by
 have h1:(n:Int)<18446744073709551616:=by omega
 have h2:(0:Int)<=n:=by omega
 unfold IntKind.wrap;simp[IntKind.signed,IntKind.bits];omega
def sd_ (w w':QV) (b o:Nat):Prop:=∀j,(j<o\/o+16<=j)->w'.cell? ⟨b,j,QK⟩=w.cell? ⟨b,j,QK⟩
theorem Jy_ (b o:Nat) (f g:Nat->Nat) (w:QV) (hf:∀i,i<16->f i<bW) (hg:∀i,i<16->g i<bW) (hw:WAt w b o f) (Z:∀j,w.frozen? ⟨b,j,QK⟩=false) (hb:b<w.heap.size) :
    Calls QW 302 #[YK (QJ ⟨b,o,QK⟩),.agg (X_ g)] w λe w'=>e = YQ (ZJ #[])/\∃h,WAt w' b o h/\(∀i,i<16->h i<bW)/\(∃c,pv h 16+c*bW ^ 16=pv f 16+pv g 16)/\Turn (λk=>k=b) w w'/\sd_ w w' b o:=by
 have HF:=q_ hf;have HG:=q_ hg;have a3:=q_ Z;obtain⟨z,J⟩:=a_ w.heap.size;obtain⟨B,r⟩:=a_ (w.alloc (XX (X_ g) 291));have a8:=q_ (show Turn (λk=>k=b) w B from by rw[<-r.o];exact (Turn.refl _ _).alloc _);go_enter func302,ntmps302
 go_upto_region 1 with fail;rw[r.o,J.o];have ak:b≠z:=by have:=J.o;omega
 have W:=q_ (show b<z from by have:=J.o;omega);have ab:=q_ (show WAt B z 0 g from mm_ (T:=291) (by rw[<-r.o,<-J.o];exact XU w _));have Y:=q_ (show z<B.heap.size from by rw[<-r.o,<-J.o];simp)
 have ac:=q_ (show WAt B b o f from λi hi=>by
  rw[<-r.o,World.cell?_alloc_lt w _ _ (by show b<_;exact hb)];exact hw i hi)
 have a7:=q_ (λ(j:Nat)=>(show B.frozen? ⟨b,j,QK⟩=false from lp_ (S:=λ_=>False) (by rw[<-r.o];exact (Turn.refl _ _).alloc _) hb (λh=>h) (a3.o j)));have aj:=q_ (show b<B.heap.size from by have:=Y.o;have:=W.o;omega);have a5:=q_ (λ(j:Nat)=>(show B.cell? ⟨b,j,QK⟩=w.cell? ⟨b,j,QK⟩ from by rw[<-r.o];exact World.cell?_alloc_lt w _ _ (by show b<_;exact hb)));clear hf hg hw Z hb;go_wp2_with fail;go_loopw [4,7] (λs4 s7 V=>∃(i c:Nat) (h:Nat->Nat),i<=16/\c<=1/\s7 = QY QU (i:Nat)/\s4 = QY UY (c:Nat)/\Q_ (WAt V b o h/\(∀j,j<i->h j<bW)/\(∀j,i<=j->h j=f j)/\pv h i+c*bW ^ i=pv f i+pv g i/\Turn (λk=>k=b) B V/\(∀j,V.frozen? ⟨b,j,QK⟩=false)/\sd_ B V b o)) (λ_ s7 _=>16-(intOf s7).toNat)
 case atStart=>exact⟨0,0,f,by omega,by omega,rfl,rfl,q_ ⟨ac.o,λj D=>absurd D (Nat.not_lt_zero _),λ_ _=>rfl,by simp[pv],Turn.refl _ _,a7.o,λ_ _=>rfl⟩⟩
 case round=>
  obtain⟨i,c,h,hi,hc,rfl,rfl,a⟩:=hrel;by_cases E:i<16
  ·obtain⟨x,O⟩:=a_ (f i);obtain⟨y,P⟩:=a_ (g i);have ah:=HF.o i E;have ai:=HG.o i E;rw[O.o]at ah;rw[P.o]at ai;have ad:bW=1000000000:=rfl;obtain⟨m,M⟩:=a_ ((x+y+c) % 1000000000);obtain⟨q,N⟩:=a_ ((x+y+c) / 1000000000);have af:m<1000000000:=by rw[<-M.o];exact Nat.mod_lt _ (by decide)
   have ag:q<=1:=by rw[<-N.o];omega
   have c1:wr.cell? ⟨b,o+i,QK⟩=QJ (QY UY (x:Int)):=by have:=a.o.1 i E;rw[a.o.2.2.1 i (XK _),O.o]at this;exact this
   have c2:wr.cell? ⟨z,i,QK⟩=QJ (QY UY (y:Int)):=by have h1:=(ab.o.turn a.o.2.2.2.2.1 Y.o (λe=>by have:=W.o;omega)) i E;rw[VQ,P.o]at h1;exact h1
   have f1:wr.frozen? ⟨b,o+i,QK⟩=false:=a.o.2.2.2.2.2.1 (o+i);have a1:=zk_ b o i;have a2:=d2_ z i;have e1:(0:Int)<=i:=by omega
   have U:(i:Int)<16:=by omega
   have w0:IntKind.i64.wrap ((i:Int)+1)=(i:Int)+1:=YU _ (by omega);obtain⟨S1,X⟩:=a_ (x+y);obtain⟨L,C⟩:=a_ (x+y+c);have am:IntKind.u64.wrap ((x:Int)+(y:Int))=(S1:Int):=by rw[<-X.o,<-Int.natCast_add];exact u64_in (by omega)
   have w2:IntKind.u64.wrap ((S1:Int)+(c:Int))=(L:Int):=by rw[<-X.o,<-C.o,<-Int.natCast_add];exact u64_in (by omega)
   have r1:Int.tmod (L:Int) 1000000000=(m:Int):=by rw[<-M.o,<-C.o];rfl
   have r2:Int.tdiv (L:Int) 1000000000=(q:Int):=by rw[<-N.o,<-C.o];rfl
   have r3:(L:Int) % 1000000000=(m:Int):=by rw[<-M.o,<-C.o];rfl
   have r4:(L:Int) / 1000000000=(q:Int):=by rw[<-N.o,<-C.o];rfl
   have w3:IntKind.u64.wrap (m:Int)=(m:Int):=u64_in (by omega);have w4:IntKind.u64.wrap (q:Int)=(q:Int):=u64_in (by omega);go_upto_region 5 with fail;go_quiet (fail)
   obtain⟨I,A⟩:=a_ (wr.drewN nq);have d1:I.cell? ⟨b,o+i,QK⟩=QJ (QY UY (x:Int)):=by rw[<-A.o];exact c1
   have f2:I.frozen? ⟨b,o+i,QK⟩=false:=by rw[<-A.o];exact f1
   have a9:=q_ (show Turn (λk=>k=b) B I from by rw[<-A.o];exact Cm_ a.o.2.2.2.2.1 nq);have aa:=q_ (show WAt I b o h from by rw[<-A.o];exact a.o.1);have a0:=q_ (λ(j:Nat)=>(show I.frozen? ⟨b,j,QK⟩=false from by rw[<-A.o];exact a.o.2.2.2.2.2.1 j));have a6:=q_ (show sd_ B I b o from by rw[<-A.o];exact a.o.2.2.2.2.2.2);have a4:=q_ (And.intro a.o.2.1 (And.intro a.o.2.2.1 a.o.2.2.2.1));rw[A.o];clear c1 c2 f1 a;go_wp2_with fail;go_roundw
   case measure=>simp[intOf];omega
   case rel=>
    obtain⟨h1,h2,h3⟩:=a4.o;refine⟨i+1,q,λj=>if j=i then m else h j,by omega,ag,by go_num,rfl,q_ ⟨aa.o.put E m,λj D=>?_,λj D=>?_,?_,a9.o.setCell (p:=⟨b,o+i,QK⟩) (.inr rfl) _,λj=>?_,λj D=>?_⟩⟩
    ·by_cases e:j=i
     ·simp only[iP_ e];exact af
     ·simp only[iN_ e];exact h1 j (by omega)
    ·simp only[iN_ (show j≠i by omega)];exact h2 j (by omega)
    ·have hp:=N3_ (f:=f) (g:=g) (o:=λj=>if j=i then m else h j) (i:=i) (c:=c) (by
       rw[<-h3];congr 1
       exact mc_ (λj D=>iN_ (by omega))) (by rw[O.o,P.o,ad,M.o];exact iP_ rfl)
     rw[O.o,P.o]at hp;rw[show (x+y+c) / bW=q from N.o]at hp;exact hp
    ·have:=a0.o j;simpa using this
    ·exact (World.cell?_setCell_other I _ _ _ (λU=>by injection U with _ U;omega)).trans (a6.o j D)
  ·have ae:i=16:=by omega
   have U:¬(i:Int)<16:=by omega
   go_wp2_with fail;go_end0;subst ae;exact⟨rfl,h,a.o.1,a.o.2.1,⟨c,a.o.2.2.2.1⟩,a8.o.trans a.o.2.2.2.2.1,λj D=>(a.o.2.2.2.2.2.2 j D).trans (a5.o j)⟩
theorem J6_ (b o:Nat) (f g:Nat->Nat) (w:QV) (hf:∀i,i<16->f i<bW) (hg:∀i,i<16->g i<bW) (hw:WAt w b o f) (a4:∀j,w.frozen? ⟨b,j,QK⟩=false) (hb:b<w.heap.size) (ak:pv g 16<=pv f 16) :
    Calls QW 304 #[YK (QJ ⟨b,o,QK⟩),.agg (X_ g)] w λe w'=>e = YQ (ZJ #[])/\∃h,WAt w' b o h/\(∀i,i<16->h i<bW)/\pv h 16=pv f 16-pv g 16/\Turn (λk=>k=b) w w'/\sd_ w w' b o:=by
 have HF:=q_ hf;have HG:=q_ hg;have a8:=q_ a4;obtain⟨z,P⟩:=a_ w.heap.size;obtain⟨B,r⟩:=a_ (w.alloc (XX (X_ g) 291));have ad:=q_ (show Turn (λk=>k=b) w B from by rw[<-r.o];exact (Turn.refl _ _).alloc _);go_enter func304,ntmps304
 go_upto_region 1 with fail;rw[r.o,P.o];have ap:b≠z:=by have:=P.o;omega
 have Z:=q_ (show b<z from by have:=P.o;omega);have ag:=q_ (show WAt B z 0 g from mm_ (T:=291) (by rw[<-r.o,<-P.o];exact XU w _));have a3:=q_ (show z<B.heap.size from by rw[<-r.o,<-P.o];simp)
 have ah:=q_ (show WAt B b o f from λi hi=>by
  rw[<-r.o,World.cell?_alloc_lt w _ _ (by show b<_;exact hb)];exact hw i hi)
 have ac:=q_ (λ(j:Nat)=>(show B.frozen? ⟨b,j,QK⟩=false from lp_ (S:=λ_=>False) (by rw[<-r.o];exact (Turn.refl _ _).alloc _) hb (λh=>h) (a8.o j)));have ao:=q_ (show b<B.heap.size from by have:=a3.o;have:=Z.o;omega);have aa:=q_ (λ(j:Nat)=>(show B.cell? ⟨b,j,QK⟩=w.cell? ⟨b,j,QK⟩ from by rw[<-r.o];exact World.cell?_alloc_lt w _ _ (by show b<_;exact hb)));clear hf hg hw a4 hb;go_wp2_with fail;go_loopw [4,7] (λs4 s7 Y=>∃(i c:Nat) (h:Nat->Nat),i<=16/\c<=1/\s7 = QY QU (i:Nat)/\s4 = QY UY (c:Nat)/\Q_ (WAt Y b o h/\(∀j,j<i->h j<bW)/\(∀j,i<=j->h j=f j)/\pv h i+pv g i=pv f i+c*bW ^ i/\Turn (λk=>k=b) B Y/\(∀j,Y.frozen? ⟨b,j,QK⟩=false)/\sd_ B Y b o)) (λ_ s7 _=>16-(intOf s7).toNat)
 case atStart=>exact⟨0,0,f,by omega,by omega,rfl,rfl,q_ ⟨ah.o,λj D=>absurd D (Nat.not_lt_zero _),λ_ _=>rfl,by simp[pv],Turn.refl _ _,ac.o,λ_ _=>rfl⟩⟩
 case round=>
  obtain⟨i,c,h,hi,hc,rfl,rfl,a⟩:=hrel;by_cases E:i<16
  ·obtain⟨x,N⟩:=a_ (f i);obtain⟨y,O⟩:=a_ (g i);have a5:=HF.o i E;have a6:=HG.o i E;rw[N.o]at a5;rw[O.o]at a6;have ai:bW=1000000000:=rfl;obtain⟨m,U⟩:=a_ ((x+1000000000-y-c) % 1000000000);obtain⟨q,V⟩:=a_ ((x+1000000000-y-c) / 1000000000);have am:m<1000000000:=by rw[<-U.o];exact Nat.mod_lt _ (by decide)
   have aq:q<=1:=by rw[<-V.o];omega
   have c1:wr.cell? ⟨b,o+i,QK⟩=QJ (QY UY (x:Int)):=by have:=a.o.1 i E;rw[a.o.2.2.1 i (XK _),N.o]at this;exact this
   have c2:wr.cell? ⟨z,i,QK⟩=QJ (QY UY (y:Int)):=by have h1:=(ag.o.turn a.o.2.2.2.2.1 a3.o (λe=>by have:=Z.o;omega)) i E;rw[VQ,O.o]at h1;exact h1
   have f1:wr.frozen? ⟨b,o+i,QK⟩=false:=a.o.2.2.2.2.2.1 (o+i);have a1:=zk_ b o i;have a2:=d2_ z i;have e1:(0:Int)<=i:=by omega
   have X:(i:Int)<16:=by omega
   have w0:IntKind.i64.wrap ((i:Int)+1)=(i:Int)+1:=YU _ (by omega);obtain⟨S1,a0⟩:=a_ (x+1000000000);obtain⟨W,M⟩:=a_ (x+1000000000-y);obtain⟨L,C⟩:=a_ (x+1000000000-y-c);obtain⟨q2,J⟩:=a_ (1-q);have ar:IntKind.u64.wrap ((x:Int)+1000000000)=(S1:Int):=by rw[<-a0.o];exact u64_in (n:=x+1000000000) (by omega)
   have w5:IntKind.u64.wrap ((S1:Int)-(y:Int))=(W:Int):=by rw[show (S1:Int)-(y:Int)=(W:Int) by rw[<-a0.o,<-M.o];omega];exact u64_in (by rw[<-M.o];omega)
   have w2:IntKind.u64.wrap ((W:Int)-(c:Int))=(L:Int):=by rw[show (W:Int)-(c:Int)=(L:Int) by rw[<-M.o,<-C.o];omega];exact u64_in (by rw[<-C.o];omega)
   have w6:IntKind.u64.wrap ((1:Int)-(q:Int))=(q2:Int):=by rw[show (1:Int)-(q:Int)=(q2:Int) by rw[<-J.o];omega];exact u64_in (by rw[<-J.o];omega)
   have r1:Int.tmod (L:Int) 1000000000=(m:Int):=by rw[<-U.o,<-C.o];rfl
   have r2:Int.tdiv (L:Int) 1000000000=(q:Int):=by rw[<-V.o,<-C.o];rfl
   have r3:(L:Int) % 1000000000=(m:Int):=by rw[<-U.o,<-C.o];rfl
   have r4:(L:Int) / 1000000000=(q:Int):=by rw[<-V.o,<-C.o];rfl
   have w3:IntKind.u64.wrap (m:Int)=(m:Int):=u64_in (by omega);have w4:IntKind.u64.wrap (q:Int)=(q:Int):=u64_in (by omega);go_upto_region 5 with fail;go_quiet (fail)
   obtain⟨I,A⟩:=a_ (wr.drewN nq);have d1:I.cell? ⟨b,o+i,QK⟩=QJ (QY UY (x:Int)):=by rw[<-A.o];exact c1
   have f2:I.frozen? ⟨b,o+i,QK⟩=false:=by rw[<-A.o];exact f1
   have ae:=q_ (show Turn (λk=>k=b) B I from by rw[<-A.o];exact Cm_ a.o.2.2.2.2.1 nq);have af:=q_ (show WAt I b o h from by rw[<-A.o];exact a.o.1);have a7:=q_ (λ(j:Nat)=>(show I.frozen? ⟨b,j,QK⟩=false from by rw[<-A.o];exact a.o.2.2.2.2.2.1 j));have ab:=q_ (show sd_ B I b o from by rw[<-A.o];exact a.o.2.2.2.2.2.2);have a9:=q_ (And.intro a.o.2.1 (And.intro a.o.2.2.1 a.o.2.2.2.1));rw[A.o];clear c1 c2 f1 a;go_wp2_with fail;go_roundw
   case measure=>simp[intOf];omega
   case rel=>
    obtain⟨h1,h2,h3⟩:=a9.o;refine⟨i+1,q2,λj=>if j=i then m else h j,by omega,by rw[<-J.o];omega,by go_num,rfl,q_ ⟨af.o.put E m,λj D=>?_,λj D=>?_,?_,ae.o.setCell (p:=⟨b,o+i,QK⟩) (.inr rfl) _,λj=>?_,λj D=>?_⟩⟩
    ·by_cases e:j=i
     ·simp only[iP_ e];exact am
     ·simp only[iN_ e];exact h1 j (by omega)
    ·simp only[iN_ (show j≠i by omega)];exact h2 j (by omega)
    ·have hp:=(N4_ (f:=f) (g:=g) (o:=λj=>if j=i then m else h j) (i:=i) (b:=c) (by
       rw[<-h3];congr 1
       exact mc_ (λj D=>iN_ (by omega))) (by rw[O.o];exact a6) hc (by rw[N.o];exact a5) (by rw[N.o,O.o,ai,U.o];exact iP_ rfl)).1
     rw[N.o,O.o]at hp;rw[show (x+bW-y-c) / bW=q from V.o,J.o]at hp;exact hp
    ·have:=a7.o j;simpa using this
    ·exact (World.cell?_setCell_other I _ _ _ (λX=>by injection X with _ X;omega)).trans (ab.o j D)
  ·have aj:i=16:=by omega
   have X:¬(i:Int)<16:=by omega
   go_wp2_with fail;go_end0;subst aj;exact⟨rfl,h,a.o.1,a.o.2.1,Aw_ a.o.2.2.2.1 a.o.2.1 ak,ad.o.trans a.o.2.2.2.2.1,λj D=>(a.o.2.2.2.2.2.2 j D).trans (aa.o j)⟩
def jx_ (a b:Nat):Int:=if a<b then -1 else if b<a then 1 else 0
theorem Jz_ (f g:Nat->Nat) (w:QV) (hf:∀i,i<16->f i<bW) (hg:∀i,i<16->g i<bW) :
    Calls QW 303 #[.agg (X_ f),.agg (X_ g)] w λe w'=>e = YQ (QY QU (jx_ (pv f 16) (pv g 16)))/\XW w.heap.size w w':=by
 have HF:=q_ hf;have HG:=q_ hg;obtain⟨z,W⟩:=a_ w.heap.size;obtain⟨J,D⟩:=a_ ((w.alloc (XX (X_ f) 291)).alloc (XX (X_ g) 291));have p:=q_ (show XW w.heap.size w J from by rw[<-D.o];exact ((XV _ w).alloc (XK _) _).alloc (by simp) _);have a3:=q_ (show WAt J z 0 f from mm_ (T:=291) (by rw[<-D.o,<-W.o,Below.heap_alloc _ _ _ (by simp)];exact XU w _));have a4:=q_ (show WAt J (z+1) 0 g from mm_ (T:=291) (by rw[<-D.o,<-W.o];have:=XU (w.alloc (XX (X_ f) 291)) (XX (X_ g) 291);simpa using this));obtain⟨r,L⟩:=a_ (jx_ (pv f 16) (pv g 16));rw[L.o];clear hf hg;go_enter func303,ntmps303
 go_upto_region 1 with fail;rw[D.o,W.o];go_wp2_with fail;go_loopw [5] (λY wx=>∃(i:Nat) (v:Int) (q:Nat),i<=16/\Y = QY QU v/\v=(i:Int)-1/\Q_ (wx=J.drewN q/\∀j,i<=j->j<16->f j=g j)) (λY _=>(intOf Y+1).toNat)
 case atStart=>exact⟨16,15,0,by omega,rfl,by omega,q_ ⟨rfl,λj h1 h2=>by omega⟩⟩
 case round=>
  obtain⟨i,v,q,hi,rfl,hv,B⟩:=hrel;have Z:=q_ hv;have a:=q_ (show XW w.heap.size w wr from by rw[B.o.1];exact⟨p.o.os,p.o.tape,p.o.output,p.o.size,p.o.block⟩);clear hv;by_cases a9:0<i
  ·obtain⟨k,hk⟩:∃k,i=k+1:=⟨i-1,by omega⟩;have a7:v=(k:Int):=by have:=Z.o;omega
   subst a7;have V:=q_ hk;obtain⟨x,M⟩:=a_ (f k);obtain⟨y,N⟩:=a_ (g k);have O:wr.cell? ⟨z,k,QK⟩=QJ (QY UY (x:Int)):=by have h1:=a3.o k (by omega);rw[VQ,M.o]at h1;rw[B.o.1];exact h1
   have P:wr.cell? ⟨z+1,k,QK⟩=QJ (QY UY (y:Int)):=by have h1:=a4.o k (by omega);rw[VQ,N.o]at h1;rw[B.o.1];exact h1
   have a1:=d2_ z k;have a2:=d2_ (z+1) k;have e1:(0:Int)<=k:=by omega
   have e2:(k:Int)<16:=by omega
   have I:=q_ B.o.2;have S:=q_ B.o.1;clear B hk;by_cases h1:x<y
   ·have g1:(x:Int)<(y:Int):=by omega
    have E:=q_ (show (-1:Int)=r from by rw[<-L.o];have:=I9_ (f:=f) (g:=g) (n:=16) (i:=k) HF.o (by omega) (λj h1 h2=>I.o j (by have:=V.o;omega) h2) (by rw[M.o,N.o];exact h1);unfold jx_;rw[iP_ this]);clear h1;go_upto_region 4 with fail;go_quiet (fail)
    go_wp2_with fail;go_ret;exact⟨congrArg (λv=>Ending.returned (Value.int IntKind.i64 v)) E.o,⟨a.o.os,a.o.tape,a.o.output,a.o.size,a.o.block⟩⟩
   ·have g1:¬(x:Int)<(y:Int):=by omega
    by_cases h2:y<x
    ·have g2:(y:Int)<(x:Int):=by omega
     have E:=q_ (show (1:Int)=r from by rw[<-L.o];have:=I9_ (f:=g) (g:=f) (n:=16) (i:=k) HG.o (by omega) (λj h1 h2=>(I.o j (by have:=V.o;omega) h2).symm) (by rw[M.o,N.o];exact h2);unfold jx_;rw[iN_ (by omega),iP_ this]);clear h1 h2;go_upto_region 4 with fail;go_quiet (fail)
     obtain⟨C,m⟩:=a_ (wr.drewN nq);have d1:C.cell? ⟨z,k,QK⟩=QJ (QY UY (x:Int)):=by rw[<-m.o];exact O
     have d2:C.cell? ⟨z+1,k,QK⟩=QJ (QY UY (y:Int)):=by rw[<-m.o];exact P
     have A:=q_ (show XW w.heap.size w C from by rw[<-m.o];exact⟨a.o.os,a.o.tape,a.o.output,a.o.size,a.o.block⟩);rw[m.o];clear O P;go_upto_region 6 with fail;go_quiet (fail)
     go_wp2_with fail;go_ret;exact⟨congrArg (λv=>Ending.returned (Value.int IntKind.i64 v)) E.o,⟨A.o.os,A.o.tape,A.o.output,A.o.size,A.o.block⟩⟩
    ·have g2:¬(y:Int)<(x:Int):=by omega
     have U:x=y:=by omega
     have HE:=q_ U;clear h1 h2 U;go_upto_region 4 with fail;go_quiet (fail)
     obtain⟨C,m⟩:=a_ (wr.drewN nq);have d1:C.cell? ⟨z,k,QK⟩=QJ (QY UY (x:Int)):=by rw[<-m.o];exact O
     have d2:C.cell? ⟨z+1,k,QK⟩=QJ (QY UY (y:Int)):=by rw[<-m.o];exact P
     obtain⟨X,a0⟩:∃X,Q_ (C=J.drewN X):=⟨q+nq,q_ (by rw[<-m.o,S.o,World.drewN_drewN])⟩;have w2:IntKind.i64.wrap ((k:Int)-1)=(k:Int)-1:=YU _ (by omega);rw[m.o];clear O P S;go_upto_region 6 with fail;go_quiet (fail)
     go_wp2_with fail;go_roundw
     case measure=>first | (simp[intOf];done) | (simp[intOf];omega)
     case rel=>
      refine⟨k,(k:Int)-1,X+nq,by omega,rfl,rfl,q_ ⟨by rw[a0.o,World.drewN_drewN],λj a8 a5=>?_⟩⟩;by_cases e:j=k
      ·rw[e,M.o,N.o];exact HE.o
      ·exact I.o j (by have:=V.o;omega) a5
  ·have h0:i=0:=by omega
   have a6:v = -1:=by have:=Z.o;omega
   subst a6;have E:=q_ (show (0:Int)=r from by rw[<-L.o];have h1:=mc_ (f:=f) (g:=g) (n:=16) (λj hj=>B.o.2 j (by omega) hj);unfold jx_;rw[h1,iN_ (Nat.lt_irrefl _),iN_ (Nat.lt_irrefl _)]);go_wp2_with fail;go_ret;exact⟨congrArg (λv=>Ending.returned (Value.int IntKind.i64 v)) E.o,a.o⟩
end
section
def bT:Nat:=10
def pt (f:Nat->Nat):Nat->Nat
 | 0=>0
 | i+1=>pt f i+f i*bT ^ i
theorem mb_ {f g:Nat->Nat} {n:Nat} (h:∀i,i<n->f i=g i):pt f n=pt g n:=by
 induction n with
 | zero=>rfl
 | succ n a=>rw[pt,pt,a (λi hi=>h i (by omega)),h n (by omega)]
theorem I6_ {f:Nat->Nat} {n:Nat} (h:∀i,i<n->f i<bT):pt f n<bT ^ n:=by
 induction n with
 | zero=>simp[pt]
 | succ n g=>
  have h1:=g (λi hi=>h i (by omega));have h2:=h n (by omega);rw[pt,Nat.pow_succ];have a:(f n+1)*bT ^ n<=bT*bT ^ n:=Nat.mul_le_mul_right _ h2;rw[Nat.succ_mul]at a;rw[Nat.mul_comm (bT ^ n) bT];omega
theorem Nz_ {f g o:Nat->Nat} {i c:Nat} (h:pt o i+c*bT ^ i=pt f i+pt g i) (m:o i=(f i+g i+c) % bT) :
    pt o (i+1)+(f i+g i+c) / bT*bT ^ (i+1)=pt f (i+1)+pt g (i+1):=by
 have e:=Nat.div_add_mod (f i+g i+c) bT;have a:(o i+bT*((f i+g i+c) / bT))*bT ^ i=(f i+g i+c)*bT ^ i:=by rw[m,Nat.add_comm,e]
 rw[pt,pt,pt,Nat.pow_succ];rw[Nat.add_mul,Nat.mul_assoc]at a;rw[Nat.add_mul,Nat.add_mul]at a;have j:(f i+g i+c) / bT*(bT ^ i*bT)=bT*((f i+g i+c) / bT*bT ^ i):=by rw[<-Nat.mul_assoc,Nat.mul_comm]
 rw[j];omega
theorem N1_ {f g o:Nat->Nat} {i b:Nat} (h:pt o i+pt g i=pt f i+b*bT ^ i) (z:g i<bT) (hb:b<=1) (y:f i<bT) (q:o i=(f i+bT-g i-b) % bT) :
    pt o (i+1)+pt g (i+1)=pt f (i+1)+(1-(f i+bT-g i-b) / bT)*bT ^ (i+1)/\(f i+bT-g i-b) / bT<=1:=by
 have r:f i+bT-g i-b<bT*2:=by omega
 have e:=Nat.div_add_mod (f i+bT-g i-b) bT;have a:(f i+bT-g i-b) / bT<=1:=Nat.le_of_lt_succ (Nat.div_lt_of_lt_mul r);refine⟨?_,a⟩
 have j:o i+g i+b=f i+(1-(f i+bT-g i-b) / bT)*bT:=by
  rw[q];rcases VZ ((f i+bT-g i-b) / bT) 1 with h1 | h1
  ·have h2:(f i+bT-g i-b) / bT=0:=Nat.lt_one_iff.1 h1;rw[h2]at e ⊢;omega
  ·have h2:(f i+bT-g i-b) / bT=1:=Nat.le_antisymm a h1;rw[h2]at e ⊢;omega
 rw[pt,pt,pt,Nat.pow_succ];have m:=congrArg (· * bT ^ i) j;simp only[Nat.add_mul,Nat.mul_assoc]at m;have p:(1-(f i+bT-g i-b) / bT)*(bT ^ i*bT)=(1-(f i+bT-g i-b) / bT)*(bT*bT ^ i):=by rw[Nat.mul_comm (bT ^ i)]
 rw[p];omega
theorem Av_ {f g o:Nat->Nat} {n b:Nat} (h:pt o n+pt g n=pt f n+b*bT ^ n) (a:∀i,i<n->o i<bT) (j:pt g n<=pt f n):pt o n=pt f n-pt g n:=by
 have h1:=I6_ a;rcases Nat.eq_zero_or_pos b with h2 | h2
 ·subst h2;omega
 ·have m:1*bT ^ n<=b*bT ^ n:=Nat.mul_le_mul_right _ h2;omega
theorem I5_ {f g:Nat->Nat} {n i:Nat} (m:∀j,j<n->f j<bT) (hi:i<n) (a:∀j,i<j->j<n->f j=g j) (o:f i<g i):pt f n<pt g n:=by
 induction n with
 | zero=>omega
 | succ n q=>
  rw[pt,pt];by_cases e:i=n
  ·subst e;have h1:=I6_ (f:=f) (n:=i) (λj p=>m j (by omega));have h2:(f i+1)*bT ^ i<=g i*bT ^ i:=Nat.mul_le_mul_right _ o;rw[Nat.succ_mul]at h2;omega
  ·have:=q (λj p=>m j (by omega)) (by omega) (λj h1 h2=>a j h1 (by omega));rw[a n (by omega) (by omega)];omega
theorem Ly_ {f:Nat->Nat} {n m:Nat} (h:∀i,n<=i->i<n+m->f i=0):pt f (n+m)=pt f n:=by
 induction m with
 | zero=>rfl
 | succ m a=>rw[<-Nat.add_assoc,pt,a (λi h1 h2=>h i h1 (by omega)),h (n+m) (by omega) (by omega),Nat.zero_mul,Nat.add_zero]
theorem uh_ {D:List Nat} {i:Nat} (h:D.length<=i):atD D i=0:=by unfold atD;rw[ZK h];rfl
def av_ (D:List Nat):Nat:=pt (atD D) D.length
theorem ij_ {D:List Nat} {n:Nat} (h:D.length<=n):pt (atD D) n=av_ D:=by obtain⟨m,rfl⟩:∃m,n=D.length+m:=⟨n-D.length,by omega⟩;exact Ly_ λi h1 _=>uh_ h1
end
end Go.Proofs.YtefhfadjajcmkaaGreatDoor
