/- Numbers in memory: a sign and sixteen words; the amount that digits say. -/
import Derived.Test.YtefhfadjajcmkaaGreatDoorO1
import Derived.Lib.ItoaMem
import Derived.Test.YtefhfadjajcmkaaGreatDoorSH
import Derived.Lib.AppendIntMem
import Derived.Deep.MidRow
import Derived.Laws.Tables
import Derived.Lib.AtoiErrMem
set_option linter.unusedVariables false
set_option linter.unusedSimpArgs false
set_option maxRecDepth 100000
set_option maxHeartbeats 64000000
namespace Go.Proofs.YtefhfadjajcmkaaGreatDoor
open _root_.Go.Proofs.Tryz
open Go.Act renaming put→VK
open Bool renaming and_eq_true→YW
open Go.IntWalk renaming i64_in→YU
open Go.Ending renaming returned→YQ
open Go.RowKit renaming Below→XW
open Go.RowKit.Below renaming refl→XV
open Nat renaming lt_of_lt_of_le→XZ,le_refl→XK,le_trans→ZX,zero_add→VQ,lt_or_ge→VZ
open Go.Obj renaming cells→XX
open List renaming getElem?_eq_getElem→XQ,mem_of_getElem?→YZ,take_of_length_le→YJ,length_append→ZZ,append_assoc→UW,mem_cons_self→VJ
open _root_.Go.Proofs.Tryz renaming prog→QW,underlying39→YV
open Go renaming World→QV,Value→XJ,heap_alloc_new→XU,bodyPost_ret→ZV,wp_region_held_drew→UZ,cell_of_row→UU,run_string_add_sum→UV,wpAnyH_done→VX
open Go.IntKind renaming i64→QU,u64→UY
open Option renaming some→QJ,none→QK
open Go.Lib renaming cell_of_heap→QX,frozen_of_heap→YY
open Go.Value renaming slice→QQ,string→QZ,int→QY,bool→XY,pointer→YK,tuple→ZJ
open Go.Lib (cell_of_heap)
section
open Go Go.RowKit
theorem ac_.dN {w:QV} {A:Option Addr} {D:List Nat} (h:ac_ w A D) (m:Nat):ac_ (w.drewN m) A D:=h
def F0_ (D E:List Nat) (w:QV) (e:Ending) (w':QV):Prop:=e = YQ (QY QU (jx_ (av_ D) (av_ E)))/\∃q,w'=w.drewN q
theorem Jc_ (D E:List Nat) (hD:D.length<=1000000000000) (hE:E.length<=1000000000000) (hd:∀i,atD D i<=9) (he:∀i,atD E i<=9) (A B:Option Addr) (ca cb:Nat) (w:QV) (h1:ac_ w A D) (h2:ac_ w B E) :
    Calls QW 292 #[QQ A D.length ca,QQ B E.length cb] w (F0_ D E w):=by
 have H1:=q_ h1;have H2:=q_ h2;have a0:=q_ hd;have a1:=q_ he;have Z:=q_ (λ(q:Nat) (i:Nat) (hi:i<=4000000000000)=>in_ D A ca i hi (w.drewN q) (H1.o.dN q));have hB:=q_ (λ(q:Nat) (i:Nat) (hi:i<=4000000000000)=>in_ E B cb i hi (w.drewN q) (H2.o.dN q));obtain⟨r,O⟩:=a_ (jx_ (av_ D) (av_ E));obtain⟨n,Hn⟩:=a_ D.length;obtain⟨m,Hm⟩:=a_ E.length;have h:=q_ (show pt (atD D) (n+m+1)=av_ D from ij_ (by rw[Hn.o];omega));have p:=q_ (show pt (atD E) (n+m+1)=av_ E from ij_ (by rw[Hm.o];omega));unfold F0_;rw[O.o];rw[Hn.o]at Z hD ⊢;rw[Hm.o]at hB hE ⊢;have w0:IntKind.i64.wrap ((n:Int)+(m:Int))=(n:Int)+(m:Int):=YU _ (by omega);clear h1 h2 hd he;go_enter func292,ntmps292
 go_wp2_with fail;go_loopw [5] (λs5 wx=>∃(i:Nat) (v:Int) (q:Nat),i<=n+m+1/\s5 = QY QU v/\v=(i:Int)-1/\Q_ (wx=w.drewN q/\∀j,i<=j->j<n+m+1->atD D j=atD E j)) (λs5 _=>(intOf s5+1).toNat)
 case atStart=>exact⟨n+m+1,(n:Int)+(m:Int),0,by omega,rfl,by omega,q_ ⟨rfl,λj h1 h2=>by omega⟩⟩
 case round=>
  obtain⟨i,v,q,hi,rfl,hv,N⟩:=hrel;have HV:=q_ hv;clear hv;by_cases a9:0<i
  ·obtain⟨k,hk⟩:∃k,i=k+1:=⟨i-1,by omega⟩;have a5:v=(k:Int):=by have:=HV.o;omega
   subst a5;have t:=q_ hk;have d:k<=4000000000000:=by omega
   have a8:k<n+m+1:=by omega
   obtain⟨x,C⟩:=a_ (atD D k);obtain⟨y,I⟩:=a_ (atD E k);have M:=q_ N.o.2;have V:=q_ (Z.o q k d);rw[C.o]at V;have a6:=N.o.1;subst a6;have e1:(0:Int)<=k:=by omega
   clear N hk;go_wp2_with fail;refine V.o.mono ?_;rintro e w2 ⟨rfl,T,X⟩;rw[World.drewN_drewN]at X;subst X;have J:=q_ (hB.o (q+T) k d);rw[I.o]at J;by_cases h1:x=y
   ·have HE:=q_ h1;have t1:((x:Int) != (y:Int))=false:=by rw[h1];exact bne_self_eq_false _
    have aa:IntKind.i64.wrap ((k:Int)-1)=(k:Int)-1:=YU _ (by omega);clear h1;go_wp2_with fail;refine J.o.mono ?_;rintro e w3 ⟨rfl,U,b⟩;rw[World.drewN_drewN]at b;subst b;go_wp2_with fail;go_roundw
    case measure=>first | (simp[intOf];done) | (simp[intOf];omega)
    case rel=>
     refine⟨k,(k:Int)-1,q+T+U,by omega,rfl,rfl,q_ ⟨rfl,λj a7 a3=>?_⟩⟩;by_cases e:j=k
     ·rw[e,C.o,I.o];exact HE.o
     ·exact M.o j (by have:=t.o;omega) a3
   ·have t1:((x:Int) != (y:Int))=true:=by rw[bne_iff_ne];omega
    go_wp2_with fail;refine J.o.mono ?_;rintro e w3 ⟨rfl,U,b⟩;rw[World.drewN_drewN]at b;subst b;have W:=q_ (Z.o (q+T+U) k d);rw[C.o]at W;go_wp2_with fail;refine W.o.mono ?_;rintro e w4 ⟨rfl,q3,Y⟩;rw[World.drewN_drewN]at Y;subst Y;have L:=q_ (hB.o (q+T+U+q3) k d);rw[I.o]at L;by_cases h2:x<y
    ·have g1:(x:Int)<(y:Int):=by omega
     have z:=q_ (show (-1:Int)=r from by rw[<-O.o,<-h.o,<-p.o];have:=I5_ (f:=atD D) (g:=atD E) (n:=n+m+1) (i:=k) (λj _=>by have:=a0.o j;show _<10;omega) (by have:=t.o;omega) (λj h1 h2=>M.o j (by have:=t.o;omega) h2) (by rw[C.o,I.o];exact h2);unfold jx_;rw[iP_ this]);clear h1 h2;go_wp2_with fail;refine L.o.mono ?_;rintro e w5 ⟨rfl,q4,c⟩;rw[World.drewN_drewN]at c;subst c;go_wp2_with fail;go_ret;exact⟨congrArg (λv=>Ending.returned (Value.int IntKind.i64 v)) z.o,_,rfl⟩
    ·have g1:¬(x:Int)<(y:Int):=by omega
     have z:=q_ (show (1:Int)=r from by rw[<-O.o,<-h.o,<-p.o];have:=I5_ (f:=atD E) (g:=atD D) (n:=n+m+1) (i:=k) (λj _=>by have:=a1.o j;show _<10;omega) (by have:=t.o;omega) (λj h1 h2=>(M.o j (by have:=t.o;omega) h2).symm) (by rw[C.o,I.o];omega);unfold jx_;rw[iN_ (by omega),iP_ this]);clear h1 h2;go_wp2_with fail;refine L.o.mono ?_;rintro e w5 ⟨rfl,q4,c⟩;rw[World.drewN_drewN]at c;subst c;go_wp2_with fail;go_ret;exact⟨congrArg (λv=>Ending.returned (Value.int IntKind.i64 v)) z.o,_,rfl⟩
  ·have h0:i=0:=by omega
   have a4:v = -1:=by have:=HV.o;omega
   subst a4;have z:=q_ (show (0:Int)=r from by rw[<-O.o,<-h.o,<-p.o];have h1:=mb_ (f:=atD D) (g:=atD E) (n:=n+m+1) (λj hj=>N.o.2 j (by omega) hj);unfold jx_;rw[h1,iN_ (Nat.lt_irrefl _),iN_ (Nat.lt_irrefl _)]);have a2:=q_ N.o.1;go_wp2_with fail;go_ret;exact⟨congrArg (λv=>Ending.returned (Value.int IntKind.i64 v)) z.o,q,a2.o⟩
def cs_ (O:List Nat):List XJ:=O.map λ(x:Nat)=>Value.int QU (x:Int)
theorem lf_ {O:List Nat} {x i:Nat}:atD (O++[x]) i=if i<O.length then atD O i else if i=O.length then x else 0:=by
 unfold atD;by_cases h:i<O.length
 ·rw[iP_ h,List.getElem?_append_left h]
 ·rw[iN_ h,List.getElem?_append_right (by omega)];by_cases h2:i=O.length
  ·rw[iP_ h2,h2,Nat.sub_self];rfl
  ·rw[iN_ h2];obtain⟨k,b⟩:∃k,i-O.length=k+1:=⟨i-O.length-1,by omega⟩;rw[b];rfl
theorem I4_ {O:List Nat} {x:Nat}:pt (atD (O++[x])) O.length=pt (atD O) O.length:=mb_ λi hi=>by rw[lf_,iP_ hi]
def M9_ (D E:List Nat) (w:QV) (e:Ending) (w':QV):Prop:=∃(O:List Nat) (s:XJ),e = YQ s/\XW w.heap.size w w'/\w'.ownsRow 0 3 1 s O.length (cs_ O)/\(∀i,atD O i<=9)/\av_ O=av_ D+av_ E/\O.length<=D.length+E.length+1/\∀g,s.ownBlock=QJ g->w.heap.size<=g
theorem Jb_ (D E:List Nat) (hD:D.length<=10000000) (hE:E.length<=10000000) (hd:∀i,atD D i<=9) (he:∀i,atD E i<=9) (A B:Option Addr) (ca cb:Nat) (w:QV) (h1:ac_ w A D) (h2:ac_ w B E) :
    Calls QW 291 #[QQ A D.length ca,QQ B E.length cb] w (M9_ D E w):=by
 have H1:=q_ h1;have H2:=q_ h2;have ao:=q_ hd;have ap:=q_ he;obtain⟨n,Hn⟩:=a_ D.length;obtain⟨m,Hm⟩:=a_ E.length;have hA:=q_ (λ(W:QV) (hW:XW w.heap.size w W) (i:Nat) (hi:i<=4000000000000)=>in_ D A ca i hi W (H1.o.under hW));have hB:=q_ (λ(W:QV) (hW:XW w.heap.size w W) (i:Nat) (hi:i<=4000000000000)=>in_ E B cb i hi W (H2.o.under hW));rw[Hn.o]at hA hD ⊢;rw[Hm.o]at hB hE ⊢;clear h1 h2 hd he;go_enter func291,ntmps291
 go_wp2_with fail;go_loopw [5,6,7] (λs5 s6 s7 wx=>∃(i c:Nat),i<=n+m+1/\c<=1/\s6 = QY QU (c:Nat)/\s7 = QY QU (i:Nat)/\Q_ ((n<=i->m<=i->0<c->i<=n+m)/\∃O:List Nat,O.length=i/\wx.ownsRow 0 3 1 s5 i (cs_ O)/\XW w.heap.size w wx/\(∀i,atD O i<=9)/\pt (atD O) i+c*bT ^ i=pt (atD D) i+pt (atD E) i/\∀g,s5.ownBlock=QJ g->w.heap.size<=g)) (λ_ _ s7 _=>n+m+2-(intOf s7).toNat)
 case atStart=>exact⟨0,0,by omega,by omega,rfl,rfl,q_ ⟨λ_ _ h=>by omega,[],rfl,World.ownsRow_nil ..,XV _ _,λi=>Nat.zero_le _,by simp[pt],λg b=>by cases b⟩⟩
 case round=>
  obtain⟨i,c,hi,hc,rfl,rfl,hM⟩:=hrel;obtain⟨a3,O,af,C,hB,ae,aj,a4⟩:=hM.o;have HO:=q_ (And.intro af (And.intro ae (And.intro aj a4)));have N:=q_ C;have p:=q_ hB;have am:=q_ a3;obtain⟨Ao,co,az⟩:=cp_ C;subst az;clear hM a3 af C hB ae aj a4;obtain⟨J,t⟩:=a_ (decide (i<n\/i<m\/0<c));go_upto_region 4 with fail;go_cut [22] (λb0 wx=>b0 = XY J/\wx=wr)
  case first=>
   by_cases Y:i<n
   ·have e1:(i:Int)<(n:Int):=by omega
    have b:=q_ (show J=true from by rw[<-t.o];exact dT_ (.inl Y));clear Y;go_wp2_with fail;go_meet;exact⟨by rw[b.o],rfl⟩
   ·have e1:¬(i:Int)<(n:Int):=by omega
    by_cases a1:i<m
    ·have e2:(i:Int)<(m:Int):=by omega
     have b:=q_ (show J=true from by rw[<-t.o];exact dT_ (.inr (.inl a1)));clear Y a1;go_wp2_with fail;go_meet;exact⟨by rw[b.o],rfl⟩
    ·have e2:¬(i:Int)<(m:Int):=by omega
     by_cases Z:0<c
     ·have e3:(0:Int)<(c:Int):=by omega
      have b:=q_ (show J=true from by rw[<-t.o];exact dT_ (.inr (.inr Z)));have L:=q_ Z;clear Y a1 Z;go_wp2_with fail;go_meet;exact⟨congrArg Value.bool ((dT_ L.o).trans b.o.symm),rfl⟩
     ·have e3:¬(0:Int)<(c:Int):=by omega
      have b:=q_ (show J=false from by rw[<-t.o];exact dF_ (by omega));have L:=q_ Z;clear Y a1 Z;go_wp2_with fail;go_meet;exact⟨congrArg Value.bool ((dF_ L.o).trans b.o.symm),rfl⟩
  case rest=>
   obtain⟨ab,rfl⟩:=hcut
   cases J with
   | true=>
    subst ab;have I:=q_ (of_decide_eq_true t.o)
    have b2:i<=n+m:=by
     have h1:=I.o;have h2:=am.o;rcases h1 with h1 | h1 | h1
     ·omega
     ·omega
     ·by_cases h3:n<=i
      ·by_cases h4:m<=i
       ·exact h2 h3 h4 h1
       ·omega
      ·omega
    obtain⟨x,U⟩:=a_ (atD D i);obtain⟨y,V⟩:=a_ (atD E i);have b4:x<=9:=by rw[<-U.o];exact ao.o i
    have b6:y<=9:=by rw[<-V.o];exact ap.o i
    obtain⟨S1,aa⟩:=a_ (x+y);obtain⟨X,v⟩:=a_ (x+y+c);obtain⟨d,Hd⟩:=a_ ((x+y+c) % 10);obtain⟨q,T⟩:=a_ ((x+y+c) / 10);have ay:q<=1:=by rw[<-T.o];omega
    have aw:d<=9:=by rw[<-Hd.o];omega
    have w1:IntKind.i64.wrap ((x:Int)+(y:Int))=(S1:Int):=by rw[YU _ (by omega),<-aa.o];rfl
    have w2:IntKind.i64.wrap ((S1:Int)+(c:Int))=(X:Int):=by rw[<-aa.o,<-v.o,YU _ (by omega)];rfl
    have r1:Int.tmod (X:Int) 10=(d:Int):=by rw[<-Hd.o,<-v.o];rfl
    have r2:Int.tdiv (X:Int) 10=(q:Int):=by rw[<-T.o,<-v.o];rfl
    have r3:(X:Int) % 10=(d:Int):=by rw[<-Hd.o,<-v.o];rfl
    have r4:(X:Int) / 10=(q:Int):=by rw[<-T.o,<-v.o];rfl
    have w3:IntKind.i64.wrap (q:Int)=(q:Int):=YU _ (by omega);have w4:IntKind.i64.wrap (d:Int)=(d:Int):=YU _ (by omega);have w5:IntKind.i64.wrap ((i:Int)+1)=(i:Int)+1:=YU _ (by omega);have ac:=q_ (hA.o wc p.o i (by omega));rw[U.o]at ac;go_wp2_with fail;refine ac.o.mono ?_;rintro e a7 ⟨rfl,q1,a5⟩;have r:=q_ (show XW w.heap.size w a7 from by rw[a5];exact⟨p.o.os,p.o.tape,p.o.output,p.o.size,p.o.block⟩);have a8:=q_ (show a7.ownsRow 0 3 1 (QQ Ao i co) i (cs_ O) from by rw[a5];exact N.o);have ad:=q_ (hB.o a7 r.o i (by omega));rw[V.o]at ad;clear a5;go_wp2_with fail;refine ad.o.mono ?_;rintro e ak ⟨rfl,q2,a6⟩;have M:=q_ (show XW w.heap.size w ak from by rw[a6];exact⟨r.o.os,r.o.tape,r.o.output,r.o.size,r.o.block⟩);have a9:=q_ (show ak.ownsRow 0 3 1 (QQ Ao i co) i (cs_ O) from by rw[a6];exact a8.o);clear a6;go_wp2_with (at_builtin;refine c5_ rfl _ _ 94 rfl 0 3 (QY QU 0) 1 8 underlying94 jh_ rfl (by decide) (QQ Ao i co) i (cs_ O) rfl a9.o (Nat.zero_le _) #[QY QU (d:Int)] 1 1 rfl rfl (l2_ _ _) (by omega) (by omega) (by decide) ?_;intro g4 b1 b7 ai ag ah;have au:=q_ ai;have aq:=q_ ag;have ar:=q_ ah;clear ai ag ah)
    go_roundw
    case measure=>simp[intOf];omega
    case rel=>
     obtain⟨z,k2,k3,k4⟩:=HO.o;refine⟨i+1,q,by omega,ay,rfl,by go_num,q_ ⟨λh1 h2 h3=>?_,O++[d],by rw[ZZ,z];rfl,?_,?_,λj=>?_,?_,λg b=>?_⟩⟩
     ·rcases I.o with h4 | h4 | h4
      ·omega
      ·omega
      ·by_cases h5:i<n
       ·omega
       ·by_cases h6:i<m
        ·omega
        ·have b3:x=0:=by rw[<-U.o];exact uh_ (by rw[Hn.o];omega)
         have b5:y=0:=by rw[<-V.o];exact uh_ (by rw[Hm.o];omega)
         have:q=0:=by rw[<-T.o];omega
         omega
     ·have:=au.o;unfold cs_;rw[List.map_append];exact this
     ·exact M.o.grown aq.o M.o.size λk hk=>k4 k hk
     ·rw[lf_,z];split
      ·exact k2 j
      ·split
       ·exact aw
       ·exact Nat.zero_le _
     ·have hp:=Nz_ (f:=atD D) (g:=atD E) (o:=atD (O++[d])) (i:=i) (c:=c) (by rw[<-k3,show pt (atD (O++[d])) i=pt (atD O) i from by rw[<-z];exact I4_]) (by rw[lf_,iN_ (by omega),iP_ z.symm,U.o,V.o];exact Hd.o.symm);rw[U.o,V.o,show (x+y+c) / bT=q from T.o]at hp;exact hp
     ·injection b with b;rcases ar.o with h1 | h1
      ·have:=k4 _ h1;have e4:g4=g:=b;omega
      ·have e4:g4=g:=b;have:=M.o.size;omega
   | false=>
    subst ab;have I:=q_ (of_decide_eq_false t.o);go_wp2_with fail;go_ret;obtain⟨z,k2,k3,k4⟩:=HO.o;have h1:=I.o;refine⟨O,_,rfl,p.o,by rw[z];exact N.o,k2,?_,by rw[z,Hn.o,Hm.o];omega,k4⟩;have av:c=0:=by omega
    rw[av,Nat.zero_mul,Nat.add_zero,ij_ (by rw[z];exact XK _),ij_ (by rw[Hn.o];omega),ij_ (by rw[Hm.o];omega)]at k3;exact k3
theorem N0_ {f:Nat->Nat} {n m:Nat} (h:pt f (n+m)<bT ^ n):pt f (n+m)=pt f n:=by
 induction m with
 | zero=>rfl
 | succ m b=>
  rw[<-Nat.add_assoc,pt]at h ⊢
  have h0:f (n+m)=0:=by
   rcases Nat.eq_zero_or_pos (f (n+m)) with h1 | h1
   ·exact h1
   ·have h2:1*bT ^ (n+m)<=f (n+m)*bT ^ (n+m):=Nat.mul_le_mul_right _ h1;have c:bT ^ n<=bT ^ (n+m):=Nat.pow_le_pow_right (by decide) (by omega);omega
  rw[h0,Nat.zero_mul,Nat.add_zero]at h ⊢;exact b h
theorem Nc_ {D:List Nat} (h:∀i,atD D i<=9):av_ D<bT ^ D.length:=I6_ λi _=>by have:=h i;show _<10;omega
def Na_ (D E:List Nat) (w:QV) (e:Ending) (w':QV):Prop:=∃(O:List Nat) (s:XJ),e = YQ s/\XW w.heap.size w w'/\w'.ownsRow 0 3 1 s O.length (cs_ O)/\(∀i,atD O i<=9)/\av_ O=av_ D-av_ E/\O.length=D.length/\∀g,s.ownBlock=QJ g->w.heap.size<=g
theorem yk_ (D E:List Nat) (hD:D.length<=10000000) (aw:E.length<=10000000) (hd:∀i,atD D i<=9) (he:∀i,atD E i<=9) (ah:av_ E<=av_ D) (A B:Option Addr) (ca cb:Nat) (w:QV) (h1:ac_ w A D) (h2:ac_ w B E) :
    Calls QW 293 #[QQ A D.length ca,QQ B E.length cb] w (Na_ D E w):=by
 have H1:=q_ h1;have H2:=q_ h2;have ak:=q_ hd;have ao:=q_ he;have Z:=q_ (show pt (atD E) D.length=av_ E from by have h3:pt (atD E) (D.length+E.length)=av_ E:=ij_ (by omega);rw[<-h3];exact (N0_ (by rw[h3];exact Nat.lt_of_le_of_lt ah (Nc_ hd))).symm);obtain⟨n,Hn⟩:=a_ D.length;obtain⟨m,Hm⟩:=a_ E.length;have hB:=q_ (λ(W:QV) (T:XW w.heap.size w W) (i:Nat) (hi:i<=4000000000000)=>in_ E B cb i hi W (H2.o.under T));have aj:=q_ (λ(W:QV) (T:XW w.heap.size w W)=>H1.o.under T);rw[Hn.o]at hD Z ⊢;rw[Hm.o]at hB ⊢;clear h1 h2 hd he;go_enter func293,ntmps293
 go_wp2_with fail;go_loopw [5,6,7] (λs5 s6 s7 wx=>∃(i c:Nat),i<=n/\c<=1/\s6 = QY QU (c:Nat)/\s7 = QY QU (i:Nat)/\Q_ (∃O:List Nat,O.length=i/\wx.ownsRow 0 3 1 s5 i (cs_ O)/\XW w.heap.size w wx/\(∀i,atD O i<=9)/\pt (atD O) i+pt (atD E) i=pt (atD D) i+c*bT ^ i/\∀g,s5.ownBlock=QJ g->w.heap.size<=g)) (λ_ _ s7 _=>n-(intOf s7).toNat)
 case atStart=>exact⟨0,0,by omega,by omega,rfl,rfl,q_ ⟨[],rfl,World.ownsRow_nil ..,XV _ _,λi=>Nat.zero_le _,by simp[pt],λg hg=>by cases hg⟩⟩
 case round=>
  obtain⟨i,c,hi,hc,rfl,rfl,hM⟩:=hrel;obtain⟨O,af,U,ac,ae,ai,a8⟩:=hM.o;have HO:=q_ (And.intro af (And.intro ae (And.intro ai a8)));have N:=q_ U;have e:=q_ ac;obtain⟨X,Y,au⟩:=cp_ U;subst au;clear hM af U ac ae ai a8;by_cases ar:i<n
  ·obtain⟨x,hx⟩:∃x,D[i]?=QJ x:=⟨D[i]'(by rw[Hn.o];exact ar),XQ _⟩;obtain⟨ad,rfl,_,q0⟩:=aj.o wr e.o i x hx;have Hx:=q_ (show atD D i=x from by unfold atD;rw[hx];rfl);obtain⟨y,Hy⟩:=a_ (atD E i);have ay:x<=9:=by rw[<-Hx.o];exact ak.o i
   have az:y<=9:=by rw[<-Hy.o];exact ao.o i
   obtain⟨S1,a4⟩:∃S1:Int,Q_ ((x:Int)-(y:Int)=S1):=⟨_,q_ rfl⟩;obtain⟨r,aa⟩:∃r:Int,Q_ (S1-(c:Int)=r):=⟨_,q_ rfl⟩;have w1:IntKind.i64.wrap ((x:Int)-(y:Int))=S1:=by rw[YU _ (by omega)];exact a4.o
   have w2:IntKind.i64.wrap (S1-(c:Int))=r:=by rw[YU _ (by have:=a4.o;omega)];exact aa.o
   have w5:IntKind.i64.wrap ((i:Int)+1)=(i:Int)+1:=YU _ (by omega);have a6:=q_ (λ(q:Nat)=>hB.o (wr.drewN q) ⟨e.o.os,e.o.tape,e.o.output,e.o.size,e.o.block⟩ i (by omega));rw[Hy.o]at a6;have e1:(0:Int)<=i:=by omega
   have e2:(i:Int)<n:=by omega
   obtain⟨d,Hd⟩:=a_ ((x+10-y-c) % 10);obtain⟨q,Hq⟩:=a_ (1-(x+10-y-c) / 10);have h:=q_ (show r=(x:Int)-y-c from by rw[<-aa.o,<-a4.o]);clear hx
   have V:=q_ (λ(W W4:QV) (g4 p:Nat) (T:XW w.heap.size w W) (ho:W4.ownsRow 0 3 1 (QQ (QJ ⟨g4,0,QK⟩) (i+1) p) (i+1) (cs_ O++#[Value.int QU (d:Int)].toList)) (hg:W.grownBy W4 (Value.slice X i Y).ownBlock) (hl:(Value.slice X i Y).ownBlock=QJ g4\/W.heap.size<=g4)=>(show ∃O:List Nat,O.length=i+1/\W4.ownsRow 0 3 1 (QQ (QJ ⟨g4,0,QK⟩) (i+1) p) (i+1) (cs_ O)/\XW w.heap.size w W4/\(∀i,atD O i<=9)/\pt (atD O) (i+1)+pt (atD E) (i+1)=pt (atD D) (i+1)+q*bT ^ (i+1)/\∀g,(Value.slice (QJ ⟨g4,0,QK⟩) (i+1) p).ownBlock=QJ g->w.heap.size<=g from by
    obtain⟨M,k2,k3,k4⟩:=HO.o;refine⟨O++[d],by rw[ZZ,M];rfl,?_,T.grown hg T.size (λk hk=>k4 k hk),λj=>?_,?_,λg aq=>?_⟩
    ·unfold cs_;rw[List.map_append];exact ho
    ·rw[lf_,M];split
     ·exact k2 j
     ·split
      ·rw[<-Hd.o];omega
      ·exact Nat.zero_le _
    ·have hp:=(N1_ (f:=atD D) (g:=atD E) (o:=atD (O++[d])) (i:=i) (b:=c) (by rw[<-k3,show pt (atD (O++[d])) i=pt (atD O) i from by rw[<-M];exact I4_]) (by rw[Hy.o];show y<10;omega) hc (by rw[Hx.o];show x<10;omega) (by rw[lf_,iN_ (by omega),iP_ M.symm,Hx.o,Hy.o];exact Hd.o.symm)).1;rw[Hx.o,Hy.o,show 1-(x+bT-y-c) / bT=q from Hq.o]at hp;exact hp
    ·have e4:g4=g:=by injection aq
     rcases hl with h1 | h1
     ·have:=k4 _ h1;omega
     ·have:=T.size;omega))
   by_cases av:r<0
   ·have z:r+10=(d:Int):=by have h1:=h.o;rw[<-Hd.o];omega
    have L:q=1:=by have h1:=h.o;rw[<-Hq.o];omega
    have HQ:=q_ L;have w6:IntKind.i64.wrap (r+10)=(d:Int):=by rw[YU _ (by have h1:=h.o;omega)];exact z
    clear z L;go_upto_region 6 with fail;go_quiet ((go_at_call 321;exact Calls.quiet_of (a6.o _)))
    have t:=q_ (show XW w.heap.size w (wr.drewN nq) from ⟨e.o.os,e.o.tape,e.o.output,e.o.size,e.o.block⟩);have v:=q_ (show (wr.drewN nq).ownsRow 0 3 1 (QQ X i Y) i (cs_ O) from N.o);obtain⟨wq,a5⟩:=a_ (wr.drewN nq);rw[a5.o]at t v ⊢;clear q0;go_wp2_with (at_builtin;refine c5_ rfl _ _ 94 rfl 0 3 (QY QU 0) 1 8 underlying94 jh_ rfl (by decide) (QQ X i Y) i (cs_ O) rfl v.o (Nat.zero_le _) #[QY QU (d:Int)] 1 1 rfl rfl (l2_ _ _) (by omega) (by omega) (by decide) ?_;intro g4 p a9 J C I;have a3:=q_ J;have a0:=q_ C;have a2:=q_ I;clear J C I)
    go_roundw
    case measure=>simp[intOf];omega
    case rel=>
     have h9:=V.o wq a9 g4 p t.o a3.o a0.o a2.o;rw[HQ.o]at h9;exact⟨i+1,1,by omega,by omega,rfl,by go_num,q_ h9⟩
   ·have z:r=(d:Int):=by have h1:=h.o;rw[<-Hd.o];omega
    have L:q=0:=by have h1:=h.o;rw[<-Hq.o];omega
    have HQ:=q_ L;have am:=q_ z;clear z L;go_upto_region 6 with fail;go_quiet ((go_at_call 321;exact Calls.quiet_of (a6.o _)))
    have t:=q_ (show XW w.heap.size w (wr.drewN nq) from ⟨e.o.os,e.o.tape,e.o.output,e.o.size,e.o.block⟩);have v:=q_ (show (wr.drewN nq).ownsRow 0 3 1 (QQ X i Y) i (cs_ O) from N.o);obtain⟨wq,a5⟩:=a_ (wr.drewN nq);rw[a5.o]at t v ⊢;clear q0;go_wp2_with (at_builtin;refine c5_ rfl _ _ 94 rfl 0 3 (QY QU 0) 1 8 underlying94 jh_ rfl (by decide) (QQ X i Y) i (cs_ O) rfl v.o (Nat.zero_le _) #[QY QU r] 1 1 rfl rfl (l2_ _ _) (by omega) (by omega) (by decide) ?_;intro g4 p a9 J C I;have a3:=q_ J;have a0:=q_ C;have a2:=q_ I;clear J C I)
    go_roundw
    case measure=>simp[intOf];omega
    case rel=>
     have h9:=V.o wq a9 g4 p t.o (by rw[<-am.o];exact a3.o) a0.o a2.o;rw[HQ.o]at h9;exact⟨i+1,0,by omega,by omega,rfl,by go_num,q_ h9⟩
  ·have ag:i=n:=by omega
   have a1:=q_ ag;clear ag;go_wp2_with fail;go_ret;obtain⟨M,k2,k3,k4⟩:=HO.o;refine⟨O,_,rfl,e.o,by rw[M];exact N.o,k2,?_,by rw[M,Hn.o];exact a1.o,k4⟩;have ab:pt (atD D) n=av_ D:=ij_ (by rw[Hn.o];exact XK _);have ap:pt (atD O) n=av_ O:=ij_ (by rw[M,a1.o];exact XK _);rw[a1.o]at k3;have a7:=Av_ k3 (λj _=>by have:=k2 j;show _<10;omega) (by rw[Z.o,ab];exact ah);rw[ap,ab,Z.o]at a7;exact a7
theorem I7_ {f:Nat->Nat} {k:Nat}:∀n,pt (λi=>if i<k then 0 else f (i-k)) (k+n)=pt f n*bT ^ k:=by
 intro n;induction n with
 | zero=>
  rw[Nat.add_zero,pt,Nat.zero_mul];have:pt (λi=>if i<k then 0 else f (i-k)) k=pt (λ_=>0) k:=mb_ λi hi=>iP_ hi
  rw[this];clear this;induction k with
  | zero=>rfl
  | succ k b=>rw[pt,b,Nat.zero_mul]
 | succ n b=>
  rw[<-Nat.add_assoc,pt,b,iN_ (by omega),Nat.add_sub_cancel_left,pt,Nat.add_mul,Nat.mul_assoc,<-Nat.pow_add,Nat.add_comm n k]
theorem Bl_ (D:List Nat) (k i:Nat):atD (List.replicate k 0++D) i=if i<k then 0 else atD D (i-k):=by
 unfold atD;by_cases h:i<k
 ·rw[iP_ h,List.getElem?_append_left (by rw[List.length_replicate];exact h),List.getElem?_replicate,iP_ h];rfl
 ·rw[iN_ h,List.getElem?_append_right (by rw[List.length_replicate];omega),List.length_replicate]
theorem Bk_ (D:List Nat) (k:Nat):av_ (List.replicate k 0++D)=av_ D*bT ^ k:=by unfold av_;rw[ZZ,List.length_replicate,<-I7_];exact mb_ λi _=>Bl_ D k i
def F2_ (D:List Nat) (k:Nat) (w:QV) (e:Ending) (w':QV):Prop:=∃s,e = YQ s/\XW w.heap.size w w'/\w'.ownsRow 0 3 1 s (k+D.length) (cs_ (List.replicate k 0++D))/\∀g,s.ownBlock=QJ g->w.heap.size<=g
theorem rc_ (B:Bool) (D:List Nat) (S k:Nat) (N:0<D.length) (hD:D.length<=1000000) (a3:S<=1000000) (hk:k<=1000000) (A:Option Addr) (f:Nat) (w:QV) (h:ac_ w A D) :
    Calls QW 290 #[.agg #[XY B,QQ A D.length f,QY QU (S:Int)],QY QU ((S+k:Nat):Int)] w (F2_ D k w):=by
 obtain⟨n,Y⟩:=a_ D.length;obtain⟨z,t⟩:=a_ w.heap.size;obtain⟨ad,Z,_,_⟩:=h 0 _ (XQ N);subst Z
 have c:∀i u,(cs_ D)[i]?=QJ u->w.cell? (ad.add i)=QJ u/\(ad.add i).block<w.heap.size:=λi u b=>by
  unfold cs_ at b;rw[List.getElem?_map]at b
  cases hx:D[i]? with
  | none=>rw[hx]at b;cases b
  | some x=>
   rw[hx]at b;simp only[Option.map_some,Option.some.injEq]at b;obtain⟨a2,Z,h1,h2⟩:=h i x hx;obtain rfl:ad=a2:=by injection Z
   subst b;exact⟨h2,h1⟩
 rw[Y.o]at N hD ⊢;obtain⟨e,r⟩:=a_ (w.alloc (XX #[XY B,QQ (some ad) n f,QY QU (S:Int)] 277));have d:=q_ (show XW w.heap.size w e from by rw[<-r.o];exact (XV _ _).alloc (XK _) _);have q:=q_ (show e.heap[z]?=some (XX #[XY B,QQ (some ad) n f,QY QU (S:Int)] 277 (0,0)) from by rw[<-r.o,<-t.o];exact XU w _);obtain⟨i0,T,V,W,X⟩:=info_parts jh_;obtain⟨I,y,v,p⟩:=run_makeSlice_full (P:=QW) (w:=e) z 94 3 i0 (QY QU 0) 1 underlying94 T V W QU QU k (by omega) (by rw[X];omega) (by unfold maxLen;omega) (by rw[<-t.o];exact d.o.size);have L:=q_ (show I.ownsRow z 3 1 (QQ (some ⟨e.heap.size,0,none⟩) k k) k (List.replicate k (Value.int QU 0)) from by have h1:=v;rw[Nat.mul_one,show (Value.int IntKind.i64 0).cells=#[Value.int IntKind.i64 0] from rfl,toList_madeCells_one]at h1;exact h1);have m:=q_ (show XW e.heap.size e I from (XV _ e).grown p (XK _) (λk hk=>by cases hk));have C:=q_ (λ(j:Nat) (u:XJ) (b:(cs_ D)[j]?=some u)=>(show I.cell? (ad.add j)=some u from (m.o.cell (XZ (c j u b).2 d.o.size)).trans ((d.o.cell (c j u b).2).trans (c j u b).1)));have a1:=q_ ((m.o.block z (b_ q.o)).trans q.o);obtain⟨zm,M⟩:=a_ e.heap.size;rw[M.o]at y L;have c2:e.cell? ⟨z,2,none⟩=some (QY QU (S:Int)):=QX q.o 2;have d1:I.cell? ⟨z,1,none⟩=some (QQ (some ad) n f):=QX a1.o 1;have w0:IntKind.i64.wrap (((S+k:Nat):Int)-(S:Int))=(k:Int):=by rw[YU _ (by omega)];omega
 have a5:IntKind.i64.wrap ((S:Int)+(k:Int)-(S:Int))=(k:Int):=by rw[YU _ (by omega)];omega
 clear v p c h;go_enter func290,ntmps290
 go_upto_region 1 with fail;rw[r.o,t.o];go_upto_region 2 with fail;clear c2 y;go_wp2_with (at_builtin;refine wpList_append_own _ rfl _ _ 94 rfl z 3 i0 (QY QU 0) 1 8 underlying94 T V W X rfl (by decide) (QQ (QJ ⟨zm,0,QK⟩) k k) k (List.replicate k (Value.int QU 0)) rfl L.o ad n f (cs_ D) rfl (by unfold cs_;rw[List.length_map,Y.o,Nat.mul_one]) C.o (λu b=>by unfold cs_ at b;obtain⟨x,_,rfl⟩:=List.mem_map.1 b;rfl) (by unfold maxLen;omega) (by omega) (by rw[<-t.o];exact ZX d.o.size m.o.size) ?_;intro v' w4 U O _;have J:=q_ U;have a0:=q_ O;clear U O)
 go_ret;have a4:w.heap.size<=zm:=by rw[<-M.o];exact d.o.size
 refine⟨v',rfl,?_,?_,?_⟩
 ·have h1:=d.o.trans (m.o.mono d.o.size);exact h1.grown a0.o h1.size (λg hg=>by simp[Value.ownBlock]at hg;omega)
 ·rw[Y.o];have h1:=l7_ J.o (Nat.zero_le _);unfold cs_ at h1 ⊢;rw[List.map_append,List.map_replicate];exact h1
 ·exact λg hg=>by rw[t.o];exact (J.o.lt g hg).1
theorem a1_ {w w':QV} (h:XW w.drew.heap.size w.drew w'):XW w.heap.size w w':=⟨h.os,h.tape,h.output,h.size,h.block⟩
theorem Gd_ {b:Nat} {w w':QV} (h:XW b w w') (m:Nat):XW b w (w'.drewN m):=⟨h.os,h.tape,h.output,h.size,h.block⟩
def sgV (b:Bool) (n:Nat):Int:=cond b (-(n:Int)) (n:Int)
theorem xv_ {D:List Nat} (h:∀i,atD D i<=9) (k:Nat):∀i,atD (List.replicate k 0++D) i<=9:=λi=>by
 rw[Bl_];split
 ·exact Nat.zero_le _
 ·exact h _
theorem iw_ {w:QV} {s:XJ} {O:List Nat} (h:w.ownsRow 0 3 1 s O.length (cs_ O)):∃A b,s = QQ A O.length b/\ac_ w A O:=by obtain⟨A,b,rfl⟩:=cp_ h;exact⟨A,b,rfl,xh_ (D:=O) (cp:=b) h⟩
def Bh_ (d:Bool) (b:Nat) (f:Bool) (c:Nat) (w:QV) (e:Ending) (w':QV):Prop:=
 ∃(ng:Bool) (O:List Nat) (s:XJ) (sc:Int),e = YQ (.agg #[XY ng,s,QY QU sc])/\XW w.heap.size w w'/\w'.ownsRow 0 3 1 s O.length (cs_ O)/\(∀i,atD O i<=9)/\O.length<=10000000/\sgV ng (av_ O)=sgV d b+sgV f c
theorem Ep_ (f q:Bool) (D E:List Nat) (J I:Nat) (bl:0<D.length) (bm:0<E.length) (hD:D.length<=100000) (hE:E.length<=100000) (bn:J<=100000) (bo:I<=100000) (hd:∀i,atD D i<=9) (he:∀i,atD E i<=9) (A B:Option Addr) (ca cb:Nat) (w:QV) (h1:ac_ w A D) (h2:ac_ w B E) :
    Calls QW 252 #[.agg #[XY f,QQ A D.length ca,QY QU (J:Int)],.agg #[XY q,QQ B E.length cb,QY QU (I:Int)]] w (Bh_ f (av_ D*bT ^ (max J I-J)) q (av_ E*bT ^ (max J I-I)) w):=by
 have H1:=q_ h1;have H2:=q_ h2;have bi:=q_ hd;have bj:=q_ he;obtain⟨j,a8⟩:=a_ (max J I);obtain⟨k1,bb⟩:=a_ (j-J);obtain⟨k2,bc⟩:=a_ (j-I);rw[a8.o,bb.o,bc.o]
 have b7:=q_ (show j=J+k1 from by rw[<-bb.o];have:J<=j:=by rw[<-a8.o];exact Nat.le_max_left _ _
                                  omega)
 have b8:=q_ (show j=I+k2 from by rw[<-bc.o];have:I<=j:=by rw[<-a8.o];exact Nat.le_max_right _ _
                                  omega)
 have br:j<=100000:=by rw[<-a8.o];exact Nat.max_le.2 ⟨bn,bo⟩
 have bs:k1<=100000:=by have:=b7.o;omega
 have bt:k2<=100000:=by have:=b8.o;omega
 have b5:=q_ (λ(W:QV) (hW:XW w.heap.size w W)=>rc_ f D J k1 bl (by omega) (by omega) (by omega) A ca W (H1.o.under hW));have b6:=q_ (λ(W:QV) (hW:XW w.heap.size w W)=>rc_ q E I k2 bm (by omega) (by omega) (by omega) B cb W (H2.o.under hW));rw[<-b7.o]at b5;rw[<-b8.o]at b6;obtain⟨n,Hn⟩:=a_ D.length;obtain⟨m,Hm⟩:=a_ E.length;rw[Hn.o]at b5 hD ⊢;rw[Hm.o]at b6 hE ⊢;obtain⟨z,Hz⟩:=a_ w.heap.size;obtain⟨w1,ac⟩:=a_ (((w.alloc (XX #[XY f,QQ A n ca,QY QU (J:Int)] 277)).alloc (XX #[XY q,QQ B m cb,QY QU (I:Int)] 277)).alloc (XX #[XY false,QQ QK 0 0,QY QU 0] 277));have L:=q_ (show XW w.heap.size w w1 from by rw[<-ac.o];exact (F_ w _ _).alloc (by simp;omega) _);have ae:=q_ (show w1.heap[z]?=QJ (XX #[XY f,QQ A n ca,QY QU (J:Int)] 277 (0,0)) from by rw[<-ac.o,<-Hz.o,Below.heap_alloc _ _ _ (by simp;omega),Below.heap_alloc _ _ _ (by simp)];exact XU w _);have ay:=q_ (show w1.heap[z+1]?=QJ (XX #[XY q,QQ B m cb,QY QU (I:Int)] 277 (0,0)) from by rw[<-ac.o,<-Hz.o,Below.heap_alloc _ _ _ (by simp)];have:=XU (w.alloc (XX #[XY f,QQ A n ca,QY QU (J:Int)] 277)) (XX #[XY q,QQ B m cb,QY QU (I:Int)] 277);simpa using this);have ba:=q_ (show w1.heap[z+2]?=QJ (XX #[XY false,QQ QK 0 0,QY QU 0] 277 (0,0)) from by rw[<-ac.o,<-Hz.o];have:=XU ((w.alloc (XX #[XY f,QQ A n ca,QY QU (J:Int)] 277)).alloc (XX #[XY q,QQ B m cb,QY QU (I:Int)] 277)) (XX #[XY false,QQ QK 0 0,QY QU 0] 277);simpa using this);have a7:=q_ (λ(W:QV) (hW:XW w1.heap.size w1 W)=>And.intro ((hW.block z (b_ ae.o)).trans ae.o) (And.intro ((hW.block (z+1) (b_ ay.o)).trans ay.o) ((hW.block (z+2) (b_ ba.o)).trans ba.o)));have x0:w1.cell? ⟨z,0,QK⟩=QJ (XY f):=QX ae.o 0;have x1:w1.cell? ⟨z,1,QK⟩=QJ (QQ A n ca):=QX ae.o 1;have x2:w1.cell? ⟨z,2,QK⟩=QJ (QY QU (J:Int)):=QX ae.o 2;have y2:w1.cell? ⟨z+1,2,QK⟩=QJ (QY QU (I:Int)):=QX ay.o 2;clear h1 h2 hd he;go_enter func252,ntmps252
 go_upto_region 1 with fail;rw[ac.o,Hz.o];go_upto_if 13 with fail;go_cut [5] (λs5 wx=>s5 = QY QU (j:Int)/\wx=w1)
 case first=>
  by_cases N:J<I
  ·have e1:(J:Int)<(I:Int):=by omega
   have hm:=q_ (show (I:Int)=(j:Int) from by rw[<-a8.o,Nat.max_eq_right (by omega)]);clear N;go_wp2_with fail;go_meet;exact⟨by rw[hm.o],rfl⟩
  ·have e1:¬(J:Int)<(I:Int):=by omega
   have hm:=q_ (show (J:Int)=(j:Int) from by rw[<-a8.o,Nat.max_eq_left (by omega)]);clear N;go_wp2_with fail;go_meet;exact⟨by rw[hm.o],rfl⟩
 case rest=>
  obtain⟨h5,rfl⟩:=hcut;subst h5;go_wp2_with fail;refine (b5.o wc L.o).mono ?_;rintro e w3 ⟨s6,rfl,b1,b3,_⟩;obtain⟨X,HX⟩:=a_ (List.replicate k1 0++D);have az:X.length=k1+D.length:=by rw[<-HX.o,ZZ,List.length_replicate]
  rw[HX.o,<-az]at b3;obtain⟨A6,c6,rfl,bf⟩:=iw_ b3;have a5:=q_ (show X.length<=200000 from by rw[az,Hn.o];omega);have af:=q_ (show av_ X=av_ D*bT ^ k1 from by rw[<-HX.o];exact Bk_ D k1);have ai:=q_ (show ∀i,atD X i<=9 from by rw[<-HX.o];exact xv_ bi.o k1);have ao:=q_ b1;have bk:=q_ bf;have hy:=a7.o w3 b1;have y0:w3.cell? ⟨z+1,0,QK⟩=QJ (XY q):=QX hy.2.1 0;have y1:w3.cell? ⟨z+1,1,QK⟩=QJ (QQ B m cb):=QX hy.2.1 1;have bq:w3.cell? ⟨z+1,2,QK⟩=QJ (QY QU (I:Int)):=QX hy.2.1 2;clear b1 b3 bf az hy x0 x1 x2 y2;go_wp2_with fail;refine (b6.o w3 (L.o.trans (ao.o.mono L.o.size))).mono ?_;rintro e w4 ⟨s7,rfl,b2,b4,_⟩;obtain⟨Y,HY⟩:=a_ (List.replicate k2 0++E);have b0:Y.length=k2+E.length:=by rw[<-HY.o,ZZ,List.length_replicate]
  rw[HY.o,<-b0]at b4;obtain⟨A8,c8,rfl,bg⟩:=iw_ b4;have a6:=q_ (show Y.length<=200000 from by rw[b0,Hm.o];omega);have ag:=q_ (show av_ Y=av_ E*bT ^ k2 from by rw[<-HY.o];exact Bk_ E k2);have aj:=q_ (show ∀i,atD Y i<=9 from by rw[<-HY.o];exact xv_ bj.o k2);have T:=q_ (ao.o.trans (b2.mono ao.o.size));have aq:=q_ (bk.o.under b2);have au:=q_ bg;have hy:=a7.o w4 T.o;have u0:w4.cell? ⟨z,0,none⟩=some (XY f):=QX hy.1 0;have v0:w4.cell? ⟨z+1,0,none⟩=some (XY q):=QX hy.2.1 0;clear b2 b4 bg b0 hy y0 y1 bq;by_cases ak:f=q
  ·subst ak;have t1:(f==f)=true:=beq_self_eq_true _;have bh:=q_ (Jb_ X Y (by have:=a5.o;omega) (by have:=a6.o;omega) ai.o aj.o A6 A8 c6 c8 w4.drew aq.o au.o);have s1:=q_ (show w4.drew.cell? ⟨z,0,QK⟩=QJ (XY f) from u0);go_upto_region 7 with fail
   go_region_held3 (λW'=>W'.cell? ⟨z,0,QK⟩=QJ (XY f)) (first | exact s1.o | exact s2.o | exact s3.o | (trace_state;fail))
    (first
     | (go_at_call 291;(with_reducible refine bh.o.mono ?_);rintro e d ⟨O,s7,rfl,a3,C,a1,a2,a4,_⟩;obtain⟨t,x,rfl⟩:=cp_ C;obtain⟨y,a0⟩:=a_ O.length;rw[a0.o]at C ⊢;have M:=q_ (show XW wc.heap.size wc d from T.o.trans ((a1_ a3).mono T.o.size));have Z:=q_ C;have a9:=q_ a1;have aa:=q_ a2;have ab:=q_ a4;have c:=q_ (a7.o d M.o);have s2:=q_ (show d.cell? ⟨z,0,QK⟩=QJ (XY f) from QX c.o.1 0);have q0:d.cell? ⟨z+1+1,0,QK⟩=QJ (XY false):=QX c.o.2.2 0;have q1:d.cell? ⟨z+1+1,1,QK⟩=QJ (QQ QK 0 0):=QX c.o.2.2 1;have q2:d.cell? ⟨z+1+1,2,QK⟩=QJ (QY QU 0):=QX c.o.2.2 2;have f0:d.frozen? ⟨z+1+1,0,QK⟩=false:=YY c.o.2.2 0;have f1:d.frozen? ⟨z+1+1,1,QK⟩=false:=YY c.o.2.2 1;have f2:d.frozen? ⟨z+1+1,2,QK⟩=false:=YY c.o.2.2 2;have s3:=q_ (show (((d.setCell ⟨z+1+1,0,QK⟩ (XY f)).setCell ⟨z+1+1,1,QK⟩ (QQ t y x)).setCell ⟨z+1+1,2,QK⟩ (QY QU (j:Int))).cell? ⟨z,0,QK⟩=QJ (XY f) from by rw[World.cell?_setCell_far _ _ _ _ (by show z+1+1≠z;omega),World.cell?_setCell_far _ _ _ _ (by show z+1+1≠z;omega),World.cell?_setCell_far _ _ _ _ (by show z+1+1≠z;omega)];exact s2.o);clear a3 C a1 a2 a4))
   have U:=heap_setCell_same _ (z+1+1) 2 _ _ (QY QU (j:Int)) (heap_setCell_same _ (z+1+1) 1 _ _ (QQ t y x) (heap_setCell_same _ (z+1+1) 0 _ _ (XY f) c.o.2.2));have ht:=((((Turn.refl (λb=>b=z+2) d).setCell (p:=⟨z+1+1,0,QK⟩) (.inr rfl) (XY f)).setCell (p:=⟨z+1+1,1,QK⟩) (.inr rfl) (QQ t y x)).setCell (p:=⟨z+1+1,2,QK⟩) (.inr rfl) (QY QU (j:Int)));obtain⟨W9,ad⟩:=a_ (((d.setCell ⟨z+1+1,0,QK⟩ (XY f)).setCell ⟨z+1+1,1,QK⟩ (QQ t y x)).setCell ⟨z+1+1,2,QK⟩ (QY QU (j:Int)));rw[ad.o]at U ht ⊢;have r0:W9.cell? ⟨z+1+1,0,QK⟩=QJ (XY f):=QX U 0;have r1:W9.cell? ⟨z+1+1,1,QK⟩=QJ (QQ t y x):=QX U 1;have r2:W9.cell? ⟨z+1+1,2,QK⟩=QJ (QY QU (j:Int)):=QX U 2;go_wp2_with fail;refine ZV (v:=.agg #[XY f,QQ t y x,QY QU (j:Int)]) (by simp[results,results252,go_sem,r0,r1,r2]) rfl ⟨f,O,QQ t y x,j,rfl,?_,?_,a9.o,?_,?_⟩
   ·exact L.o.trans ((M.o.mono L.o.size).trans (ht.below (λb _ h=>by have:=Hz.o;omega) (ZX L.o.size M.o.size)))
   ·rw[a0.o]
    exact ht.owns Z.o (λg hg e=>by
     obtain⟨bd,k⟩:=ey_ Z.o hg;have e2:g=z+2:=e;rw[e2,show d.heap[z+2]?=_ from c.o.2.2]at k;injection k with k;injection k with _ V;revert V
     decide)
   ·have:=ab.o;have:=a5.o;have:=a6.o;omega
   ·rw[aa.o,af.o,ag.o]
    cases f<;>simp[sgV]<;>omega
  ·have t1:(f==q)=false:=bN_.2 ak;have b9:=q_ ak;have bp:=q_ (Jc_ X Y (by have:=a5.o;omega) (by have:=a6.o;omega) ai.o aj.o A6 A8 c6 c8 w4 aq.o au.o);obtain⟨r,Hr⟩:=a_ (jx_ (av_ X) (av_ Y));clear ak;go_wp2_with fail;refine bp.o.mono ?_;rintro e w5 ⟨rfl,q5,am⟩;have ap:=q_ (show XW wc.heap.size wc w5 from by rw[am];exact Gd_ T.o q5);have ar:=q_ (show ac_ w5 A6 X from by rw[am];exact aq.o);have av:=q_ (show ac_ w5 A8 Y from by rw[am];exact au.o);have hy:=a7.o w5 ap.o;have u5:w5.cell? ⟨z,0,none⟩=some (XY f):=QX hy.1 0;have v5:w5.cell? ⟨z+1,0,none⟩=some (XY q):=QX hy.2.1 0;rw[Hr.o];clear am hy u0 v0 T;have T:=q_ ap.o;by_cases N:av_ X<av_ Y
   ·have g0:r<0:=by rw[<-Hr.o];unfold jx_;rw[iP_ N];decide
    have aw:=q_ N;have ah:=q_ (yk_ Y X (by have:=a6.o;omega) (by have:=a5.o;omega) aj.o ai.o (Nat.le_of_lt N) A8 A6 c8 c6 w5.drew av.o ar.o);clear N;have s1:=q_ (show w5.drew.cell? ⟨z+1,0,QK⟩=QJ (XY q) from v5);go_upto_region 9 with fail
    go_region_held3 (λW'=>W'.cell? ⟨z+1,0,QK⟩=QJ (XY q)) (first | exact s1.o | exact s2.o | exact s3.o | (trace_state;fail))
     (first
      | (go_at_call 293;(with_reducible refine ah.o.mono ?_);rintro e d ⟨O,s7,rfl,a3,C,a1,a2,a4,_⟩;obtain⟨t,x,rfl⟩:=cp_ C;obtain⟨y,a0⟩:=a_ O.length;rw[a0.o]at C ⊢;have M:=q_ (show XW wc.heap.size wc d from T.o.trans ((a1_ a3).mono T.o.size));have Z:=q_ C;have a9:=q_ a1;have aa:=q_ a2;have ab:=q_ a4;have c:=q_ (a7.o d M.o);have s2:=q_ (show d.cell? ⟨z+1,0,QK⟩=QJ (XY q) from QX c.o.2.1 0);have q0:d.cell? ⟨z+1+1,0,QK⟩=QJ (XY false):=QX c.o.2.2 0;have q1:d.cell? ⟨z+1+1,1,QK⟩=QJ (QQ QK 0 0):=QX c.o.2.2 1;have q2:d.cell? ⟨z+1+1,2,QK⟩=QJ (QY QU 0):=QX c.o.2.2 2;have f0:d.frozen? ⟨z+1+1,0,QK⟩=false:=YY c.o.2.2 0;have f1:d.frozen? ⟨z+1+1,1,QK⟩=false:=YY c.o.2.2 1;have f2:d.frozen? ⟨z+1+1,2,QK⟩=false:=YY c.o.2.2 2;have s3:=q_ (show (((d.setCell ⟨z+1+1,0,QK⟩ (XY q)).setCell ⟨z+1+1,1,QK⟩ (QQ t y x)).setCell ⟨z+1+1,2,QK⟩ (QY QU (j:Int))).cell? ⟨z+1,0,QK⟩=QJ (XY q) from by rw[World.cell?_setCell_far _ _ _ _ (by show z+1+1≠z+1;omega),World.cell?_setCell_far _ _ _ _ (by show z+1+1≠z+1;omega),World.cell?_setCell_far _ _ _ _ (by show z+1+1≠z+1;omega)];exact s2.o);clear a3 C a1 a2 a4))
    have U:=heap_setCell_same _ (z+1+1) 2 _ _ (QY QU (j:Int)) (heap_setCell_same _ (z+1+1) 1 _ _ (QQ t y x) (heap_setCell_same _ (z+1+1) 0 _ _ (XY q) c.o.2.2));have ht:=((((Turn.refl (λb=>b=z+2) d).setCell (p:=⟨z+1+1,0,QK⟩) (.inr rfl) (XY q)).setCell (p:=⟨z+1+1,1,QK⟩) (.inr rfl) (QQ t y x)).setCell (p:=⟨z+1+1,2,QK⟩) (.inr rfl) (QY QU (j:Int)));obtain⟨W9,ad⟩:=a_ (((d.setCell ⟨z+1+1,0,QK⟩ (XY q)).setCell ⟨z+1+1,1,QK⟩ (QQ t y x)).setCell ⟨z+1+1,2,QK⟩ (QY QU (j:Int)));rw[ad.o]at U ht ⊢;have r0:W9.cell? ⟨z+1+1,0,QK⟩=QJ (XY q):=QX U 0;have r1:W9.cell? ⟨z+1+1,1,QK⟩=QJ (QQ t y x):=QX U 1;have r2:W9.cell? ⟨z+1+1,2,QK⟩=QJ (QY QU (j:Int)):=QX U 2;go_wp2_with fail;refine ZV (v:=.agg #[XY q,QQ t y x,QY QU (j:Int)]) (by simp[results,results252,go_sem,r0,r1,r2]) rfl ⟨q,O,QQ t y x,j,rfl,?_,?_,a9.o,?_,?_⟩
    ·exact L.o.trans ((M.o.mono L.o.size).trans (ht.below (λb _ h=>by have:=Hz.o;omega) (ZX L.o.size M.o.size)))
    ·rw[a0.o]
     exact ht.owns Z.o (λg hg e=>by
      obtain⟨bd,k⟩:=ey_ Z.o hg;have e2:g=z+2:=e;rw[e2,show d.heap[z+2]?=_ from c.o.2.2]at k;injection k with k;injection k with _ V;revert V
      decide)
    ·have:=ab.o;have:=a5.o;have:=a6.o;omega
    ·rw[aa.o,af.o,ag.o];have V:=aw.o;rw[af.o,ag.o]at V;generalize av_ D*bT ^ k1=P1 at V ⊢;generalize av_ E*bT ^ k2=P2 at V ⊢;have h9:=b9.o;revert h9;cases f<;>cases q<;>intro h9<;>first | exact absurd rfl h9 | (simp[sgV];omega)
   ·have g0:¬r<0:=by rw[<-Hr.o];unfold jx_;rw[iN_ N];split<;>decide
    have aw:=q_ N;have ah:=q_ (yk_ X Y (by have:=a5.o;omega) (by have:=a6.o;omega) ai.o aj.o (Nat.le_of_not_lt N) A6 A8 c6 c8 w5.drew ar.o av.o);clear N;have s1:=q_ (show w5.drew.cell? ⟨z,0,QK⟩=QJ (XY f) from u5);go_upto_region 10 with fail
    go_region_held3 (λW'=>W'.cell? ⟨z,0,QK⟩=QJ (XY f)) (first | exact s1.o | exact s2.o | exact s3.o | (trace_state;fail))
     (first
      | (go_at_call 293;(with_reducible refine ah.o.mono ?_);rintro e d ⟨O,s7,rfl,a3,C,a1,a2,a4,_⟩;obtain⟨t,x,rfl⟩:=cp_ C;obtain⟨y,a0⟩:=a_ O.length;rw[a0.o]at C ⊢;have M:=q_ (show XW wc.heap.size wc d from T.o.trans ((a1_ a3).mono T.o.size));have Z:=q_ C;have a9:=q_ a1;have aa:=q_ a2;have ab:=q_ a4;have c:=q_ (a7.o d M.o);have s2:=q_ (show d.cell? ⟨z,0,QK⟩=QJ (XY f) from QX c.o.1 0);have q0:d.cell? ⟨z+1+1,0,QK⟩=QJ (XY false):=QX c.o.2.2 0;have q1:d.cell? ⟨z+1+1,1,QK⟩=QJ (QQ QK 0 0):=QX c.o.2.2 1;have q2:d.cell? ⟨z+1+1,2,QK⟩=QJ (QY QU 0):=QX c.o.2.2 2;have f0:d.frozen? ⟨z+1+1,0,QK⟩=false:=YY c.o.2.2 0;have f1:d.frozen? ⟨z+1+1,1,QK⟩=false:=YY c.o.2.2 1;have f2:d.frozen? ⟨z+1+1,2,QK⟩=false:=YY c.o.2.2 2;have s3:=q_ (show (((d.setCell ⟨z+1+1,0,QK⟩ (XY f)).setCell ⟨z+1+1,1,QK⟩ (QQ t y x)).setCell ⟨z+1+1,2,QK⟩ (QY QU (j:Int))).cell? ⟨z,0,QK⟩=QJ (XY f) from by rw[World.cell?_setCell_far _ _ _ _ (by show z+1+1≠z;omega),World.cell?_setCell_far _ _ _ _ (by show z+1+1≠z;omega),World.cell?_setCell_far _ _ _ _ (by show z+1+1≠z;omega)];exact s2.o);clear a3 C a1 a2 a4))
    have U:=heap_setCell_same _ (z+1+1) 2 _ _ (QY QU (j:Int)) (heap_setCell_same _ (z+1+1) 1 _ _ (QQ t y x) (heap_setCell_same _ (z+1+1) 0 _ _ (XY f) c.o.2.2));have ht:=((((Turn.refl (λb=>b=z+2) d).setCell (p:=⟨z+1+1,0,QK⟩) (.inr rfl) (XY f)).setCell (p:=⟨z+1+1,1,QK⟩) (.inr rfl) (QQ t y x)).setCell (p:=⟨z+1+1,2,QK⟩) (.inr rfl) (QY QU (j:Int)));obtain⟨W9,ad⟩:=a_ (((d.setCell ⟨z+1+1,0,QK⟩ (XY f)).setCell ⟨z+1+1,1,QK⟩ (QQ t y x)).setCell ⟨z+1+1,2,QK⟩ (QY QU (j:Int)));rw[ad.o]at U ht ⊢;have r0:W9.cell? ⟨z+1+1,0,QK⟩=QJ (XY f):=QX U 0;have r1:W9.cell? ⟨z+1+1,1,QK⟩=QJ (QQ t y x):=QX U 1;have r2:W9.cell? ⟨z+1+1,2,QK⟩=QJ (QY QU (j:Int)):=QX U 2;go_wp2_with fail;refine ZV (v:=.agg #[XY f,QQ t y x,QY QU (j:Int)]) (by simp[results,results252,go_sem,r0,r1,r2]) rfl ⟨f,O,QQ t y x,j,rfl,?_,?_,a9.o,?_,?_⟩
    ·exact L.o.trans ((M.o.mono L.o.size).trans (ht.below (λb _ h=>by have:=Hz.o;omega) (ZX L.o.size M.o.size)))
    ·rw[a0.o]
     exact ht.owns Z.o (λg hg e=>by
      obtain⟨bd,k⟩:=ey_ Z.o hg;have e2:g=z+2:=e;rw[e2,show d.heap[z+2]?=_ from c.o.2.2]at k;injection k with k;injection k with _ V;revert V
      decide)
    ·have:=ab.o;have:=a5.o;have:=a6.o;omega
    ·rw[aa.o,af.o,ag.o];have V:=aw.o;rw[af.o,ag.o]at V;generalize av_ D*bT ^ k1=P1 at V ⊢;generalize av_ E*bT ^ k2=P2 at V ⊢;have h9:=b9.o;revert h9;cases f<;>cases q<;>intro h9<;>first | exact absurd rfl h9 | (simp[sgV];omega)
end
section
theorem v7_ (x:Nat) (D:List Nat):av_ (x::D)=x+10*av_ D:=by
 unfold av_
 have h:∀n,pt (atD (x::D)) (n+1)=x+10*pt (atD D) n:=by
  intro n;induction n with
  | zero=>simp[pt,atD]
  | succ n b=>
   rw[pt,b,pt,Nat.pow_succ];have h1:atD (x::D) (n+1)=atD D n:=by unfold atD;rw[List.getElem?_cons_succ]
   rw[h1,Nat.mul_add,<-Nat.mul_assoc,show bT=10 from rfl];have h2:atD D n*10 ^ n*10=10*(atD D n*10 ^ n):=Nat.mul_comm _ _;omega
 exact h D.length
theorem Kj_ (m:List UInt8):av_ (m.map fe_)=a0_ m.reverse:=by
 induction m with
 | nil=>rfl
 | cons c r b=>
  rw[List.map_cons,v7_,b,List.reverse_cons,p8_];unfold fe_;omega
theorem v8_ (l:List UInt8):av_ (bs_ l)=a0_ l:=by have h:=Kj_ l.reverse;rw[List.reverse_reverse]at h;unfold bs_;rw[<-h,List.map_reverse]
theorem Hp_ {a:List UInt8} (h:1<=a.length) (b:a.all bm_=true) (r:List UInt8):∃c t,a++r=c::t/\c≠45/\c≠43:=by
 cases a with
 | nil=>exact absurd h (by simp)
 | cons c t=>
  rw[List.all_cons,YW,dm_]at b;refine⟨c,t++r,rfl,λe=>?_,λe=>?_⟩
  ·rw[e]at b;have:=b.1.1;revert this
   decide
  ·rw[e]at b;have:=b.1.1;revert this
   decide
theorem Jk_ {s:ByteArray} {f:Bool} {a b:List UInt8} (h:vx_ s f a b):bj_ s=f/\(bt_ s).data.toList=a++46::b:=by
 obtain⟨c,t,k,i,j⟩:=Hp_ h.la.1 h.da (46::b);have d:=h.eq
 cases f with
 | true=>
  simp only[cond_true,List.singleton_append]at d;have h1:bj_ s=true:=by unfold bj_;rw[d];rfl
  have h2:g9_ s=true:=by unfold g9_;rw[d];rfl
  refine⟨h1,?_⟩;unfold bt_;rw[h2,cond_true,ByteArray.data_extract,Array.toList_extract,d];have q:s.size=(a++46::b).length+1:=by show s.data.toList.length=_;rw[d,List.length_cons]
  rw[q];simp only[List.extract_eq_take_drop,List.drop_succ_cons,List.drop_zero,Nat.add_sub_cancel];exact YJ (XK _)
 | false=>
  simp only[cond_false,List.nil_append]at d;have h1:bj_ s=false:=by unfold bj_;rw[d,k];exact bN_.2 (λe=>i (by simpa using e))
  have h2:g9_ s=false:=by unfold g9_;rw[d,k];have m:((c::t).head?==some 45)=false:=bN_.2 (λe=>i (by simpa using e));have p:((c::t).head?==some 43)=false:=bN_.2 (λe=>j (by simpa using e));rw[m,p];rfl
  refine⟨h1,?_⟩;unfold bt_;rw[h2];exact d
theorem nd_ {s:ByteArray} {d:Bool} {a b:List UInt8} (h:vx_ s d a b):c4_ s=QJ (d,bs_ (a++b),b.length):=by
 obtain⟨h1,h2⟩:=Jk_ h;have f:=qz_ a b (D4_ h.da) 0;rw[h.da,h.db]at f;simp only[Bool.and_self,cond_true,VQ]at f;have c:(bt_ s).size=a.length+(b.length+1):=by show (bt_ s).data.toList.length=_;rw[h2,ZZ,List.length_cons]
 unfold c4_;rw[h2,f];simp only;have e0:decide ((bt_ s).size=0)=false:=dF_ (by rw[c];omega);have m:a.length≠0:=by have:=h.la.1;omega
 have p:a.length≠(bt_ s).size-1:=by have:=h.lb.1;omega
 have i:((QJ a.length:Option Nat)==some 0)=false:=bN_.2 (λe=>m (by simpa using e));have j:((QJ a.length:Option Nat)==QJ ((bt_ s).size-1))=false:=bN_.2 (λe=>p (by simpa using e));rw[e0,i,j,h1,wm_ h.da h.db];have k:k0_ (bt_ s).size (QJ a.length)=b.length:=by show (bt_ s).size-1-a.length=b.length;rw[c];omega
 rw[k];rfl
end
section
theorem L3_ (b:Bool) (n k:Nat):sgV b (n*k)=sgV b n*(k:Int):=by
 cases b
 ·show ((n*k:Nat):Int)=(n:Int)*(k:Int);exact Int.natCast_mul n k
 ·show -((n*k:Nat):Int) = -(n:Int)*(k:Int);rw[Int.natCast_mul,Int.neg_mul]
theorem Cj_ (b:Bool) (n:Nat):sgV (!b) n = -sgV b n:=by
 cases b
 ·rfl
 ·show (n:Int) = -(-(n:Int));omega
theorem ys_ {b:Bool} {n:Nat}:sgV b n=0↔n=0:=by
 cases b
 ·show (n:Int)=0↔n=0;omega
 ·show -(n:Int)=0↔n=0;omega
theorem Bs_ {s:ByteArray} {d:Bool} {a b:List UInt8} (h:vx_ s d a b) {c:Nat} (h1:b.length<=c) (h2:c<=20):e6_ s=sgV d (av_ (bs_ (a++b))*bT ^ (c-b.length))*((10 ^ (20-c):Nat):Int):=by rw[<-L3_,o3_ h,v8_,Nat.mul_assoc,show bT=10 from rfl,<-Nat.pow_add,show c-b.length+(20-c)=20-b.length by omega];rfl
theorem Ku_ {s t:ByteArray} {q r:Bool} {a b c d:List UInt8} (v:vx_ s q a b) (ht:vx_ t r c d) {ng:Bool} {o:Nat}
    (h:sgV ng o=sgV q (av_ (bs_ (a++b))*bT ^ (max b.length d.length-b.length))+sgV (!r) (av_ (bs_ (c++d))*bT ^ (max b.length d.length-d.length))) :
    es_ s t=if o=0 then 0 else if ng=true then -1 else 1:=by
 have m:max b.length d.length<=20:=Nat.max_le.2 ⟨v.lb.2,ht.lb.2⟩;have i:=Bs_ v (Nat.le_max_left b.length d.length) m;have j:=Bs_ ht (Nat.le_max_right b.length d.length) m;rw[Cj_]at h;generalize sgV q (av_ (bs_ (a++b))*bT ^ (max b.length d.length-b.length))=P at h i;generalize sgV r (av_ (bs_ (c++d))*bT ^ (max b.length d.length-d.length))=Q at h j;have p:(0:Int)<((10 ^ (20-max b.length d.length):Nat):Int):=by have:0<10 ^ (20-max b.length d.length):=Nat.pow_pos (by decide);omega
 generalize ((10 ^ (20-max b.length d.length):Nat):Int)=K at i j p;have f:e6_ s<e6_ t↔P<Q:=by rw[i,j];exact Int.mul_lt_mul_right p
 have k:e6_ t<e6_ s↔Q<P:=by rw[i,j];exact Int.mul_lt_mul_right p
 unfold es_;by_cases h0:o=0
 ·rw[iP_ h0];have hz:=(ys_ (b:=ng) (n:=o)).2 h0;rw[iN_ (λe=>by have:=f.1 e;omega),iN_ (λe=>by have:=k.1 e;omega)]
 ·rw[iN_ h0]
  cases ng with
  | true=>
   have e:sgV true o = -(o:Int):=rfl;rw[iP_ rfl,iP_ (f.2 (by omega))]
  | false=>
   have e:sgV false o=(o:Int):=rfl;rw[iN_ (show ¬e6_ s<e6_ t from λx=>by have:=f.1 x;omega),iP_ (k.2 (by omega))];rfl
end
section
theorem zc_ (O:List Nat):gm_ O=decide (av_ O=0):=by
 induction O with
 | nil=>rfl
 | cons x r e=>
  have h1:gm_ (x::r)=(x==0&&gm_ r):=rfl;rw[h1,e,v7_];by_cases c:x=0
  ·subst c;by_cases b:av_ r=0
   ·rw[dT_ b,dT_ (by omega)];rfl
   ·rw[dF_ b,dF_ (by omega)];rfl
  ·have h2:(x==0)=false:=bN_.2 c;have d:¬(x+10*av_ r=0):=by omega
   rw[h2,dF_ d];rfl
end
section
open Go
theorem sn_ (u:Nat):a0_ (Lib.decDigits u)=u:=by
 induction u using Nat.strongRecOn with
 | _ u b=>
  by_cases h:u<10
  ·rw[Lib.decDigits,dif_pos h];show 0*10+((UInt8.ofNat (48+u)).toNat-48)=u;rw[UInt8.toNat_ofNat',Nat.mod_eq_of_lt (by omega)];omega
  ·rw[Lib.decDigits,dif_neg h,p8_,b (u / 10) (by omega),UInt8.toNat_ofNat',Nat.mod_eq_of_lt (by omega)];omega
theorem zy_ (u:Nat):(Lib.decDigits u).all bm_=true:=by
 induction u using Nat.strongRecOn with
 | _ u b=>
  by_cases h:u<10
  ·rw[Lib.decDigits,dif_pos h,List.all_cons,List.all_nil,Bool.and_true,dm_,UInt8.toNat_ofNat',Nat.mod_eq_of_lt (by omega)];omega
  ·rw[Lib.decDigits,dif_neg h,List.all_append,b (u / 10) (by omega),Bool.true_and,List.all_cons,List.all_nil,Bool.and_true,dm_,UInt8.toNat_ofNat',Nat.mod_eq_of_lt (by omega)];omega
theorem Gx_ {u:Nat} (h0:0<u):∃c r,Lib.decDigits u=c::r/\c≠48:=by
 induction u using Nat.strongRecOn with
 | _ u d=>
  by_cases h:u<10
  ·rw[Lib.decDigits,dif_pos h];refine⟨_,_,rfl,λe=>?_⟩;have:=congrArg UInt8.toNat e;rw[UInt8.toNat_ofNat',Nat.mod_eq_of_lt (by omega)]at this;have f:(48:UInt8).toNat=48:=rfl;omega
  ·obtain⟨c,r,e,b⟩:=d (u / 10) (by omega) (by omega);rw[Lib.decDigits,dif_neg h,e];exact⟨c,_,rfl,b⟩
theorem up_ {u:Nat} (h:u<=9223372036854775808):1<=(Lib.decDigits u).length/\(Lib.decDigits u).length<=20:=by
 rw[Lib.decDigits_length];refine⟨Lib.nDigits_pos u,?_⟩;rcases VZ 20 (Lib.nDigits u) with h1 | h1
 ·obtain⟨k,c⟩:∃k,Lib.nDigits u=k+1:=⟨Lib.nDigits u-1,by omega⟩;exfalso
  have key:∀k u,Lib.nDigits u=k+1->0<k->10 ^ k<=u:=by
   intro k;induction k with
   | zero=>intro u _ h;omega
   | succ k d=>
    intro u b _;have hb:¬u<10:=λh=>by rw[Lib.nDigits_small h]at b;omega
    rw[Lib.nDigits_big hb]at b;rw[Nat.pow_succ];rcases Nat.eq_zero_or_pos k with h0 | h0
    ·subst h0;omega
    ·have:=d (u / 10) (by omega) h0;omega
  have h2:=key k u c (by omega);have e:10 ^ 20<=10 ^ k:=Nat.pow_le_pow_right (by decide) (by omega);have f:(100000000000000000000:Nat)=10 ^ 20:=by decide
  omega
 ·exact h1
def au_ (n:Int):ByteArray:=⟨(Lib.itoa n++[46,48]).toArray⟩
theorem ix_ (n:Int):Lib.itoa n=cond (decide (n<0)) [45] []++Lib.decDigits n.natAbs:=by
 unfold Lib.itoa;by_cases h:n<0
 ·rw[iP_ h,dT_ h];rfl
 ·rw[iN_ h,dF_ h];have:n.toNat=n.natAbs:=by omega
  rw[this];rfl
theorem n9_ {n:Int} (h0:-9223372036854775808<=n) (h1:n<=9223372036854775807):vx_ (au_ n) (decide (n<0)) (Lib.decDigits n.natAbs) [48] where
 eq:=by unfold au_;rw[ix_];simp
 la:=by have:=up_ (u:=n.natAbs) (by omega);omega
 lb:=⟨XK _,by decide⟩
 da:=zy_ _
 db:=by decide
theorem A8_ (u:Nat):(u*10 ^ 1+0)*10 ^ 19=u*100000000000000000000:=by
 have e:(10:Nat) ^ 1*10 ^ 19=100000000000000000000:=by decide
 rw[Nat.add_zero,Nat.mul_assoc,e]
theorem hk_ {n:Int} (h0:-9223372036854775808<=n) (h1:n<=9223372036854775807):e6_ (au_ n)=n*100000000000000000000:=by
 have hz:a0_ [48]=0:=rfl;have c:([48]:List UInt8).length=1:=rfl;rw[o3_ (n9_ h0 h1),ej_,sn_,hz,c];have b:20-1=19:=rfl;rw[b,A8_];by_cases h:n<0
 ·rw[dT_ h,cond_true];have:(n.natAbs:Int) = -n:=by omega
  omega
 ·rw[dF_ h,cond_false];have:(n.natAbs:Int)=n:=by omega
  omega
theorem Lb_ {D:List Nat} {n:Nat} (b:D.length=n+1) (h:n=1\/atD D n≠0):g2_ D 1 D.length=n+1:=by
 rw[b];show (if 1+1<n+1/\atD D n=0 then g2_ D 1 n else n+1)=n+1
 rcases h with h | h
 ·subst h;rfl
 ·rw[iN_ (λh2=>h h2.2)]
theorem p5_ {n:Int} (h0:-9223372036854775808<=n) (h1:n<=9223372036854775807):bl_ (au_ n)=true:=by
 have q:=n9_ h0 h1;have L:=nd_ q;obtain⟨a,d⟩:∃a,Lib.decDigits n.natAbs=a:=⟨_,rfl⟩;rw[d]at q L;have T:=q.la;have x:=q.da;have B:a0_ a=n.natAbs:=by rw[<-d];exact sn_ _
 have D:a.length=1\/a[0]'(by omega)≠48:=by
  rcases Nat.eq_zero_or_pos n.natAbs with h | h
  ·left;rw[h]at d;rw[<-d,Lib.decDigits_length,Lib.nDigits_small (by decide)]
  ·right;obtain⟨c,r,e,M⟩:=Gx_ h;rw[d]at e;subst e;exact M
 have C:(bs_ (a++[48])).length=a.length+1:=by rw[gj_];simp
 have v:∀j,j<a.length->atD (bs_ (a++[48])) (a.length-j)=fe_ (a[j]!):=λj N=>by
  rw[o1_ _ (by simp;omega)];congr 1
  simp only[ZZ,List.length_singleton];rw[getElem!_pos a j N,List.getElem_append_left (by omega)];congr 1
  omega
 have y:atD (bs_ (a++[48])) 0=0:=by rw[o1_ _ (by simp)];simp[fe_]
 have b:gg_ (bs_ (a++[48])) 1=a.length+1:=by
  unfold gg_
  rw[Lb_ C (by
   rcases D with h | h
   ·exact .inl h
   ·right;have h2:=v 0 (by omega);rw[Nat.sub_zero]at h2;rw[h2];intro f;apply h;have hb:bm_ (a[0]'(by omega))=true:=List.all_eq_true.1 x _ (List.getElem_mem _);rw[dm_]at hb;rw[getElem!_pos a 0 (by omega)]at f;unfold fe_ at f;apply UInt8.toNat_inj.1;have O:(48:UInt8).toNat=48:=rfl;omega)]
  exact Nat.max_eq_left (by omega)
 have i:lw_ (bs_ (a++[48])) 1=1:=by
  show (if 0<1/\atD (bs_ (a++[48])) 0=0 then qo_ (bs_ (a++[48])) 1 0 1 else 0)=1
  rw[iP_ ⟨by decide,y⟩];rfl
 have k:cq_ (bs_ (a++[48])) (a.length+1) 1=a:=by
  apply List.ext_getElem
  ·rw[cl_];omega
  ·intro j h2 f;simp only[cq_,List.getElem_map,List.getElem_range];rw[show a.length+1-1-j=a.length-j by omega,v j f,getElem!_pos a j f];exact wl_ (List.all_eq_true.1 x _ (List.getElem_mem _))
 have t:(decide (n<0) && !gm_ (bs_ (a++[48])))=decide (n<0):=by
  by_cases h:n<0
  ·have J:¬a0_ (a++[48])=0:=by have hz:a0_ [48]=0:=rfl;rw[ej_,B,hz];show ¬n.natAbs*10 ^ 1+0=0;omega
   rw[zc_,v8_,dT_ h,dF_ J];rfl
  ·rw[dF_ h];rfl
 have p:cu_ (au_ n)=(au_ n,0):=by
  unfold cu_;rw[L];have I:([48]:List UInt8).length=1:=rfl;simp only[I];have z:bq_ (bs_ (a++[48])) 1=false:=by unfold bq_;rw[b,i,dF_ (by omega),dF_ (by omega)];rfl
  rw[z];simp only[cond_false];have m:iv_ (decide (n<0)) (bs_ (a++[48])) 1=au_ n:=by unfold iv_ au_;rw[t,b,i,k,nf_,ix_,d];simp
  rw[m]
 unfold bl_;rw[p];simp
theorem C5_ {a b:Int} (c:-9223372036854775808<=a) (d:a<=9223372036854775807) (e:-9223372036854775808<=b) (f:b<=9223372036854775807) :
    es_ (au_ a) (au_ b)=if a<b then -1 else if b<a then 1 else 0:=by
 unfold es_;rw[hk_ c d,hk_ e f];by_cases h:a<b
 ·rw[iP_ (by omega),iP_ h]
 ·rw[iN_ (by omega),iN_ h];by_cases h2:b<a
  ·rw[iP_ (by omega),iP_ h2]
  ·rw[iN_ (by omega),iN_ h2]
def t4_:ByteArray:=⟨#[48,46,48]⟩
def am_ (v:g_):ByteArray:=if v.kind=2 then au_ v.num else if bl_ v.text=true then v.text else t4_
def B_ (k:Int):Int:=
 if k=5 then 1 else if k=6 then 2 else if k=7 then 3 else if k=9 then 4 else if k=8 then 5 else if k=10 then 6 else if k=4 then 7 else if k=1 then 8 else if k=2 then 9 else if k=3 then 9 else if k=0 then 0 else 11
abbrev M2_:=Int×Int×Int×List UInt8×List UInt8
def Go_:M2_->M2_->Int:=λp q=>ar_ (c7_ p.1 q.1) (ar_ (c7_ p.2.1 q.2.1) (ar_ (c7_ p.2.2.1 q.2.2.1) (ar_ (ec_ p.2.2.2.1 q.2.2.2.1) (ec_ p.2.2.2.2 q.2.2.2.2))))
theorem da_:j5_ Go_:=et_.prod (et_.prod (et_.prod (lk_.prod lk_)))
def gq_ (v:g_):Int:=if v.kind=2\/v.kind=3 then e6_ (am_ v) else if v.kind=6\/v.kind=7 then v.num else if v.kind=1 then (if v.truth=true then 1 else 0) else 0
def g3_ (v:g_):Int:=if v.kind=2\/v.kind=3 then v.kind else 0
def c8_ (k:Int):Bool:=decide (k=1\/k=2\/k=5\/k=6\/k=7)
def ic_ (v:g_):List UInt8:=if c8_ v.kind=true then [] else v.text.data.toList
def iy_ (v:g_):List UInt8:=if c8_ v.kind=true\/v.kind=3 then [] else v.extra.data.toList
def Ab_ (v:g_):M2_:=(B_ v.kind,gq_ v,g3_ v,ic_ v,iy_ v)
def y_ (a b:g_):Int:=Go_ (Ab_ a) (Ab_ b)
theorem fl_ (a:g_):y_ a a=0:=da_.refl _
theorem fk_ (a b:g_):y_ b a = -y_ a b:=da_.anti _ _
theorem l5_ (a b:g_):y_ a b = -1\/y_ a b=0\/y_ a b=1:=da_.val _ _
theorem cx_ {x y:Int} (h:x≠0):ar_ x y=x:=by unfold ar_;rw[iN_ h]
theorem Y_ (y:Int):ar_ 0 y=y:=rfl
theorem fg_ (a:Int):c7_ a a=0:=et_.refl a
theorem g1_ (a:List UInt8):ec_ a a=0:=lk_.refl a
theorem C4_ (s t:ByteArray):es_ s t=c7_ (e6_ s) (e6_ t):=rfl
theorem rh_ (x:Int):ar_ x 0=x:=by unfold ar_;split<;>omega
theorem s6_ {a b:g_} (h:B_ a.kind≠B_ b.kind):y_ a b=c7_ (B_ a.kind) (B_ b.kind):=by show ar_ (c7_ (B_ a.kind) (B_ b.kind)) _=_;exact cx_ λh2=>h ((et_.eqv _ _).1 h2)
theorem jm_ {a b:g_} (h:B_ a.kind=B_ b.kind):y_ a b=ar_ (c7_ (gq_ a) (gq_ b)) (ar_ (c7_ (g3_ a) (g3_ b)) (ar_ (ec_ (ic_ a) (ic_ b)) (ec_ (iy_ a) (iy_ b)))):=by show ar_ (c7_ (B_ a.kind) (B_ b.kind)) _=_;rw[h,fg_];rfl
theorem tg_ {k:Int}:B_ k=9↔k=2\/k=3:=by
 unfold B_;constructor
 ·intro h;repeat' split at h
  all_goals omega
 ·intro h;repeat' split
  all_goals omega
def Mq_ (r:Int):Int:=if r=1 then 5 else if r=2 then 6 else if r=3 then 7 else if r=4 then 9 else if r=5 then 8 else if r=6 then 10 else if r=7 then 4 else if r=8 then 1 else 0
theorem md_ (k:Int):(B_ k=9/\(k=2\/k=3))\/B_ k=11\/(B_ k≠9/\B_ k≠11/\k=Mq_ (B_ k)):=by
 by_cases e:k=5
 ·subst e;right;right;decide
 by_cases f:k=6
 ·subst f;right;right;decide
 by_cases h:k=7
 ·subst h;right;right;decide
 by_cases j:k=9
 ·subst j;right;right;decide
 by_cases i:k=8
 ·subst i;right;right;decide
 by_cases b:k=10
 ·subst b;right;right;decide
 by_cases d:k=4
 ·subst d;right;right;decide
 by_cases h1:k=1
 ·subst h1;right;right;decide
 by_cases h2:k=2
 ·subst h2;left;decide
 by_cases c:k=3
 ·subst c;left;decide
 by_cases h0:k=0
 ·subst h0;right;right;decide
 right;left;unfold B_;rw[iN_ e,iN_ f,iN_ h,iN_ j,iN_ i,iN_ b,iN_ d,iN_ h1,iN_ h2,iN_ c,iN_ h0]
theorem jo_ {j k:Int} (h:B_ j=B_ k):j=k\/((j=2\/j=3)/\(k=2\/k=3))\/(B_ j=11/\B_ k=11):=by
 rcases md_ j with h1 | h1 | h1
 ·rcases md_ k with h2 | h2 | h2
  ·exact .inr (.inl ⟨h1.2,h2.2⟩)
  ·omega
  ·exact absurd (h▸h1.1) h2.1
 ·exact .inr (.inr ⟨h1,h▸h1⟩)
 ·rcases md_ k with h2 | h2 | h2
  ·exact absurd (h.trans h2.1) h1.1
  ·exact absurd (h.trans h2) h1.2.1
  ·left;rw[h1.2.2,h2.2.2,h]
theorem xz_ {a b:g_} (d:a.kind=2\/a.kind=3) (hb:b.kind=2\/b.kind=3) :
    y_ a b=ar_ (es_ (am_ a) (am_ b)) (ar_ (c7_ a.kind b.kind) (if a.kind=3 then ec_ a.text.data.toList b.text.data.toList else 0)):=by
 rw[jm_ ((tg_.2 d).trans (tg_.2 hb).symm),C4_];have f:gq_ a=e6_ (am_ a):=by unfold gq_;rw[iP_ d]
 have i:gq_ b=e6_ (am_ b):=by unfold gq_;rw[iP_ hb]
 have j:g3_ a=a.kind:=by unfold g3_;rw[iP_ d]
 have k:g3_ b=b.kind:=by unfold g3_;rw[iP_ hb]
 rw[f,i,j,k];congr 1
 by_cases c:a.kind=b.kind
 ·rw[c,fg_,Y_,Y_];unfold ic_ iy_ c8_;rw[c];rcases hb with hb | hb
  ·rw[hb];simp only[Int.reduceEq,decide_true,true_or,or_true,if_true,if_false];rw[g1_];rfl
  ·rw[hb];have e:decide ((3:Int)=1\/(3:Int)=2\/(3:Int)=5\/(3:Int)=6\/(3:Int)=7)=false:=by decide
   rw[e,iN_ Bool.false_ne_true,iN_ Bool.false_ne_true,iP_ rfl,iP_ (.inr rfl),iP_ (.inr rfl),g1_,rh_]
 ·rw[cx_ (λh=>c ((et_.eqv _ _).1 h)),cx_ (λh=>c ((et_.eqv _ _).1 h))]
theorem qx_ {a b:g_} (e:a.kind=6\/a.kind=7) (hb:b.kind=a.kind):y_ a b=c7_ a.num b.num:=by
 rw[jm_ (by rw[hb])];have c:b.kind=6\/b.kind=7:=by rw[hb];exact e
 have f:gq_ a=a.num:=by unfold gq_;rw[iN_ (by omega),iP_ e]
 have h:gq_ b=b.num:=by unfold gq_;rw[iN_ (by omega),iP_ c]
 have i:g3_ a=0:=by unfold g3_;rw[iN_ (by omega)]
 have j:g3_ b=0:=by unfold g3_;rw[iN_ (by omega)]
 have d:∀k:Int,k=6\/k=7->c8_ k=true:=λk t=>by unfold c8_;exact dT_ (by omega)
 have m:ic_ a=[]:=by unfold ic_;rw[iP_ (d _ e)]
 have p:ic_ b=[]:=by unfold ic_;rw[iP_ (d _ c)]
 have q:iy_ a=[]:=by unfold iy_;rw[iP_ (.inl (d _ e))]
 have r:iy_ b=[]:=by unfold iy_;rw[iP_ (.inl (d _ c))]
 rw[f,h,i,j,m,p,q,r,fg_,g1_,Y_,Y_,rh_]
theorem s5_ {a b:g_} (d:a.kind=1) (hb:b.kind=1):y_ a b=c7_ (if a.truth=true then 1 else 0) (if b.truth=true then 1 else 0):=by
 rw[jm_ (by rw[d,hb])];have e:gq_ a=if a.truth=true then 1 else 0:=by unfold gq_;rw[iN_ (by omega),iN_ (by omega),iP_ d]
 have f:gq_ b=if b.truth=true then 1 else 0:=by unfold gq_;rw[iN_ (by omega),iN_ (by omega),iP_ hb]
 have h:g3_ a=0:=by unfold g3_;rw[iN_ (by omega)]
 have i:g3_ b=0:=by unfold g3_;rw[iN_ (by omega)]
 have c:c8_ 1=true:=by decide
 have j:ic_ a=[]:=by unfold ic_;rw[d,iP_ c]
 have k:ic_ b=[]:=by unfold ic_;rw[hb,iP_ c]
 have m:iy_ a=[]:=by unfold iy_;rw[d,iP_ (.inl c)]
 have p:iy_ b=[]:=by unfold iy_;rw[hb,iP_ (.inl c)]
 rw[e,f,h,i,j,k,m,p,fg_,g1_,Y_,Y_,rh_]
theorem np_ {a b:g_} (h:B_ a.kind=B_ b.kind) (c:c8_ a.kind=false) (d:a.kind≠3):y_ a b=ar_ (ec_ a.text.data.toList b.text.data.toList) (ec_ a.extra.data.toList b.extra.data.toList):=by
 have i:∀k:Int,c8_ k=false->k≠1/\k≠2/\k≠5/\k≠6/\k≠7:=λk j=>by
  unfold c8_ at j;have:=of_decide_eq_false j;omega
 have y:=i _ c
 have hb:c8_ b.kind=false/\b.kind≠3:=by
  rcases jo_ h with e | e | e
  ·rw[<-e];exact⟨c,d⟩
  ·omega
  ·have h2:=e.2;have:b.kind≠1/\b.kind≠2/\b.kind≠5/\b.kind≠6/\b.kind≠7/\b.kind≠3:=by refine⟨?_,?_,?_,?_,?_,?_⟩<;>(intro f;exfalso;rw[f]at h2;revert h2;decide)
   refine⟨?_,this.2.2.2.2.2⟩;unfold c8_;exact dF_ (by omega)
 have z:=i _ hb.1;rw[jm_ h];have m:gq_ a=0:=by unfold gq_;rw[iN_ (by omega),iN_ (by omega),iN_ (by omega)]
 have p:gq_ b=0:=by unfold gq_;rw[iN_ (by omega),iN_ (by omega),iN_ (by omega)]
 have f:g3_ a=0:=by unfold g3_;rw[iN_ (by omega)]
 have q:g3_ b=0:=by unfold g3_;rw[iN_ (by omega)]
 have r:ic_ a=a.text.data.toList:=by unfold ic_;rw[c,iN_ Bool.false_ne_true]
 have t:ic_ b=b.text.data.toList:=by unfold ic_;rw[hb.1,iN_ Bool.false_ne_true]
 have v:iy_ a=a.extra.data.toList:=by unfold iy_;rw[c,iN_ (by simpa using d)]
 have x:iy_ b=b.extra.data.toList:=by unfold iy_;rw[hb.1,iN_ (by simpa using hb.2)]
 rw[m,p,f,q,r,t,v,x,fg_,Y_,Y_]
def af_ (v:g_):Prop:=I_ v 0=true/\(v.kind=1\/v.kind=2\/v.kind=3\/v.kind=4\/v.kind=8\/v.kind=9\/v.kind=10) /\ -9223372036854775808<=v.num/\v.num<=9223372036854775807
theorem lj_ {s t:ByteArray} (h:s.data.toList=t.data.toList):s=t:=ByteArray.ext (Array.toList_inj.1 h)
theorem eo_ {k:Int} {b:Bool} {n:Int} {t x:ByteArray} {l:List g_} {c:Bool} {d:Int} {e f:ByteArray} (h:aw_ k b n t x l c d e f=true) (i:k≠5):b=c/\n=d/\t=e/\x=f/\l=[]:=by
 unfold aw_ at h;simp only[YW,beq_iff_eq,decide_eq_true_eq,Bool.or_eq_true,List.length_eq_zero_iff]at h;refine⟨h.1,h.2.1,h.2.2.1,h.2.2.2.1,?_⟩;rcases h.2.2.2.2 with h | h
 ·exact h
 ·exact absurd h i
theorem cd_ {v:g_} (h:af_ v) :
    (v.kind=1/\v = .mk 1 v.truth 0 ⟨#[]⟩ ⟨#[]⟩ [])\/(v.kind=2/\v = .mk 2 false v.num ⟨#[]⟩ ⟨#[]⟩ [])\/(v.kind=3/\bl_ v.text=true/\v = .mk 3 false 0 v.text ⟨#[]⟩ []) \/
    ((v.kind=4\/v.kind=8\/v.kind=9\/v.kind=10)/\v = .mk v.kind false 0 v.text v.extra []):=by
 obtain⟨h1,h2,_,_⟩:=h
 cases v with
 | mk k b n t x l=>
 unfold I_ at h1;simp only[g_.kind,g_.truth,g_.num,g_.text,g_.extra]at h2 ⊢;rcases h2 with rfl | rfl | rfl | rfl | rfl | rfl | rfl
 ·simp only[Int.reduceEq,if_true,if_false]at h1;obtain⟨_,rfl,rfl,rfl,rfl⟩:=eo_ h1 (by decide);exact .inl ⟨rfl,rfl⟩
 ·simp only[Int.reduceEq,if_true,if_false]at h1;obtain⟨rfl,_,rfl,rfl,rfl⟩:=eo_ h1 (by decide);exact .inr (.inl ⟨rfl,rfl⟩)
 ·simp only[Int.reduceEq,if_true,if_false,YW]at h1;obtain⟨rfl,rfl,_,rfl,rfl⟩:=eo_ h1.2 (by decide);exact .inr (.inr (.inl ⟨rfl,h1.1,rfl⟩))
 ·simp only[Int.reduceEq,if_true,if_false,YW]at h1;obtain⟨rfl,rfl,_,rfl,rfl⟩:=eo_ h1.2 (by decide);exact .inr (.inr (.inr ⟨.inl rfl,rfl⟩))
 ·simp only[Int.reduceEq,if_true,if_false,YW]at h1;obtain⟨rfl,rfl,_,rfl,rfl⟩:=eo_ h1.2 (by decide);exact .inr (.inr (.inr ⟨.inr (.inl rfl),rfl⟩))
 ·simp only[Int.reduceEq,if_true,if_false,YW]at h1;obtain⟨rfl,rfl,_,rfl,rfl⟩:=eo_ h1.2 (by decide);exact .inr (.inr (.inr ⟨.inr (.inr (.inl rfl)),rfl⟩))
 ·simp only[Int.reduceEq,if_true,if_false,YW]at h1;obtain⟨rfl,rfl,_,_,rfl⟩:=eo_ h1.2.2 (by decide);exact .inr (.inr (.inr ⟨.inr (.inr (.inr rfl)),rfl⟩))
theorem d9_ {a b:g_} (r:af_ a) (hb:af_ b) (h:y_ a b=0):a=b:=by
 have t:=(da_.eqv _ _).1 h;unfold Ab_ at t;simp only[Prod.mk.injEq]at t;obtain⟨z,i,q,ht,y⟩:=t
 have v:a.kind=b.kind:=by
  rcases jo_ z with e | e | e
  ·exact e
  ·unfold g3_ at q;rw[iP_ e.1,iP_ e.2]at q;exact q
  ·have h2:=e.1;rcases r.2.1 with p | p | p | p | p | p | p<;>(exfalso;rw[p]at h2;revert h2;decide)
 rcases cd_ r with⟨j,m⟩ | ⟨j,m⟩ | ⟨j,B,m⟩ | ⟨j,m⟩
 ·rcases cd_ hb with⟨c,d⟩ | ⟨c,d⟩ | ⟨c,x,d⟩ | ⟨c,d⟩
  ·unfold gq_ at i;rw[j,c]at i;simp only[Int.reduceEq,or_self,if_true,if_false]at i;have:a.truth=b.truth:=by cases h1:a.truth<;>cases h2:b.truth<;>rw[h1,h2]at i<;>first | rfl | (exfalso;revert i;decide)
   rw[m,d,this]
  all_goals omega
 ·rcases cd_ hb with⟨c,d⟩ | ⟨c,d⟩ | ⟨c,x,d⟩ | ⟨c,d⟩
  ·omega
  ·unfold gq_ at i;rw[iP_ (.inl j),iP_ (.inl c)]at i;unfold am_ at i;rw[iP_ j,iP_ c,hk_ r.2.2.1 r.2.2.2,hk_ hb.2.2.1 hb.2.2.2]at i;have:a.num=b.num:=by omega
   rw[m,d,this]
  all_goals omega
 ·rcases cd_ hb with⟨c,d⟩ | ⟨c,d⟩ | ⟨c,x,d⟩ | ⟨c,d⟩
  ·omega
  ·omega
  ·unfold ic_ at ht;rw[j,c]at ht;have:a.text=b.text:=lj_ ht;rw[m,d,this]
  ·omega
 ·rcases cd_ hb with⟨c,d⟩ | ⟨c,d⟩ | ⟨c,x,d⟩ | ⟨c,d⟩
  ·omega
  ·omega
  ·omega
  ·have f:∀k:Int,(k=4\/k=8\/k=9\/k=10)->c8_ k=false:=λk t=>by unfold c8_;exact dF_ (by omega)
   unfold ic_ at ht;unfold iy_ at y;rw[f _ j,f _ c,iN_ Bool.false_ne_true,iN_ Bool.false_ne_true]at ht;rw[f _ j,f _ c,iN_ (by simp;omega),iN_ (by simp;omega)]at y;rw[m,d,v,lj_ ht,lj_ y]
structure gw_ {α : Type} (o:α -> α -> Int):Prop where
 val:∀a b,o a b = -1\/o a b=0\/o a b=1
 anti:∀a b,o b a = -o a b
 trans:∀a b d,o a b<=0->o b d<=0->o a d<=0
 zero:∀a b d,o a b=0->o a d=o b d
theorem j5_.pre {α K:Type} {c:K->K->Int} (h:j5_ c) (k:α -> K):gw_ (λa b=>c (k a) (k b)) where
 val a b:=h.val _ _
 anti a b:=h.anti _ _
 trans a b d:=h.trans _ _ _
 zero a b d h0:=by have:=(h.eqv _ _).1 h0;show c (k a) (k d)=c (k b) (k d);rw[this]
section
variable {α : Type} {o:α -> α -> Int}
theorem gw_.refl (h:gw_ o) (a:α):o a a=0:=by have:=h.anti a a;omega
theorem gw_.zero' (h:gw_ o) {a b:α} (d:α) (h0:o a b=0):o d a=o d b:=by have:=h.zero a b d h0;have:=h.anti a d;have:=h.anti b d;omega
theorem gw_.lt_trans (h:gw_ o) {a b d:α} (h1:o a b<0) (h2:o b d<=0):o a d<0:=by
 have e:=h.trans a b d (by omega) h2;rcases Int.lt_or_eq_of_le e with c | c
 ·exact c
 ·have f:=h.zero' b c;have:=h.anti a b;omega
theorem gw_.trans_lt (h:gw_ o) {a b d:α} (h1:o a b<=0) (h2:o b d<0):o a d<0:=by
 have e:=h.trans a b d h1 (by omega);rcases Int.lt_or_eq_of_le e with c | c
 ·exact c
 ·have f:=h.zero a d b c;have:=h.anti b d;have:=h.anti a b;omega
abbrev j9_ (o:α -> α -> Int) (l:List α):Prop:=l.Pairwise λa b=>o a b<0
theorem i4_ (h:gw_ o):∀{l m:List α},j9_ o l->j9_ o m->(∀x,x∈l↔x∈m)->l=m
 | [],[],_,_,_=>rfl
 | [],b::m,_,_,he=>absurd ((he b).2 VJ) (by simp)
 | a::l,[],_,_,he=>absurd ((he a).1 VJ) (by simp)
 | a::l,b::m,hl,hm,he=>by
  obtain⟨la,ll⟩:=List.pairwise_cons.1 hl;obtain⟨i,j⟩:=List.pairwise_cons.1 hm
  have f:a=b:=by
   rcases List.mem_cons.1 ((he a).1 VJ) with e | e
   ·exact e
   ·rcases List.mem_cons.1 ((he b).2 VJ) with d | d
    ·exact d.symm
    ·have h1:=i a e;have h2:=la b d;have:=h.anti a b;omega
  subst f;congr 1
  refine i4_ h ll j λx=>?_;constructor
  ·intro c;rcases List.mem_cons.1 ((he x).1 (List.mem_cons_of_mem _ c)) with e | e
   ·subst e;have:=la x c;have:=h.refl x;omega
   ·exact e
  ·intro c;rcases List.mem_cons.1 ((he x).2 (List.mem_cons_of_mem _ c)) with e | e
   ·subst e;have:=i x c;have:=h.refl x;omega
   ·exact e
def a3_ (o:α -> α -> Int) (v:α):List α -> Nat->Nat
 | _,0=>0
 | l,k+1=>match l[k]? with
  | some x=>if 0<o x v then a3_ o v l k else k+1
  | none=>k+1
def dj_ (o:α -> α -> Int) (l:List α) (v:α):List α:=
 let k:=a3_ o v l l.length
 if 0<k/\(∃x,l[k-1]?=QJ x/\o x v=0) then l else l.take k++v::l.drop k
theorem Jn_ (v:α) (l:List α) (k:Nat):a3_ o v l k<=k:=by
 induction k with
 | zero=>exact XK _
 | succ k b=>
  unfold a3_;split
  ·split
   ·omega
   ·omega
  ·omega
theorem yv_ (v:α) (l:List α) (k:Nat):∀j x,a3_ o v l k<=j->j<k->l[j]?=QJ x->0<o x v:=by
 induction k with
 | zero=>intro j x _ h;omega
 | succ k c=>
  intro j x h1 h2 b;unfold a3_ at h1;by_cases e:j=k
  ·subst e;rw[b]at h1;simp only at h1;split at h1
   ·assumption
   ·omega
  ·split at h1
   ·split at h1
    ·exact c j x h1 (by omega) b
    ·omega
   ·omega
theorem yw_ (v:α) (l:List α) (k:Nat):∀x,0<a3_ o v l k->l[a3_ o v l k-1]?=QJ x->o x v<=0:=by
 induction k with
 | zero=>intro x h;unfold a3_ at h;omega
 | succ k c=>
  intro x;unfold a3_;split
  ·rename_i y b;split
   ·exact c x
   ·intro _ h;rw[Nat.add_sub_cancel,b]at h;injection h with h;subst h;omega
  ·rename_i b;intro _ h;rw[Nat.add_sub_cancel,b]at h
   cases h
theorem Hz_ {l:List α} {v:α} (d:∀a,a∈l->o a v=0->a=v) (x:α):x∈dj_ o l v↔x∈l\/x=v:=by
 unfold dj_;simp only;split
 ·rename_i h;obtain⟨_,y,e,c⟩:=h;have b:=YZ e;have:=d y b c;subst this;constructor
  ·exact .inl
  ·rintro (h | h)
   ·exact h
   ·rw[h];exact b
 ·rw[List.mem_append,List.mem_cons];constructor
  ·rintro (h | h | h)
   ·exact .inl (List.mem_of_mem_take h)
   ·exact .inr h
   ·exact .inl (List.mem_of_mem_drop h)
  ·rintro (h | h)
   ·have:x∈l.take (a3_ o v l l.length)++l.drop (a3_ o v l l.length):=by rw[List.take_append_drop];exact h
    rcases List.mem_append.1 this with h | h
    ·exact .inl h
    ·exact .inr (.inr h)
   ·exact .inr (.inl h)
theorem Dv_ (h:gw_ o) {l:List α} {v:α} (d:j9_ o l):j9_ o (dj_ o l v):=by
 unfold dj_;simp only;split
 ·exact d
 ·rename_i q;have r:=Jn_ (o:=o) v l l.length
  have k:∀x,x∈l.take (a3_ o v l l.length)->o x v<0:=by
   intro x m;obtain⟨i,hi,rfl⟩:=List.mem_take_iff_getElem.1 m;have j:0<a3_ o v l l.length:=by omega
   have c:a3_ o v l l.length-1<l.length:=by omega
   have h1:=yw_ (o:=o) v l l.length _ j (XQ c)
   have h2:o l[a3_ o v l l.length-1] v<0:=by
    rcases Int.lt_or_eq_of_le h1 with h1 | h1
    ·exact h1
    ·exact absurd ⟨j,_,XQ c,h1⟩ q
   by_cases e:i=a3_ o v l l.length-1
   ·subst e;exact h2
   ·exact h.lt_trans (List.pairwise_iff_getElem.1 d i _ (by omega) c (by omega)) (by omega)
  have f:∀x,x∈l.drop (a3_ o v l l.length)->o v x<0:=by intro x m;obtain⟨i,hi,rfl⟩:=List.mem_drop_iff_getElem.1 m;have:=yv_ (o:=o) v l l.length _ _ (Nat.le_add_right _ i) (by omega) (XQ (by omega));have:=h.anti v l[a3_ o v l l.length+i];omega
  refine List.pairwise_append.2 ⟨List.Pairwise.sublist (List.take_sublist _ _) d,List.pairwise_cons.2 ⟨f,List.Pairwise.sublist (List.drop_sublist _ _) d⟩,?_⟩;intro a p b hb;rcases List.mem_cons.1 hb with e | e
  ·subst e;exact k a p
  ·exact h.lt_trans (k a p) (by have:=f b e;omega)
def an_ (o:α -> α -> Int) (l:List α):List α:=l.foldl (dj_ o) []
theorem hn_ (l:List α) (v:α):an_ o (l++[v])=dj_ o (an_ o l) v:=by unfold an_;rw[List.foldl_append];rfl
theorem qn_ (h:gw_ o) {l:List α} (f:∀a,a∈l->∀b,b∈l->o a b=0->a=b) (n:Nat):j9_ o (an_ o (l.take n))/\∀x,x∈an_ o (l.take n)↔x∈l.take n:=by
 induction n with
 | zero=>exact⟨List.Pairwise.nil,λx=>Iff.rfl⟩
 | succ n c=>
  by_cases d:n<l.length
  ·rw[List.take_succ_eq_append_getElem d,hn_];refine⟨Dv_ h c.1,λx=>?_⟩;rw[Hz_ (λa e=>f a (List.mem_of_mem_take ((c.2 a).1 e)) _ (List.getElem_mem d)),c.2 x,List.mem_append,List.mem_singleton]
  ·rw[YJ (by omega)];rw[YJ (by omega)]at c;exact c
theorem ct_ (h:gw_ o) {l:List α} (c:∀a,a∈l->∀b,b∈l->o a b=0->a=b):j9_ o (an_ o l)/\∀x,x∈an_ o l↔x∈l:=by have:=qn_ h c l.length;rwa [List.take_length]at this
def kp_ (o:α -> α -> Int) (p:α):List α -> List α
 | []=>[]
 | a::r=>if o a p=0 then kp_ o a r else a::kp_ o a r
def cpt (o:α -> α -> Int):List α -> List α
 | []=>[]
 | a::r=>a::kp_ o a r
theorem Da_ (p:α) (r:List α) (x:α):kp_ o p (r++[x])=kp_ o p r++(if o x (r.getLastD p)=0 then [] else [x]):=by
 induction r generalizing p with
 | nil=>rfl
 | cons a r b=>
  rw[List.cons_append,kp_,kp_,b a,List.getLastD_cons];split<;>simp
theorem Ky_ (h:gw_ o) (p:α) (r:List α) (m:(p::r).Pairwise λa b=>¬o b a<0) (i:∀a,a∈p::r->∀b,b∈p::r->o a b=0->a=b):j9_ o (p::kp_ o p r)/\∀x,x∈p::kp_ o p r↔x∈p::r:=by
 induction r generalizing p with
 | nil=>exact⟨List.pairwise_cons.2 ⟨λ_ f=>(by cases f),List.Pairwise.nil⟩,λx=>Iff.rfl⟩
 | cons a r c=>
  obtain⟨k,j⟩:=List.pairwise_cons.1 m;have c:=c a j (λu q v t=>i u (List.mem_cons_of_mem _ q) v (List.mem_cons_of_mem _ t));unfold kp_;split
  ·rename_i h0;have:=i a (by simp) p (by simp) h0;subst this;refine⟨c.1,λx=>(c.2 x).trans ?_⟩;simp
  ·rename_i h0;have z:=k a VJ;have y:=h.anti a p;have d:o p a<0:=by omega
   refine⟨List.pairwise_cons.2 ⟨λx f=>?_,c.1⟩,λx=>?_⟩
   ·rcases List.mem_cons.1 f with e | e
    ·subst e;exact d
    ·exact h.lt_trans d (by have:=(List.pairwise_cons.1 c.1).1 x e;omega)
   ·rw[List.mem_cons,c.2 x];simp
theorem Gv_ (h:gw_ o) {l m:List α} (c:m.Perm l) (j:m.Pairwise λa b=>¬o b a<0) (d:∀a,a∈l->∀b,b∈l->o a b=0->a=b):cpt o m=an_ o l:=by
 have e:=ct_ h d
 cases m with
 | nil=>
  have:=c.symm.eq_nil;subst this;rfl
 | cons p r=>
  have f:=Ky_ h p r j (λa i b hb=>d a (c.mem_iff.1 i) b (c.mem_iff.1 hb));refine i4_ h f.1 e.1 λx=>?_;rw[e.2 x];exact (f.2 x).trans c.mem_iff
end
structure e_ where
 s:g_
 p:g_
 o:g_
def e_.get (t:e_) (i:Nat):g_:=if i=0 then t.s else if i=1 then t.p else t.o
structure Way where
 i:Nat
 j:Nat
 k:Nat
def Way.get (w:Way) (n:Nat):Nat:=if n=0 then w.i else if n=1 then w.j else w.k
def aa_ (n:Nat):Way:=if n=0 then ⟨0,1,2⟩ else if n=1 then ⟨0,2,1⟩ else if n=2 then ⟨1,0,2⟩ else if n=3 then ⟨1,2,0⟩ else if n=4 then ⟨2,0,1⟩ else ⟨2,1,0⟩
def Way.Ok (w:Way):Prop:=(w.i=0\/w.j=0\/w.k=0)/\(w.i=1\/w.j=1\/w.k=1)/\(w.i=2\/w.j=2\/w.k=2)
theorem eb_ (n:Nat):(aa_ n).Ok:=by
 unfold aa_ Way.Ok;repeat' split
 all_goals simp
def s_ (w:Way) (a b:e_):Int:=ar_ (y_ (a.get w.i) (b.get w.i)) (ar_ (y_ (a.get w.j) (b.get w.j)) (y_ (a.get w.k) (b.get w.k)))
theorem az_ (w:Way):gw_ (s_ w):=(da_.prod (da_.prod da_)).pre λt:e_=>(Ab_ (t.get w.i),Ab_ (t.get w.j),Ab_ (t.get w.k))
theorem dp_:gw_ y_:=da_.pre Ab_
structure cj_ (t:e_):Prop where
 s:af_ t.s
 p:af_ t.p
 o:af_ t.o
theorem cj_.get {t:e_} (h:cj_ t) (i:Nat):af_ (t.get i):=by
 unfold e_.get;split
 ·exact h.s
 ·split
  ·exact h.p
  ·exact h.o
theorem tz_ {x y:Int}:ar_ x y=0↔x=0/\y=0:=by unfold ar_;split<;>omega
theorem pi_ {w:Way} {a b:e_}:s_ w a b=0↔y_ (a.get w.i) (b.get w.i)=0/\y_ (a.get w.j) (b.get w.j)=0/\y_ (a.get w.k) (b.get w.k)=0:=by unfold s_;rw[tz_,tz_]
theorem y1_ {w:Way} (d:w.Ok) {a b:e_} (h1:a.get w.i=b.get w.i) (h2:a.get w.j=b.get w.j) (c:a.get w.k=b.get w.k):a=b:=by
 have h:∀n,n=0\/n=1\/n=2->a.get n=b.get n:=by
  unfold Way.Ok at d;intro n q;rcases q with rfl | rfl | rfl
  ·rcases d.1 with e | e | e
   ·rw[e]at h1;exact h1
   ·rw[e]at h2;exact h2
   ·rw[e]at c;exact c
  ·rcases d.2.1 with e | e | e
   ·rw[e]at h1;exact h1
   ·rw[e]at h2;exact h2
   ·rw[e]at c;exact c
  ·rcases d.2.2 with e | e | e
   ·rw[e]at h1;exact h1
   ·rw[e]at h2;exact h2
   ·rw[e]at c;exact c
 have f:=h 0 (by simp);have m:=h 1 (by simp);have p:=h 2 (by simp)
 cases a
 cases b;simp only[e_.get]at f m p;simp at f m p;rw[f,m,p]
theorem fp_ {w:Way} (e:w.Ok) {a b:e_} (c:cj_ a) (hb:cj_ b) (h:s_ w a b=0):a=b:=by obtain⟨h1,h2,d⟩:=pi_.1 h;exact y1_ e (d9_ (c.get _) (hb.get _) h1) (d9_ (c.get _) (hb.get _) h2) (d9_ (c.get _) (hb.get _) d)
noncomputable def ch_ (t:e_):Bool:=I_ t.s 0&&(I_ t.p 0&&(I_ t.o 0&&(decide (t.p.kind=8)&&(decide (t.s.kind=8\/t.s.kind=9)&&decide (t.o.kind=8\/t.o.kind=9\/t.o.kind=10\/t.o.kind=4\/t.o.kind=1\/t.o.kind=2\/t.o.kind=3)))))
end
section
open Go Go.RowKit
abbrev bu_ (α : Type):=QV->(Nat->Prop) -> α -> Array XJ->Prop
structure bu_.Good {α : Type} (R:bu_ α):Prop where
 keep:∀{w w':QV} {F:Nat->Prop} {x:α} {c:Array XJ},R w F x c->(∀p:Addr,F p.block->w'.cell? p=w.cell? p)->R w' F x c
 mono:∀{w:QV} {F F':Nat->Prop} {x:α} {c:Array XJ},R w F x c->(∀g,F g->F' g)->R w F' x c
variable {α : Type} {R:bu_ α} {w w':QV} {F F' G:Nat->Prop} {l:List α} {A:Option Addr} {n sz:Nat} {s:XJ} {E:Nat}
def SRd (sz:Nat) (R:bu_ α) (w:QV) (F:Nat->Prop) (l:List α) (A:Option Addr) (n:Nat):Prop:=
 n=l.length/\(0<n->∃ad,A=QJ ad/\F ad.block/\∀i x,l[i]?=QJ x->∃c:Array XJ,c.size=sz/\(∀j,j<sz->w.cell? (ad.add (i*sz+j))=c[j]?)/\R w F x c)
def SlR (sz:Nat) (R:bu_ α) (w:QV) (F:Nat->Prop) (l:List α) (s:XJ):Prop:=
 ∃A b,s = QQ A l.length b/\l.length<=b/\SRd sz R w F l A l.length
theorem c3_ {l:List α} {i:Nat} {x:α} (h:l[i]?=QJ x):i<l.length:=(List.getElem?_eq_some_iff.1 h).1
theorem SRd.keep (k:R.Good) (h:SRd sz R w F l A n) (d:∀p:Addr,F p.block->w'.cell? p=w.cell? p):SRd sz R w' F l A n:=
 ⟨h.1,λr=>by
  obtain⟨ad,e,b,m⟩:=h.2 r;refine⟨ad,e,b,λi x t=>?_⟩;obtain⟨c,h1,h2,f⟩:=m i x t;exact⟨c,h1,λj q=>(d _ (by rw[block_of_add];exact b)).trans (h2 j q),k.keep f d⟩⟩
theorem SRd.mono (f:R.Good) (h:SRd sz R w F l A n) (b:∀g,F g->F' g):SRd sz R w F' l A n:=
 ⟨h.1,λm=>by
  obtain⟨ad,e,k,j⟩:=h.2 m;refine⟨ad,e,b _ k,λi x p=>?_⟩;obtain⟨c,h1,h2,d⟩:=j i x p;exact⟨c,h1,h2,f.mono d b⟩⟩
theorem SRd.under {B:Nat} (c:R.Good) (h:SRd sz R w F l A n) (hb:XW B w w') (b:∀g,F g->g<B):SRd sz R w' F l A n:=h.keep c λ_ d=>hb.cell (b _ d)
theorem SRd.drewN (b:R.Good) (h:SRd sz R w F l A n) (m:Nat):SRd sz R (w.drewN m) F l A n:=h.keep b λ_ _=>rfl
theorem SRd.nil (sz:Nat) (R:bu_ α) (w:QV) (F:Nat->Prop) (A:Option Addr):SRd sz R w F [] A 0:=⟨rfl,λh=>absurd h (by omega)⟩
theorem SlR.nil (sz:Nat) (R:bu_ α) (w:QV) (F:Nat->Prop):SlR sz R w F [] (QQ QK 0 0):=⟨QK,0,rfl,XK _,SRd.nil ..⟩
theorem SlR.keep (c:R.Good) (h:SlR sz R w F l s) (f:∀p:Addr,F p.block->w'.cell? p=w.cell? p):SlR sz R w' F l s:=by obtain⟨A,b,e,d,h⟩:=h;exact⟨A,b,e,d,h.keep c f⟩
theorem SlR.mono (d:R.Good) (h:SlR sz R w F l s) (c:∀g,F g->F' g):SlR sz R w F' l s:=by obtain⟨A,b,e,f,h⟩:=h;exact⟨A,b,e,f,h.mono d c⟩
theorem SlR.under {B:Nat} (c:R.Good) (h:SlR sz R w F l s) (hb:XW B w w') (b:∀g,F g->g<B):SlR sz R w' F l s:=h.keep c λ_ d=>hb.cell (b _ d)
theorem SlR.turn {S:Nat->Prop} (c:R.Good) (h:SlR sz R w F l s) (ht:Turn S w w') (e:∀g,F g->g<w.heap.size) (d:∀g,F g->¬S g):SlR sz R w' F l s:=h.keep c λ_ b=>ht.cell (e _ b) (d _ b)
theorem SRd.at_ (h:SRd sz R w F l A n) {i:Nat} {x:α} (b:l[i]?=QJ x):∃ad c,A=QJ ad/\F ad.block/\c.size=sz/\(∀j,j<sz->w.cell? (ad.add (i*sz+j))=c[j]?)/\R w F x c:=by have hi:=c3_ b;obtain⟨ad,e,f,k⟩:=h.2 (by rw[h.1];omega);obtain⟨c,h1,h2,d⟩:=k i x b;exact⟨ad,c,e,f,h1,h2,d⟩
def R_ (cs:Nat->Array XJ) (n:Nat):List XJ:=(List.range n).flatMap λi=>(cs i).toList
theorem dt_ (cs:Nat->Array XJ) (n:Nat):R_ cs (n+1)=R_ cs n++(cs n).toList:=by unfold R_;rw[List.range_succ];simp
theorem gf_ {cs ds:Nat->Array XJ} {n:Nat} (h:∀i,i<n->cs i=ds i):R_ cs n=R_ ds n:=by unfold R_;rw[List.flatMap_def,List.flatMap_def,List.map_congr_left λi hi=>by rw[h i (List.mem_range.1 hi)]]
theorem ap_ {cs:Nat->Array XJ} {n sz:Nat} (h:∀i,i<n->(cs i).size=sz):(R_ cs n).length=n*sz:=by
 induction n with
 | zero=>simp[R_]
 | succ n b=>rw[dt_,ZZ,b (λi hi=>h i (by omega)),Array.length_toList,h n (by omega),Nat.succ_mul]
theorem cr_ {cs:Nat->Array XJ} {n i j sz:Nat} (h:∀i,i<n->(cs i).size=sz) (hi:i<n) (e:j<sz):(R_ cs n)[i*sz+j]?=(cs i)[j]?:=by
 induction n with
 | zero=>omega
 | succ n d=>
  have c:=ap_ (cs:=cs) (n:=n) (sz:=sz) (λi hi=>h i (by omega));rw[dt_];by_cases b:i=n
  ·subst b;rw[List.getElem?_append_right (by omega),c,Nat.add_sub_cancel_left];simp
  ·have h1:(i+1)*sz<=n*sz:=Nat.mul_le_mul_right sz (by omega);rw[Nat.succ_mul]at h1;rw[List.getElem?_append_left (by omega)];exact d (λi hi=>h i (by omega)) (by omega)
def x_ (E sz:Nat) (R:bu_ α) (w:QV) (F:Nat->Prop) (l:List α) (s:XJ):Prop:=
 ∃cs:Nat->Array XJ,w.ownsRow 0 E sz s l.length (R_ cs l.length)/\(∀i,i<l.length->(cs i).size=sz)/\(∀g,s.ownBlock=QJ g->F g) /\
  ∀i x,l[i]?=QJ x->R w (λb=>F b/\s.ownBlock≠QJ b) x (cs i)
theorem x_.form (h:x_ E sz R w F l s):∃A c,s = QQ A l.length c:=by obtain⟨cs,b,_⟩:=h;exact cp_ b
theorem x_.nil (E sz:Nat) (R:bu_ α) (w:QV) (F:Nat->Prop):x_ E sz R w F [] (QQ QK 0 0):=
 ⟨λ_=>#[],World.ownsRow_nil _ _ _ _,(λ_ hi=>absurd hi (Nat.not_lt_zero _)),(λg b=>by cases b),(λi x c=>by simp at c)⟩
theorem x_.turn {S:Nat->Prop} (k:R.Good) (h:x_ E sz R w F l s) (ht:Turn S w w') (q:∀b,F b->b<w.heap.size) (e:∀b,F b->¬S b):x_ E sz R w' F l s:=by obtain⟨cs,c,j,d,r⟩:=h;exact⟨cs,ht.owns c (λg m=>e g (d g m)),j,d,λi x t=>k.keep (r i x t) λp f=>ht.cell (q _ f.1) (e _ f.1)⟩
theorem x_.mono (k:R.Good) (h:x_ E sz R w F l s) (e:∀b,F b->F' b):x_ E sz R w F' l s:=by obtain⟨cs,d,j,f,m⟩:=h;exact⟨cs,d,j,λg c=>e g (f g c),λi x p=>k.mono (m i x p) λg c=>⟨e g c.1,c.2⟩⟩
theorem s7_ {c e d:Nat} {A:Option Addr} {n b:Nat} {xs:List XJ} (h:w.ownsRow c e d (QQ A n b) n xs):n<=b:=by
 rcases h.2 with⟨h0,h1⟩ | ⟨g,cp,f,h0,_,_,h1,_⟩
 ·injection h0 with _ h2 h3;omega
 ·injection h0 with _ _ h3;omega
theorem x_.rd (p:R.Good) (h:x_ E sz R w F l s):SlR sz R w F l s:=by
 obtain⟨A,d,rfl⟩:=h.form;obtain⟨cs,b,e,m,t⟩:=h;refine⟨A,d,rfl,s7_ b,rfl,λr=>?_⟩;obtain⟨g,cp,c,_,_⟩:=b.form r;injection c with c _ hcp;subst c;subst hcp;refine⟨⟨g,0,QK⟩,rfl,m g rfl,λi x k=>?_⟩;have hi:=c3_ k;refine⟨cs i,e i hi,λj q=>?_,p.mono (t i x k) λ_ h=>h.1⟩;have f:i*sz+j<l.length*sz:=by have h1:(i+1)*sz<=l.length*sz:=Nat.mul_le_mul_right sz (by omega);rw[Nat.succ_mul]at h1;omega
 have h1:=b.cellAt (i*sz+j) f;rw[cr_ e hi q]at h1;rw[<-h1];unfold Addr.add;split<;>simp_all
theorem x_.snoc {w5 w6:QV} {x:α} {c:Array XJ} {g4 c4:Nat} (k:R.Good) (h:x_ E sz R w5 F l s) (O:R w5 G x c) (L:c.size=sz)
    (r:∀b,G b->s.ownBlock≠QJ b) (m:∀b,F b->b<w5.heap.size) (q:∀b,G b->b<w5.heap.size)
    (M:∀cs:Nat->Array XJ,w5.ownsRow 0 E sz s l.length (R_ cs l.length)->w6.ownsRow 0 E sz (QQ (QJ ⟨g4,0,QK⟩) (l.length+1) c4) (l.length+1) (R_ cs l.length++c.toList)) (D:w5.grownBy w6 s.ownBlock) (I:s.ownBlock=QJ g4\/w5.heap.size<=g4) :
    x_ E sz R w6 (λb=>F b\/G b\/b=g4) (l++[x]) (QQ (QJ ⟨g4,0,QK⟩) (l.length+1) c4):=by
 obtain⟨cs,v,J,T,N⟩:=h;have t:(l++[x]).length=l.length+1:=by simp
 have C:∀i,i<l.length->(λi=>if i<l.length then cs i else c) i=cs i:=λi hi=>iP_ hi
 have z:∀b,F b->s.ownBlock≠QJ b->b≠g4:=λb hb h2 e=>by
  rcases I with h | h
  ·exact h2 (by rw[h,e])
  ·have:=m b hb;omega
 have B:∀b,G b->b≠g4:=λb hb e=>by
  rcases I with h | h
  ·exact r b hb (by rw[h,e])
  ·have:=q b hb;omega
 refine⟨λi=>if i<l.length then cs i else c,?_,λi hi=>?_,λg d=>?_,λi y j=>?_⟩
 ·rw[t,dt_,gf_ C,iN_ (Nat.lt_irrefl _)];exact M cs v
 ·by_cases h:i<l.length
  ·simp only[iP_ h];exact J i h
  ·simp only[iN_ h];exact L
 ·injection d with d;exact .inr (.inr d.symm)
 ·by_cases h:i<l.length
  ·simp only[iP_ h];rw[List.getElem?_append_left h]at j;refine k.mono (k.keep (N i y j) (w':=w6) λp f=>(Turn.of_grown D).cell (m _ f.1) λe=>f.2 e.symm) λb hb=>⟨.inl hb.1,λe=>?_⟩;injection e with e;exact z b hb.1 hb.2 e.symm
  ·simp only[iN_ h];have hi:i=l.length:=by have:=c3_ j;omega
   subst hi;simp at j;subst j;refine k.mono (k.keep O (w':=w6) λp f=>(Turn.of_grown D).cell (q _ f) λe=>r _ f e.symm) λb hb=>⟨.inr (.inl hb),λe=>?_⟩;injection e with e;exact B b hb e.symm
def TxR:bu_ ByteArray:=λ_ _ t c=>c=#[QZ t]
theorem TxR.good:TxR.Good:=⟨λh _=>h,λh _=>h⟩
def IxR:bu_ Int:=λ_ _ t c=>c=#[QY QU t]
theorem IxR.good:IxR.Good:=⟨λh _=>h,λh _=>h⟩
structure J_ where
 key:ByteArray
 v:g_
structure i_ where
 id:Int
 labels:List ByteArray
 props:List J_
structure l_ where
 id:Int
 src:Int
 dst:Int
 type:ByteArray
 props:List J_
structure D_ where
 nodes:List i_
 edges:List l_
def c1_ (p:J_) (s:XJ):Array XJ:=#[QZ p.key,QY QU p.v.kind,XY p.v.truth,QY QU p.v.num,QZ p.v.text,QZ p.v.extra,s]
def PaR:bu_ J_:=λw F p c=>∃s,c=c1_ p s/\VRd w F p.v (.agg (c_ p.v s))
theorem PaR.good:PaR.Good:=⟨fun⟨s,e,h⟩ hk=>⟨s,e,h.keep hk⟩,fun⟨s,e,h⟩ hF=>⟨s,e,h.mono hF⟩⟩
def NoR:bu_ i_:=λw F n c=>∃L P,c=#[QY QU n.id,L,P]/\SlR 1 TxR w F n.labels L/\SlR 7 PaR w F n.props P
theorem NoR.good:NoR.Good:=⟨fun⟨L,P,e,h1,h2⟩ hk=>⟨L,P,e,h1.keep TxR.good hk,h2.keep PaR.good hk⟩,fun⟨L,P,e,h1,h2⟩ hF=>⟨L,P,e,h1.mono TxR.good hF,h2.mono PaR.good hF⟩⟩
def EdR:bu_ l_:=λw F e c=>∃P,c=#[QY QU e.id,QY QU e.src,QY QU e.dst,QZ e.type,P]/\SlR 7 PaR w F e.props P
theorem EdR.good:EdR.Good:=⟨fun⟨P,e,h⟩ hk=>⟨P,e,h.keep PaR.good hk⟩,fun⟨P,e,h⟩ hF=>⟨P,e,h.mono PaR.good hF⟩⟩
def GrR (w:QV) (F:Nat->Prop) (g:D_) (u:XJ):Prop:=∃N E,u = .agg #[N,E]/\SlR 3 NoR w F g.nodes N/\SlR 5 EdR w F g.edges E
section
variable {w w':QV} {F F':Nat->Prop} {g:D_} {u:XJ}
theorem GrR.keep (h:GrR w F g u) (b:∀p:Addr,F p.block->w'.cell? p=w.cell? p):GrR w' F g u:=by obtain⟨N,E,e,h1,h2⟩:=h;exact⟨N,E,e,h1.keep NoR.good b,h2.keep EdR.good b⟩
theorem GrR.mono (h:GrR w F g u) (b:∀g,F g->F' g):GrR w F' g u:=by obtain⟨N,E,e,h1,h2⟩:=h;exact⟨N,E,e,h1.mono NoR.good b,h2.mono EdR.good b⟩
theorem GrR.under {B:Nat} (h:GrR w F g u) (hb:XW B w w') (b:∀g,F g->g<B):GrR w' F g u:=h.keep λ_ c=>hb.cell (b _ c)
end
end
section
open Go
section
open Classical
variable {α : Type} {o:α -> α -> Int}
noncomputable def ay_ (l:List α):List α:=l.foldl (λD v=>if v∈D then D else D++[v]) []
theorem ev_ (l:List α) (v:α):ay_ (l++[v])=if v∈ay_ l then ay_ l else ay_ l++[v]:=by unfold ay_;rw[List.foldl_append];rfl
theorem fw_ (l:List α):∀n x,x∈ay_ (l.take n)↔x∈l.take n:=by
 intro n;induction n with
 | zero=>exact λx=>Iff.rfl
 | succ n b=>
  intro x;by_cases d:n<l.length
  ·rw[List.take_succ_eq_append_getElem d,ev_];by_cases c:l[n]∈ay_ (l.take n)
   ·rw[iP_ c,b,List.mem_append,List.mem_singleton];exact⟨.inl,λh=>h.elim id λh=>by rw[h];exact (b _).1 c⟩
   ·rw[iN_ c,List.mem_append,List.mem_append,b]
  ·rw[YJ (by omega)];rw[YJ (by omega)]at b;exact b x
theorem w1_ (h:gw_ o) {l:List α} (p:l.Pairwise λa b=>¬o b a<0) (m:∀a,a∈l->∀b,b∈l->o a b=0->a=b):∀n,j9_ o (ay_ (l.take n)):=by
 intro n;induction n with
 | zero=>exact List.Pairwise.nil
 | succ n c=>
  by_cases j:n<l.length
  ·rw[List.take_succ_eq_append_getElem j,ev_];by_cases f:l[n]∈ay_ (l.take n)
   ·rw[iP_ f];exact c
   ·rw[iN_ f];refine List.pairwise_append.2 ⟨c,List.pairwise_singleton _ _,λa e b hb=>?_⟩;rw[List.mem_singleton]at hb;subst hb;have k:=(fw_ l n a).1 e;obtain⟨i,hi,rfl⟩:=List.mem_take_iff_getElem.1 k;have h1:=List.pairwise_iff_getElem.1 p i n (by omega) j (by omega);have h2:=h.anti l[i] l[n];rcases Int.lt_or_eq_of_le (show o l[i] l[n]<=0 by omega) with d | d
    ·exact d
    ·have:=m _ (List.getElem_mem _) _ (List.getElem_mem j) d;rw[this]at e;exact absurd e f
  ·rw[YJ (by omega)];rw[YJ (by omega)]at c;exact c
theorem w0_ (h:gw_ o) {l m:List α} (c:m.Perm l) (k:m.Pairwise λa b=>¬o b a<0) (d:∀a,a∈l->∀b,b∈l->o a b=0->a=b):ay_ m=an_ o l:=by have e:=ct_ h d;have i:=w1_ h k (λa j b hb=>d a (c.mem_iff.1 j) b (c.mem_iff.1 hb)) m.length;have f:=fw_ m m.length;rw[List.take_length]at i f;exact i4_ h i e.1 λx=>by rw[e.2 x,f x];exact c.mem_iff
end
theorem hs_ {K:Type} [DecidableEq K] (a:K) (r:List K) (x:K):place (a::r) x=if a=x then 0 else place r x+1:=by
 unfold place;rw[List.idxOf_cons];by_cases e:a=x
 ·simp[e]
 ·rw[iN_ e,show (a==x)=false from bN_.2 e];rfl
def txV (s:ByteArray):g_:=.mk 4 false 0 s ⟨#[]⟩ []
def sV:ByteArray:=⟨#[118]⟩
def sX:ByteArray:=⟨#[120]⟩
def Jh_:ByteArray:=⟨#[73,114,105]⟩
def q9_:ByteArray:=⟨#[66,108,97,110,107]⟩
def Ji_:ByteArray:=⟨#[76,105,116]⟩
def Jj_:ByteArray:=⟨#[86,97,108]⟩
def U_ (b:Int) (v:g_):i_:=
 if v.kind=8 then ⟨b,[Jh_],[⟨sV,txV v.text⟩]⟩ else if v.kind=9 then ⟨b,[q9_],[⟨sV,txV v.text⟩]⟩ else if v.kind=10 then ⟨b,[Ji_],[⟨sV,txV v.text⟩,⟨sX,txV v.extra⟩]⟩ else ⟨b,[Jj_],[⟨sV,v⟩]⟩
def dh_ (T:List e_):List g_:=T.flatMap λt=>[t.s,t.o]
def ab_ (T:List e_):List g_:=an_ y_ (dh_ T)
noncomputable def bb_ (D:List g_) (v:g_):Int:=open Classical in ((place D v:Nat):Int)
noncomputable def bn_ (T:List e_):D_ where
 nodes:=(ab_ T).mapIdx λi v=>U_ (i:Nat) v
 edges:=T.mapIdx λi t=>⟨(i:Nat),bb_ (ab_ T) t.s,bb_ (ab_ T) t.o,t.p.text,[]⟩
end
section
open Go Go.RowKit Go.Sort
def ci_ (w : World) : Prop := Lib.TabIs Tryz.prog w "internal/strconv.uint64pow10" .u64 Lib.pow10Tab
theorem zm_ (w:QV) (k:Nat) (os:Array Obj):XW w.heap.size w (grow (w.drewN k) os):=
 ⟨rfl,rfl,rfl,by unfold grow;simp,λi hi=>by
  unfold grow;show (w.heap++os)[i]?=w.heap[i]?;exact Array.getElem?_append_left hi⟩
theorem z8_ (n:Int) (h0:-9223372036854775808<=n) (h1:n<=9223372036854775807) (w:QV) (ht:ci_ w) :
    Calls QW 305 #[QY QU n,QY QU 10] w λe w'=>e = YQ (QZ ⟨(Lib.itoa n).toArray⟩)/\XW w.heap.size w w':=
 (Any.strconv_FormatInt_10 Tryz.laysM173 n h0 h1 w ht).mono λe w' ⟨h1,k,os,h2⟩=>⟨h1,by rw[h2];exact zm_ w k os⟩
theorem K_ {w w':QV} (h:ci_ w) (hb:XW w.heap.size w w'):ci_ w':=Lib.tabBelow_of_tabIs h w' hb
theorem nn_ (n:Int):au_ n=bK (Lib.itoa n++[46,48]):=rfl
theorem H0_ {n:Int} (h0:-9223372036854775808<=n) (h1:n<=9223372036854775807):(Lib.itoa n).length<=21:=by
 rw[ix_,ZZ];have h2:=(up_ (u:=n.natAbs) (by omega)).2;by_cases h:n<0
 ·rw[dT_ h];simp only[cond_true,List.length_singleton];omega
 ·rw[dF_ h];simp only[cond_false,List.length_nil];omega
def M6_ (n:Int) (w:QV) (e:Ending) (w':QV):Prop:=e = YQ (QZ (au_ n))/\XW w.heap.size w w'
theorem D7_ (n:Int) (h0:-9223372036854775808<=n) (h1:n<=9223372036854775807) (w:QV) (ht:ci_ w) :
    Calls QW 266 #[QY QU n] w (M6_ n w):=by
 have c:=q_ (z8_ n h0 h1 w ht)
 have b:∀W:QV,(Op.stringOp .add (bK (Lib.itoa n)) ⟨#[46,48]⟩).run QW W = .ok (.string (au_ n)) W:=λW=>by
  have e:au_ n=bK (Lib.itoa n)++(⟨#[46,48]⟩:ByteArray):=by rw[nn_,<-bg_];rfl
  rw[e];exact UV W _ _ (by rw[as_];have:=H0_ h0 h1;show _+2<=_;omega)
 have f:(⟨(Lib.itoa n).toArray⟩:ByteArray)=bK (Lib.itoa n):=rfl;rw[f]at c;obtain⟨m,h⟩:=a_ (bK (Lib.itoa n));obtain⟨k,d⟩:=a_ (au_ n);have j:=q_ (show ∀w',XW w.heap.size w w'->M6_ n w (YQ (QZ k)) w' from λw' hb=>⟨by rw[d.o],hb⟩);rw[h.o]at c b;rw[d.o]at b;clear ht h0 h1 f;go_enter func266,ntmps266
 go_wp2_with fail;refine c.o.mono ?_;rintro e p ⟨rfl,hb⟩;have i:=q_ hb;clear hb;go_wp2_with fail;go_ret;exact j.o _ i.o
theorem p6_ (u:Nat):Lib.decDigits u=if u<10 then [UInt8.ofNat (48+u)] else Lib.decDigits (u / 10)++[UInt8.ofNat (48+u % 10)]:=by
 rw[Lib.decDigits];by_cases h:u<10
 ·rw[dif_pos h,iP_ h]
 ·rw[dif_neg h,iN_ h]
theorem Iv_ (c:UInt8) (W:QV):(convert 197 9 (QQ (QJ ⟨W.heap.size,0,QK⟩) 1 1)).run QW (W.alloc (XX #[QY .u8 (c.toNat:Int)] 5)) = .ok (QZ (bK [c])) (W.alloc (XX #[QY .u8 (c.toNat:Int)] 5)):=by
 have d:Tryz.prog.underlying 5=QJ (.int .u8):=by kernel_rfl
 have b:Tryz.prog.underlying 9=some .string:=by kernel_rfl
 exact run_convert_bytes_back _ 197 9 5 ⟨W.heap.size,0,QK⟩ 1 [c] underlying197 d b (Lib.bytes_of_row (XU W _) rfl)
structure OfM (w:QV) (n:Int) (neg:Bool) (u:Nat) (mm:Int) (l:List UInt8) (wx:QV):Prop where
 sg:mm=if neg=true then -(u:Int) else (u:Int)
 ng:neg=decide (n<0)
 dg:Lib.decDigits n.natAbs=Lib.decDigits u++l
 le:u<=9223372036854775808
 ll:l.length<=20
 hb:XW w.heap.size w wx
theorem Lt_ (u:Nat):Int.tmod (-(u:Int)) 10 = -((u % 10:Nat):Int):=by rw[Int.neg_tmod];rfl
theorem K2_ (u:Nat):Int.tdiv (-(u:Int)) 10 = -((u / 10:Nat):Int):=by rw[Int.neg_tdiv];rfl
theorem vh_ (n:Int) (h0:-9223372036854775808<=n) (h1:n<=9223372036854775807) (w:QV) :
    Calls QW 254 #[QY QU n] w (M6_ n w):=by
 have L:=(up_ (u:=n.natAbs) (by omega)).2
 have U:=q_ (show OfM w n (decide (n<0)) n.natAbs n [] w from {
  sg:=by
   by_cases h:n<0
   ·rw[dT_ h,iP_ rfl];omega
   ·rw[dF_ h,iN_ Bool.false_ne_true];omega
  ng:=rfl
  dg:=by simp
  le:=by omega
  ll:=by simp
  hb:=XV _ _ })
 have a0:=q_ L;obtain⟨f,a1⟩:=a_ (decide (n<0));rw[a1.o]at U;clear L;go_enter func254,ntmps254
 go_wp2_with fail;go_loopw [3,4] (λs3 s4 wx=>∃(u:Nat) (l:List UInt8) (y:Int),s3 = QZ (bK l)/\s4 = QY QU y/\Q_ (OfM w n f u y l wx)) (λ_ s4 _=>(intOf s4).natAbs)
 case atStart=>exact⟨n.natAbs,[],n,rfl,rfl,U⟩
 case round=>
  obtain⟨u,l,y,rfl,rfl,b⟩:=hrel;obtain⟨d,C⟩:=a_ (u % 10);obtain⟨q,p⟩:=a_ (u / 10);obtain⟨c,T⟩:=a_ (UInt8.ofNat (48+d));have a8:d<=9:=by rw[<-C.o];omega
  have a4:q<=9223372036854775808:=by rw[<-p.o];have:=b.o.le;omega
  have X:c.toNat=48+d:=by rw[<-T.o,UInt8.toNat_ofNat',Nat.mod_eq_of_lt (by omega)]
  obtain⟨ad,V⟩:=a_ (c.toNat);have J:ad=48+d:=by rw[<-V.o,X]
  have Y:=q_ λW:QV=>Iv_ c W
  have a5:∀W:QV,(Op.stringOp .add (bK [c]) (bK l)).run QW W = .ok (.string (bK (c::l))) W:=λW=>by
   have e:bK (c::l)=bK [c]++bK l:=by rw[bg_];rfl
   rw[e];exact UV W _ _ (by rw[as_,as_];have:=b.o.ll;simp;omega)
  have v1:IntKind.i64.wrap (48+(d:Int))=(ad:Int):=by rw[YU _ (by omega),J];push_cast;rfl
  have v2:IntKind.u8.wrap (ad:Int)=(ad:Int):=IntWalk.u8_in _ (by omega);have v3:(48:Int)+(d:Int)=(ad:Int):=by rw[J];push_cast;rfl
  have a6:ad<=57:=by omega
  rw[V.o]at Y;clear J X;obtain⟨k,i⟩:=a_ (if f=true then -(q:Int) else (q:Int))
  obtain⟨O,D⟩:=a_ (if f=true then -(d:Int) else (d:Int))
  have r1:Int.tmod y 10=O:=by
   rw[b.o.sg,<-D.o,<-C.o]
   cases f
   ·rfl
   ·exact Lt_ u
  have r2:Int.tdiv y 10=k:=by
   rw[b.o.sg,<-i.o,<-p.o]
   cases f
   ·rfl
   ·exact K2_ u
  have r3:IntKind.i64.wrap k=k:=YU _ (by rw[<-i.o];have:=b.o.le;have:=p.o;split<;>omega)
  have B:=q_ (show ∀wy,XW w.heap.size w wy->q≠0->OfM w n f q k (c::l) wy from λwy hb j=>{
   sg:=i.o.symm
   ng:=b.o.ng
   dg:=by have r:=p6_ u;rw[iN_ (by have:=p.o;omega),p.o,C.o,T.o]at r;rw[b.o.dg,r,UW];rfl
   le:=a4
   ll:=by have r:=b.o.dg;have h8:=p6_ u;rw[iN_ (by have:=p.o;omega),p.o,C.o,T.o]at h8;rw[h8]at r;have h7:=congrArg List.length r;have h6:=a0.o;simp only[ZZ,List.length_singleton]at h7;simp only[List.length_cons];omega
   hb:=hb })
  have z:=q_ (show q=0->Lib.decDigits n.natAbs=c::l from λj=>by
   have r:=p6_ u;have hu:u<10:=by have:=p.o;omega
   rw[iP_ hu]at r;rw[b.o.dg,r,<-T.o,<-C.o,Nat.mod_eq_of_lt hu];rfl)
  have Z:True:=trivial;have a7:=Y.o wr;by_cases v:O<0
  ·have n1:-O=(d:Int):=by
     rw[<-D.o]at v ⊢
     cases f
     ·simp at v;omega
     ·simp
   have n2:IntKind.i64.wrap (-O)=(d:Int):=by rw[n1];exact YU _ (by omega)
   by_cases j:q=0
   ·have e8:(k==0)=true:=by rw[<-i.o,j];cases f<;>rfl
    have hb:=q_ (show XW w.heap.size w (wr.alloc (XX #[QY .u8 (ad:Int)] 5)) from b.o.hb.alloc b.o.hb.size _);have HL:=q_ (z.o j);have t:=q_ (ix_ n);rw[HL.o,<-b.o.ng]at t;have m:=q_ (nn_ n);rw[t.o]at m;have a3:=b.o.ll;have x:=q_ (b.o.ng);clear j Z b
    cases f with
    | true=>
     have hn:n<0:=of_decide_eq_true x.o.symm
     have a2:∀W:QV,(Op.stringOp .add ⟨#[45]⟩ (bK (c::l))).run QW W = .ok (.string (bK (45::c::l))) W:=λW=>by
      have e:bK (45::c::l)=(⟨#[45]⟩:ByteArray)++bK (c::l):=by have:=bg_ [45] (c::l);exact this.symm
      rw[e];exact UV W _ _ (by rw[as_];show 1+_<=_;simp;omega)
     have I:∀W:QV,(Op.stringOp .add (bK (45::c::l)) ⟨#[46,48]⟩).run QW W = .ok (.string (au_ n)) W:=λW=>by
      have e:au_ n=bK (45::c::l)++(⟨#[46,48]⟩:ByteArray):=by rw[m.o];have:=bg_ (45::c::l) [46,48];exact this.symm
      rw[e];exact UV W _ _ (by rw[as_];show _+2<=_;simp;omega)
     go_wp2_with fail;go_ret;exact⟨rfl,hb.o⟩
    | false=>
     have hn:¬n<0:=of_decide_eq_false x.o.symm
     have I:∀W:QV,(Op.stringOp .add (bK (c::l)) ⟨#[46,48]⟩).run QW W = .ok (.string (au_ n)) W:=λW=>by
      have e:au_ n=bK (c::l)++(⟨#[46,48]⟩:ByteArray):=by rw[m.o];have:=bg_ (c::l) [46,48];exact this.symm
      rw[e];exact UV W _ _ (by rw[as_];show _+2<=_;simp;omega)
     go_wp2_with fail;go_ret;exact⟨rfl,hb.o⟩
   ·have e8:(k==0)=false:=by
      rw[<-i.o]
      cases f
      ·simp;omega
      ·simp;omega
    have N:=q_ (B.o (wr.alloc (XX #[QY .u8 (ad:Int)] 5)) (b.o.hb.alloc b.o.hb.size _) j);have M:=q_ (show k.natAbs<y.natAbs from by rw[<-i.o,b.o.sg];have:=p.o;split<;>omega)
    clear j;go_wp2_with fail;go_roundw
    case measure=>simpa [intOf] using M.o
    case rel=>exact⟨q,c::l,k,rfl,rfl,N⟩
  ·have n3:O=(d:Int):=by
     rw[<-D.o]at v ⊢
     cases f
     ·rfl
     ·simp at v;simp;omega
   rw[n3]at r1;have n4:¬(d:Int)<0:=by omega
   clear v n3;by_cases j:q=0
   ·have e8:(k==0)=true:=by rw[<-i.o,j];cases f<;>rfl
    have hb:=q_ (show XW w.heap.size w (wr.alloc (XX #[QY .u8 (ad:Int)] 5)) from b.o.hb.alloc b.o.hb.size _);have HL:=q_ (z.o j);have t:=q_ (ix_ n);rw[HL.o,<-b.o.ng]at t;have m:=q_ (nn_ n);rw[t.o]at m;have a3:=b.o.ll;have x:=q_ (b.o.ng);clear j Z b
    cases f with
    | true=>
     have hn:n<0:=of_decide_eq_true x.o.symm
     have a2:∀W:QV,(Op.stringOp .add ⟨#[45]⟩ (bK (c::l))).run QW W = .ok (.string (bK (45::c::l))) W:=λW=>by
      have e:bK (45::c::l)=(⟨#[45]⟩:ByteArray)++bK (c::l):=by have:=bg_ [45] (c::l);exact this.symm
      rw[e];exact UV W _ _ (by rw[as_];show 1+_<=_;simp;omega)
     have I:∀W:QV,(Op.stringOp .add (bK (45::c::l)) ⟨#[46,48]⟩).run QW W = .ok (.string (au_ n)) W:=λW=>by
      have e:au_ n=bK (45::c::l)++(⟨#[46,48]⟩:ByteArray):=by rw[m.o];have:=bg_ (45::c::l) [46,48];exact this.symm
      rw[e];exact UV W _ _ (by rw[as_];show _+2<=_;simp;omega)
     go_wp2_with fail;go_ret;exact⟨rfl,hb.o⟩
    | false=>
     have hn:¬n<0:=of_decide_eq_false x.o.symm
     have I:∀W:QV,(Op.stringOp .add (bK (c::l)) ⟨#[46,48]⟩).run QW W = .ok (.string (au_ n)) W:=λW=>by
      have e:au_ n=bK (c::l)++(⟨#[46,48]⟩:ByteArray):=by rw[m.o];have:=bg_ (c::l) [46,48];exact this.symm
      rw[e];exact UV W _ _ (by rw[as_];show _+2<=_;simp;omega)
     go_wp2_with fail;go_ret;exact⟨rfl,hb.o⟩
   ·have e8:(k==0)=false:=by
      rw[<-i.o]
      cases f
      ·simp;omega
      ·simp;omega
    have N:=q_ (B.o (wr.alloc (XX #[QY .u8 (ad:Int)] 5)) (b.o.hb.alloc b.o.hb.size _) j);have M:=q_ (show k.natAbs<y.natAbs from by rw[<-i.o,b.o.sg];have:=p.o;split<;>omega)
    clear j;go_wp2_with fail;go_roundw
    case measure=>simpa [intOf] using M.o
    case rel=>exact⟨q,c::l,k,rfl,rfl,N⟩
end
section
open Go Go.RowKit
structure H_ (p:Prop):Prop where
 o :p
section
variable {P:Program} {md:Region.Mode} {ops:Array Oper} {Q:Exit->Act->QV->Prop} {S:QV->Prop} {fuel:Nat} {listed:Array Bool} {a:Act} {w:QV}
def z_ (P:Program) (ops:Array Oper) (i:Nat) (a:Act) (w:QV) (v:XJ):Prop:=
 match ops[i]? with
 | some o=>(execOp a.eval o).run P w = .ok (.value v) w
 | none=>False
def f6_ (P:Program) (ops:Array Oper) (i:Nat) (a:Act) (w:QV) (K:Act->QV->Prop) (Q:Exit->Act->QV->Prop):Prop:=
 match ops[i]? with
 | some o=>Oper.wp P o a w K Q
 | none=>False
def ao_ (ops:Array Oper) (i:Nat) (a:Act):Option Bool:=ops[i]?.map λo=>Region.wanted o (yielded ops a.tmps)
theorem jt_ (i d:Nat) (v:XJ) (b:ops[i]?.map (·.dst)=QJ (QJ d)) (e:ao_ ops i a=QJ true) (p:Region.noSelect ops=true) (k:Region.free md ops listed i=true) (m:(Region.ready md ops listed).contains i=true)
    (j:∀c a w,Q (.panic c) (a.put (QJ d) v) w->Q (.panic c) a w) (f:S w) (q:∀w,S w->z_ P ops i a w v)
    (h:S w->H_ (wpAnyH P md ops Q S fuel (listed.setIfInBounds i true) (a.put (QJ d) v) w)):H_ (wpAnyH P md ops Q S (fuel+1) listed a w):=by
 unfold ao_ at e
 cases ho:ops[i]? with
 | none=>rw[ho]at b;cases b
 | some o=>
  rw[ho]at b e;simp only[Option.map_some,Option.some.injEq]at b e;exact⟨wpAnyH_take ho p k m (λc a w h=>j c a w (by rw[<-b];exact h)) (.inl ⟨e,λw e=>by have:=q w e;unfold z_ at this;rw[ho]at this;exact this⟩) f (by rw[b];exact (h f).o)⟩
theorem ty_ (i:Nat) (j:Region.ready md ops listed=[i]) (b:ao_ ops i a=QJ true)
    (h:∀d:Act->QV->Prop,Shut (∀a w,S w->(S w->H_ (wpAnyH P md ops Q S fuel (listed.setIfInBounds i true) a w))->d a w)->f6_ P ops i a w d Q):H_ (wpAnyH P md ops Q S (fuel+1) listed a w):=by
 unfold ao_ at b
 cases ho:ops[i]? with
 | none=>rw[ho]at b;cases b
 | some o=>
  rw[ho]at b;simp only[Option.map_some,Option.some.injEq]at b;refine⟨wpAnyH_ready j (by simp) (AllReadyH.cons ho (λK f=>?_) AllReadyH.nil)⟩;rw[iP_ b];have:=h K (λa w c e=>f.out a w c (λc=>(e c).o));unfold f6_ at this;rw[ho]at this;exact this
theorem ea_ (i j:Nat) (m:Region.ready md ops listed=[i,j]) (b:ao_ ops i a=QJ true) (c:ao_ ops j a=QJ true)
    (hi:∀e:Act->QV->Prop,Shut (∀a w,S w->(S w->H_ (wpAnyH P md ops Q S fuel (listed.setIfInBounds i true) a w))->e a w)->f6_ P ops i a w e Q)
    (k:∀e:Act->QV->Prop,Shut (∀a w,S w->(S w->H_ (wpAnyH P md ops Q S fuel (listed.setIfInBounds j true) a w))->e a w)->f6_ P ops j a w e Q):H_ (wpAnyH P md ops Q S (fuel+1) listed a w):=by
 unfold ao_ at b c
 cases hoi:ops[i]? with
 | none=>rw[hoi]at b;cases b
 | some o=>
  cases hoj:ops[j]? with
  | none=>rw[hoj]at c;cases c
  | some p=>
   rw[hoi]at b;rw[hoj]at c;simp only[Option.map_some,Option.some.injEq]at b c;refine⟨wpAnyH_ready m (by simp) (AllReadyH.cons hoi (λK h=>?_) (AllReadyH.cons hoj (λK h=>?_) AllReadyH.nil))⟩
   ·rw[iP_ b];have:=hi K (λa w d f=>h.out a w d (λd=>(f d).o));unfold f6_ at this;rw[hoi]at this;exact this
   ·rw[iP_ c];have:=k K (λa w d f=>h.out a w d (λd=>(f d).o));unfold f6_ at this;rw[hoj]at this;exact this
theorem aT {α : Type _} (l:List α) (i:Nat) (a:α):l.toArray.setIfInBounds i a=(l.set i a).toArray:=List.setIfInBounds_toArray ..
theorem aZ {α : Type _} (x:α) (l:List α) (a:α):(x::l).set 0 a=a::l:=List.set_cons_zero ..
theorem aS {α : Type _} (x:α) (l:List α) (n:Nat) (a:α):(x::l).set (n+1) a=x::l.set n a:=List.set_cons_succ ..
theorem tkW (i d:Nat) (v:XJ) (e:S w) (p:∀w,S w->z_ P ops i a w v)
    (h:S w->H_ (wpAnyH P md ops Q S fuel (listed.setIfInBounds i true) (a.put (QJ d) v) w)) (f:ops[i]?.map (·.dst)=QJ (QJ d):=by kernel_rfl) (q:ao_ ops i a=QJ true:=by rfl) (m:Region.noSelect ops=true:=by kernel_rfl) (j:Region.free md ops listed i=true:=by kernel_rfl) (k:(Region.ready md ops listed).contains i=true:=by kernel_rfl)
    (b:∀c a w,Q (.panic c) (a.put (QJ d) v) w->Q (.panic c) a w:=by exact λ_ _ _ h=>h):H_ (wpAnyH P md ops Q S (fuel+1) listed a w):=jt_ i d v f q m j k b e p h
theorem tkV (i d:Nat) (v:XJ) (e:S w)
    (h:S w->H_ (wpAnyH P md ops Q S fuel (listed.setIfInBounds i true) (a.put (QJ d) v) w)) (p:∀w,S w->z_ P ops i a w v:=by intro w r;unfold z_;go_simp) (f:ops[i]?.map (·.dst)=QJ (QJ d):=by kernel_rfl) (q:ao_ ops i a=QJ true:=by rfl) (m:Region.noSelect ops=true:=by kernel_rfl) (j:Region.free md ops listed i=true:=by kernel_rfl) (k:(Region.ready md ops listed).contains i=true:=by kernel_rfl)
    (b:∀c a w,Q (.panic c) (a.put (QJ d) v) w->Q (.panic c) a w:=by exact λ_ _ _ h=>h):H_ (wpAnyH P md ops Q S (fuel+1) listed a w):=jt_ i d v f q m j k b e p h
theorem tkC (i:Nat)
    (h:∀b:Act->QV->Prop,Shut (∀a w,S w->(S w->H_ (wpAnyH P md ops Q S fuel (listed.setIfInBounds i true) a w))->b a w)->f6_ P ops i a w b Q) (c:Region.ready md ops listed=[i]:=by kernel_rfl) (d:ao_ ops i a=QJ true:=by rfl):H_ (wpAnyH P md ops Q S (fuel+1) listed a w):=ty_ i c d h
theorem tlW (i d:Nat) (v:XJ) (j:S w) (x:∀w,S w->z_ P ops i a w v) {e:Array Bool} {b:Act}
    (h:S w->H_ (wpAnyH P md ops Q S fuel e b w)) (m:ops[i]?.map (·.dst)=QJ (QJ d):=by kernel_rfl) (y:ao_ ops i a=QJ true:=by rfl) (t:Region.noSelect ops=true:=by kernel_rfl) (p:Region.free md ops listed i=true:=by kernel_rfl) (r:(Region.ready md ops listed).contains i=true:=by kernel_rfl)
    (f:∀c a w,Q (.panic c) (a.put (QJ d) v) w->Q (.panic c) a w:=by exact λ_ _ _ h=>h) (q:listed.setIfInBounds i true=e:=by (try simp only[aT,aZ,aS]);rfl) (k:a.put (QJ d) v=b:=by (try simp only[VK,aT,aZ,aS]);rfl):H_ (wpAnyH P md ops Q S (fuel+1) listed a w):=jt_ i d v m y t p r f j x (by rw[q,k];exact h)
theorem O_ (i d:Nat) (v:XJ) (j:S w) {e:Array Bool} {b:Act}
    (h:S w->H_ (wpAnyH P md ops Q S fuel e b w)) (x:∀w,S w->z_ P ops i a w v:=by intro w z;unfold z_;go_simp) (m:ops[i]?.map (·.dst)=QJ (QJ d):=by kernel_rfl) (y:ao_ ops i a=QJ true:=by rfl) (t:Region.noSelect ops=true:=by kernel_rfl) (p:Region.free md ops listed i=true:=by kernel_rfl) (r:(Region.ready md ops listed).contains i=true:=by kernel_rfl)
    (f:∀c a w,Q (.panic c) (a.put (QJ d) v) w->Q (.panic c) a w:=by exact λ_ _ _ h=>h) (q:listed.setIfInBounds i true=e:=by (try simp only[aT,aZ,aS]);rfl) (k:a.put (QJ d) v=b:=by (try simp only[VK,aT,aZ,aS]);rfl):H_ (wpAnyH P md ops Q S (fuel+1) listed a w):=jt_ i d v m y t p r f j x (by rw[q,k];exact h)
theorem tlB {K:Act->QV->Prop} {c:Array Bool} {b:Act} (d:Shut (∀a w,S w->(S w->H_ (wpAnyH P md ops Q S fuel listed a w))->K a w)) (e:S w) (h:S w->H_ (wpAnyH P md ops Q S fuel c b w)) (i:listed=c:=by (try simp only[aT,aZ,aS]);rfl) (f:a=b:=by (try simp only[VK,aT,aZ,aS]);rfl):K a w:=d.out _ _ e (by rw[i,f];exact h)
theorem tlC (i:Nat) {o:Oper}
    (h:∀b:Act->QV->Prop,Shut (∀a w,S w->(S w->H_ (wpAnyH P md ops Q S fuel (listed.setIfInBounds i true) a w))->b a w)->o.wp P a w b Q) (e:Region.ready md ops listed=[i]:=by kernel_rfl) (f:ao_ ops i a=QJ true:=by rfl) (d:ops[i]?=QJ o:=by (simp only[List.getElem?_toArray,List.getElem?_cons_succ,List.getElem?_cons_zero]);rfl):H_ (wpAnyH P md ops Q S (fuel+1) listed a w):=ty_ i e f λK c=>by unfold f6_;rw[d];exact h K c
end
theorem h4_ {S:Nat->Prop} {a:QV} (g:Nat) (c:a.heap.size<=g\/S g) (b:List XJ):∀(o:Nat) {w:QV},Turn S a w->Turn S a (w.setCells g o b):=by
 induction b with
 | nil=>intro o w h;exact h
 | cons v r d=>intro o w h;exact d (o+1) (h.setCell (p:=⟨g,o,QK⟩) c v)
theorem hh_ {g:Nat} {T:TypeId} (i:List XJ):∀(o:Nat) {w:QV} {c:Array XJ},w.heap[g]?=QJ (XX c T (0,0)) ->
    ∃b:Array XJ,(w.setCells g o i).heap[g]?=QJ (XX b T (0,0))/\b.size=c.size/\∀j,b[j]?=if o<=j/\j<o+i.length/\j<c.size then i[j-o]? else c[j]?:=by
 induction i with
 | nil=>
  intro o w c h;refine⟨c,h,rfl,λj=>?_⟩;rw[iN_ (by simp;omega)]
 | cons v r p=>
  intro o w c h;obtain⟨b,h1,h2,m⟩:=p (o+1) (heap_setCell_same w g o c T v h);rw[Array.size_setIfInBounds]at h2;refine⟨b,h1,h2,λj=>?_⟩;rw[m j,Array.size_setIfInBounds,List.length_cons];by_cases e:j=o
  ·subst e;rw[iN_ (by omega),Array.getElem?_setIfInBounds,iP_ rfl];by_cases f:j<c.size
   ·rw[iP_ f,iP_ ⟨XK _,by omega,f⟩,Nat.sub_self];rfl
   ·rw[iN_ f,iN_ (by omega),Array.getElem?_eq_none (by omega)]
  ·by_cases d:o+1<=j/\j<o+1+r.length/\j<c.size
   ·rw[iP_ d,iP_ ⟨by omega,by omega,d.2.2⟩];obtain⟨t,ht⟩:∃t,j-o=t+1:=⟨j-o-1,by omega⟩;rw[ht,List.getElem?_cons_succ];congr 1
    omega
   ·rw[iN_ d,iN_ (by omega),Array.getElem?_setIfInBounds,iN_ (λk=>e k.symm)]
theorem n0_ {w:QV} {g:Nat} {T:TypeId} {c b:Array XJ} (h:w.heap[g]?=QJ (XX c T (0,0))) (i:b.size=c.size):(w.setCells g 0 b.toList).heap[g]?=QJ (XX b T (0,0)):=by
 obtain⟨d,h1,h2,f⟩:=hh_ b.toList 0 h;rw[h1];congr 2
 apply Array.ext_getElem?;intro j;rw[f j,Array.length_toList,VQ,Nat.sub_zero,Array.getElem?_toList];by_cases e:j<c.size
 ·rw[iP_ ⟨Nat.zero_le _,by omega,e⟩]
 ·rw[iN_ (λh=>e h.2.2),Array.getElem?_eq_none (by omega),Array.getElem?_eq_none (by omega)]
theorem m_ {w:QV} {g:Nat} {c:Array XJ} {T:TypeId} {b:Nat×Nat} (h:w.heap[g]?=QJ (XX c T b)):w.rangeAt g 0 c.toList:=λj v d=>by
 rw[VQ];exact (UU w g j c T b h).trans (by rw[<-Array.getElem?_toList];exact d)
theorem t0_ {w:QV} {g:Nat} {c:Array XJ} {T:TypeId} {n:Nat} (h:w.heap[g]?=QJ (XX c T (0,0))) (d:n<=c.size):w.there g 0 n:=λj b=>by
 rw[VQ];exact⟨by rw[UU w g j c T _ h,Array.getElem?_eq_getElem (by omega)];rfl,frozen_of_row _ _ _ _ _ h⟩
theorem cb_ {P:Program} {w:QV} {g:Nat} {c:Array XJ} {T:TypeId} {b:Nat×Nat} (h:w.heap[g]?=QJ (.cells c T b)) (ty:TypeId) (d:TypeDesc) (f:P.underlying ty=QJ d) (e:d.isRow=true) (hi:(P.info? ty).map (·.size)=QJ c.size) :
    (Instr.loadAt ty (YK (QJ ⟨g,0,QK⟩))).run P w = .ok (.agg c) w:=by
 have:=run_loadAt_mid (P:=P) w g 0 ty c.toList d (m_ h) f e (by rw[Array.length_toList];exact hi);rwa [Array.toArray_toList]at this
section
variable {P:Program} {ops:Array Oper} {rest:List Oper} {op:Oper} {a:Act} {w:QV} {Q:Exit->Act->QV->Prop}
theorem o_ (f:op.guard=QK) (ty:TypeId) (x y:Operand) (j:op.op = .store ty x y) (g:Nat) (c d:Array XJ) (T:TypeId) (k:a.eval x = .pointer (QJ ⟨g,0,QK⟩)) (m:a.eval y = .agg d)
    (e:w.heap[g]?=QJ (XX c T (0,0))) (i:d.size=c.size) (hi:(P.info? ty).map (·.size)=QJ d.size) (h1:d.all (·.oneCell')=true)
    (h:∀w',w'.heap[g]?=QJ (XX d T (0,0))->Turn (λb=>b=g) w w'->wpList P ops Q rest (a.put op.dst undef) w'):wpList P ops Q (op::rest) a w:=
 wpList_store_mid f ty x y j g 0 d k m (t0_ e (by omega)) hi h1 (h _ (n0_ e i) (h4_ (S:=λb=>b=g) g (.inr rfl) _ 0 (Turn.refl _ w)))
theorem d_ (d:Option Nat) {b:Op} {c:TypeId} {e:String} {f:Array Edge} {i:Option (Nat×Bool)} (h:wpList P ops Q (⟨d,b,c,e,f,i⟩::rest) a w):wpList P ops Q (⟨d,b,c,e,f,i⟩::rest) a w:=h
theorem w_ (t:Nat) {ty b:TypeId} {y:Operand} {d:Option Nat} {c:String} {e:Array Edge} {f:Option (Nat×Bool)} (h:wpList P ops Q (⟨d,.store ty (.tmp t) y,b,c,e,f⟩::rest) a w):wpList P ops Q (⟨d,.store ty (.tmp t) y,b,c,e,f⟩::rest) a w:=h
theorem G_ (e:op.guard=QK) (ty:TypeId) (x:Operand) (j:op.op = .load ty x) (b o:Nat) (m:a.eval x = .pointer (QJ ⟨b,o,QK⟩)) (c:Array XJ) (d:TypeDesc) (f:w.rangeAt b o c.toList)
    (k:P.underlying ty=QJ d) (i:d.isRow=true) (hi:(P.info? ty).map (·.size)=QJ c.size) (h:wpList P ops Q rest (a.put op.dst (.agg c)) w):wpList P ops Q (op::rest) a w:=
 wpList_load_mid e ty x j b o m c.toList d f k i (by rw[Array.length_toList];exact hi) (by rw[Array.toArray_toList];exact h)
theorem ml_ {K:Act->QV->Prop} (ty:TypeId) (x y:Operand) (i:op.op = .store ty x y) (g:Nat) (c d:Array XJ) (T:TypeId) (j:a.eval x = .pointer (QJ ⟨g,0,QK⟩)) (k:a.eval y = .agg d)
    (e:w.heap[g]?=QJ (XX c T (0,0))) (f:d.size=c.size) (hi:(P.info? ty).map (·.size)=QJ d.size) (h1:d.all (·.oneCell')=true)
    (h:∀w',w'.heap[g]?=QJ (XX d T (0,0))->Turn (λb=>b=g) w w'->K (a.put op.dst undef) w'):op.wp P a w K Q:=
 wp_store_mid ty x y i g 0 d j k (t0_ e (by omega)) hi h1 (h _ (n0_ e f) (h4_ (S:=λb=>b=g) g (.inr rfl) _ 0 (Turn.refl _ w)))
theorem gl_ (b:op.guard=QK) (v:XJ) (d:(execOp a.eval op).run P w = .ok (.value v) w) (h:wpList P ops Q rest (a.put op.dst v) w):wpList P ops Q (op::rest) a w:=
 wpList_plain b λ_ c=>by unfold Oper.wp;rw[d];exact c _ _ h
theorem W_ (c:op.guard=QK) (ty:TypeId) (b:Array (Nat×Operand)) (k:op.op = .build ty b) (f:Array (Nat×XJ)) (d:(b.map λ(i,x)=>(i,a.eval x))=f) (v:XJ) (m:(Instr.build ty f).run P w = .ok v w) (h:wpList P ops Q rest (a.put op.dst v) w):wpList P ops Q (op::rest) a w:=
 wpList_plain c λ_ j=>by
  unfold Oper.wp execOp;simp only[k];have e:(Instr.build ty (b.map λ(i,x)=>(i,a.eval x))).run P w = .ok v w:=by rw[d];exact m
  simp only[Sem.run_bind,Sem.run_pure,e,Result.andThen_ok];exact j _ _ h
theorem k_ {m:Sem XJ} {v:XJ} (h:m.run P w = .ok v w):(do pure (Next.value (<-m)):Sem Next).run P w = .ok (.value v) w:=by simp[h]
end
theorem Turn.heap {S:Nat->Prop} {w w':QV} {g:Nat} {o:Obj} (ht:Turn S w w') (h:w.heap[g]?=QJ o) (b:¬S g):w'.heap[g]?=QJ o:=(ht.block g (b_ h) b).trans h
def Oj_ (d f:Bool) (D E:List Nat) (b c:Nat) (w:QV) (e:Ending) (w':QV):Prop:=
 ∃A ca B cb,e = YQ (ZJ #[.agg #[XY d,QQ A D.length ca,QY QU (b:Int)],.agg #[XY f,QQ B E.length cb,QY QU (c:Int)],XY true])/\XW w.heap.size w w'/\ac_ w' A D/\ac_ w' B E
theorem lt_ {w:QV} {A:Option Addr} {D:List Nat} (h:ac_ w A D) (h2:2<=D.length) {z:Nat} {T:TypeId} {p:Nat×Nat} {x:Bool} {B:Option Addr} {l c:Nat} {n:Int} (hz:w.heap[z]?=QJ (XX #[XY x,QQ B l c,QY QU n] T p)):∀ad,A=QJ ad->ad.block≠z:=by
 intro ad q e;obtain⟨I,h0,_,k⟩:=h 0 D[0] (XQ (by omega));obtain⟨J,h1,_,m⟩:=h 1 D[1] (XQ (by omega));rw[q]at h0 h1;injection h0 with h0;injection h1 with h1;subst h0;subst h1;obtain⟨b,o,j⟩:=ad;subst e
 have key:∀i v,World.cell? w ((⟨b,o,j⟩:Addr).add i)=QJ v->(#[Value.bool x,QQ B l c,QY QU n]:Array XJ)[o+i]?=QJ v:=λi v d=>by
  have hb:((⟨b,o,j⟩:Addr).add i).block=b:=by unfold Addr.add;split<;>rfl
  have r:((⟨b,o,j⟩:Addr).add i).off=o+i:=by
   unfold Addr.add;split
   ·rename_i hi;rw[hi];rfl
   ·rfl
  unfold World.cell? at d;rw[hb,hz]at d;simp only at d;rw[r]at d;split at d
  ·cases d
  ·exact d
 have f:=key 0 _ k;have t:=key 1 _ m;have y:=(Array.getElem?_eq_some_iff.1 f).1;have C:=(Array.getElem?_eq_some_iff.1 t).1;simp only[List.size_toArray,List.length_cons,List.length_nil]at y C;rcases (by omega:o=0\/o=1) with e | e
 ·subst e;simp at f
 ·subst e;simp at f
theorem ac_.turn2 {w w':QV} {S:Nat->Prop} {A:Option Addr} {D:List Nat} (h:ac_ w A D) (ht:Turn S w w') (e:∀ad,A=QJ ad->¬S ad.block):ac_ w' A D:=λi x f=>by
 obtain⟨ad,b,c,d⟩:=h i x f;have hb:(ad.add i).block=ad.block:=by unfold Addr.add;split<;>rfl
 exact⟨ad,b,XZ c ht.size,(ht.cell (p:=ad.add i) c (by rw[hb];exact e ad b)).trans d⟩
theorem Md_ (s t:ByteArray) (hs:bl_ s=true) (ht:bl_ t=true) (bi:s.size<=1000) (bj:t.size<=1000) (n1 n2:Bool) (D E:List Nat) (S1 S2:Nat) (ap:2<=D.length) (aq:2<=E.length) (hp:c4_ s=QJ (n1,D,S1)) (hq:c4_ t=QJ (n2,E,S2)) (w:QV) :
    Calls QW 251 #[QZ s,QZ t] w (Oj_ n1 n2 D E S1 S2 w):=by
 have HP:=q_ hp;have HQ:=q_ hq;have ai:=q_ (λ(W:QV)=>hv_ s (by omega) W);have aj:=q_ (λ(W:QV)=>hv_ t (by omega) W);rw[hs]at ai;rw[ht]at aj;obtain⟨z,Hz⟩:=a_ w.heap.size;obtain⟨w1,O⟩:=a_ ((w.alloc (XX #[XY false,QQ QK 0 0,QY QU 0] 277)).alloc (XX #[XY false,QQ QK 0 0,QY QU 0] 277));have N:=q_ (show XW w.heap.size w w1 from by rw[<-O.o];exact F_ w _ _);have ak:=q_ (show w1.heap[z]?=QJ (XX #[XY false,QQ QK 0 0,QY QU 0] 277 (0,0)) from by rw[<-O.o,<-Hz.o,Below.heap_alloc _ _ _ (by simp)];exact XU w _);have ab:=q_ (show w1.heap[z+1]?=QJ (XX #[XY false,QQ QK 0 0,QY QU 0] 277 (0,0)) from by rw[<-O.o,<-Hz.o];have:=XU (w.alloc (XX #[XY false,QQ QK 0 0,QY QU 0] 277)) (XX #[XY false,QQ QK 0 0,QY QU 0] 277);simpa using this);have bf:=q_ (λ(W:QV)=>kt_ s (by omega) W);have bg:=q_ (λ(W:QV)=>kt_ t (by omega) W);clear hs ht hp hq;obtain⟨n,Hn⟩:=a_ D.length;obtain⟨m,Hm⟩:=a_ E.length;go_enter func251,ntmps251
 go_upto_region 1 with fail;rw[O.o,Hz.o];go_wp2_with fail;refine (bf.o w1).mono ?_;rintro e w2 ⟨ah,b1⟩;rw[HP.o]at b1;obtain⟨A,ca,rfl,az⟩:=b1;rw[Hn.o];have bh:=q_ (N.o.trans (ah.mono N.o.size));have J:=q_ ah;have b6:=q_ az;obtain⟨i,ae⟩:=a_ w2.heap.size;obtain⟨w3,a8⟩:=a_ (w2.alloc (XX #[XY n1,QQ A n ca,QY QU (S1:Int)] 277));have Y:=q_ (show XW w2.heap.size w2 w3 from by rw[<-a8.o];exact (XV _ _).alloc (XK _) _);have X:=q_ (show w3.heap[i]?=QJ (XX #[XY n1,QQ A n ca,QY QU (S1:Int)] 277 (0,0)) from by rw[<-a8.o,<-ae.o];exact XU w2 _);clear ah az;go_upto_region 2 with fail;rw[a8.o,ae.o];go_wp2_with fail;refine (bg.o w3).mono ?_;rintro e w4 ⟨ar,b2⟩;rw[HQ.o]at b2;obtain⟨B,cb,rfl,b0⟩:=b2;rw[Hm.o];have M:=q_ ar;have b7:=q_ b0;obtain⟨r,af⟩:=a_ w4.heap.size;obtain⟨w5,a9⟩:=a_ (w4.alloc (XX #[XY n2,QQ B m cb,QY QU (S2:Int)] 277));have a1:=q_ (show XW w4.heap.size w4 w5 from by rw[<-a9.o];exact (XV _ _).alloc (XK _) _);have k:=q_ (show w5.heap[r]?=QJ (XX #[XY n2,QQ B m cb,QY QU (S2:Int)] 277 (0,0)) from by rw[<-a9.o,<-af.o];exact XU w4 _);have a0:=q_ (M.o.trans (a1.o.mono M.o.size));have j:=q_ ((a0.o.block i (b_ X.o)).trans X.o);have Z:=q_ (Y.o.trans (a0.o.mono Y.o.size));have L:=q_ (J.o.trans (Z.o.mono J.o.size));have am:=q_ ((L.o.block z (b_ ak.o)).trans ak.o);have ao:=q_ ((L.o.block (z+1) (b_ ab.o)).trans ab.o);have b3:=q_ (b6.o.under Z.o);have b4:=q_ (b7.o.under a1.o);have a2:=q_ (N.o.trans (L.o.mono N.o.size));have V:=q_ (show z+1<i/\i<r from ⟨by have h1:=b_ ab.o;have h2:=J.o.size;have:=ae.o;omega,by have h1:=b_ X.o;have h2:=M.o.size;have:=af.o;omega⟩);clear ar b0;go_upto_region 3 with fail;rw[a9.o,af.o];obtain⟨p,T⟩:∃c:Array XJ,Q_ (#[XY n1,QQ A n ca,QY QU (S1:Int)]=c):=⟨_,q_ rfl⟩;obtain⟨q,U⟩:∃c:Array XJ,Q_ (#[XY n2,QQ B m cb,QY QU (S2:Int)]=c):=⟨_,q_ rfl⟩;have Q1:=q_ (show p.size=3 from by rw[<-T.o];kernel_rfl);have Q2:=q_ (show q.size=3 from by rw[<-U.o];kernel_rfl);have O1:=q_ (show p.all (·.oneCell')=true from by rw[<-T.o];kernel_rfl);have O2:=q_ (show q.all (·.oneCell')=true from by rw[<-U.o];kernel_rfl);have j:=q_ j.o;have k:=q_ k.o;rw[T.o]at j;rw[U.o]at k;have s1:=q_ (show w5.drew.heap[i]?=QJ (XX p 277 (0,0))/\w5.drew.heap[r]?=QJ (XX q 277 (0,0)) from ⟨j.o,k.o⟩);refine UZ (S:=λW'=>W'.heap[i]?=QJ (XX p 277 (0,0))/\W'.heap[r]?=QJ (XX q 277 (0,0))) (by kernel_rfl) s1.o λd=>?_;refine H_.o ?_;refine tlW 0 21 (.agg p) d (λw ag=>?_) λd=>?_
 ·exact k_ (cb_ ag.1 277 _ underlying277 rfl (by rw[Q1.o];kernel_rfl))
 refine tlW 1 22 (.agg q) d (λw ag=>?_) λd=>?_
 ·exact k_ (cb_ ag.2 277 _ underlying277 rfl (by rw[Q2.o];kernel_rfl))
 refine O_ 2 23 (XY true) d λd=>?_;refine O_ 3 24 (XY true) d λd=>?_;refine O_ 4 25 (XY true) d λd=>?_;refine O_ 5 26 (XY true) d λd=>?_;refine O_ 6 27 (XY true) d λd=>?_;refine O_ 7 28 (QZ s) d λd=>?_;refine tlC 8 λK x=>?_;go_simp;refine (ai.o w5.drew).mono ?_;rintro e w6 ⟨rfl,au⟩;have y:=q_ (show XW w5.heap.size w5 w6 from a1_ au);have b9:=q_ (show w6.heap[i]?=QJ (XX p 277 (0,0))/\w6.heap[r]?=QJ (XX q 277 (0,0)) from ⟨(y.o.block i (b_ j.o)).trans j.o,(y.o.block r (b_ k.o)).trans k.o⟩);clear au;dsimp only;refine tlB x b9.o λd=>?_;clear x K;refine O_ 9 30 (XY true) d λd=>?_;refine O_ 10 31 (XY true) d λd=>?_;refine O_ 11 32 (QZ t) d λd=>?_;refine tlC 12 λK x=>?_;go_simp;refine (aj.o w6).mono ?_;rintro e w7 ⟨rfl,av⟩;have f:=q_ (y.o.trans (av.mono y.o.size));have a5:=q_ (show w7.heap[i]?=QJ (XX p 277 (0,0))/\w7.heap[r]?=QJ (XX q 277 (0,0)) from ⟨(f.o.block i (b_ j.o)).trans j.o,(f.o.block r (b_ k.o)).trans k.o⟩);have aa:=q_ ((f.o.block z (b_ am.o)).trans am.o);have ac:=q_ ((f.o.block (z+1) (b_ ao.o)).trans ao.o);have a3:=q_ (b3.o.under f.o);have a4:=q_ (b4.o.under f.o);clear av;dsimp only;refine tlB x a5.o λd=>?_;clear x K;refine O_ 13 34 (XY true) d λd=>?_;refine tlC 14 λK x=>?_;refine ml_ 277 _ _ rfl z #[XY false,QQ QK 0 0,QY QU 0] p 277 rfl rfl aa.o Q1.o (by rw[Q1.o];kernel_rfl) O1.o ?_;intro w8 aw C;have a6:=q_ (show w8.heap[i]?=QJ (XX p 277 (0,0))/\w8.heap[r]?=QJ (XX q 277 (0,0)) from ⟨C.heap a5.o.1 (show ¬i=z by have:=V.o;omega),C.heap a5.o.2 (show ¬r=z by have:=V.o;omega)⟩);have b8:=q_ (C.heap ac.o (show ¬z+1=z by omega));refine x.out _ _ a6.o λd=>?_;clear x K;(try simp only[VK]);refine tlC 15 λK x=>?_;refine ml_ 277 _ _ rfl (z+1) #[XY false,QQ QK 0 0,QY QU 0] q 277 rfl rfl b8.o Q2.o (by rw[Q2.o];kernel_rfl) O2.o ?_;intro w9 ay I;have ba:=q_ (show w9.heap[i]?=QJ (XX p 277 (0,0))/\w9.heap[r]?=QJ (XX q 277 (0,0)) from ⟨I.heap a6.o.1 (show ¬i=z+1 by have:=V.o;omega),I.heap a6.o.2 (show ¬r=z+1 by have:=V.o;omega)⟩);have b5:=q_ (I.heap aw (show ¬z=z+1 by omega));have bb:=q_ ay;have a7:=q_ (show Turn (λb=>b=z\/b=z+1) w7 w9 from (C.mono (λb _ h=>.inl h)).trans (I.mono (λb _ h=>.inr h)));refine x.out _ _ ba.o λd=>?_;clear x K aw C ay I;(try simp only[VK]);refine O_ 16 6 (XY true) d λd=>?_;refine⟨VX (by kernel_rfl) ?_ _⟩;clear d;go_wp2_with fail;have bc:=run_loadVar_row (P:=QW) w9 z 277 277 p (0,0) _ b5.o underlying277 rfl (by rw[Q1.o];kernel_rfl);have bd:=run_loadVar_row (P:=QW) w9 (z+1) 277 277 q (0,0) _ bb.o underlying277 rfl (by rw[Q2.o];kernel_rfl);refine ZV (v:=ZJ #[.agg p,.agg q,XY true]) (by simp[results,results251,asAddr,bc,bd]) rfl ⟨A,ca,B,cb,by rw[<-T.o,<-U.o,Hn.o,Hm.o],?_,?_,?_⟩
 ·exact a2.o.trans ((f.o.mono a2.o.size).trans (a7.o.below (λb _ h=>by have:=Hz.o;omega) (ZX a2.o.size f.o.size)))
 ·exact a3.o.turn2 a7.o (λad hA h=>by
    rcases h with h | h
    ·exact lt_ a3.o ap aa.o ad hA h
    ·exact lt_ a3.o ap ac.o ad hA h)
 ·exact a4.o.turn2 a7.o (λad hA h=>by
    rcases h with h | h
    ·exact lt_ a4.o aq aa.o ad hA h
    ·exact lt_ a4.o aq ac.o ad hA h)
def Gi_ (b:Bool) (s:XJ) (k:Int):Array XJ:=#[XY b,s,QY QU k]
structure Eq3 (c:Array XJ) (b:Bool) (s:XJ) (k:Int):Prop where
 o :Gi_ b s k=c
theorem B3_ (b:Bool) (s:XJ) (k:Int):∃c,Eq3 c b s k:=⟨_,⟨rfl⟩⟩
theorem Eq3.size {c:Array XJ} {b:Bool} {s:XJ} {k:Int} (h:Eq3 c b s k):c.size=3:=by rw[<-h.o];rfl
theorem Eq3.one {c:Array XJ} {b:Bool} {s:XJ} {k:Int} (h:Eq3 c b s k) (e:s.oneCell'=true):c.all (·.oneCell')=true:=by
 rw[<-h.o,Array.all_eq_true_iff_forall_mem];intro v d;unfold Gi_ at d;simp at d;rcases d with rfl | rfl | rfl
 ·rfl
 ·exact e
 ·rfl
def Ke_ (s t:ByteArray) (w:QV) (e:Ending) (w':QV):Prop:=e = YQ (QY QU (es_ s t))/\XW w.heap.size w w'
theorem ow_ (s t:ByteArray) (hs:bl_ s=true) (ht:bl_ t=true) (w:QV) :
    Calls QW 182 #[QZ s,QZ t] w (Ke_ s t w):=by
 obtain⟨n1,a1,V,k⟩:=je_ hs;obtain⟨i,a2,X,q⟩:=je_ ht
 have b9:s.size<=1000:=by
  rcases VZ 62 s.size with h | h
  ·have:=is_ h;rw[hs]at this;cases this
  ·omega
 have ba:t.size<=1000:=by
  rcases VZ 62 t.size with h | h
  ·have:=is_ h;rw[ht]at this;cases this
  ·omega
 have ac:=nd_ k;have ad:=nd_ q;have cc:=q_ (And.intro k q);have b4:=gj_ (a1++V);have b5:=gj_ (a2++X);rw[ZZ]at b4 b5;have ay:=(hr_ ac).1;have az:=(hr_ ad).1;have c3:=k.la;have c5:=k.lb;have c4:=q.la;have c6:=q.lb;obtain⟨D,HD⟩:=a_ (bs_ (a1++V));obtain⟨E,HE⟩:=a_ (bs_ (a2++X));obtain⟨f,ao⟩:=a_ V.length;obtain⟨c,ap⟩:=a_ X.length;have aq:=q_ (Md_ s t hs ht b9 ba n1 i _ _ _ _ (by omega) (by omega) ac ad w);have am:=q_ (λ(A B:Option Addr) (ca cb:Nat) (W:QV) (hA:ac_ W A (bs_ (a1++V))) (hB:ac_ W B (bs_ (a2++X)))=>Ep_ n1 (!i) (bs_ (a1++V)) (bs_ (a2++X)) V.length X.length (by omega) (by omega) (by omega) (by omega) (by omega) (by omega) ay az A B ca cb W hA hB);rw[HD.o,HE.o,ao.o,ap.o]at aq am;obtain⟨n,Hn⟩:=a_ D.length;obtain⟨m,Hm⟩:=a_ E.length;have ai:=q_ (λ(ng:Bool) (o:Nat) (h:sgV ng o=sgV n1 (av_ D*bT ^ (max f c-f))+sgV (!i) (av_ E*bT ^ (max f c-c)))=>(show es_ s t=if o=0 then 0 else if ng=true then -1 else 1 from Ku_ k q (by rw[HD.o,HE.o,ao.o,ap.o];exact h)))
 clear hs ht k q b9 ba ac ad b4 b5 ay az c3 c5 c4 c6;go_enter func182,ntmps182
 go_wp2_with fail;refine aq.o.mono ?_;rintro e w2 ⟨A,ca,B,cb,rfl,b0,b6,b8⟩;have y:=q_ b0;have bj:=q_ b6;have bm:=q_ b8;obtain⟨Y,L⟩:=B3_ n1 (QQ A D.length ca) f;obtain⟨e2,v⟩:=B3_ i (QQ B E.length cb) c;obtain⟨e3,a8⟩:=B3_ (!i) (QQ B E.length cb) c
 have ak:=q_ (λ(W:QV) (hA:ac_ W A D) (hB:ac_ W B E)=>(show Calls QW 252 #[.agg Y,.agg e3] W (Bh_ n1 (av_ D*bT ^ (max f c-f)) (!i) (av_ E*bT ^ (max f c-c)) W) from by rw[<-L.o,<-a8.o];exact am.o A B ca cb W hA hB));have au:(#[XY n1,QQ A D.length ca,QY QU (f:Int)]:Array XJ)=Y:=L.o;have av:(#[XY i,QQ B E.length cb,QY QU (c:Int)]:Array XJ)=e2:=v.o;rw[au,av];clear au av;have bq:=q_ (show e2.setIfInBounds 0 (XY (!i))=e3 from by rw[<-v.o,<-a8.o];rfl);have bp:=q_ (show e2[0]?=QJ (XY i) from by rw[<-v.o];rfl);obtain⟨V1,br⟩:=a_ (av_ D*bT ^ (max f c-f));obtain⟨V2,bs⟩:=a_ (av_ E*bT ^ (max f c-c));rw[br.o,bs.o]at ak ai;have Q1:=q_ L.size;have Q2:=q_ v.size;have Q3:=q_ a8.size;have O1:=q_ (L.one rfl);have O2:=q_ (v.one rfl);have I1:=q_ (show (Tryz.prog.info? 277).map (·.size)=QJ Y.size from by rw[Q1.o];kernel_rfl);have I2:=q_ (show (Tryz.prog.info? 277).map (·.size)=QJ e2.size from by rw[Q2.o];kernel_rfl);have I3:=q_ (show (Tryz.prog.info? 277).map (·.size)=QJ e3.size from by rw[Q3.o];kernel_rfl);obtain⟨z,U⟩:=a_ w2.heap.size;obtain⟨w3,I⟩:=a_ ((w2.alloc (XX #[XY false,QQ QK 0 0,QY QU 0] 277)).alloc (XX #[XY false,QQ QK 0 0,QY QU 0] 277));have bt:=q_ (show w3.heap[z]?=QJ (XX #[XY false,QQ QK 0 0,QY QU 0] 277 (0,0)) from by rw[<-I.o,<-U.o];exact heap_alloc2_old w2 _ _);have bz:=q_ (show w3.heap[z+1]?=QJ (XX #[XY false,QQ QK 0 0,QY QU 0] 277 (0,0)) from by rw[<-I.o,<-U.o];exact heap_alloc2_new w2 _ _);have a3:=q_ (show XW w2.heap.size w2 w3 from by rw[<-I.o];exact F_ _ _ _);have d:=q_ (And.intro I.o U.o);clear b0 b6 b8
 go_upto_region 2 with (first
  | ((with_reducible refine w_ 5 ?_);refine o_ rfl 277 _ _ rfl w2.heap.size #[XY false,QQ QK 0 0,QY QU 0] Y 277 rfl rfl (by have h:=bt.o;rw[<-d.o.1,<-d.o.2]at h;exact h) Q1.o I1.o O1.o ?_;intro w4 a9 r)
  | ((with_reducible refine w_ 6 ?_);refine o_ rfl 277 _ _ rfl (w2.heap.size+1) #[XY false,QQ QK 0 0,QY QU 0] e2 277 rfl rfl (by have h:=bz.o;rw[<-d.o.1,<-d.o.2]at h;exact r.heap h (show ¬w2.heap.size+1=w2.heap.size by omega)) Q2.o I2.o O2.o ?_;intro w5 aa N))
 rw[d.o.2]at a9 aa N ⊢;rw[d.o.1]at r;rw[d.o.2]at r;have bu:=q_ (N.heap a9 (show ¬z=z+1 by omega));have a6:=q_ aa;have a0:=q_ (a3.o.trans ((r.below (B:=w2.heap.size) (λb _ h=>by have h:b=z:=h;have:=U.o;omega) a3.o.size).trans (N.below (B:=w2.heap.size) (λb _ h=>by have h:b=z+1:=h;have:=U.o;omega) (ZX a3.o.size r.size))));have c8:=q_ (y.o.trans (a0.o.mono y.o.size));clear a9 aa r N;have y0:w5.cell? ⟨z+1,0,QK⟩=QJ (XY i):=(UU _ _ _ _ _ _ a6.o).trans bp.o;have yf:w5.frozen? ⟨z+1,0,QK⟩=false:=frozen_of_row _ _ _ _ _ a6.o;go_upto_region 5 with fail;obtain⟨w6,J⟩:=a_ (w5.setCell ⟨z+1,0,QK⟩ (XY (!i)));have bw:=q_ (show w6.heap[z]?=QJ (XX Y 277 (0,0)) from by rw[<-J.o,heap_setCell_other _ _ _ _ (show z≠z+1 by omega)];exact bu.o);have c0:=q_ (show w6.heap[z+1]?=QJ (XX e3 277 (0,0)) from by rw[<-J.o,<-bq.o];exact heap_setCell_same _ _ _ _ _ _ a6.o);have x:=q_ (show XW w2.heap.size w2 w6 from by rw[<-J.o];exact a0.o.setCell (by show w2.heap.size<=z+1;have:=U.o;omega) _);have ag:=q_ (y.o.trans (x.o.mono y.o.size));have bh:=q_ (ak.o w6 (bj.o.under x.o) (bm.o.under x.o));have bn:=q_ (m_ bw.o);have bo:=q_ (m_ c0.o);rw[J.o];clear y0 yf
 go_wp2_with (first
  | ((with_reducible refine d_ (some 22) ?_);refine G_ rfl 277 _ rfl z 0 rfl Y _ (bn.o) underlying277 rfl I1.o ?_)
  | ((with_reducible refine d_ (some 23) ?_);refine G_ rfl 277 _ rfl (z+1) 0 rfl e3 _ (bo.o) underlying277 rfl I3.o ?_))
 refine bh.o.mono ?_;rintro e j ⟨ng,O,s7,sc,rfl,b3,bc,c2,bb,bf⟩;obtain⟨T,c7,rfl,b7⟩:=iw_ bc;have C:=q_ (ai.o ng (av_ O) bf);have ah:=q_ (ag.o.trans (b3.mono ag.o.size));have bk:=q_ b7;have c9:=q_ bb;obtain⟨o,Ho⟩:=a_ O.length;rw[Ho.o];obtain⟨e4,M⟩:=B3_ ng (QQ T o c7) sc;have aw:(#[XY ng,QQ T o c7,QY QU sc]:Array XJ)=e4:=M.o;rw[aw];clear aw;have Q4:=q_ M.size;have O4:=q_ (M.one rfl);have I4:=q_ (show (Tryz.prog.info? 277).map (·.size)=QJ e4.size from by rw[Q4.o];kernel_rfl);have N4:=q_ (show e4[0]?=QJ (XY ng)/\e4[1]?=QJ (QQ T o c7) from by rw[<-M.o];exact⟨rfl,rfl⟩);have bx:=q_ (show (j.alloc (XX #[XY false,QQ QK 0 0,QY QU 0] 277)).heap[j.heap.size]?=QJ (XX #[XY false,QQ QK 0 0,QY QU 0] 277 (0,0)) from XU j _);have af:=q_ (λ(W:QV) (h:ac_ W T O)=>zd_ O (by omega) T c7 W h);rw[Ho.o]at af;obtain⟨p,Hp⟩:=a_ (av_ O);rw[Hp.o]at C;have a7:=q_ (show gm_ O=decide (p=0) from by rw[<-Hp.o];exact zc_ O);obtain⟨zo,ar⟩:=a_ (gm_ O);rw[ar.o]at af a7;clear b3 bc c2 bb bf b7 Hp ar
 go_upto_region 6 with (first
  | ((with_reducible refine w_ 8 ?_);refine o_ rfl 277 _ _ rfl j.heap.size #[XY false,QQ QK 0 0,QY QU 0] e4 277 rfl rfl bx.o Q4.o I4.o O4.o ?_;intro w8 ab bd))
 have a4:=q_ (((XV j.heap.size j).alloc (XK _) _).trans (bd.below (B:=j.heap.size) (λb _ h=>by have h:b=j.heap.size:=h;omega) (by simp)));have bi:=q_ (ah.o.trans (a4.o.mono ah.o.size));have bl:=q_ (bk.o.under a4.o);have n0:w8.cell? ⟨j.heap.size,0,QK⟩=QJ (XY ng):=(UU _ _ _ _ _ _ ab).trans N4.o.1;have bg:w8.cell? ⟨j.heap.size,1,QK⟩=QJ (QQ T o c7):=(UU _ _ _ _ _ _ ab).trans N4.o.2;obtain⟨z8,c1⟩:=a_ j.heap.size;rw[c1.o]at n0 bg ⊢;clear ab bd;go_wp2_with fail;refine (af.o w8 bl.o).mono ?_;rintro e w9 ⟨rfl,q9,ae⟩;have a5:=q_ (show XW w.heap.size w w9 from by rw[ae];exact dy_ bi.o q9);have n9:w9.cell? ⟨z8,0,QK⟩=QJ (XY ng):=by rw[ae];exact n0
 clear ae n0 bg;by_cases Z:p=0
 ·have hr:=q_ (show (0:Int)=es_ s t from by rw[C.o,iP_ Z]);have hz:zo=true:=a7.o.trans (dT_ Z);clear Z;subst hz;go_wp2_with fail;go_ret;exact⟨by rw[hr.o];rfl,a5.o⟩
 ·have hz:zo=false:=a7.o.trans (dF_ Z);have aj:=q_ Z;clear Z;subst hz
  cases ng with
  | true=>
   have hr:=q_ (show (-1:Int)=es_ s t from by rw[C.o,iN_ aj.o,iP_ rfl]);go_wp2_with fail;go_ret;exact⟨by rw[hr.o];rfl,a5.o⟩
  | false=>
   have hr:=q_ (show (1:Int)=es_ s t from by rw[C.o,iN_ aj.o,iN_ Bool.false_ne_true]);go_wp2_with fail;go_ret;exact⟨by rw[hr.o];rfl,a5.o⟩
theorem q8_ {a b:Int} (h:a=b):Ending.returned (QY QU a) = YQ (QY QU b):=by rw[h]
theorem cc_ (k:Int) (w:QV):Calls QW 180 #[QY QU 1,QY QU k] w λe w'=>e = YQ (QY QU (B_ k))/\w'=w:=by
 by_cases f:k=5
 ·subst f;go_enter func180,ntmps180
  go_wp2_with fail;go_ret;exact⟨rfl,rfl⟩
 by_cases h:k=6
 ·subst h;go_enter func180,ntmps180
  go_wp2_with fail;go_ret;exact⟨rfl,rfl⟩
 by_cases i:k=7
 ·subst i;go_enter func180,ntmps180
  go_wp2_with fail;go_ret;exact⟨rfl,rfl⟩
 by_cases m:k=9
 ·subst m;go_enter func180,ntmps180
  go_wp2_with fail;go_ret;exact⟨rfl,rfl⟩
 by_cases j:k=8
 ·subst j;go_enter func180,ntmps180
  go_wp2_with fail;go_ret;exact⟨rfl,rfl⟩
 by_cases b:k=10
 ·subst b;go_enter func180,ntmps180
  go_wp2_with fail;go_ret;exact⟨rfl,rfl⟩
 by_cases d:k=4
 ·subst d;go_enter func180,ntmps180
  go_wp2_with fail;go_ret;exact⟨rfl,rfl⟩
 by_cases h1:k=1
 ·subst h1;go_enter func180,ntmps180
  go_wp2_with fail;go_ret;exact⟨rfl,rfl⟩
 by_cases h2:k=2
 ·subst h2;go_enter func180,ntmps180
  go_wp2_with fail;go_ret;exact⟨rfl,rfl⟩
 by_cases c:k=3
 ·subst c;go_enter func180,ntmps180
  go_wp2_with fail;go_ret;exact⟨rfl,rfl⟩
 by_cases h0:k=0
 ·subst h0;go_enter func180,ntmps180
  go_wp2_with fail;go_ret;exact⟨rfl,rfl⟩
 have p:=q_ (show (11:Int)=B_ k from by unfold B_;rw[iN_ f,iN_ h,iN_ i,iN_ m,iN_ j,iN_ b,iN_ d,iN_ h1,iN_ h2,iN_ c,iN_ h0]);have y:(k==5)=false:=by simpa using f
 have z:(k==6)=false:=by simpa using h
 have B:(k==7)=false:=by simpa using i
 have D:(k==9)=false:=by simpa using m
 have C:(k==8)=false:=by simpa using j
 have q:(k==10)=false:=by simpa using b
 have x:(k==4)=false:=by simpa using d
 have r:(k==1)=false:=by simpa using h1
 have t:(k==2)=false:=by simpa using h2
 have v:(k==3)=false:=by simpa using c
 have e0:(k==0)=false:=by simpa using h0
 clear f h i m j b d h1 h2 c h0;go_enter func180,ntmps180
 go_wp2_with fail;go_ret;exact⟨q8_ p.o,rfl⟩
def ef_ (a b:Bool):Int:=if a=true then -1 else if b=true then 1 else 0
theorem ez_ (a b:Bool) (w:QV):Calls QW 181 #[XY a,XY b] w λe w'=>e = YQ (QY QU (ef_ a b))/\w'=w:=by
 cases a<;>cases b
 all_goals
  go_enter func181,ntmps181
  go_wp2_with fail;go_ret;exact⟨rfl,rfl⟩
def pd_ (v:g_) (w:QV) (e:Ending) (w':QV):Prop:=e = YQ (QZ (am_ v))/\XW w.heap.size w w'
theorem wj_ (v:g_) (s:XJ) (h0:-9223372036854775808<=v.num) (h1:v.num<=9223372036854775807) (ht:v.text.size<=4000000000000) (w:QV) :
    Calls QW 183 #[.agg (c_ v s)] w (pd_ v w):=by
 have C:=q_ (λW:QV=>vh_ v.num h0 h1 W);have B:=q_ (λW:QV=>hv_ v.text ht W);have d:=q_ (show am_ v=if v.kind=2 then au_ v.num else if bl_ v.text=true then v.text else t4_ from rfl)
 obtain⟨x,J⟩:=a_ (am_ v);have D:=q_ (show ∀w',XW w.heap.size w w'->pd_ v w (YQ (QZ x)) w' from λw' hb=>⟨by rw[J.o],hb⟩);obtain⟨o,I⟩:=a_ (au_ v.num);rw[J.o,I.o]at d;have i:=q_ (λh:v.kind=2=>(show x=o from by rw[d.o,iP_ h]));have m:=q_ (λ(h:v.kind≠2) (c:bl_ v.text=true)=>(show x=v.text from by rw[d.o,iN_ h,iP_ c]));have j:=q_ (λ(h:v.kind≠2) (c:bl_ v.text=false)=>(show x=⟨#[48,46,48]⟩ from by rw[d.o,iN_ h,iN_ (by rw[c];exact Bool.false_ne_true)];rfl));clear d;have r:=q_ (λW:QV=>(show Calls QW 254 #[QY QU v.num] W (λe w'=>e = YQ (QZ o)/\XW W.heap.size W w') from by rw[<-I.o];exact C.o W));clear C J I
 cases v with
 | mk k b n t O l=>
 unfold c_;simp only[g_.kind,g_.truth,g_.num,g_.text,g_.extra]at r B i m j ⊢;clear h0 h1 ht;go_enter func183,ntmps183
 by_cases f:k=2
 ·have U:=q_ (i.o f);subst f;go_wp2_with fail;refine (r.o _).mono ?_;rintro e N ⟨rfl,hb⟩;have z:=q_ (((XV w.heap.size w).alloc (XK _) (XX #[QY QU 2,XY b,QY QU n,QZ t,QZ O,s] 39)).trans (hb.mono (by simp)));clear hb;go_wp2_with fail;go_ret;have:=D.o _ z.o;rw[U.o]at this;exact this
 ·have X:(k==2)=false:=by simpa using f
  have M:=q_ (m.o f);have L:=q_ (j.o f);clear f i m j;go_wp2_with fail;refine (B.o _).mono ?_;rintro e N ⟨rfl,hb⟩;have V:N.cell? ⟨w.heap.size,3,QK⟩=QJ (QZ t):=(hb.cell (p:=⟨w.heap.size,3,QK⟩) (by simp)).trans (QX (XU w _) 3);have z:=q_ (((XV w.heap.size w).alloc (XK _) (XX #[QY QU k,XY b,QY QU n,QZ t,QZ O,s] 39)).trans (hb.mono (by simp)));clear hb;obtain⟨T,q⟩:=a_ (bl_ t);rw[q.o]
  cases T with
  | true=>
   have c:=q.o;have y:=q_ (show x=t from M.o c);clear c;go_wp2_with fail;go_ret;have:=D.o _ z.o;rw[y.o]at this;exact this
  | false=>
   have c:=q.o;have y:=q_ (show x=⟨#[48,46,48]⟩ from L.o c);clear c;go_wp2_with fail;go_ret;have:=D.o _ z.o;rw[y.o]at this;exact this
def b7_ (a b:g_) (w:QV) (e:Ending) (w':QV):Prop:=e = YQ (QY QU (y_ a b))/\XW w.heap.size w w'
theorem Jl_ (x y:Int) (h:x≠y):ef_ (decide (x<y)) true=c7_ x y:=by
 unfold ef_ c7_;by_cases h1:x<y
 ·rw[dT_ h1,iP_ rfl,iP_ h1]
 ·rw[dF_ h1,iN_ Bool.false_ne_true,iP_ rfl,iN_ h1,iP_ (by omega)]
theorem tn_ (x y:Int):ef_ (decide (x<y)) (decide (y<x))=c7_ x y:=by
 unfold ef_ c7_;by_cases h1:x<y
 ·rw[dT_ h1,iP_ rfl,iP_ h1]
 ·rw[dF_ h1,iN_ Bool.false_ne_true,iN_ h1];by_cases h2:y<x
  ·rw[dT_ h2,iP_ rfl,iP_ h2]
  ·rw[dF_ h2,iN_ Bool.false_ne_true,iN_ h2]
theorem r7_ (a b:g_) (sa sb:XJ) (w:QV) (c:B_ a.kind≠B_ b.kind) :
    Calls QW 116 #[QY QU 1,.agg (c_ a sa),.agg (c_ b sb)] w (b7_ a b w):=by
 have h:=q_ (λW:QV=>cc_ a.kind W);have i:=q_ (λW:QV=>cc_ b.kind W);have q:=q_ (show y_ a b=ef_ (decide (B_ a.kind<B_ b.kind)) true from by rw[s6_ c,Jl_ _ _ c]);obtain⟨v,m⟩:=a_ (y_ a b);have U:=q_ (show ∀w',XW w.heap.size w w'->b7_ a b w (YQ (QY QU v)) w' from λw' hb=>⟨by rw[m.o],hb⟩);obtain⟨I,j⟩:=a_ (B_ a.kind);obtain⟨J,k⟩:=a_ (B_ b.kind);rw[m.o,j.o,k.o]at q;rw[j.o]at h c;rw[k.o]at i c;clear m j k;have B:=q_ (λW:QV=>(show Calls QW 181 #[XY (decide (I<J)),XY true] W (λe w'=>e = YQ (QY QU v)/\w'=W) from by rw[q.o];exact ez_ _ _ W));have Y:(I != J)=true:=by simpa using c
 clear c q
 cases a with
 | mk r x C L N Z=>
 cases b with
 | mk t y D M O l2=>
 unfold c_;simp only[g_.kind,g_.truth,g_.num,g_.text,g_.extra]at h i ⊢;go_enter func116,ntmps116
 obtain⟨z,p⟩:=a_ w.heap.size;obtain⟨f,d⟩:=a_ ((w.alloc (XX #[QY QU r,XY x,QY QU C,QZ L,QZ N,sa] 39)).alloc (XX #[QY QU t,XY y,QY QU D,QZ M,QZ O,sb] 39));have T:=q_ (show XW w.heap.size w f from by rw[<-d.o];exact F_ w _ _);have V:=q_ (show f.heap[z]?=QJ (XX #[QY QU r,XY x,QY QU C,QZ L,QZ N,sa] 39 (0,0)) from by rw[<-d.o,<-p.o];exact heap_alloc2_old w _ _);have X:=q_ (show f.heap[z+1]?=QJ (XX #[QY QU t,XY y,QY QU D,QZ M,QZ O,sb] 39 (0,0)) from by rw[<-d.o,<-p.o];exact heap_alloc2_new w _ _);have p0:f.cell? ⟨z,0,QK⟩=QJ (QY QU r):=QX V.o 0;have q0:f.cell? ⟨z+1,0,QK⟩=QJ (QY QU t):=QX X.o 0;go_upto_region 1 with fail;rw[d.o,p.o];clear d;go_wp2_with fail;refine (h.o f).mono ?_;rintro e w2 ⟨rfl,rfl⟩;go_wp2_with fail;refine (i.o _).mono ?_;rintro e w3 ⟨rfl,rfl⟩;go_wp2_with fail;refine (B.o _).mono ?_;rintro e w4 ⟨rfl,rfl⟩;go_wp2_with fail;go_ret;exact U.o _ T.o
theorem ox_ (a b:g_) (sa sb:XJ) (w:QV) (f:a.kind=6) (hb:b.kind=6) :
    Calls QW 116 #[QY QU 1,.agg (c_ a sa),.agg (c_ b sb)] w (b7_ a b w):=by
 have h:=q_ (λW:QV=>(show Calls QW 180 #[QY QU 1,QY QU 6] W (λe w'=>e = YQ (QY QU 2)/\w'=W) from cc_ 6 W));have m:=q_ (show y_ a b=ef_ (decide (a.num<b.num)) (decide (b.num<a.num)) from by rw[qx_ (.inl f) (hb.trans f.symm),tn_]);obtain⟨v,j⟩:=a_ (y_ a b);have L:=q_ (show ∀w',XW w.heap.size w w'->b7_ a b w (YQ (QY QU v)) w' from λw' hb=>⟨by rw[j.o],hb⟩);rw[j.o]at m;have i:=q_ (λW:QV=>(show Calls QW 181 #[XY (decide (a.num<b.num)),XY (decide (b.num<a.num))] W (λe w'=>e = YQ (QY QU v)/\w'=W) from by rw[m.o];exact ez_ _ _ W));clear j m
 cases a with
 | mk M x p B D O=>
 cases b with
 | mk N y q C I T=>
 simp only[g_.kind]at f hb;subst f;subst hb;unfold c_;simp only[g_.kind,g_.truth,g_.num,g_.text,g_.extra]at i ⊢;obtain⟨z,k⟩:=a_ w.heap.size;obtain⟨d,c⟩:=a_ ((w.alloc (XX #[QY QU 6,XY x,QY QU p,QZ B,QZ D,sa] 39)).alloc (XX #[QY QU 6,XY y,QY QU q,QZ C,QZ I,sb] 39));have J:=q_ (show XW w.heap.size w d from by rw[<-c.o];exact F_ w _ _);have r:=q_ (show d.heap[z]?=QJ (XX #[QY QU 6,XY x,QY QU p,QZ B,QZ D,sa] 39 (0,0)) from by rw[<-c.o,<-k.o];exact heap_alloc2_old w _ _);have t:=q_ (show d.heap[z+1]?=QJ (XX #[QY QU 6,XY y,QY QU q,QZ C,QZ I,sb] 39 (0,0)) from by rw[<-c.o,<-k.o];exact heap_alloc2_new w _ _);have U:d.cell? ⟨z,0,QK⟩=QJ (QY QU 6):=QX r.o 0;have X:d.cell? ⟨z+1,0,QK⟩=QJ (QY QU 6):=QX t.o 0;have V:d.cell? ⟨z,2,QK⟩=QJ (QY QU p):=QX r.o 2;have Y:d.cell? ⟨z+1,2,QK⟩=QJ (QY QU q):=QX t.o 2;go_enter func116,ntmps116
 go_upto_region 1 with fail;rw[c.o,k.o];clear c;go_wp2_with fail;refine (h.o d).mono ?_;rintro e w2 ⟨rfl,rfl⟩;go_wp2_with fail;refine (h.o _).mono ?_;rintro e Z ⟨rfl,rfl⟩;go_wp2_with fail;refine (i.o _).mono ?_;rintro e w4 ⟨rfl,rfl⟩;go_wp2_with fail;go_ret;exact L.o _ J.o
theorem oy_ (a b:g_) (sa sb:XJ) (w:QV) (f:a.kind=7) (hb:b.kind=7) :
    Calls QW 116 #[QY QU 1,.agg (c_ a sa),.agg (c_ b sb)] w (b7_ a b w):=by
 have h:=q_ (λW:QV=>(show Calls QW 180 #[QY QU 1,QY QU 7] W (λe w'=>e = YQ (QY QU 3)/\w'=W) from cc_ 7 W));have m:=q_ (show y_ a b=ef_ (decide (a.num<b.num)) (decide (b.num<a.num)) from by rw[qx_ (.inr f) (hb.trans f.symm),tn_]);obtain⟨v,j⟩:=a_ (y_ a b);have L:=q_ (show ∀w',XW w.heap.size w w'->b7_ a b w (YQ (QY QU v)) w' from λw' hb=>⟨by rw[j.o],hb⟩);rw[j.o]at m;have i:=q_ (λW:QV=>(show Calls QW 181 #[XY (decide (a.num<b.num)),XY (decide (b.num<a.num))] W (λe w'=>e = YQ (QY QU v)/\w'=W) from by rw[m.o];exact ez_ _ _ W));clear j m
 cases a with
 | mk M x p B D O=>
 cases b with
 | mk N y q C I T=>
 simp only[g_.kind]at f hb;subst f;subst hb;unfold c_;simp only[g_.kind,g_.truth,g_.num,g_.text,g_.extra]at i ⊢;obtain⟨z,k⟩:=a_ w.heap.size;obtain⟨d,c⟩:=a_ ((w.alloc (XX #[QY QU 7,XY x,QY QU p,QZ B,QZ D,sa] 39)).alloc (XX #[QY QU 7,XY y,QY QU q,QZ C,QZ I,sb] 39));have J:=q_ (show XW w.heap.size w d from by rw[<-c.o];exact F_ w _ _);have r:=q_ (show d.heap[z]?=QJ (XX #[QY QU 7,XY x,QY QU p,QZ B,QZ D,sa] 39 (0,0)) from by rw[<-c.o,<-k.o];exact heap_alloc2_old w _ _);have t:=q_ (show d.heap[z+1]?=QJ (XX #[QY QU 7,XY y,QY QU q,QZ C,QZ I,sb] 39 (0,0)) from by rw[<-c.o,<-k.o];exact heap_alloc2_new w _ _);have U:d.cell? ⟨z,0,QK⟩=QJ (QY QU 7):=QX r.o 0;have X:d.cell? ⟨z+1,0,QK⟩=QJ (QY QU 7):=QX t.o 0;have V:d.cell? ⟨z,2,QK⟩=QJ (QY QU p):=QX r.o 2;have Y:d.cell? ⟨z+1,2,QK⟩=QJ (QY QU q):=QX t.o 2;go_enter func116,ntmps116
 go_upto_region 1 with fail;rw[c.o,k.o];clear c;go_wp2_with fail;refine (h.o d).mono ?_;rintro e w2 ⟨rfl,rfl⟩;go_wp2_with fail;refine (h.o _).mono ?_;rintro e Z ⟨rfl,rfl⟩;go_wp2_with fail;refine (i.o _).mono ?_;rintro e w4 ⟨rfl,rfl⟩;go_wp2_with fail;go_ret;exact L.o _ J.o
theorem r6_ (a b:g_) (sa sb:XJ) (w:QV) (r:a.kind=1) (hb:b.kind=1) :
    Calls QW 116 #[QY QU 1,.agg (c_ a sa),.agg (c_ b sb)] w (b7_ a b w):=by
 have i:=q_ λW:QV=>(show Calls QW 180 #[QY QU 1,QY QU 1] W (λe w'=>e = YQ (QY QU 8)/\w'=W) from cc_ 1 W)
 have t:=q_ (show y_ a b=ef_ (!a.truth&&b.truth) (a.truth && !b.truth) from by
  rw[s5_ r hb]
  cases a.truth<;>cases b.truth<;>rfl)
 obtain⟨v,p⟩:=a_ (y_ a b);have L:=q_ (show ∀w',XW w.heap.size w w'->b7_ a b w (YQ (QY QU v)) w' from λw' hb=>⟨by rw[p.o],hb⟩);rw[p.o]at t;have j:=q_ (λW:QV=>(show Calls QW 181 #[XY (!a.truth&&b.truth),XY (a.truth && !b.truth)] W (λe w'=>e = YQ (QY QU v)/\w'=W) from by rw[t.o];exact ez_ _ _ W));clear p t
 cases a with
 | mk M f x B D O=>
 cases b with
 | mk N h y C I T=>
 simp only[g_.kind]at r hb;subst r;subst hb;unfold c_;simp only[g_.kind,g_.truth,g_.num,g_.text,g_.extra]at j ⊢;obtain⟨z,q⟩:=a_ w.heap.size;obtain⟨d,c⟩:=a_ ((w.alloc (XX #[QY QU 1,XY f,QY QU x,QZ B,QZ D,sa] 39)).alloc (XX #[QY QU 1,XY h,QY QU y,QZ C,QZ I,sb] 39));have J:=q_ (show XW w.heap.size w d from by rw[<-c.o];exact F_ w _ _);have k:=q_ (show d.heap[z]?=QJ (XX #[QY QU 1,XY f,QY QU x,QZ B,QZ D,sa] 39 (0,0)) from by rw[<-c.o,<-q.o];exact heap_alloc2_old w _ _);have m:=q_ (show d.heap[z+1]?=QJ (XX #[QY QU 1,XY h,QY QU y,QZ C,QZ I,sb] 39 (0,0)) from by rw[<-c.o,<-q.o];exact heap_alloc2_new w _ _);have U:d.cell? ⟨z,0,QK⟩=QJ (QY QU 1):=QX k.o 0;have X:d.cell? ⟨z+1,0,QK⟩=QJ (QY QU 1):=QX m.o 0;have V:d.cell? ⟨z,1,QK⟩=QJ (XY f):=QX k.o 1;have Y:d.cell? ⟨z+1,1,QK⟩=QJ (XY h):=QX m.o 1;clear k m;go_enter func116,ntmps116
 go_upto_region 1 with fail;rw[c.o,q.o];clear c;go_wp2_with fail;refine (i.o d).mono ?_;rintro e w2 ⟨rfl,rfl⟩;go_wp2_with fail;refine (i.o _).mono ?_;rintro e Z ⟨rfl,rfl⟩
 cases f<;>cases h
 all_goals
  go_wp2_with fail;refine (j.o _).mono ?_;rintro e w4 ⟨rfl,rfl⟩;go_wp2_with fail;go_ret;exact L.o _ J.o
theorem tf_ {k:Int} (h:c8_ k=false) (b:k≠3):B_ k≠9/\B_ k≠1/\B_ k≠2/\B_ k≠3/\B_ k≠8:=by
 unfold c8_ at h;have c:=of_decide_eq_false h;rcases md_ k with h1 | h1 | h1
 ·omega
 ·rw[h1];decide
 ·refine⟨h1.1,?_,?_,?_,?_⟩<;>(intro e;rw[e]at h1;have:=h1.2.2;revert this;unfold Mq_;simp;omega)
theorem nx_ (x y:ByteArray):ef_ (Op.bytesLess x.toList y.toList) (!Op.bytesLess x.toList y.toList && !x.toList==y.toList)=ec_ x.data.toList y.data.toList:=by
 rw[ByteArray.toList_eq,ByteArray.toList_eq];unfold ec_ ef_
 cases h1:Op.bytesLess x.data.toList y.data.toList with
 | true=>rfl
 | false=>
  by_cases h2:x.data.toList=y.data.toList
  ·rw[h2,xn_];simp
  ·have b:Op.bytesLess y.data.toList x.data.toList=true:=by
     cases h4:Op.bytesLess y.data.toList x.data.toList with
     | true=>rfl
     | false=>exact absurd (hm_ _ _ h1 h4) h2
   have c:(x.data.toList==y.data.toList)=false:=bN_.2 h2;rw[b,c];rfl
theorem Eb_ {a b:g_} (h:B_ a.kind=B_ b.kind) (d:c8_ a.kind=false) (c:a.kind≠3) (ht:a.text=b.text):y_ a b=ef_ (Op.bytesLess a.extra.toList b.extra.toList) (!Op.bytesLess a.extra.toList b.extra.toList && !a.extra.toList==b.extra.toList):=by rw[np_ h d c,ht,g1_,Y_,nx_]
theorem Ea_ {a b:g_} (h:B_ a.kind=B_ b.kind) (f:c8_ a.kind=false) (d:a.kind≠3) (ht:a.text≠b.text):y_ a b=ef_ (Op.bytesLess a.text.toList b.text.toList) true:=by
 have c:ec_ a.text.data.toList b.text.data.toList≠0:=λe=>ht (lj_ ((lk_.eqv _ _).1 e));rw[np_ h f d,cx_ c,ByteArray.toList_eq,ByteArray.toList_eq];unfold ec_ at c ⊢;unfold ef_;by_cases h1:Op.bytesLess a.text.data.toList b.text.data.toList=true
 ·rw[iP_ h1,iP_ h1]
 ·rw[iN_ h1]at c ⊢;rw[iN_ h1,iP_ rfl];by_cases h2:Op.bytesLess b.text.data.toList a.text.data.toList=true
  ·rw[iP_ h2]
  ·rw[iN_ h2]at c;exact absurd rfl c
theorem q5_ (a b:g_) (sa sb:XJ) (w:QV) (h:B_ a.kind=B_ b.kind) (y:c8_ a.kind=false) (j:a.kind≠3) (ht:a.text≠b.text) :
    Calls QW 116 #[QY QU 1,.agg (c_ a sa),.agg (c_ b sb)] w (b7_ a b w):=by
 have k:=q_ (λW:QV=>cc_ a.kind W);have i:=q_ (λW:QV=>cc_ b.kind W);obtain⟨v,t⟩:=a_ (y_ a b);have Z:=q_ (show ∀w',XW w.heap.size w w'->b7_ a b w (YQ (QY QU v)) w' from λw' hb=>⟨by rw[t.o],hb⟩);have d:=q_ (show B_ a.kind≠9/\B_ a.kind≠1/\B_ a.kind≠2/\B_ a.kind≠3/\B_ a.kind≠8 from tf_ y j);rw[<-h]at i;obtain⟨r,N⟩:=a_ (B_ a.kind);rw[N.o]at k i d;have r9:(r==9)=false:=by simpa using d.o.1
 have r1:(r==1)=false:=by simpa using d.o.2.1
 have r2:(r==2)=false:=by simpa using d.o.2.2.1
 have r3:(r==3)=false:=by simpa using d.o.2.2.2.1
 have r8:(r==8)=false:=by simpa using d.o.2.2.2.2
 clear N;have U:=br_ ht;have B:=q_ (show y_ a b=ef_ (Op.bytesLess a.text.toList b.text.toList) true from Ea_ h y j ht);rw[t.o]at B;have m:=q_ (λW:QV=>(show Calls QW 181 #[.bool (Op.bytesLess a.text.toList b.text.toList),.bool true] W (λe w'=>e = .returned (.int .i64 v)/\w'=W) from by rw[B.o];exact ez_ _ _ W));clear ht t B h y j
 cases a with
 | mk C O V I L l1=>
 cases b with
 | mk D T X J M l2=>
 unfold c_;simp only[g_.kind,g_.truth,g_.num,g_.text,g_.extra]at k i U m ⊢;obtain⟨z,x⟩:=a_ w.heap.size;obtain⟨c,f⟩:=a_ ((w.alloc (XX #[QY QU C,XY O,QY QU V,QZ I,QZ L,sa] 39)).alloc (XX #[QY QU D,XY T,QY QU X,QZ J,QZ M,sb] 39));have Y:=q_ (show XW w.heap.size w c from by rw[<-f.o];exact F_ w _ _);have p:=q_ (show c.heap[z]?=QJ (XX #[QY QU C,XY O,QY QU V,QZ I,QZ L,sa] 39 (0,0)) from by rw[<-f.o,<-x.o];exact heap_alloc2_old w _ _);have q:=q_ (show c.heap[z+1]?=QJ (XX #[QY QU D,XY T,QY QU X,QZ J,QZ M,sb] 39 (0,0)) from by rw[<-f.o,<-x.o];exact heap_alloc2_new w _ _);have p0:c.cell? ⟨z,0,QK⟩=QJ (QY QU C):=QX p.o 0;have q0:c.cell? ⟨z+1,0,QK⟩=QJ (QY QU D):=QX q.o 0;have p3:c.cell? ⟨z,3,QK⟩=QJ (QZ I):=QX p.o 3;have q3:c.cell? ⟨z+1,3,QK⟩=QJ (QZ J):=QX q.o 3;have p4:c.cell? ⟨z,4,QK⟩=QJ (QZ L):=QX p.o 4;have q4:c.cell? ⟨z+1,4,QK⟩=QJ (QZ M):=QX q.o 4;go_enter func116,ntmps116
 go_upto_region 1 with fail;rw[f.o,x.o];clear f;go_wp2_with fail;refine (k.o c).mono ?_;rintro e w2 ⟨rfl,rfl⟩;go_wp2_with fail;refine (i.o _).mono ?_;rintro e w3 ⟨rfl,rfl⟩;go_wp2_with fail;refine (m.o _).mono ?_;rintro e w4 ⟨rfl,rfl⟩;go_wp2_with fail;go_ret;exact Z.o _ Y.o
theorem q6_ (a b:g_) (sa sb:XJ) (w:QV) (h:B_ a.kind=B_ b.kind) (B:c8_ a.kind=false) (k:a.kind≠3) (ht:a.text=b.text) :
    Calls QW 116 #[QY QU 1,.agg (c_ a sa),.agg (c_ b sb)] w (b7_ a b w):=by
 have m:=q_ (λW:QV=>cc_ a.kind W);have i:=q_ (λW:QV=>cc_ b.kind W);obtain⟨v,x⟩:=a_ (y_ a b);have X:=q_ (show ∀w',XW w.heap.size w w'->b7_ a b w (YQ (QY QU v)) w' from λw' hb=>⟨by rw[x.o],hb⟩);have d:=q_ (show B_ a.kind≠9/\B_ a.kind≠1/\B_ a.kind≠2/\B_ a.kind≠3/\B_ a.kind≠8 from tf_ B k);rw[<-h]at i;obtain⟨r,M⟩:=a_ (B_ a.kind);rw[M.o]at m i d;have r9:(r==9)=false:=by simpa using d.o.1
 have r1:(r==1)=false:=by simpa using d.o.2.1
 have r2:(r==2)=false:=by simpa using d.o.2.2.1
 have r3:(r==3)=false:=by simpa using d.o.2.2.2.1
 have r8:(r==8)=false:=by simpa using d.o.2.2.2.2
 clear M;have C:=q_ (show y_ a b=ef_ (Op.bytesLess a.extra.toList b.extra.toList) (!Op.bytesLess a.extra.toList b.extra.toList && !a.extra.toList==b.extra.toList) from Eb_ h B k ht);rw[x.o]at C;have p:=q_ (λW:QV=>(show Calls QW 181 #[.bool (Op.bytesLess a.extra.toList b.extra.toList),.bool (!Op.bytesLess a.extra.toList b.extra.toList && !a.extra.toList==b.extra.toList)] W (λe w'=>e = .returned (.int .i64 v)/\w'=W) from by rw[C.o];exact ez_ _ _ W));clear x C h B k
 cases a with
 | mk D N T j J Y=>
 cases b with
 | mk I O U t2 L Z=>
 unfold c_;simp only[g_.kind,g_.truth,g_.num,g_.text,g_.extra]at m i ht p ⊢;subst ht;obtain⟨z,y⟩:=a_ w.heap.size;obtain⟨c,f⟩:=a_ ((w.alloc (XX #[QY QU D,XY N,QY QU T,QZ j,QZ J,sa] 39)).alloc (XX #[QY QU I,XY O,QY QU U,QZ j,QZ L,sb] 39));have V:=q_ (show XW w.heap.size w c from by rw[<-f.o];exact F_ w _ _);have q:=q_ (show c.heap[z]?=QJ (XX #[QY QU D,XY N,QY QU T,QZ j,QZ J,sa] 39 (0,0)) from by rw[<-f.o,<-y.o];exact heap_alloc2_old w _ _);have t:=q_ (show c.heap[z+1]?=QJ (XX #[QY QU I,XY O,QY QU U,QZ j,QZ L,sb] 39 (0,0)) from by rw[<-f.o,<-y.o];exact heap_alloc2_new w _ _);have p0:c.cell? ⟨z,0,QK⟩=QJ (QY QU D):=QX q.o 0;have q0:c.cell? ⟨z+1,0,QK⟩=QJ (QY QU I):=QX t.o 0;have p3:c.cell? ⟨z,3,QK⟩=QJ (QZ j):=QX q.o 3;have q3:c.cell? ⟨z+1,3,QK⟩=QJ (QZ j):=QX t.o 3;have p4:c.cell? ⟨z,4,QK⟩=QJ (QZ J):=QX q.o 4;have q4:c.cell? ⟨z+1,4,QK⟩=QJ (QZ L):=QX t.o 4;go_enter func116,ntmps116
 go_upto_region 1 with fail;rw[f.o,y.o];clear f;go_wp2_with fail;refine (m.o c).mono ?_;rintro e w2 ⟨rfl,rfl⟩;go_wp2_with fail;refine (i.o _).mono ?_;rintro e w3 ⟨rfl,rfl⟩;go_wp2_with fail;refine (p.o _).mono ?_;rintro e w4 ⟨rfl,rfl⟩;go_wp2_with fail;go_ret;exact X.o _ V.o
end
section
open Go
theorem zw_:bl_ t4_=true:=by
 have h:t4_=au_ 0:=by unfold t4_ au_ Lib.itoa;rw[iN_ (by decide),show (0:Int).toNat=0 from rfl,Lib.decDigits_one (by decide)];rfl
 rw[h];exact p5_ (by decide) (by decide)
theorem hj_ {v:g_} (h0:-9223372036854775808<=v.num) (h1:v.num<=9223372036854775807):bl_ (am_ v)=true:=by
 unfold am_;by_cases c:v.kind=2
 ·rw[iP_ c];exact p5_ h0 h1
 ·rw[iN_ c];by_cases b:bl_ v.text=true
  ·rw[iP_ b];exact b
  ·rw[iN_ b];exact zw_
end
section
open Go Go.RowKit
structure Eq6 (c:Array XJ) (v:g_) (s:XJ):Prop where
 o :c_ v s=c
theorem L_ (v:g_) (s:XJ):∃c,Eq6 c v s:=⟨_,⟨rfl⟩⟩
theorem Eq6.size {c:Array XJ} {v:g_} {s:XJ} (h:Eq6 c v s):c.size=6:=by rw[<-h.o];rfl
def ye_ (a b:g_):Int:=ar_ (c7_ a.kind b.kind) (if a.kind=3 then ec_ a.text.data.toList b.text.data.toList else 0)
theorem Ek_ {a b:g_} (c:a.kind=2\/a.kind=3) (hb:b.kind=2\/b.kind=3) (h:¬(a.kind=3/\b.kind=3)):ye_ a b=c7_ a.kind b.kind:=by
 unfold ye_;rcases c with c | c<;>rcases hb with hb | hb<;>rw[c,hb]
 ·rfl
 ·rfl
 ·rfl
 ·exact absurd ⟨c,hb⟩ h
theorem El_ {a b:g_} (h:a.kind=3/\b.kind=3):ye_ a b=ec_ a.text.data.toList b.text.data.toList:=by unfold ye_;rw[h.1,h.2];rfl
theorem de_ (a b:g_) (sa sb:XJ) (w:QV) (t:a.kind=2\/a.kind=3) (hb:b.kind=2\/b.kind=3) (Y:-9223372036854775808<=a.num) (Z:a.num<=9223372036854775807) (a0:-9223372036854775808<=b.num) (a1:b.num<=9223372036854775807) (ai:a.text.size<=4000000000000) (aj:b.text.size<=4000000000000) :
    Calls QW 116 #[QY QU 1,.agg (c_ a sa),.agg (c_ b sb)] w (b7_ a b w):=by
 rcases t with t | t<;>rcases hb with hb | hb<;>(
 have ae:=q_ (λW:QV=>(show Calls QW 180 #[QY QU 1,QY QU a.kind] W (λe w'=>e = YQ (QY QU 9)/\w'=W) from by rw[t];exact cc_ _ W));have af:=q_ (λW:QV=>(show Calls QW 180 #[QY QU 1,QY QU b.kind] W (λe w'=>e = YQ (QY QU 9)/\w'=W) from by rw[hb];exact cc_ _ W));rw[t]at ae;rw[hb]at af;have I:=q_ (λW:QV=>wj_ a sa Y Z ai W);have J:=q_ (λW:QV=>wj_ b sb a0 a1 aj W);have ad:=q_ (λW:QV=>ow_ (am_ a) (am_ b) (hj_ Y Z) (hj_ a0 a1) W);obtain⟨X1,a6⟩:=a_ (am_ a);obtain⟨X2,a7⟩:=a_ (am_ b);have I:=q_ (λW:QV=>(I.o W).mono λe w' (h:pd_ a W e w')=>(show e = YQ (QZ X1)/\XW W.heap.size W w' from by rw[<-a6.o];exact h));have J:=q_ (λW:QV=>(J.o W).mono λe w' (h:pd_ b W e w')=>(show e = YQ (QZ X2)/\XW W.heap.size W w' from by rw[<-a7.o];exact h));obtain⟨r,Hr⟩:=a_ (ye_ a b);have HV:=q_ (show y_ a b=ar_ (es_ (am_ a) (am_ b)) r from by rw[xz_ (by omega) (by omega),<-Hr.o];rfl);have ag:=q_ (λh:¬(a.kind=3/\b.kind=3)=>(show r=c7_ a.kind b.kind from by rw[<-Hr.o];exact Ek_ (by omega) (by omega) h));have a2:=q_ (λh:a.kind=3/\b.kind=3=>(show r=ec_ a.text.data.toList b.text.data.toList from by rw[<-Hr.o];exact El_ h));rw[t,hb]at ag a2;clear Hr;rw[a6.o,a7.o]at ad HV;have v:(c_ a sa)[0]?=QJ (QY QU a.kind):=rfl;have x:(c_ b sb)[0]?=QJ (QY QU b.kind):=rfl;rw[t]at v;rw[hb]at x;have L:(c_ a sa)[3]?=QJ (QZ a.text):=rfl;have M:(c_ b sb)[3]?=QJ (QZ b.text):=rfl;obtain⟨y,a8⟩:=a_ a.text;obtain⟨B,a9⟩:=a_ b.text;rw[a8.o,a9.o]at a2;rw[a8.o]at L;rw[a9.o]at M;have L:=q_ L;have M:=q_ M;obtain⟨m,U⟩:=L_ a sa;obtain⟨p,V⟩:=L_ b sb;rw[U.o]at I v ⊢;rw[V.o]at J x ⊢;have a4:=q_ L.o;have a5:=q_ M.o;rw[U.o]at a4;rw[V.o]at a5;have Q1:=q_ U.size;have Q2:=q_ V.size;obtain⟨z,Hz⟩:=a_ w.heap.size;obtain⟨N,i⟩:=a_ ((w.alloc (XX m 39)).alloc (XX p 39));have HB:=q_ (show XW w.heap.size w N from by rw[<-i.o];exact F_ w _ _);have j:=q_ (show N.heap[z]?=QJ (XX m 39 (0,0)) from by rw[<-i.o,<-Hz.o];exact heap_alloc2_old w _ _);have k:=q_ (show N.heap[z+1]?=QJ (XX p 39 (0,0)) from by rw[<-i.o,<-Hz.o];exact heap_alloc2_new w _ _);have ak:=q_ v;have am:=q_ x;have p0:N.cell? ⟨z,0,QK⟩=QJ (QY QU _):=(UU _ _ _ _ _ _ j.o).trans v;have q0:N.cell? ⟨z+1,0,QK⟩=QJ (QY QU _):=(UU _ _ _ _ _ _ k.o).trans x;clear v x t hb Y Z a0 a1 ai aj;go_enter func116,ntmps116
 go_upto_region 1 with fail;rw[i.o,Hz.o];clear i;go_wp2_with fail;refine (ae.o N).mono ?_;rintro e w2 ⟨rfl,rfl⟩;go_wp2_with fail;refine (af.o _).mono ?_;rintro e w3 ⟨rfl,rfl⟩;go_upto_region 7 with fail;have s1:=q_ (show w3.drew.heap[z]?=QJ (XX m 39 (0,0))/\w3.drew.heap[z+1]?=QJ (XX p 39 (0,0)) from ⟨j.o,k.o⟩);refine UZ (S:=λW'=>W'.heap[z]?=QJ (XX m 39 (0,0))/\W'.heap[z+1]?=QJ (XX p 39 (0,0))) (by kernel_rfl) s1.o λd=>?_;refine H_.o ?_;refine tlW 0 28 (.agg m) d (λw X=>?_) λd=>?_
 ·exact k_ (cb_ X.1 39 _ YV rfl (by rw[Q1.o];kernel_rfl))
 refine tlW 2 30 (.agg p) d (λw X=>?_) λd=>?_
 ·exact k_ (cb_ X.2 39 _ YV rfl (by rw[Q2.o];kernel_rfl))
 refine tlC 1 λK q=>?_;go_simp;refine (I.o w3.drew).mono ?_;rintro e w4 ⟨rfl,aa⟩;have C:=q_ (show XW w3.heap.size w3 w4 from a1_ aa);have ao:=q_ (show w4.heap[z]?=some (.cells m 39 (0,0))/\w4.heap[z+1]?=some (.cells p 39 (0,0)) from ⟨(C.o.block z (b_ j.o)).trans j.o,(C.o.block (z+1) (b_ k.o)).trans k.o⟩);clear aa;dsimp only;refine tlB q ao.o λd=>?_;clear q K;refine tlC 3 λK q=>?_;go_simp;refine (J.o w4).mono ?_;rintro e w5 ⟨rfl,ab⟩;have D:=q_ (C.o.trans (ab.mono C.o.size));have ap:=q_ (show w5.heap[z]?=some (.cells m 39 (0,0))/\w5.heap[z+1]?=some (.cells p 39 (0,0)) from ⟨(D.o.block z (b_ j.o)).trans j.o,(D.o.block (z+1) (b_ k.o)).trans k.o⟩);clear ab;dsimp only;refine tlB q ap.o λd=>?_;clear q K;refine tlC 4 λK q=>?_;go_simp;refine (ad.o w5).mono ?_;rintro e w6 ⟨rfl,ac⟩;have O:=q_ (D.o.trans (ac.mono D.o.size));have f:=q_ (show w6.heap[z]?=some (.cells m 39 (0,0))/\w6.heap[z+1]?=some (.cells p 39 (0,0)) from ⟨(O.o.block z (b_ j.o)).trans j.o,(O.o.block (z+1) (b_ k.o)).trans k.o⟩);clear ac;obtain⟨c,Hc⟩:=a_ (es_ X1 X2);rw[Hc.o];dsimp only;refine tlB q f.o λd=>?_;clear q K;refine O_ 5 9 (.int .i64 c) d λd=>?_;refine⟨VX (by kernel_rfl) ?_ _⟩;clear d;have p0:w6.cell? ⟨z,0,none⟩=some (.int .i64 _):=(UU _ _ _ _ _ _ f.o.1).trans ak.o;have q0:w6.cell? ⟨z+1,0,none⟩=some (.int .i64 _):=(UU _ _ _ _ _ _ f.o.2).trans am.o;have T:=q_ (HB.o.trans (O.o.mono HB.o.size));rw[Hc.o]at HV;have ah:=q_ (λW:QV=>ez_ (Op.bytesLess y.toList B.toList) (!Op.bytesLess y.toList B.toList && !y.toList==B.toList) W);have p3:w6.cell? ⟨z,3,none⟩=some (.string y):=(UU _ _ _ _ _ _ f.o.1).trans a4.o;have q3:w6.cell? ⟨z+1,3,none⟩=some (.string B):=(UU _ _ _ _ _ _ f.o.2).trans a5.o;have a3:=q_ (nx_ y B);obtain⟨sv,aq⟩:=a_ (ef_ (Op.bytesLess y.toList B.toList) (!Op.bytesLess y.toList B.toList && !y.toList==B.toList));rw[aq.o]at ah a3;clear Hc;by_cases hc:c=0
 ·subst hc;have hv:=q_ (show y_ a b=r from HV.o);go_wp2_with fail;refine (ez_ _ _ _).mono ?_;rintro e w7 ⟨rfl,rfl⟩;have ar:ef_ false false=0:=rfl;go_wp2_with fail
  first
   | (go_ret
      exact⟨by rw[hv.o,ag.o (by decide)];rfl,T.o⟩)
   | (refine (ah.o _).mono ?_
      rintro e w7 ⟨rfl,rfl⟩;go_wp2_with fail;go_ret;exact⟨by rw[hv.o,a2.o (by decide),<-a3.o];rfl,T.o⟩)
 ·have e1:(c==0)=false:=by simpa using hc
  have hv:=q_ (show y_ a b=c from HV.o.trans (cx_ hc));clear hc;go_wp2_with fail;go_ret;exact⟨by rw[hv.o];rfl,T.o⟩)
structure cg_ (v:g_):Prop where
 n0:-9223372036854775808<=v.num
 n1:v.num<=9223372036854775807
 ts:v.text.size<=4000000000000
theorem fd_ (a b:g_) (sa sb:XJ) (w:QV) (q:a.kind≠5) (c:cg_ a) (hb:cg_ b) :
    Calls QW 116 #[QY QU 1,.agg (c_ a sa),.agg (c_ b sb)] w (b7_ a b w):=by
 by_cases f:B_ a.kind=B_ b.kind
 ·by_cases d:c8_ a.kind=false/\a.kind≠3
  ·by_cases ht:a.text=b.text
   ·exact q6_ a b sa sb w f d.1 d.2 ht
   ·exact q5_ a b sa sb w f d.1 d.2 ht
  ·have j:a.kind=1\/a.kind=2\/a.kind=3\/a.kind=6\/a.kind=7:=by
     by_cases p:a.kind=3
     ·omega
     ·have i:c8_ a.kind=true:=by
        cases h:c8_ a.kind with
        | true=>rfl
        | false=>exact absurd ⟨h,p⟩ d
      unfold c8_ at i;have:=of_decide_eq_true i;omega
   rcases jo_ f with e | e | e
   ·rcases j with h | h | h | h | h
    ·exact r6_ a b sa sb w h (e▸h)
    ·exact de_ a b sa sb w (.inl h) (.inl (e▸h)) c.n0 c.n1 hb.n0 hb.n1 c.ts hb.ts
    ·exact de_ a b sa sb w (.inr h) (.inr (e▸h)) c.n0 c.n1 hb.n0 hb.n1 c.ts hb.ts
    ·exact ox_ a b sa sb w h (e▸h)
    ·exact oy_ a b sa sb w h (e▸h)
   ·rcases e with⟨k | k,m | m⟩
    ·exact de_ a b sa sb w (by omega) (by omega) c.n0 c.n1 hb.n0 hb.n1 c.ts hb.ts
    ·exact de_ a b sa sb w (by omega) (by omega) c.n0 c.n1 hb.n0 hb.n1 c.ts hb.ts
    ·exact de_ a b sa sb w (by omega) (by omega) c.n0 c.n1 hb.n0 hb.n1 c.ts hb.ts
    ·exact de_ a b sa sb w (by omega) (by omega) c.n0 c.n1 hb.n0 hb.n1 c.ts hb.ts
   ·exfalso;have h:=e.1;rcases j with h2 | h2 | h2 | h2 | h2<;>(rw[h2]at h;revert h;decide)
 ·exact r7_ a b sa sb w f
theorem Iq_ (x:ByteArray) (w:QV):Calls QW 214 #[QZ x] w λe w'=>e = YQ (XY false)/\w'=w:=by
 go_enter func214,ntmps214
 go_wp2_with fail;go_ret;exact⟨by simp,rfl⟩
theorem D3_ (x:Int) (w:QV):Calls QW 215 #[QY QU x] w λe w'=>e = YQ (XY false)/\w'=w:=by
 go_enter func215,ntmps215
 go_wp2_with fail;go_ret;exact⟨by simp,rfl⟩
theorem C3_ (x y:Int) (w:QV):Calls QW 133 #[QY QU x,QY QU y] w λe w'=>e = YQ (QY QU (c7_ x y))/\w'=w:=by
 have b:=q_ D3_;go_enter func133,ntmps133
 go_wp2_with (go_at_call 215;(with_reducible refine (b.o _ _).mono ?_);rintro e w' ⟨rfl,rfl⟩)
 all_goals (go_ret;refine⟨q8_ ?_,rfl⟩;unfold c7_;(repeat' split)<;>first | rfl | (exfalso;omega))
theorem ri_ (b:Bool) (w:QV):Calls QW 134 #[XY b] w λe w'=>e = YQ (QY QU (if b=true then 1 else 0))/\w'=w:=by
 cases b
 all_goals
  go_enter func134,ntmps134
  go_wp2_with fail;go_ret;exact⟨rfl,rfl⟩
theorem kn_ (x y:ByteArray) (w:QV):Calls QW 130 #[QZ x,QZ y] w λe w'=>e = YQ (QY QU (ec_ x.data.toList y.data.toList))/\w'=w:=by
 have c:=q_ Iq_;have b:=q_ (nx_ x y);obtain⟨v,d⟩:=a_ (ec_ x.data.toList y.data.toList);rw[d.o]at b ⊢
 cases h1:Op.bytesLess x.toList y.toList with
 | true=>
  rw[h1]at b;go_enter func130,ntmps130
  go_wp2_with (go_at_call 214;(with_reducible refine (c.o _ _).mono ?_);rintro e w' ⟨rfl,rfl⟩)
  go_ret;exact⟨by rw[<-b.o];rfl,rfl⟩
 | false=>
  cases h2:(x.toList==y.toList) with
  | true=>
   rw[h1,h2]at b;go_enter func130,ntmps130
   go_wp2_with (go_at_call 214;(with_reducible refine (c.o _ _).mono ?_);rintro e w' ⟨rfl,rfl⟩)
   go_ret;exact⟨by rw[<-b.o];rfl,rfl⟩
  | false=>
   rw[h1,h2]at b;go_enter func130,ntmps130
   go_wp2_with (go_at_call 214;(with_reducible refine (c.o _ _).mono ?_);rintro e w' ⟨rfl,rfl⟩)
   go_ret;exact⟨by rw[<-b.o];rfl,rfl⟩
theorem so_ (v:g_) (s:XJ) (h0:-9223372036854775808<=v.num) (h1:v.num<=9223372036854775807) (ht:v.text.size<=4000000000000) (w:QV) (D:ad_ w) (I:ci_ w) :
    Calls QW 213 #[.agg (c_ v s)] w (pd_ v w):=by
 have J:=q_ (λ(W:QV) (r:XW w.heap.size w W)=>D7_ v.num h0 h1 W (K_ I r));have C:=q_ (λ(W:QV) (r:XW w.heap.size w W)=>uo_ v.text (by omega) W (j_ D r));have d:=q_ (show am_ v=if v.kind=2 then au_ v.num else if bl_ v.text=true then v.text else t4_ from rfl)
 obtain⟨x,N⟩:=a_ (am_ v);have L:=q_ (show ∀w',XW w.heap.size w w'->pd_ v w (YQ (QZ x)) w' from λw' hb=>⟨by rw[N.o],hb⟩);obtain⟨o,M⟩:=a_ (au_ v.num);rw[N.o,M.o]at d;have i:=q_ (λh:v.kind=2=>(show x=o from by rw[d.o,iP_ h]));have m:=q_ (λ(h:v.kind≠2) (c:bl_ v.text=true)=>(show x=v.text from by rw[d.o,iN_ h,iP_ c]));have j:=q_ (λ(h:v.kind≠2) (c:bl_ v.text=false)=>(show x=⟨#[48,46,48]⟩ from by rw[d.o,iN_ h,iN_ (by rw[c];exact Bool.false_ne_true)];rfl));clear d;have y:=q_ (λ(W:QV) (r:XW w.heap.size w W)=>(show Calls QW 266 #[QY QU v.num] W (λe w'=>e = YQ (QZ o)/\XW W.heap.size W w') from by rw[<-M.o];exact J.o W r));clear J N M
 cases v with
 | mk k b n t V l=>
 unfold c_;simp only[g_.kind,g_.truth,g_.num,g_.text,g_.extra]at y C i m j ⊢;clear h0 h1 ht D I;go_enter func213,ntmps213
 by_cases f:k=2
 ·have Y:=q_ (i.o f);subst f;go_wp2_with fail;refine (y.o _ ((XV _ _).alloc (XK _) _)).mono ?_;rintro e U ⟨rfl,hb⟩;have B:=q_ (((XV w.heap.size w).alloc (XK _) (XX #[QY QU 2,XY b,QY QU n,QZ t,QZ V,s] 39)).trans (hb.mono (by simp)));clear hb;go_wp2_with fail;go_ret;have:=L.o _ B.o;rw[Y.o]at this;exact this
 ·have e2:(k==2)=false:=by simpa using f
  have T:=q_ (m.o f);have O:=q_ (j.o f);clear f i m j;go_wp2_with fail;refine (C.o _ ((XV _ _).alloc (XK _) _)).mono ?_;rintro e U ⟨rfl,hb⟩;have Z:U.cell? ⟨w.heap.size,3,QK⟩=QJ (QZ t):=(hb.cell (p:=⟨w.heap.size,3,QK⟩) (by simp)).trans (QX (XU w _) 3);have B:=q_ (((XV w.heap.size w).alloc (XK _) (XX #[QY QU k,XY b,QY QU n,QZ t,QZ V,s] 39)).trans (hb.mono (by simp)));clear hb;obtain⟨X,q⟩:=a_ (bl_ t);rw[q.o]
  cases X with
  | true=>
   have c:=q.o;have z:=q_ (show x=t from T.o c);clear c;go_wp2_with fail;go_ret;have:=L.o _ B.o;rw[z.o]at this;exact this
  | false=>
   have c:=q.o;have z:=q_ (show x=⟨#[48,46,48]⟩ from O.o c);clear c;go_wp2_with fail;go_ret;have:=L.o _ B.o;rw[z.o]at this;exact this
def F1_ (k:Int) (w:QV) (e:Ending) (w':QV):Prop:=e = YQ (QY QU (B_ k))/\XW w.heap.size w w'
theorem te_ (v:g_) (s:XJ) (w:QV):Calls QW 127 #[QY QU 1,.agg (c_ v s)] w (F1_ v.kind w):=by
 have hb:=q_ λo:Obj=>show XW w.heap.size w (w.alloc o) from (XV _ _).alloc (XK _) _
 cases v with
 | mk k b n t x l=>
 unfold c_;simp only[g_.kind,g_.truth,g_.num,g_.text,g_.extra];by_cases f:k=5
 ·subst f;go_enter func127,ntmps127
  go_wp2_with fail;go_ret;exact⟨rfl,hb.o _⟩
 by_cases h:k=6
 ·subst h;go_enter func127,ntmps127
  go_wp2_with fail;go_ret;exact⟨rfl,hb.o _⟩
 by_cases i:k=7
 ·subst i;go_enter func127,ntmps127
  go_wp2_with fail;go_ret;exact⟨rfl,hb.o _⟩
 by_cases m:k=9
 ·subst m;go_enter func127,ntmps127
  go_wp2_with fail;go_ret;exact⟨rfl,hb.o _⟩
 by_cases j:k=8
 ·subst j;go_enter func127,ntmps127
  go_wp2_with fail;go_ret;exact⟨rfl,hb.o _⟩
 by_cases c:k=10
 ·subst c;go_enter func127,ntmps127
  go_wp2_with fail;go_ret;exact⟨rfl,hb.o _⟩
 by_cases e:k=4
 ·subst e;go_enter func127,ntmps127
  go_wp2_with fail;go_ret;exact⟨rfl,hb.o _⟩
 by_cases h1:k=1
 ·subst h1;go_enter func127,ntmps127
  go_wp2_with fail;go_ret;exact⟨rfl,hb.o _⟩
 by_cases h2:k=2
 ·subst h2;go_enter func127,ntmps127
  go_wp2_with fail;go_ret;exact⟨rfl,hb.o _⟩
 by_cases d:k=3
 ·subst d;go_enter func127,ntmps127
  go_wp2_with fail;go_ret;exact⟨rfl,hb.o _⟩
 by_cases h0:k=0
 ·subst h0;go_enter func127,ntmps127
  go_wp2_with fail;go_ret;exact⟨rfl,hb.o _⟩
 have p:=q_ (show (11:Int)=B_ k from by unfold B_;rw[iN_ f,iN_ h,iN_ i,iN_ m,iN_ j,iN_ c,iN_ e,iN_ h1,iN_ h2,iN_ d,iN_ h0]);have C:(k==5)=false:=by simpa using f
 have D:(k==6)=false:=by simpa using h
 have I:(k==7)=false:=by simpa using i
 have L:(k==9)=false:=by simpa using m
 have J:(k==8)=false:=by simpa using j
 have q:(k==10)=false:=by simpa using c
 have B:(k==4)=false:=by simpa using e
 have r:(k==1)=false:=by simpa using h1
 have y:(k==2)=false:=by simpa using h2
 have z:(k==3)=false:=by simpa using d
 have e0:(k==0)=false:=by simpa using h0
 clear f h i m j c e h1 h2 d h0;go_enter func127,ntmps127
 go_wp2_with fail;go_ret;exact⟨q8_ p.o,hb.o _⟩
theorem ah_ (f:Nat->Nat):(X_ f).size=16:=by unfold X_;simp
theorem p2_ (f:Nat->Nat):(X_ f).all (·.oneCell')=true:=by rw[Array.all_eq_true_iff_forall_mem];intro v b;unfold X_ at b;obtain⟨i,hi,rfl⟩:=Array.mem_ofFn.1 b;rfl
def Z_ (n:Bool) (f:Nat->Nat):Array XJ:=#[XY n]++X_ f
theorem t_ (n:Bool) (f:Nat->Nat):(Z_ n f).size=17:=by unfold Z_;rw[Array.size_append,ah_];rfl
structure EqN (c:Array XJ) (n:Bool) (f:Nat->Nat):Prop where
 o :Z_ n f=c
theorem n6_ (n:Bool) (f:Nat->Nat):∃c,EqN c n f:=⟨_,⟨rfl⟩⟩
structure EqU (c:Array XJ) (f:Nat->Nat):Prop where
 o :X_ f=c
theorem s1_ (f:Nat->Nat):∃c,EqU c f:=⟨_,⟨rfl⟩⟩
theorem vf_ (l:List UInt8):∀b:Nat,l.all bm_=true->b*10 ^ l.length+a0_ l<1844674407370955161->Lib.parseUintM (2 ^ 64-1) b l = .ok (b*10 ^ l.length+a0_ l):=by
 induction l with
 | nil=>intro b _ _;simp[Lib.parseUintM,a0_]
 | cons c r h=>
  intro b d hb;rw[List.all_cons,YW,dm_]at d
  have e:b*10 ^ (c::r).length+a0_ (c::r)=(b*10+(c.toNat-48))*10 ^ r.length+a0_ r:=by
   have h1:=ej_ [c] r;have h2:a0_ [c]=c.toNat-48:=by show 0*10+(c.toNat-48)=_;omega
   rw[List.singleton_append,h2]at h1;rw[h1,List.length_cons,Nat.pow_succ,Nat.add_mul,Nat.mul_assoc,Nat.mul_comm 10,Nat.add_assoc]
  rw[e]at hb ⊢;have f:1<=10 ^ r.length:=Nat.one_le_pow _ _ (by decide);have j:(b*10+(c.toNat-48))*1<=(b*10+(c.toNat-48))*10 ^ r.length:=Nat.mul_le_mul_left _ f;have i:2 ^ 64-1=18446744073709551615:=by decide
  unfold Lib.parseUintM;rw[iP_ d.1,iN_ (by omega),iN_ (by omega)];exact h _ d.2 hb
theorem Gz_ (c:UInt8) (r:List UInt8):a0_ (c::r)=(c.toNat-48)*10 ^ r.length+a0_ r:=by
 have h1:=ej_ [c] r;have h2:a0_ [c]=c.toNat-48:=by show 0*10+(c.toNat-48)=_;omega
 rw[List.singleton_append,h2]at h1;exact h1
theorem zz_ (l:List UInt8) (h:l.all bm_=true):a0_ l<10 ^ l.length:=by
 induction l with
 | nil=>simp[a0_]
 | cons c r b=>
  rw[List.all_cons,YW,dm_]at h;have h1:=b h.2;rw[Gz_,List.length_cons,Nat.pow_succ];have h2:(c.toNat-48)*10 ^ r.length<=9*10 ^ r.length:=Nat.mul_le_mul_right _ (by omega);omega
theorem Am_ {l:List UInt8} (h:l.all bm_=true) (h0:0<l.length) (c:l.length<=9):Lib.parseUintB 64 l = .ok (a0_ l):=by
 unfold Lib.parseUintB;rw[iN_ (λe=>by rw[e]at h0;simp at h0)];have h1:=zz_ l h;have h2:10 ^ l.length<=10 ^ 9:=Nat.pow_le_pow_right (by decide) c;have d:(10:Nat) ^ 9=1000000000:=by decide
 have b:=vf_ l 0 h (by omega);rw[Nat.zero_mul,VQ]at b;exact b
end
end Go.Proofs.YtefhfadjajcmkaaGreatDoor
