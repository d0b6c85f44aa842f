/- Rows of plain elements: one is stored. (Parts of YO.) -/
import Derived.Test.YtefhfadjajcmkaaGreatDoorHE
set_option linter.unusedVariables false
set_option linter.unusedSimpArgs false
set_option maxRecDepth 100000
set_option maxHeartbeats 64000000
namespace Go.Proofs.YtefhfadjajcmkaaGreatDoor
open Go.Lib (cell_of_heap)
section
open Go Go.RowKit Go.Maps
theorem xr_ {w:World} {F:Nat->Prop} {cs:Nat->Array Value} {T:List d_} {A:Option Addr} {n cap:Nat} (h:ni_ F w cs T (.slice A n cap)) {k:Nat} {t:d_} (p:T[k]?=some t) :
    ∃ad a,A=some ad/\F ad.block/\(∀i,i<3->∃A cap,a i = .slice A 0 cap)/\∀j,j<(L_ t a).size->w.cell? ((ad.add (k*18)).add j)=(L_ t a)[j]?:=by
 obtain⟨h0,J,D,e,_,x⟩:=h;injection e with e1 e2 e3;have I:=(List.getElem?_eq_some_iff.1 p).1;obtain⟨r,z,C,B⟩:=x (by omega);obtain⟨_,_,a,f,b⟩:=h0 k t p;refine⟨⟨r,0,none⟩,a,by rw[e1,z],C,f,λj s=>?_⟩;rw[add_of_add,Addr.add_mid,Nat.zero_add,<-b];exact B k I j s
theorem Fk_ {w:World} {F:Nat->Prop} {cs:Nat->Array Value} {T:List d_} {S:Value} (h:ni_ F w cs T S):∃A cap,S = .slice A T.length cap:=by obtain⟨_,A,cap,e,_,_⟩:=h;exact⟨A,cap,e⟩
theorem rf_ (t:d_) (a:Nat->Value) (W:World):(Instr.build 41 #[(0,.agg (c_ (t.get 0) (a 0))),(1,.agg (c_ (t.get 1) (a 1))),(2,.agg (c_ (t.get 2) (a 2)))]).run Tryz.prog W = .ok (.agg (L_ t a)) W:=by kernel_rfl
def Fl_ (T:List d_) (w:World) (e:Ending) (w':World):Prop:=∃v,e = .returned v/\x_ 41 18 TrS w' (λb=>w.heap.size<=b/\b<w'.heap.size) T v/\Below w.heap.size w w'
structure s9_ (w:World) (T:List d_) (S:Value) (wx:World):Prop where
 hb:Below w.heap.size w wx
 own:x_ 41 18 TrS wx (λb=>w.heap.size<=b/\b<wx.heap.size) T S
theorem s9_.on {w wx w':World} {T:List d_} {S:Value} (h:s9_ w T S wx) (hb:Below wx.heap.size wx w'):s9_ w T S w':=
 ⟨h.hb.trans (hb.mono h.hb.size),(h.own.turn TrS.good (Turn.of_below hb) (λb hb=>hb.2) (λb hb=>λe=>by have e:wx.heap.size<=b:=e;have:=hb.2;omega)).mono TrS.good λb h1=>⟨h1.1,Nat.lt_of_lt_of_le h1.2 hb.size⟩⟩
theorem s9_.more {w wr w':World} {g cap n:Nat} {S:Value} {T:List d_} {t:d_} (h:s9_ w T S wr) (f:wr.grownBy w' S.ownBlock) (r:S.ownBlock=some g\/wr.heap.size<=g) (e:g<w'.heap.size)
    (p:x_ 41 18 TrS w' (λb=>(w.heap.size<=b/\b<wr.heap.size)\/b=g) (T++[t]) (.slice (some ⟨g,0,none⟩) n cap)):s9_ w (T++[t]) (.slice (some ⟨g,0,none⟩) n cap) w':=by
 have a:∀b,S.ownBlock=some b->w.heap.size<=b/\b<wr.heap.size:=λb hb=>by
  obtain⟨_,_,_,s,_⟩:=h.own;exact s b hb
 refine⟨j_ h.hb (Turn.of_grown f) (λb hb=>(a b hb.symm).1),p.mono TrS.good λb hb=>?_⟩;rcases hb with hb | rfl
 ·exact⟨hb.1,Nat.lt_of_lt_of_le hb.2 f.size⟩
 ·refine⟨?_,e⟩;rcases r with h1 | h1
  ·exact (a _ h1).1
  ·exact Nat.le_trans h.hb.size h1
theorem Ih_ {F:Nat->Prop} {w:World} {c:Nat} {T:List d_} (h:ja_ F w c T) (hF:∀b,F b->b<w.heap.size) :
    Calls Tryz.prog 17 #[.pointer (some ⟨c,0,none⟩)] w (Fl_ T w):=by
 obtain⟨S,a,cs,h1,h2,_⟩:=h.cells;obtain⟨A,cp,rfl⟩:=Fk_ h2;have HR:=q_ (λ(W:World) (hb:Below w.heap.size w W)=>h2.keep (w':=W) λp hp=>hb.cell (hF _ hp));have HS:=q_ h.scal;have ao:=q_ h.fit;obtain⟨n,N⟩:=a_ T.length;have HN:=q_ (show n<=65536 from by rw[<-N.o];exact h.len);rw[N.o]at HR h1;have c0:w.cell? ⟨c,0,none⟩=some (.slice A n cp):=cell_of_heap h1 0;have aj:=q_ (show s9_ w [] (.slice none 0 0) w from ⟨Below.refl _ _,x_.nil ..⟩);clear h h1 h2 hF;go_enter Tryz.func17,Tryz.ntmps17
 go_wp2_with fail;go_loopw [3,11] (λs3 ac wx=>∃(k:Nat) (S:Value),k<=n/\ac = .int .i64 (k:Nat)/\S=s3/\Q_ (s9_ w (T.take k) S wx)) (λ_ s _=>n-(intOf s).toNat)
 case atStart=>exact⟨0,_,by omega,rfl,rfl,q_ aj.o⟩
 case round=>
  obtain⟨k,S,hk,rfl,rfl,O⟩:=hrel;by_cases aa:k<n
  ·obtain⟨t,M⟩:∃t,T[k]?=some t:=⟨_,List.getElem?_eq_getElem (by rw[N.o];exact aa)⟩;have HT:=q_ M;obtain⟨ad,a,rfl,_,f,hq⟩:=xr_ (HR.o wr O.o.hb) M;have a8:=q_ (λ(w:World) (F:Nat->Prop)=>(show TrS w F t (L_ t a) from ⟨HS.o t (List.mem_of_getElem? M),ao.o t (List.mem_of_getElem? M),a,f,rfl⟩));have J:=q_ (rf_ t a);have z:=Fd_ (t:=t) f;obtain⟨A0,q0,e0⟩:=f 0 (by omega);obtain⟨A1,q1,e1⟩:=f 1 (by omega);obtain⟨A2,q2,e2⟩:=f 2 (by omega);clear M f;obtain⟨r,e⟩:=bn_ t a;rw[e.o]at hq z a8 J;obtain⟨U,C⟩:=F_ (t.get 0) (a 0);obtain⟨X,D⟩:=F_ (t.get 1) (a 1);obtain⟨V,B⟩:=F_ (t.get 2) (a 2);rw[C.o,D.o,B.o]at J;have HQ:=q_ hq;have a9:=q_ z;have Z1:=q_ e.size;have Q1:=q_ (hq_.trans (congrArg some e.size.symm));have QP:=q_ (show (Tryz.prog.info? 99).map (·.size)=some r.size from by rw[Z1.o];kernel_rfl);have ag:=q_ (dq_.trans (congrArg some C.size.symm));have ah:=q_ (dq_.trans (congrArg some D.size.symm));have af:=q_ (dq_.trans (congrArg some B.size.symm));clear hq z e0 e1 e2;have a1:(0:Int)<=k:=by omega
   have a2:(k:Int)<n:=by omega
   have w1:IntKind.i64.wrap ((k:Int)+1)=(k:Int)+1:=IntWalk.i64_in _ (by have:=HN.o;omega);obtain⟨x,I⟩:=a_ wr.heap.size;have a4:=q_ (show (wr.alloc (.cells #[.int .i64 0,.bool false,.int .i64 0,.string ⟨#[]⟩,.string ⟨#[]⟩,.slice none 0 0,.int .i64 0,.bool false,.int .i64 0,.string ⟨#[]⟩,.string ⟨#[]⟩,.slice none 0 0,.int .i64 0,.bool false,.int .i64 0,.string ⟨#[]⟩,.string ⟨#[]⟩,.slice none 0 0] 99)).heap[x]?=some (.cells #[.int .i64 0,.bool false,.int .i64 0,.string ⟨#[]⟩,.string ⟨#[]⟩,.slice none 0 0,.int .i64 0,.bool false,.int .i64 0,.string ⟨#[]⟩,.string ⟨#[]⟩,.slice none 0 0,.int .i64 0,.bool false,.int .i64 0,.string ⟨#[]⟩,.string ⟨#[]⟩,.slice none 0 0] 99 (0,0)) from by rw[<-I.o];exact heap_alloc_new wr _)
   go_upto_region 5 with (first
    | ((with_reducible refine e_ (some 14) ?_);refine s1_ rfl 99 _ rfl rfl r _ HQ.o Tryz.underlying99 rfl QP.o ?_)
    | ((with_reducible refine y_ 5 ?_);refine m_ rfl 99 _ _ rfl x (#[.int .i64 0,.bool false,.int .i64 0,.string ⟨#[]⟩,.string ⟨#[]⟩,.slice none 0 0,.int .i64 0,.bool false,.int .i64 0,.string ⟨#[]⟩,.string ⟨#[]⟩,.slice none 0 0,.int .i64 0,.bool false,.int .i64 0,.string ⟨#[]⟩,.string ⟨#[]⟩,.slice none 0 0]) r 99 (by rw[<-I.o];rfl) rfl a4.o Z1.o QP.o a9.o ?_;intro w5 a7 Z))
   rw[I.o];have ae:=q_ (show Below wr.heap.size wr w5 from jb_ (by rw[I.o];exact Z));have L:=q_ a7;clear a7 Z HQ a4;have a3:=q_ (O.o.on ae.o);have ab:=q_ (λi (hi:i<U.size)=>(show w5.cell? ((⟨x,0,none⟩:Addr).add i)=U[i]? from by rw[Addr.add_mid,cell_of_row w5 x (0+i) r _ _ L.o,<-C.o,<-e.o];exact aq_ t a 0 (by omega) i (by rwa [C.size]at hi)));have ak:=q_ (λi (hi:i<X.size)=>(show w5.cell? ((⟨x,6,none⟩:Addr).add i)=X[i]? from by rw[Addr.add_mid,cell_of_row w5 x (6+i) r _ _ L.o,<-D.o,<-e.o];exact aq_ t a 1 (by omega) i (by rwa [D.size]at hi)));have ai:=q_ (λi (hi:i<V.size)=>(show w5.cell? ((⟨x,12,none⟩:Addr).add i)=V[i]? from by rw[Addr.add_mid,cell_of_row w5 x (12+i) r _ _ L.o,<-B.o,<-e.o];exact aq_ t a 2 (by omega) i (by rwa [B.size]at hi)))
   go_wp2_with (first
    | ((with_reducible refine e_ (some 17) ?_);refine ag_ (by rfl) 39 _ rfl rfl U _ ab.o Tryz.underlying39 rfl ag.o ?_)
    | ((with_reducible refine e_ (some 19) ?_);refine ag_ (by rfl) 39 _ rfl rfl X _ ak.o Tryz.underlying39 rfl ah.o ?_)
    | ((with_reducible refine e_ (some 21) ?_);refine ag_ (by rfl) 39 _ rfl rfl V _ ai.o Tryz.underlying39 rfl af.o ?_)
    | ((with_reducible refine e_ (some 22) ?_);refine N_ rfl 41 _ rfl #[(0,.agg U),(1,.agg X),(2,.agg V)] (by kernel_rfl) (.agg r) (J.o _) ?_)
    | ((with_reducible refine e_ (some 23) ?_);refine Ff_ rfl 22 1 _ rfl #[(0,.agg r)] (by kernel_rfl) (.slice (some ⟨w5.heap.size,0,none⟩) 1 1) _ (s8_ r Z1.o w5) ?_)
    | ((with_reducible refine e_ (some 24) ?_);refine wpList_plain rfl λK hK=>?_;refine Fh_ (.tmp 15) (.tmp 23) rfl rfl a3.o.own (show (T.take k).length=k from by rw[List.length_take,N.o];omega) rfl a8.o (by have:=HN.o;omega) (λb hb=>hb.2) (λg7 c7 w7 a6 a0 Y a5=>hK _ _ ?_);clear hK K))
   have am:=q_ (a3.o.more a0 Y a5 a6);clear a6 a0 Y a5;go_wp2_with fail;go_roundw
   case rel=>exact⟨k+1,_,by omega,by go_num,rfl,q_ (by rw[f_ HT.o];exact am.o)⟩
   case measure=>simp[intOf];omega
  ·have a2:¬(k:Int)<n:=by omega
   have HE:=q_ (show Fl_ T w (.returned S) wr from ⟨S,rfl,by have:=O.o.own;rwa [List.take_of_length_le (by rw[N.o];omega)]at this,O.o.hb⟩);go_wp2_with fail;go_ret;exact HE.o
theorem jc_ {a b:h_}:c0_ a b=true↔a=b:=by
 constructor
 ·intro h;by_cases e:a=b
  ·exact e
  ·rw[cb_ e]at h;cases h
 ·rintro rfl;exact nz_ _
noncomputable def rg_ (a b:d_):Bool:=c0_ (a.get 0) (b.get 0)&&(c0_ (a.get 1) (b.get 1)&&c0_ (a.get 2) (b.get 2))
theorem vl_ {a b:d_}:rg_ a b=true↔a=b:=by
 unfold rg_;rw[Bool.and_eq_true,Bool.and_eq_true,jc_,jc_,jc_];constructor
 ·rintro⟨h0,h1,e⟩;exact um_ (w:=av_ 0) (e7_ 0) h0 h1 e
 ·rintro rfl;exact⟨rfl,rfl,rfl⟩
theorem xs_ (a:d_):rg_ a a=true:=vl_.2 rfl
def Ii_ (t:d_):Prop:=∀n,Bk_ (t.get n)
theorem ta_ {t:d_} (h:ce_ t) (a:∀n,a9_ (t.get n)):Ii_ t:=λn=>⟨g6_ (h.get n),a n,by have:=(h.get n).2.1;omega⟩
structure fz_ (c:Array Value) (t:d_):Prop where
 key:Ii_ t
 ex:∃ss:Nat->Value,(∀i,i<3->∃A cap,ss i = .slice A 0 cap)/\c=L_ t ss
theorem TrS.cellT {w:World} {F:Nat->Prop} {t:d_} {c:Array Value} (h:TrS w F t c):fz_ c t:=by obtain⟨h1,a,f,b,e⟩:=h;exact⟨ta_ h1 a,f,b,e⟩
theorem fz_.size {c:Array Value} {t:d_} (h:fz_ c t):c.size=18:=by obtain⟨_,a,_,rfl⟩:=h;rfl
theorem Fm_ {a b:d_} {sa sb:Nat->Value} {F G:Nat->Prop} (D:∀n,n<3->af_ (a.get n).list<=999999999) (w:World) (C:∀g,F g->g<w.heap.size) (B:∀g,G g->g<w.heap.size)
    (h1:∀n,n<3->VRd w F (a.get n) (.agg (c_ (a.get n) (sa n)))) (h2:∀n,n<3->VRd w G (b.get n) (.agg (c_ (b.get n) (sb n)))) :
    Calls Tryz.prog 23 #[.agg (L_ a sa),.agg (L_ b sb)] w (z_ (rg_ a b) w):=by
 obtain⟨ca,O⟩:=bn_ a sa;obtain⟨cb,U⟩:=bn_ b sb;rw[O.o,U.o];obtain⟨z,Hz⟩:=a_ w.heap.size;obtain⟨w2,A⟩:=a_ ((w.alloc (.cells ca 41)).alloc (.cells cb 41));have a0:=q_ (show Below w.heap.size w w2 from by rw[<-A.o];exact D_ w _ _);have x:=q_ (show w2.heap[z]?=some (.cells ca 41 (0,0)) from by rw[<-A.o,<-Hz.o];exact heap_alloc2_old w _ _);have p:=q_ (show w2.heap[z+1]?=some (.cells cb 41 (0,0)) from by rw[<-A.o,<-Hz.o];exact heap_alloc2_new w _ _);have f:=q_ (show ∀W,Below w2.heap.size w2 W->Below w.heap.size w W from λW hb=>a0.o.trans (hb.mono a0.o.size));obtain⟨u0,N⟩:=F_ (a.get 0) (sa 0);obtain⟨v0,I⟩:=F_ (b.get 0) (sb 0);have ab:=q_ (dq_.trans (congrArg some N.size.symm));have ae:=q_ (dq_.trans (congrArg some I.size.symm));have a8:=q_ (λ(W:World) (hb:Below w2.heap.size w2 W) i (hi:i<u0.size)=>(show W.cell? ((⟨z,0,none⟩:Addr).add i)=u0[i]? from by rw[Addr.add_mid,cell_of_row W z (0+i) ca _ _ ((hb.block z (b_ x.o)).trans x.o),<-N.o,<-O.o];exact aq_ a sa 0 (by omega) i (by rwa [N.size]at hi)));have ad:=q_ (λ(W:World) (hb:Below w2.heap.size w2 W) i (hi:i<v0.size)=>(show W.cell? ((⟨z+1,0,none⟩:Addr).add i)=v0[i]? from by rw[Addr.add_mid,cell_of_row W (z+1) (0+i) cb _ _ ((hb.block (z+1) (b_ p.o)).trans p.o),<-I.o,<-U.o];exact aq_ b sb 0 (by omega) i (by rwa [I.size]at hi)));have Y:=λ(W:World) (hb:Below w.heap.size w W)=>mc_ (a.get 0) (b.get 0) (D 0 (by omega)) F G _ _ W (λg h=>Nat.lt_of_lt_of_le (C g h) hb.size) (λg h=>Nat.lt_of_lt_of_le (B g h) hb.size) ((h1 0 (by omega)).under hb C) ((h2 0 (by omega)).under hb B);rw[N.o,I.o]at Y;have a7:=q_ Y;clear Y;obtain⟨t0,a6⟩:=a_ (c0_ (a.get 0) (b.get 0));rw[a6.o]at a7;obtain⟨u1,V⟩:=F_ (a.get 1) (sa 1);obtain⟨v1,J⟩:=F_ (b.get 1) (sb 1);have ac:=q_ (dq_.trans (congrArg some V.size.symm));have ai:=q_ (dq_.trans (congrArg some J.size.symm));have ah:=q_ (λ(W:World) (hb:Below w2.heap.size w2 W) i (hi:i<u1.size)=>(show W.cell? ((⟨z,6,none⟩:Addr).add i)=u1[i]? from by rw[Addr.add_mid,cell_of_row W z (6+i) ca _ _ ((hb.block z (b_ x.o)).trans x.o),<-V.o,<-O.o];exact aq_ a sa 1 (by omega) i (by rwa [V.size]at hi)));have a9:=q_ (λ(W:World) (hb:Below w2.heap.size w2 W) i (hi:i<v1.size)=>(show W.cell? ((⟨z+1,6,none⟩:Addr).add i)=v1[i]? from by rw[Addr.add_mid,cell_of_row W (z+1) (6+i) cb _ _ ((hb.block (z+1) (b_ p.o)).trans p.o),<-J.o,<-U.o];exact aq_ b sb 1 (by omega) i (by rwa [J.size]at hi)));have X:=λ(W:World) (hb:Below w.heap.size w W)=>mc_ (a.get 1) (b.get 1) (D 1 (by omega)) F G _ _ W (λg h=>Nat.lt_of_lt_of_le (C g h) hb.size) (λg h=>Nat.lt_of_lt_of_le (B g h) hb.size) ((h1 1 (by omega)).under hb C) ((h2 1 (by omega)).under hb B);rw[V.o,J.o]at X;have a2:=q_ X;clear X;obtain⟨t1,a5⟩:=a_ (c0_ (a.get 1) (b.get 1));rw[a5.o]at a2;obtain⟨u2,L⟩:=F_ (a.get 2) (sa 2);obtain⟨v2,M⟩:=F_ (b.get 2) (sb 2);have aa:=q_ (dq_.trans (congrArg some L.size.symm));have aj:=q_ (dq_.trans (congrArg some M.size.symm));have ag:=q_ (λ(W:World) (hb:Below w2.heap.size w2 W) i (hi:i<u2.size)=>(show W.cell? ((⟨z,12,none⟩:Addr).add i)=u2[i]? from by rw[Addr.add_mid,cell_of_row W z (12+i) ca _ _ ((hb.block z (b_ x.o)).trans x.o),<-L.o,<-O.o];exact aq_ a sa 2 (by omega) i (by rwa [L.size]at hi)));have af:=q_ (λ(W:World) (hb:Below w2.heap.size w2 W) i (hi:i<v2.size)=>(show W.cell? ((⟨z+1,12,none⟩:Addr).add i)=v2[i]? from by rw[Addr.add_mid,cell_of_row W (z+1) (12+i) cb _ _ ((hb.block (z+1) (b_ p.o)).trans p.o),<-M.o,<-U.o];exact aq_ b sb 2 (by omega) i (by rwa [M.size]at hi)));have Z:=λ(W:World) (hb:Below w.heap.size w W)=>mc_ (a.get 2) (b.get 2) (D 2 (by omega)) F G _ _ W (λg h=>Nat.lt_of_lt_of_le (C g h) hb.size) (λg h=>Nat.lt_of_lt_of_le (B g h) hb.size) ((h1 2 (by omega)).under hb C) ((h2 2 (by omega)).under hb B);rw[L.o,M.o]at Z;have a1:=q_ Z;clear Z;obtain⟨t2,a3⟩:=a_ (c0_ (a.get 2) (b.get 2));rw[a3.o]at a1;unfold rg_;rw[a6.o,a5.o,a3.o];clear h1 h2 D C B;go_enter Tryz.func23,Tryz.ntmps23
 go_upto_region 1 with fail;rw[A.o,Hz.o];clear A
 go_wp2_with (first
  | ((with_reducible refine e_ (some 6) ?_);refine ag_ (by rfl) 39 _ rfl rfl u0 _ (a8.o w2 (Below.refl _ _)) Tryz.underlying39 rfl ab.o ?_)
  | ((with_reducible refine e_ (some 8) ?_);refine ag_ (by rfl) 39 _ rfl rfl v0 _ (ad.o w2 (Below.refl _ _)) Tryz.underlying39 rfl ae.o ?_))
 refine (a7.o _ (f.o _ (Below.refl _ _))).mono ?_;unfold z_;rintro e x0 ⟨rfl,hb⟩;have r:=q_ (show Below w2.heap.size w2 x0 from hb);clear hb
 cases t0 with
 | false=>
  go_wp2_with fail;go_ret;exact⟨rfl,f.o _ r.o⟩
 | true=>
  go_wp2_with (first
   | ((with_reducible refine e_ (some 12) ?_);refine ag_ (by rfl) 39 _ rfl rfl u1 _ (ah.o x0 r.o) Tryz.underlying39 rfl ac.o ?_)
   | ((with_reducible refine e_ (some 14) ?_);refine ag_ (by rfl) 39 _ rfl rfl v1 _ (a9.o x0 r.o) Tryz.underlying39 rfl ai.o ?_))
  refine (a2.o _ (f.o _ r.o)).mono ?_;unfold z_;rintro e x1 ⟨rfl,hb⟩;have s:=q_ (show Below w2.heap.size w2 x1 from r.o.trans (hb.mono r.o.size));clear hb
  cases t1 with
  | false=>
   go_wp2_with fail;go_ret;exact⟨rfl,f.o _ s.o⟩
  | true=>
   go_wp2_with (first
    | ((with_reducible refine e_ (some 19) ?_);refine ag_ (by rfl) 39 _ rfl rfl u2 _ (ag.o x1 s.o) Tryz.underlying39 rfl aa.o ?_)
    | ((with_reducible refine e_ (some 21) ?_);refine ag_ (by rfl) 39 _ rfl rfl v2 _ (af.o x1 s.o) Tryz.underlying39 rfl aj.o ?_))
   refine (a1.o _ (f.o _ s.o)).mono ?_;unfold z_;rintro e x2 ⟨rfl,hb⟩;have a4:=q_ (show Below w2.heap.size w2 x2 from s.o.trans (hb.mono s.o.size));clear hb
   cases t2 with
   | false=>
    go_wp2_with fail;go_ret;exact⟨rfl,f.o _ a4.o⟩
   | true=>
    go_wp2_with fail;go_ret;exact⟨rfl,f.o _ a4.o⟩
def e0_ (f:Nat->Bool) (n:Nat):List Value:=(List.range n).map λk=>.bool (f k)
theorem g7_ (f:Nat->Bool) {n k:Nat} (h:k<n):(e0_ f n)[k]?=some (.bool (f k)):=by unfold e0_;rw[List.getElem?_map,List.getElem?_range h];rfl
theorem xt_ (f:Nat->Bool) {n k:Nat} (b:Bool):(e0_ f n).set k (.bool b)=e0_ (λi=>if i=k then b else f i) n:=by
 refine List.ext_getElem? λi=>?_;by_cases hi:i<n
 ·rw[g7_ _ hi,List.getElem?_set];by_cases e:k=i
  ·subst e;rw[if_pos rfl,if_pos (by unfold e0_;simpa using hi),if_pos rfl]
  ·rw[if_neg e,g7_ _ hi,if_neg (λh=>e h.symm)]
 ·rw[List.getElem?_eq_none (by unfold e0_;simp;omega),List.getElem?_eq_none (by unfold e0_;simp;omega)]
theorem tb_ {f g:Nat->Bool} {n:Nat} (h:∀i,i<n->f i=g i):e0_ f n=e0_ g n:=by
 refine List.ext_getElem? λi=>?_;by_cases hi:i<n
 ·rw[g7_ _ hi,g7_ _ hi,h i hi]
 ·rw[List.getElem?_eq_none (by unfold e0_;simp;omega),List.getElem?_eq_none (by unfold e0_;simp;omega)]
structure OnM (w:World) (g n:Nat) (f:Nat->Bool) (wx:World):Prop where
 hb:Below w.heap.size w wx
 g0:w.heap.size<=g
 row:wx.ownsRow 0 4 1 (.slice (some ⟨g,0,none⟩) n n) n (e0_ f n)
theorem OnM.on {w wx w':World} {g n:Nat} {f:Nat->Bool} (h:OnM w g n f wx) (hb:Below wx.heap.size wx w'):OnM w g n f w':=
 ⟨h.hb.trans (hb.mono h.hb.size),h.g0,(Turn.of_below hb).owns h.row (λb a e=>by have e:wx.heap.size<=b:=e;obtain⟨r,p⟩:=di_ h.row a;have:=b_ p;omega)⟩
theorem OnM.drew {w wx:World} {g n:Nat} {f:Nat->Bool} (h:OnM w g n f wx):OnM w g n f wx.drew:=h.on (Below.refl _ _).drew
theorem OnM.at_ {w wx:World} {g n k:Nat} {f:Nat->Bool} (h:OnM w g n f wx) (a:k<n):wx.cell? ⟨g,k,none⟩=some (.bool (f k)):=by rw[h.row.cellAt k (by omega)];exact g7_ f a
theorem OnM.set {w wx:World} {g n k:Nat} {f e:Nat->Bool} (h:OnM w g n f wx) (b:Bool) (r:∀i,i<n->e i=if i=k then b else f i):OnM w g n e (wx.setCell ⟨g,k,none⟩ (.bool b)):=by obtain⟨h1,p⟩:=h.row.stored k (.bool b);rw[xt_]at h1;refine⟨j_ h.hb (Turn.of_grown p) (λq a=>?_),h.g0,by rw[tb_ r];exact h1⟩;injection a with a;rw[a];exact h.g0
structure AtM (w:World) (c8:Array Value) (m:List Nat) (S:Value) (wx:World):Prop where
 hb:Below w.heap.size w wx
 box:wx.heap[w.heap.size+1]?=some (.cells c8 99 (0,0))
 row:eq_ w.heap.size S m wx
theorem AtM.on {w wx w':World} {a:Array Value} {m:List Nat} {S:Value} (h:AtM w a m S wx) (hb:Below wx.heap.size wx w'):AtM w a m S w':=
 ⟨h.hb.trans (hb.mono h.hb.size),(hb.block _ (b_ h.box)).trans h.box,h.row.turn (Turn.of_below hb) λb f e=>by have:=(h.row.blk b f).2;have e:wx.heap.size<=b:=e;omega⟩
theorem AtM.more {w wr w':World} {p:Array Value} {m:List Nat} {S:Value} {g cap k n:Nat} (h:AtM w p m S wr) (r:m.length=n) (z:wr.grownBy w' S.ownBlock) (x:S.ownBlock=some g\/wr.heap.size<=g) (f:g<w'.heap.size)
    (s:w'.ownsRow 0 3 1 (.slice (some ⟨g,0,none⟩) (n+1) cap) (n+1) (ixC (m++[k]))):AtM w p (m++[k]) (.slice (some ⟨g,0,none⟩) (n+1) cap) w':=by
 have a:=Turn.of_grown z;refine⟨j_ h.hb a (λb hb=>by have:=(h.row.blk b hb.symm).1;omega),a.heap h.box (λe=>dj_ h.row.row h.box (by decide) e.symm),⟨?_,λb hb=>?_⟩⟩
 ·rw[List.length_append,r];exact s
 ·have hb:some g=some b:=hb;injection hb with hb;subst hb;refine⟨?_,f⟩;rcases x with h1 | h1
  ·exact (h.row.blk _ h1).1
  ·have:=b_ h.box;omega
structure Bl_ (w:World) (m:List Nat) (S6:Value) (L:List d_) (S:Value) (wx:World):Prop where
 all:s9_ w L S wx
 row:eq_ w.heap.size S6 m wx
theorem Bl_.on {w wx w':World} {m:List Nat} {a S:Value} {L:List d_} (h:Bl_ w m a L S wx) (hb:Below wx.heap.size wx w'):Bl_ w m a L S w':=
 ⟨h.all.on hb,h.row.turn (Turn.of_below hb) λb f e=>by have:=(h.row.blk b f).2;have e:wx.heap.size<=b:=e;omega⟩
theorem Bl_.more {w wr w':World} {m:List Nat} {p S:Value} {L:List d_} {g cap n:Nat} {t:d_} (h:Bl_ w m p L S wr) (r:wr.grownBy w' S.ownBlock) (x:S.ownBlock=some g\/wr.heap.size<=g) (f:g<w'.heap.size)
    (s:x_ 41 18 TrS w' (λb=>(w.heap.size<=b/\b<wr.heap.size)\/b=g) (L++[t]) (.slice (some ⟨g,0,none⟩) n cap)):Bl_ w m p (L++[t]) (.slice (some ⟨g,0,none⟩) n cap) w':=by
 refine⟨h.all.more r x f s,h.row.turn (Turn.of_grown r) λb hb e=>?_⟩;obtain⟨cs,a,_⟩:=h.all.own;exact i1_ a h.row.row (by decide) b hb e.symm
structure RfM (w:World) (z:Nat) (c1 c2:Array Value) (wx:World):Prop where
 hb:Below w.heap.size w wx
 hp:wx.heap[z+2]?=some (.cells c2 39 (0,0))
 ht:wx.heap[z+3]?=some (.cells c1 39 (0,0))
theorem RfM.on {w wx w':World} {z:Nat} {a b:Array Value} (h:RfM w z a b wx) (hb:Below wx.heap.size wx w'):RfM w z a b w':=
 ⟨h.hb.trans (hb.mono h.hb.size),(hb.block _ (b_ h.hp)).trans h.hp,(hb.block _ (b_ h.ht)).trans h.ht⟩
theorem RfM.drew {w wx:World} {z:Nat} {a b:Array Value} (h:RfM w z a b wx):RfM w z a b wx.drew:=h.on (Below.refl _ _).drew
theorem Fn_ (ad:Addr) (n cap a:Nat) (e:a<n) (w:World):(Instr.indexAt 22 (.slice (some ad) n cap) (.int .i64 (a:Nat))).run Tryz.prog w = .ok (.pointer (some (ad.add (a*18)))) w:=by
 have b:(0:Int)<=a:=by omega
 have f:(a:Int)<n:=by omega
 go_simp
theorem TrS.cells {w:World} {F:Nat->Prop} {L:List d_} {A:Option Addr} {n:Nat} (h:SRd 18 TrS w F L A n) {k:Nat} {t:d_} (a:L[k]?=some t) :
    ∃ad c,A=some ad/\F ad.block/\fz_ c t/\∀j,j<c.size->w.cell? ((ad.add (k*18)).add j)=c[j]?:=by
 obtain⟨ad,c,e,p,s,b,f⟩:=h.at_ a;exact⟨ad,c,e,p,f.cellT,λj r=>by rw[add_of_add];exact b j (by omega)⟩
section
variable {K T:List d_} {i k:Nat} {t u:d_}
end
section
variable {P:Program} {T E:TypeId} {sz:Nat}
end
section
variable {α : Type} {E:TypeId} {sz:Nat} {R:α -> Array Value->Prop} {w wx w':World} {S v v':Value} {l nx:List α}
theorem cg_.cell {E:TypeId} (f:fx_ sz R) {A:Option Addr} {n cap:Nat} (h:cg_ E sz R w l (.slice A n cap)) (z:l.length=n) {k:Nat} {x:α} (a:l[k]?=some x) :
    ∃ad c,A=some ad/\ad.block<w.heap.size/\R x c/\∀j,j<c.size->w.cell? ((ad.add (k*sz)).add j)=c[j]?:=by
 obtain⟨ad,c,e,s,C,p,r⟩:=(h.rd f (F:=λb=>b<w.heap.size) (λb hb=>h.lt hb) z).at_ a;exact⟨ad,c,e,s,r,λj B=>by rw[add_of_add];exact p j (by omega)⟩
structure LdP (E:TypeId) (sz:Nat) (R:α -> Array Value->Prop) (w:World) (l:List α) (S:Value) (wx:World):Prop where
 hb:Below w.heap.size w wx
 own:cg_ E sz R wx l S
 ow:∀b,S.ownBlock=some b->w.heap.size<=b
theorem LdP.on (h:LdP E sz R w l S wx) (hb:Below wx.heap.size wx w'):LdP E sz R w l S w':=⟨h.hb.trans (hb.mono h.hb.size),h.own.on hb,h.ow⟩
theorem LdP.drew (h:LdP E sz R w l S wx):LdP E sz R w l S wx.drew:=h.on (Below.refl _ _).drew
theorem LdP.start (w:World):LdP E sz R w [] (.slice none 0 0) w:=⟨Below.refl _ _,cg_.nil ..,λb h=>by cases h⟩
structure InP (E:TypeId) (sz:Nat) (R:α -> Array Value->Prop) (w:World) (l:List α) (S:Value) (nx:List α) (v:Value) (wx:World):Prop where
 l:LdP E sz R w l S wx
 n:LdP E sz R w nx v wx
 ne:∀b,v.ownBlock=some b->S.ownBlock≠some b
theorem InP.start (h:LdP E sz R w l S wx):InP E sz R w l S [] (.slice none 0 0) wx:=⟨h,⟨h.hb,cg_.nil ..,λb h=>by cases h⟩,λb h=>by cases h⟩
theorem InP.on (h:InP E sz R w l S nx v wx) (hb:Below wx.heap.size wx w'):InP E sz R w l S nx v w':=⟨h.l.on hb,h.n.on hb,h.ne⟩
theorem InP.app {r:List α} (h:InP E sz R w l S nx v wx) (s:cg_ E sz R w' (nx++r) v') (x:wx.grownBy w' v.ownBlock) (p:v'.ownBlock=v.ownBlock\/v'.ownBlock=some wx.heap.size):InP E sz R w l S (nx++r) v' w':=by
 have f:=Turn.of_grown x;have hb:Below w.heap.size w w':=mv_ h.l.hb f (λb hb=>h.n.ow b hb.symm);refine⟨⟨hb,h.l.own.turn f (λb h1 a=>h.ne b a.symm h1),h.l.ow⟩,⟨hb,s,λb hb=>?_⟩,λb hb=>?_⟩
 ·rcases p with e | e
  ·rw[e]at hb;exact h.n.ow b hb
  ·rw[e]at hb;injection hb with hb;rw[<-hb];exact h.l.hb.size
 ·rcases p with e | e
  ·rw[e]at hb;exact h.ne b hb
  ·rw[e]at hb;injection hb with hb;intro a;have:=h.l.own.lt a;omega
theorem InP.done (h:InP E sz R w l S nx v wx):LdP E sz R w nx v wx:=h.n
end
section
variable {α : Type} {o:α -> α -> Int} {l:List α} {y:α} {k:Nat}
end
theorem gh_:fx_ 18 (λ(t:d_) c=>fz_ c t):=⟨λh=>h.size,fun {x c} h u a=>by
 obtain⟨_,r,b,rfl⟩:=h;exact ct_ x r (λq p=>by obtain⟨A,f,e⟩:=b q p;exact⟨A,0,f,e⟩) u a⟩
theorem SRd.imp {α : Type} {R R':bi_ α} {sz:Nat} {w:World} {F F':Nat->Prop} {l:List α} {A:Option Addr} {n:Nat} (h:SRd sz R w F l A n) (B:∀b,F b->F' b) (z:∀x c,R w F x c->R' w F' x c):SRd sz R' w F' l A n:=
 ⟨h.1,λa=>by
  obtain⟨ad,e,f,s⟩:=h.2 a;refine⟨ad,e,B _ f,λi x p=>?_⟩;obtain⟨c,h1,r,C⟩:=s i x p;exact⟨c,h1,r,z x c C⟩⟩
theorem fz_.trR {c:Array Value} {t:d_} (h:fz_ c t) (w:World) (F:Nat->Prop):TrR w F t c:=by obtain⟨p,f,a,rfl⟩:=h;refine⟨f,rfl,λn b=>?_⟩;obtain⟨A,cap,e⟩:=a n b;rw[e];exact Ig_ w F (p n).list A cap
end
section
open Go
end
section
open Go Go.RowKit Go.Maps
noncomputable def hr_ (L M:List d_):Bool:=by classical exact decide (L=M)
theorem j9_ {L M:List d_}:hr_ L M=true↔L=M:=by unfold hr_;simp
theorem rh_ {L M:List d_} (h:L≠M):hr_ L M=false:=by
 cases e:hr_ L M with
 | false=>rfl
 | true=>exact absurd (j9_.1 e) h
theorem Bm_ {L M:List d_} {n:Nat} (h1:L.length=n) (b:M.length=n) (h:∀m,m<n->L[m]?=M[m]?):L=M:=List.ext_getElem? λm=>by
 by_cases a:m<n
 ·exact h m a
 ·rw[List.getElem?_eq_none (by omega),List.getElem?_eq_none (by omega)]
theorem Fo_ {F G:Nat->Prop} {w:World} {L M:List d_} {A B:Option Addr} {n m ca cb:Nat} (h1:SRd 18 TrR w F L A n) (I:SRd 18 TrR w G M B m) (hF:∀b,F b->b<w.heap.size) (hG:∀b,G b->b<w.heap.size) (hn:n<=1000000000)
    (a3:∀t,t∈L->∀i,af_ (t.get i).list<=999999999):Calls Tryz.prog 14 #[.slice A n ca,.slice B m cb] w (z_ (hr_ L M) w):=by
 have H1:=q_ h1;have H2:=q_ I;have HF:=q_ hF;have HG:=q_ hG;have ac:=q_ a3;have L1:=q_ h1.1;have L2:=q_ I.1;have HN:=q_ hn;clear h1 I hF hG a3;by_cases a6:n=m
 ·subst a6;obtain⟨r,Hr⟩:=a_ (hr_ L M);rw[Hr.o];go_enter Tryz.func14,Tryz.ntmps14
  go_wp2_with fail;go_loopw [5] (λs5 wx=>∃i:Nat,i<=n/\s5 = .int .i64 (i:Nat)/\Q_ (Below w.heap.size w wx/\∀m,m<i->L[m]?=M[m]?)) (λs5 _=>n-(intOf s5).toNat)
  case atStart=>exact⟨0,by omega,rfl,q_ ⟨Below.refl _ _,λm hm=>absurd hm (by omega)⟩⟩
  case round=>
   obtain⟨i,hi,rfl,X⟩:=hrel;by_cases J:i<n
   ·have a1:(0:Int)<=i:=by omega
    have a2:(i:Int)<n:=by omega
    have w1:IntKind.i64.wrap ((i:Int)+1)=(i:Int)+1:=IntWalk.i64_in _ (by omega);obtain⟨t,Z⟩:∃t,L[i]?=some t:=⟨_,List.getElem?_eq_getElem (by rw[<-L1.o];exact J)⟩;obtain⟨u,hu⟩:∃u,M[i]?=some u:=⟨_,List.getElem?_eq_getElem (by rw[<-L2.o];exact J)⟩;obtain⟨z,s1,rfl,a4,O,aa⟩:=TrR.cells H1.o Z;obtain⟨C,s2,rfl,a8,V,a9⟩:=TrR.cells H2.o hu;have HT:=q_ Z;have HU:=q_ hu;have s:=λ(W:World) (hb:Below w.heap.size w W)=>Fm_ (a:=t) (b:=u) (sa:=s1) (sb:=s2) (F:=F) (G:=G) (λq _=>ac.o t (List.mem_of_getElem? Z) q) W (λg h=>Nat.lt_of_lt_of_le (HF.o g h) hb.size) (λg h=>Nat.lt_of_lt_of_le (HG.o g h) hb.size) (λq Y=>(aa q Y).under hb HF.o) (λq Y=>(a9 q Y).under hb HG.o);unfold z_ at s;obtain⟨ct,a0⟩:=bn_ t s1;obtain⟨cu,a7⟩:=bn_ u s2;rw[a0.o]at O s;rw[a7.o]at V s;obtain⟨b,Hb⟩:=a_ (rg_ t u);rw[Hb.o]at s;have ab:=q_ s;have ad:=q_ (λ(W:World) (hb:Below w.heap.size w W) (j:Nat) (hj:j<ct.size)=>(hb.cell (p:=(z.add (i*18)).add j) (by rw[bu_,bu_];exact HF.o _ a4)).trans (O j hj));have ae:=q_ (λ(W:World) (hb:Below w.heap.size w W) (j:Nat) (hj:j<cu.size)=>(hb.cell (p:=(C.add (i*18)).add j) (by rw[bu_,bu_];exact HG.o _ a8)).trans (V j hj));have I1:=q_ (hq_.trans (congrArg some a0.size.symm));have I2:=q_ (hq_.trans (congrArg some a7.size.symm));have a5:=q_ J;clear Z hu a4 a8 O V aa a9 s;go_upto_region 6 with fail;refine wp_region_held_drew (S:=λW'=>Below w.heap.size w W') (by kernel_rfl) X.o.1.drew λf=>?_;refine W_.o ?_;refine X_ 0 17 (.slice (some z) n ca) f λf=>?_;(try simp only[Act.put,aT,aZ,aS]);refine X_ 1 18 (.int .i64 (i:Nat)) f λf=>?_;(try simp only[Act.put,aT,aZ,aS]);refine tkW 2 19 (.pointer (some (z.add (i*18)))) f (λw D=>?_) λf=>?_
    ·exact o_ (Fn_ z n ca i a5.o w)
    (try simp only[Act.put,aT,aZ,aS]);refine tkW 3 20 (.agg ct) f (λw D=>?_) λf=>?_
    ·have p:=do_ w (z.add (i*18)) 41 ct _ (ad.o _ D) Tryz.underlying41 rfl I1.o;exact o_ (by simp only[Instr.loadAt,Instr.sureAddr,Sem.run_bind];exact p)
    (try simp only[Act.put,aT,aZ,aS]);refine X_ 4 21 (.slice (some C) n cb) f λf=>?_;(try simp only[Act.put,aT,aZ,aS]);refine X_ 5 22 (.int .i64 (i:Nat)) f λf=>?_;(try simp only[Act.put,aT,aZ,aS]);refine tkW 6 23 (.pointer (some (C.add (i*18)))) f (λw D=>?_) λf=>?_
    ·exact o_ (Fn_ C n cb i a5.o w)
    (try simp only[Act.put,aT,aZ,aS]);refine tkW 7 24 (.agg cu) f (λw D=>?_) λf=>?_
    ·have p:=do_ w (C.add (i*18)) 41 cu _ (ae.o _ D) Tryz.underlying41 rfl I2.o;exact o_ (by simp only[Instr.loadAt,Instr.sureAddr,Sem.run_bind];exact p)
    (try simp only[Act.put,aT,aZ,aS]);refine tkC 8 λK hK=>?_;change Oper.wp _ ⟨some 25,_,_,_,_,_⟩ _ _ _ _;go_simp;refine (ab.o _ f).mono ?_;rintro e x ⟨rfl,hb⟩;have HX:=q_ (f.trans (hb.mono f.size));clear hb;dsimp only;refine hK.out _ _ HX.o λf=>?_;clear hK K;(try simp only[Act.put,aT,aZ,aS])
    cases b with
    | false=>
     refine X_ 9 26 (.bool true) f λf=>?_;(try simp only[Act.put,aT,aZ,aS]);refine⟨wpAnyH_done (by kernel_rfl) ?_ _⟩
     have N:=q_ (show hr_ L M=false from rh_ λe=>by
      have h1:=HT.o;rw[e,HU.o]at h1;injection h1 with h1;have I:=Hb.o;rw[h1,xs_]at I
      cases I)
     have U:=q_ f;clear f;go_wp2_with fail;go_ret;exact⟨congrArg (λb=>Ending.returned (Value.bool b)) (N.o.symm.trans Hr.o),U.o⟩
    | true=>
     refine X_ 9 26 (.bool false) f λf=>?_;(try simp only[Act.put,aT,aZ,aS]);refine⟨wpAnyH_done (by kernel_rfl) ?_ _⟩;have U:=q_ f;clear f;go_wp2_with fail;go_roundw
     case rel=>exact⟨i+1,by omega,by go_num,q_ ⟨U.o,λm hm=>by
      by_cases e:m=i
      ·subst e;rw[HT.o,HU.o,vl_.1 Hb.o]
      ·exact X.o.2 m (by omega)⟩⟩
     case measure=>simp[intOf];omega
   ·have a2:¬(i:Int)<n:=by omega
    have N:=q_ (show hr_ L M=true from j9_.2 (Bm_ (n:=n) L1.o.symm L2.o.symm λq Y=>X.o.2 q (by omega)));have U:=q_ X.o.1;go_wp2_with fail;go_ret;exact⟨congrArg (λb=>Ending.returned (Value.bool b)) (N.o.symm.trans Hr.o),U.o⟩
 ·have N:=q_ (show hr_ L M=false from rh_ λe=>a6 (by rw[L1.o,L2.o,e]));have af:¬(n:Int)=m:=by omega
  rw[N.o];go_enter Tryz.func14,Tryz.ntmps14
  go_wp2_with fail;go_ret;exact⟨rfl,Below.refl _ _⟩
theorem Fp_ {t:d_} (h:ce_ t) (a:∀n,a9_ (t.get n)):Ii_ t:=λn=>⟨g6_ (h.get n),a n,by have:=(h.get n).2.1;omega⟩
abbrev CTx:d_->Array Value->Prop:=λt c=>fz_ c t
theorem Kq_ {w:World} {F:Nat->Prop} {T:List d_} {v:Value} (h:x_ 41 18 TrS w F T v):∃A cap,v = .slice A T.length cap/\SRd 18 (ofP CTx) w F T A T.length:=by obtain⟨A,cap,e,_,f⟩:=h.rd TrS.good;exact⟨A,cap,e,f.imp (λ_ h=>h) λt c ⟨h1,b,r,p,a⟩=>⟨Fp_ h1 b,r,p,a⟩⟩
theorem Fq_ {α : Type} (o:α -> α -> Int) (l:List α) (v:α):(qd_ o l v).length<=l.length+1:=by
 unfold qd_;simp only;split
 ·omega
 ·rw[List.length_append,List.length_cons,List.length_take,List.length_drop];omega
theorem g8_ {α : Type} (o:α -> α -> Int) (l:List α):(bb_ o l).length<=l.length:=by
 unfold bb_;suffices h:∀(l a:List α),(l.foldl (qd_ o) a).length<=a.length+l.length by have:=h l [];simpa using this
 intro l;induction l with
 | nil=>intro a;simp
 | cons x r b=>
  intro a;rw[List.foldl_cons];have h1:=b (qd_ o a x);have e:=Fq_ o a x;rw[List.length_cons];omega
def WkS (K:List d_) (w:Way) (c:g4_) (wt:d_) (G:List d_) (a:Bool) (st k:Nat):Prop:=
 (K.length=0/\c=⟨[],false⟩/\a=true/\G=[]/\st=0/\k=500)\/(∃m d,a=true/\WkA K w m d c wt G/\st<=Ls_ m d/\k+Ls_ m d=500)\/(∃m d,a=false/\WkB K w m d c wt G/\st<=Lt_ m d/\k+Lt_ m d=500)
section
variable {T K:List d_} {w:Way} {m d st k:Nat} {c:g4_} {wt:d_} {G:List d_}
theorem WkB.keyV (e:h4_ T K w) (f:∀t,t∈T->∀n,a9_ (t.get n)) (h:WkB K w m d c wt G):Bk_ (wt.get d):=by have p:=h.len;obtain⟨s,b⟩:∃s,K[m]?=some s:=⟨_,List.getElem?_eq_getElem p.2.2⟩;rw[h.2.1 s b d (by omega)];have a:=(e.mem s).1 (List.mem_of_getElem? b);exact ta_ (e.scal s a) (f s a) _
theorem WkS.start (wt:d_) (K:List d_) (w:Way):WkS K w ⟨[],false⟩ wt [] true 0 500:=by
 rcases Nat.eq_zero_or_pos K.length with h | h
 ·exact .inl ⟨h,rfl,rfl,rfl,rfl,rfl⟩
 ·exact .inr (.inl ⟨0,0,rfl,WkA.start h wt,Nat.zero_le _,rfl⟩)
end
structure WkM (F:Nat->Prop) (w0:World) (q zw j:Nat) (T:List d_) (c:g4_) (wt:d_) (sw:Nat->Value) (G:List d_) (S:Value) (wx:World):Prop where
 b:Below w0.heap.size w0 wx
 cur:is_ F wx q j T c
 way:wx.heap[zw]?=some (.cells (L_ wt sw) 98 (0,0))
 own:x_ 41 18 TrS wx (λb=>zw<b/\b<wx.heap.size) G S
 sl:∀i,i<3->∃A cap,sw i = .slice A 0 cap
 q0:w0.heap.size<=q
 qz:q<zw
 fz:∀b,F b->b<w0.heap.size
section
variable {F:Nat->Prop} {w0 wx w':World} {q zw j:Nat} {T:List d_} {c c':g4_} {wt:d_} {sw:Nat->Value} {G:List d_} {S:Value}
theorem WkM.on (h:WkM F w0 q zw j T c wt sw G S wx) (hb:Below wx.heap.size wx w'):WkM F w0 q zw j T c wt sw G S w':=
 ⟨h.b.trans (hb.mono h.b.size),h.cur.on hb,(hb.block zw (b_ h.way)).trans h.way,(h.own.turn TrS.good (Turn.of_below hb) (λb hb=>hb.2) (λb hb=>λe=>by have e:wx.heap.size<=b:=e;have:=hb.2;omega)).mono TrS.good λb h1=>⟨h1.1,Nat.lt_of_lt_of_le h1.2 hb.size⟩,h.sl,h.q0,h.qz,h.fz⟩
theorem WkM.drew (h:WkM F w0 q zw j T c wt sw G S wx):WkM F w0 q zw j T c wt sw G S wx.drew:=h.on (Below.refl _ _).drew
theorem WkM.more {g cap n:Nat} {t:d_} (h:WkM F w0 q zw j T c wt sw G S wx) (r:wx.grownBy w' S.ownBlock) (x:S.ownBlock=some g\/wx.heap.size<=g) (p:g<w'.heap.size)
    (s:x_ 41 18 TrS w' (λb=>(zw<b/\b<wx.heap.size)\/b=g) (G++[t]) (.slice (some ⟨g,0,none⟩) n cap)):WkM F w0 q zw j T c wt sw (G++[t]) (.slice (some ⟨g,0,none⟩) n cap) w':=by
 have a:∀b,S.ownBlock=some b->zw<b/\b<wx.heap.size:=λb hb=>by
  obtain⟨_,_,_,z,_⟩:=h.own;exact z b hb
 have f:=Turn.of_grown r;refine⟨j_ h.b f (λb hb=>by have:=a b hb.symm;have:=h.q0;have:=h.qz;omega),h.cur.turn f (λb hb e=>by have:=a b e.symm;have:=h.fz b hb;have:=h.q0;have:=h.qz;omega) (λe=>by have:=a q e.symm;have:=h.qz;omega),f.heap h.way (λe=>by have:=a zw e.symm;omega),s.mono TrS.good λb hb=>?_,h.sl,h.q0,h.qz,h.fz⟩;rcases hb with hb | rfl
 ·exact⟨hb.1,Nat.lt_of_lt_of_le hb.2 r.size⟩
 ·refine⟨?_,p⟩;rcases x with h1 | h1
  ·exact (a _ h1).1
  ·have:=b_ h.way;omega
end
structure CpM (w:World) (L:List d_) (S:Value) (wx:World):Prop where
 hb:Below w.heap.size w wx
 own:x_ 41 18 TrR wx (λb=>w.heap.size<=b/\b<wx.heap.size) L S
theorem CpM.on {w wx w':World} {L:List d_} {S:Value} (h:CpM w L S wx) (hb:Below wx.heap.size wx w'):CpM w L S w':=
 ⟨h.hb.trans (hb.mono h.hb.size),(h.own.turn TrR.good (Turn.of_below hb) (λb hb=>hb.2) (λb hb=>λe=>by have e:wx.heap.size<=b:=e;have:=hb.2;omega)).mono TrR.good λb h1=>⟨h1.1,Nat.lt_of_lt_of_le h1.2 hb.size⟩⟩
theorem CpM.drew {w wx:World} {L:List d_} {S:Value} (h:CpM w L S wx):CpM w L S wx.drew:=h.on (Below.refl _ _).drew
theorem CpM.lt {w wx:World} {L:List d_} {S:Value} (h:CpM w L S wx) {b:Nat} (hb:S.ownBlock=some b):w.heap.size<=b/\b<wx.heap.size:=by obtain⟨_,_,_,a,_⟩:=h.own;exact a b hb
theorem CpM.more {w wr w':World} {g cap n:Nat} {S:Value} {L:List d_} {t:d_} {G:Nat->Prop} (h:CpM w L S wr) (a:wr.grownBy w' S.ownBlock) (r:S.ownBlock=some g\/wr.heap.size<=g) (e:g<w'.heap.size) (f:∀b,G b->w.heap.size<=b/\b<wr.heap.size)
    (p:x_ 41 18 TrR w' (λb=>(w.heap.size<=b/\b<wr.heap.size)\/G b\/b=g) (L++[t]) (.slice (some ⟨g,0,none⟩) n cap)):CpM w (L++[t]) (.slice (some ⟨g,0,none⟩) n cap) w':=by
 refine⟨j_ h.hb (Turn.of_grown a) (λb hb=>(h.lt hb.symm).1),p.mono TrR.good λb hb=>?_⟩;rcases hb with hb | hb | rfl
 ·exact⟨hb.1,Nat.lt_of_lt_of_le hb.2 a.size⟩
 ·exact⟨(f b hb).1,Nat.lt_of_lt_of_le (f b hb).2 a.size⟩
 ·refine⟨?_,e⟩;rcases r with h1 | h1
  ·exact (h.lt h1).1
  ·exact Nat.le_trans h.hb.size h1
theorem qi_ {w:World} {E sz g n cap k:Nat} {cs:Nat->Array Value} {c:Array Value} (h:w.ownsRow 0 E sz (.slice (some ⟨g,0,none⟩) n cap) n (I_ cs n)) (N:∀i,i<n->(cs i).size=sz) (hk:k<n) (O:c.size=sz) :
    (w.setCells g (k*sz) c.toList).ownsRow 0 E sz (.slice (some ⟨g,0,none⟩) n cap) n (I_ (λi=>if i=k then c else cs i) n):=by
 have s:∀i,i<n->((λi=>if i=k then c else cs i) i).size=sz:=λi hi=>by
  dsimp only;split
  ·exact O
  ·exact N i hi
 rcases h.2 with⟨h0,_⟩ | ⟨g',X,C,h0,hb,Y,D,U,B,A⟩
 ·simp at h0
 ·simp only[Value.slice.injEq,Option.some.injEq,Addr.mk.injEq,and_true,true_and]at h0;obtain⟨rfl,rfl⟩:=h0;obtain⟨J,h1,Z,W⟩:=hn_ c.toList (k*sz) Y;refine⟨by rw[al_ s],.inr ⟨g,cap,J,rfl,hb,h1,D,U,by rw[Z];exact B,?_⟩⟩;have V:n*sz<=C.size:=Nat.le_trans (Nat.mul_le_mul_right sz D) (by rw[B];exact Nat.le_refl _);refine List.ext_getElem? λj=>?_;by_cases L:j<n*sz
  ·rcases Nat.eq_zero_or_pos sz with z | z
   ·subst z;omega
   ·have hi:j / sz<n:=(Nat.div_lt_iff_lt_mul z).2 L;have M:j % sz<sz:=Nat.mod_lt _ z;have e:j=(j / sz)*sz+j % sz:=by rw[Nat.mul_comm];exact (Nat.div_add_mod j sz).symm
    have p:(C.toList.take (n*sz))[j]?=(I_ cs n)[j]?:=by rw[A]
    rw[List.getElem?_take_of_lt L,Array.getElem?_toList]at p;rw[List.getElem?_take_of_lt L,Array.getElem?_toList,W j,Array.length_toList,O];obtain⟨a,I⟩:∃a,a=j / sz:=⟨_,rfl⟩;obtain⟨b,r⟩:∃b,b=j % sz:=⟨_,rfl⟩;rw[<-I,<-r]at e;rw[<-I]at hi;rw[<-r]at M;clear I r;subst e;rw[az_ s hi M];by_cases x:a=k
    ·subst x;rw[if_pos ⟨by omega,by omega,by omega⟩,if_pos rfl,Nat.add_sub_cancel_left,Array.getElem?_toList]
    ·rw[if_neg x,if_neg,p,az_ N hi M];rintro⟨q1,q2,_⟩;rcases Nat.lt_or_gt_of_ne x with f | f
     ·have:=Nat.mul_le_mul_right sz (show a+1<=k from f);rw[Nat.succ_mul]at this;omega
     ·have:=Nat.mul_le_mul_right sz (show k+1<=a from f);rw[Nat.succ_mul]at this;omega
  ·rw[List.getElem?_eq_none (by rw[List.length_take,Array.length_toList];omega),List.getElem?_eq_none (by rw[al_ s];omega)]
section
variable {α : Type} {E:TypeId} {sz:Nat} {R:α -> Array Value->Prop} {w w':World} {l:List α} {g n cap:Nat}
theorem it_ {c:Array Value} (h:∀u∈c.toList,u.oneCell'=true):c.all (·.oneCell')=true:=by rw[<-Array.toArray_toList (xs:=c)];exact all_oneCell_toArray h
theorem cg_.set (p:fx_ sz R) (h:cg_ E sz R w l (.slice (some ⟨g,0,none⟩) n cap)) (A:l.length=n) {k:Nat} (s:k<n) {x:α} {c:Array Value} (f:R x c) :
    cg_ E sz R (w.setCells g (k*sz) c.toList) (l.set k x) (.slice (some ⟨g,0,none⟩) n cap):=by
 obtain⟨cs,b,r⟩:=h;subst A;have z:∀i,i<l.length->(cs i).size=sz:=λi hi=>p.size (r i _ (List.getElem?_eq_getElem hi));refine⟨λi=>if i=k then c else cs i,?_,λi y a=>?_⟩
 ·rw[List.length_set];exact qi_ b z s (p.size f)
 ·dsimp only;rw[List.getElem?_set]at a;by_cases e:k=i
  ·subst e;rw[if_pos rfl,if_pos s]at a;injection a with a;subst a;rw[if_pos rfl];exact f
  ·rw[if_neg e]at a;rw[if_neg (λh=>e h.symm)];exact r i y a
end
end
end Go.Proofs.YtefhfadjajcmkaaGreatDoor
