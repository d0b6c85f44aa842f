/- Rows of plain elements: one is stored. (Parts of YO.) -/
import Derived.Test.YtefhfadjajcmkaaGreatDoorJE
set_option linter.unusedVariables false
set_option linter.unusedSimpArgs false
set_option maxRecDepth 100000
set_option maxHeartbeats 64000000
namespace Go.Proofs.YtefhfadjajcmkaaGreatDoor
open Go.Lib (cell_of_heap)
section
open Go Go.RowKit Go.Maps
theorem pc_ {w:World} {F:Nat->Prop} {cs:Nat->Array Value} {T:List d_} {A:Option Addr} {n cap:Nat} (h:je_ F w cs T (.slice A n cap)) {k:Nat} {t:d_} (ht:T[k]?=some t) :
    ∃ad ss,A=some ad/\F ad.block/\(∀i,i<3->∃A cap,ss i = .slice A 0 cap)/\∀j,j<(s_ t ss).size->w.cell? ((ad.add (k*18)).add j)=(s_ t ss)[j]?:=by
 obtain⟨h0,C,B,e,_,h2⟩:=h;injection e with e1 e2 e3;have f:=(List.getElem?_eq_some_iff.1 ht).1;obtain⟨r,s,z,p⟩:=h2 (by omega);obtain⟨_,_,ss,a,b⟩:=h0 k t ht;refine⟨⟨r,0,none⟩,ss,by rw[e1,s],z,a,λj x=>?_⟩;rw[add_of_add,Addr.add_mid,Nat.zero_add,<-b];exact p k f j x
theorem vm_ {w:World} {F:Nat->Prop} {cs:Nat->Array Value} {T:List d_} {S:Value} (h:je_ F w cs T S):∃A cap,S = .slice A T.length cap:=by obtain⟨_,A,cap,e,_,_⟩:=h;exact⟨A,cap,e⟩
theorem lr_ (t:d_) (ss:Nat->Value) (W:World):(Instr.build 41 #[(0,.agg (c_ (t.get 0) (ss 0))),(1,.agg (c_ (t.get 1) (ss 1))),(2,.agg (c_ (t.get 2) (ss 2)))]).run Tryz.prog W = .ok (.agg (s_ t ss)) W:=by kernel_rfl
def mj_ (T:List d_) (w:World) (e:Ending) (w':World):Prop:=∃v,e = .returned v/\B_ 41 18 TrS w' (λb=>w.heap.size<=b/\b<w'.heap.size) T v/\Below w.heap.size w w'
structure s6_ (w:World) (T:List d_) (S:Value) (wx:World):Prop where
 hb:Below w.heap.size w wx
 own:B_ 41 18 TrS wx (λb=>w.heap.size<=b/\b<wx.heap.size) T S
theorem s6_.on {w wx w':World} {T:List d_} {S:Value} (h:s6_ w T S wx) (hb:Below wx.heap.size wx w'):s6_ w T S w':=
 ⟨h.hb.trans (hb.mono h.hb.size),(h.own.turn TrS.good (Turn.of_below hb) (λb hb=>hb.2) (λb hb=>λe=>by have e:wx.heap.size<=b:=e;have:=hb.2;omega)).mono TrS.good λb h1=>⟨h1.1,Nat.lt_of_lt_of_le h1.2 hb.size⟩⟩
theorem s6_.more {w wr w':World} {g cap n:Nat} {S:Value} {T:List d_} {t:d_} (h:s6_ w T S wr) (e:wr.grownBy w' S.ownBlock) (r:S.ownBlock=some g\/wr.heap.size<=g) (f:g<w'.heap.size)
    (p:B_ 41 18 TrS w' (λb=>(w.heap.size<=b/\b<wr.heap.size)\/b=g) (T++[t]) (.slice (some ⟨g,0,none⟩) n cap)):s6_ w (T++[t]) (.slice (some ⟨g,0,none⟩) n cap) w':=by
 have a:∀b,S.ownBlock=some b->w.heap.size<=b/\b<wr.heap.size:=λb hb=>by
  obtain⟨_,_,_,s,_⟩:=h.own;exact s b hb
 refine⟨j_ h.hb (Turn.of_grown e) (λb hb=>(a b hb.symm).1),p.mono TrS.good λb hb=>?_⟩;rcases hb with hb | rfl
 ·exact⟨hb.1,Nat.lt_of_lt_of_le hb.2 e.size⟩
 ·refine⟨?_,f⟩;rcases r with h1 | h1
  ·exact (a _ h1).1
  ·exact Nat.le_trans h.hb.size h1
theorem zd_ {F:Nat->Prop} {w:World} {c:Nat} {T:List d_} (h:en_ F w c T) (hF:∀b,F b->b<w.heap.size) :
    Calls Tryz.prog 17 #[.pointer (some ⟨c,0,none⟩)] w (mj_ T w):=by
 obtain⟨S,ss,cs,h1,h2,_⟩:=h.cells;obtain⟨A,cp,rfl⟩:=vm_ h2;have HR:=q_ (λ(W:World) (hb:Below w.heap.size w W)=>h2.keep (w':=W) λp hp=>hb.cell (hF _ hp));have HS:=q_ h.scal;have ag:=q_ h.fit;obtain⟨n,L⟩:=a_ T.length;have HN:=q_ (show n<=65536 from by rw[<-L.o];exact h.len);rw[L.o]at HR h1;have c0:w.cell? ⟨c,0,none⟩=some (.slice A n cp):=cell_of_heap h1 0;have a8:=q_ (show s6_ w [] (.slice none 0 0) w from ⟨Below.refl _ _,B_.nil ..⟩);clear h h1 h2 hF;go_enter Tryz.func17,Tryz.ntmps17
 go_wp2_with fail;go_loopw [3,11] (λs3 ae wx=>∃(k:Nat) (S:Value),k<=n/\ae = .int .i64 (k:Nat)/\S=s3/\Q_ (s6_ w (T.take k) S wx)) (λ_ s _=>n-(intOf s).toNat)
 case atStart=>exact⟨0,_,by omega,rfl,rfl,q_ a8.o⟩
 case round=>
  obtain⟨k,S,hk,rfl,rfl,N⟩:=hrel;by_cases af:k<n
  ·obtain⟨t,ht⟩:∃t,T[k]?=some t:=⟨_,List.getElem?_eq_getElem (by rw[L.o];exact af)⟩;have HT:=q_ ht;obtain⟨ad,ss,rfl,_,e,hq⟩:=pc_ (HR.o wr N.o.hb) ht;have Z:=q_ (λ(w:World) (F:Nat->Prop)=>(show TrS w F t (s_ t ss) from ⟨HS.o t (List.mem_of_getElem? ht),ag.o t (List.mem_of_getElem? ht),ss,e,rfl⟩));have J:=q_ (lr_ t ss);have x:=xp_ (t:=t) e;obtain⟨A0,q0,e0⟩:=e 0 (by omega);obtain⟨A1,q1,e1⟩:=e 1 (by omega);obtain⟨A2,q2,e2⟩:=e 2 (by omega);clear ht e;obtain⟨f,a⟩:=ah_ t ss;rw[a.o]at hq x Z J;obtain⟨U,D⟩:=H_ (t.get 0) (ss 0);obtain⟨M,B⟩:=H_ (t.get 1) (ss 1);obtain⟨O,z⟩:=H_ (t.get 2) (ss 2);rw[D.o,B.o,z.o]at J;have HQ:=q_ hq;have a7:=q_ x;have Z1:=q_ a.size;have Q1:=q_ (gj_.trans (congrArg some a.size.symm));have QP:=q_ (show (Tryz.prog.info? 99).map (·.size)=some f.size from by rw[Z1.o];kernel_rfl);have ac:=q_ (am_.trans (congrArg some D.size.symm));have a9:=q_ (am_.trans (congrArg some B.size.symm));have ak:=q_ (am_.trans (congrArg some z.size.symm));clear hq x e0 e1 e2;have a1:(0:Int)<=k:=by omega
   have a2:(k:Int)<n:=by omega
   have w1:IntKind.i64.wrap ((k:Int)+1)=(k:Int)+1:=IntWalk.i64_in _ (by have:=HN.o;omega);obtain⟨r,C⟩:=a_ wr.heap.size;have a6:=q_ (show (wr.alloc (.cells #[.int .i64 0,.bool false,.int .i64 0,.string ⟨#[]⟩,.string ⟨#[]⟩,.slice none 0 0,.int .i64 0,.bool false,.int .i64 0,.string ⟨#[]⟩,.string ⟨#[]⟩,.slice none 0 0,.int .i64 0,.bool false,.int .i64 0,.string ⟨#[]⟩,.string ⟨#[]⟩,.slice none 0 0] 99)).heap[r]?=some (.cells #[.int .i64 0,.bool false,.int .i64 0,.string ⟨#[]⟩,.string ⟨#[]⟩,.slice none 0 0,.int .i64 0,.bool false,.int .i64 0,.string ⟨#[]⟩,.string ⟨#[]⟩,.slice none 0 0,.int .i64 0,.bool false,.int .i64 0,.string ⟨#[]⟩,.string ⟨#[]⟩,.slice none 0 0] 99 (0,0)) from by rw[<-C.o];exact heap_alloc_new wr _)
   go_upto_region 5 with (first
    | ((with_reducible refine e_ (some 14) ?_);refine nc_ rfl 99 _ rfl rfl f _ HQ.o Tryz.underlying99 rfl QP.o ?_)
    | ((with_reducible refine z_ 5 ?_);refine r_ rfl 99 _ _ rfl r (#[.int .i64 0,.bool false,.int .i64 0,.string ⟨#[]⟩,.string ⟨#[]⟩,.slice none 0 0,.int .i64 0,.bool false,.int .i64 0,.string ⟨#[]⟩,.string ⟨#[]⟩,.slice none 0 0,.int .i64 0,.bool false,.int .i64 0,.string ⟨#[]⟩,.string ⟨#[]⟩,.slice none 0 0]) f 99 (by rw[<-C.o];rfl) rfl a6.o Z1.o QP.o a7.o ?_;intro w5 a3 a5))
   rw[C.o];have aa:=q_ (show Below wr.heap.size wr w5 from cn_ (by rw[C.o];exact a5));have I:=q_ a3;clear a3 a5 HQ a6;have X:=q_ (N.o.on aa.o);have ah:=q_ (λi (hi:i<U.size)=>(show w5.cell? ((⟨r,0,none⟩:Addr).add i)=U[i]? from by rw[Addr.add_mid,cell_of_row w5 r (0+i) f _ _ I.o,<-D.o,<-a.o];exact D_ t ss 0 (by omega) i (by rwa [D.size]at hi)));have ai:=q_ (λi (hi:i<M.size)=>(show w5.cell? ((⟨r,6,none⟩:Addr).add i)=M[i]? from by rw[Addr.add_mid,cell_of_row w5 r (6+i) f _ _ I.o,<-B.o,<-a.o];exact D_ t ss 1 (by omega) i (by rwa [B.size]at hi)));have ab:=q_ (λi (hi:i<O.size)=>(show w5.cell? ((⟨r,12,none⟩:Addr).add i)=O[i]? from by rw[Addr.add_mid,cell_of_row w5 r (12+i) f _ _ I.o,<-z.o,<-a.o];exact D_ t ss 2 (by omega) i (by rwa [z.size]at hi)))
   go_wp2_with (first
    | ((with_reducible refine e_ (some 17) ?_);refine M_ (by rfl) 39 _ rfl rfl U _ ah.o Tryz.underlying39 rfl ac.o ?_)
    | ((with_reducible refine e_ (some 19) ?_);refine M_ (by rfl) 39 _ rfl rfl M _ ai.o Tryz.underlying39 rfl a9.o ?_)
    | ((with_reducible refine e_ (some 21) ?_);refine M_ (by rfl) 39 _ rfl rfl O _ ab.o Tryz.underlying39 rfl ak.o ?_)
    | ((with_reducible refine e_ (some 22) ?_);refine O_ rfl 41 _ rfl #[(0,.agg U),(1,.agg M),(2,.agg O)] (by kernel_rfl) (.agg f) (J.o _) ?_)
    | ((with_reducible refine e_ (some 23) ?_);refine xr_ rfl 22 1 _ rfl #[(0,.agg f)] (by kernel_rfl) (.slice (some ⟨w5.heap.size,0,none⟩) 1 1) _ (ng_ f Z1.o w5) ?_)
    | ((with_reducible refine e_ (some 24) ?_);refine wpList_plain rfl λK hK=>?_;refine vl_ (.tmp 15) (.tmp 23) rfl rfl X.o.own (show (T.take k).length=k from by rw[List.length_take,L.o];omega) rfl Z.o (by have:=HN.o;omega) (λb hb=>hb.2) (λg7 c7 w7 a4 a0 V Y=>hK _ _ ?_);clear hK K))
   have aj:=q_ (X.o.more a0 V Y a4);clear a4 a0 V Y;go_wp2_with fail;go_roundw
   case rel=>exact⟨k+1,_,by omega,by go_num,rfl,q_ (by rw[g_ HT.o];exact aj.o)⟩
   case measure=>simp[intOf];omega
  ·have a2:¬(k:Int)<n:=by omega
   have HE:=q_ (show mj_ T w (.returned S) wr from ⟨S,rfl,by have:=N.o.own;rwa [List.take_of_length_le (by rw[L.o];omega)]at this,N.o.hb⟩);go_wp2_with fail;go_ret;exact HE.o
theorem h9_ {a b:h_}:bh_ a b=true↔a=b:=by
 constructor
 ·intro h;by_cases e:a=b
  ·exact e
  ·rw[b2_ e]at h;cases h
 ·rintro rfl;exact nm_ _
noncomputable def rg_ (a b:d_):Bool:=bh_ (a.get 0) (b.get 0)&&(bh_ (a.get 1) (b.get 1)&&bh_ (a.get 2) (b.get 2))
theorem vn_ {a b:d_}:rg_ a b=true↔a=b:=by
 unfold rg_;rw[Bool.and_eq_true,Bool.and_eq_true,h9_,h9_,h9_];constructor
 ·rintro⟨h0,h1,h2⟩;exact uk_ (w:=ak_ 0) (dd_ 0) h0 h1 h2
 ·rintro rfl;exact⟨rfl,rfl,rfl⟩
theorem xt_ (a:d_):rg_ a a=true:=vn_.2 rfl
def I7_ (t:d_):Prop:=∀n,Bs_ (t.get n)
theorem s7_ {t:d_} (h:bn_ t) (a:∀n,ag_ (t.get n)):I7_ t:=λn=>⟨cm_ (h.get n),a n,by have:=(h.get n).2.1;omega⟩
structure eg_ (c:Array Value) (t:d_):Prop where
 key:I7_ t
 ex:∃ss:Nat->Value,(∀i,i<3->∃A cap,ss i = .slice A 0 cap)/\c=s_ t ss
theorem TrS.cellT {w:World} {F:Nat->Prop} {t:d_} {c:Array Value} (h:TrS w F t c):eg_ c t:=by obtain⟨h1,h2,ss,a,e⟩:=h;exact⟨s7_ h1 h2,ss,a,e⟩
theorem eg_.size {c:Array Value} {t:d_} (h:eg_ c t):c.size=18:=by obtain⟨_,ss,_,rfl⟩:=h;rfl
theorem Fv_ {a b:d_} {sa sb:Nat->Value} {F G:Nat->Prop} (V:∀n,n<3->ab_ (a.get n).list<=999999999) (w:World) (B:∀g,F g->g<w.heap.size) (C:∀g,G g->g<w.heap.size)
    (h1:∀n,n<3->VRd w F (a.get n) (.agg (c_ (a.get n) (sa n)))) (h2:∀n,n<3->VRd w G (b.get n) (.agg (c_ (b.get n) (sb n)))) :
    Calls Tryz.prog 23 #[.agg (s_ a sa),.agg (s_ b sb)] w (u_ (rg_ a b) w):=by
 obtain⟨ca,L⟩:=ah_ a sa;obtain⟨cb,U⟩:=ah_ b sb;rw[L.o,U.o];obtain⟨z,Hz⟩:=a_ w.heap.size;obtain⟨w2,A⟩:=a_ ((w.alloc (.cells ca 41)).alloc (.cells cb 41));have a2:=q_ (show Below w.heap.size w w2 from by rw[<-A.o];exact L_ w _ _);have s:=q_ (show w2.heap[z]?=some (.cells ca 41 (0,0)) from by rw[<-A.o,<-Hz.o];exact heap_alloc2_old w _ _);have p:=q_ (show w2.heap[z+1]?=some (.cells cb 41 (0,0)) from by rw[<-A.o,<-Hz.o];exact heap_alloc2_new w _ _);have f:=q_ (show ∀W,Below w2.heap.size w2 W->Below w.heap.size w W from λW hb=>a2.o.trans (hb.mono a2.o.size));obtain⟨u0,O⟩:=H_ (a.get 0) (sa 0);obtain⟨v0,J⟩:=H_ (b.get 0) (sb 0);have ad:=q_ (am_.trans (congrArg some O.size.symm));have a9:=q_ (am_.trans (congrArg some J.size.symm));have aj:=q_ (λ(W:World) (hb:Below w2.heap.size w2 W) i (hi:i<u0.size)=>(show W.cell? ((⟨z,0,none⟩:Addr).add i)=u0[i]? from by rw[Addr.add_mid,cell_of_row W z (0+i) ca _ _ ((hb.block z (b_ s.o)).trans s.o),<-O.o,<-L.o];exact D_ a sa 0 (by omega) i (by rwa [O.size]at hi)));have ae:=q_ (λ(W:World) (hb:Below w2.heap.size w2 W) i (hi:i<v0.size)=>(show W.cell? ((⟨z+1,0,none⟩:Addr).add i)=v0[i]? from by rw[Addr.add_mid,cell_of_row W (z+1) (0+i) cb _ _ ((hb.block (z+1) (b_ p.o)).trans p.o),<-J.o,<-U.o];exact D_ b sb 0 (by omega) i (by rwa [J.size]at hi)));have X:=λ(W:World) (hb:Below w.heap.size w W)=>lq_ (a.get 0) (b.get 0) (V 0 (by omega)) F G _ _ W (λg h=>Nat.lt_of_lt_of_le (B g h) hb.size) (λg h=>Nat.lt_of_lt_of_le (C g h) hb.size) ((h1 0 (by omega)).under hb B) ((h2 0 (by omega)).under hb C);rw[O.o,J.o]at X;have a5:=q_ X;clear X;obtain⟨t0,a1⟩:=a_ (bh_ (a.get 0) (b.get 0));rw[a1.o]at a5;obtain⟨u1,I⟩:=H_ (a.get 1) (sa 1);obtain⟨v1,N⟩:=H_ (b.get 1) (sb 1);have aa:=q_ (am_.trans (congrArg some I.size.symm));have ai:=q_ (am_.trans (congrArg some N.size.symm));have ag:=q_ (λ(W:World) (hb:Below w2.heap.size w2 W) i (hi:i<u1.size)=>(show W.cell? ((⟨z,6,none⟩:Addr).add i)=u1[i]? from by rw[Addr.add_mid,cell_of_row W z (6+i) ca _ _ ((hb.block z (b_ s.o)).trans s.o),<-I.o,<-L.o];exact D_ a sa 1 (by omega) i (by rwa [I.size]at hi)));have a8:=q_ (λ(W:World) (hb:Below w2.heap.size w2 W) i (hi:i<v1.size)=>(show W.cell? ((⟨z+1,6,none⟩:Addr).add i)=v1[i]? from by rw[Addr.add_mid,cell_of_row W (z+1) (6+i) cb _ _ ((hb.block (z+1) (b_ p.o)).trans p.o),<-N.o,<-U.o];exact D_ b sb 1 (by omega) i (by rwa [N.size]at hi)));have Y:=λ(W:World) (hb:Below w.heap.size w W)=>lq_ (a.get 1) (b.get 1) (V 1 (by omega)) F G _ _ W (λg h=>Nat.lt_of_lt_of_le (B g h) hb.size) (λg h=>Nat.lt_of_lt_of_le (C g h) hb.size) ((h1 1 (by omega)).under hb B) ((h2 1 (by omega)).under hb C);rw[I.o,N.o]at Y;have a0:=q_ Y;clear Y;obtain⟨t1,a4⟩:=a_ (bh_ (a.get 1) (b.get 1));rw[a4.o]at a0;obtain⟨u2,D⟩:=H_ (a.get 2) (sa 2);obtain⟨v2,M⟩:=H_ (b.get 2) (sb 2);have ah:=q_ (am_.trans (congrArg some D.size.symm));have ab:=q_ (am_.trans (congrArg some M.size.symm));have ac:=q_ (λ(W:World) (hb:Below w2.heap.size w2 W) i (hi:i<u2.size)=>(show W.cell? ((⟨z,12,none⟩:Addr).add i)=u2[i]? from by rw[Addr.add_mid,cell_of_row W z (12+i) ca _ _ ((hb.block z (b_ s.o)).trans s.o),<-D.o,<-L.o];exact D_ a sa 2 (by omega) i (by rwa [D.size]at hi)));have af:=q_ (λ(W:World) (hb:Below w2.heap.size w2 W) i (hi:i<v2.size)=>(show W.cell? ((⟨z+1,12,none⟩:Addr).add i)=v2[i]? from by rw[Addr.add_mid,cell_of_row W (z+1) (12+i) cb _ _ ((hb.block (z+1) (b_ p.o)).trans p.o),<-M.o,<-U.o];exact D_ b sb 2 (by omega) i (by rwa [M.size]at hi)));have Z:=λ(W:World) (hb:Below w.heap.size w W)=>lq_ (a.get 2) (b.get 2) (V 2 (by omega)) F G _ _ W (λg h=>Nat.lt_of_lt_of_le (B g h) hb.size) (λg h=>Nat.lt_of_lt_of_le (C g h) hb.size) ((h1 2 (by omega)).under hb B) ((h2 2 (by omega)).under hb C);rw[D.o,M.o]at Z;have a3:=q_ Z;clear Z;obtain⟨t2,a6⟩:=a_ (bh_ (a.get 2) (b.get 2));rw[a6.o]at a3;unfold rg_;rw[a1.o,a4.o,a6.o];clear h1 h2 V B C;go_enter Tryz.func23,Tryz.ntmps23
 go_upto_region 1 with fail;rw[A.o,Hz.o];clear A
 go_wp2_with (first
  | ((with_reducible refine e_ (some 6) ?_);refine M_ (by rfl) 39 _ rfl rfl u0 _ (aj.o w2 (Below.refl _ _)) Tryz.underlying39 rfl ad.o ?_)
  | ((with_reducible refine e_ (some 8) ?_);refine M_ (by rfl) 39 _ rfl rfl v0 _ (ae.o w2 (Below.refl _ _)) Tryz.underlying39 rfl a9.o ?_))
 refine (a5.o _ (f.o _ (Below.refl _ _))).mono ?_;unfold u_;rintro e x0 ⟨rfl,hb⟩;have r:=q_ (show Below w2.heap.size w2 x0 from hb);clear hb
 cases t0 with
 | false=>
  go_wp2_with fail;go_ret;exact⟨rfl,f.o _ r.o⟩
 | true=>
  go_wp2_with (first
   | ((with_reducible refine e_ (some 12) ?_);refine M_ (by rfl) 39 _ rfl rfl u1 _ (ag.o x0 r.o) Tryz.underlying39 rfl aa.o ?_)
   | ((with_reducible refine e_ (some 14) ?_);refine M_ (by rfl) 39 _ rfl rfl v1 _ (a8.o x0 r.o) Tryz.underlying39 rfl ai.o ?_))
  refine (a0.o _ (f.o _ r.o)).mono ?_;unfold u_;rintro e x1 ⟨rfl,hb⟩;have x:=q_ (show Below w2.heap.size w2 x1 from r.o.trans (hb.mono r.o.size));clear hb
  cases t1 with
  | false=>
   go_wp2_with fail;go_ret;exact⟨rfl,f.o _ x.o⟩
  | true=>
   go_wp2_with (first
    | ((with_reducible refine e_ (some 19) ?_);refine M_ (by rfl) 39 _ rfl rfl u2 _ (ac.o x1 x.o) Tryz.underlying39 rfl ah.o ?_)
    | ((with_reducible refine e_ (some 21) ?_);refine M_ (by rfl) 39 _ rfl rfl v2 _ (af.o x1 x.o) Tryz.underlying39 rfl ab.o ?_))
   refine (a3.o _ (f.o _ x.o)).mono ?_;unfold u_;rintro e x2 ⟨rfl,hb⟩;have a7:=q_ (show Below w2.heap.size w2 x2 from x.o.trans (hb.mono x.o.size));clear hb
   cases t2 with
   | false=>
    go_wp2_with fail;go_ret;exact⟨rfl,f.o _ a7.o⟩
   | true=>
    go_wp2_with fail;go_ret;exact⟨rfl,f.o _ a7.o⟩
def ec_ (f:Nat->Bool) (n:Nat):List Value:=(List.range n).map λk=>.bool (f k)
theorem f7_ (f:Nat->Bool) {n k:Nat} (h:k<n):(ec_ f n)[k]?=some (.bool (f k)):=by unfold ec_;rw[List.getElem?_map,List.getElem?_range h];rfl
theorem xu_ (f:Nat->Bool) {n k:Nat} (b:Bool):(ec_ f n).set k (.bool b)=ec_ (λi=>if i=k then b else f i) n:=by
 refine List.ext_getElem? λi=>?_;by_cases hi:i<n
 ·rw[f7_ _ hi,List.getElem?_set];by_cases e:k=i
  ·subst e;rw[if_pos rfl,if_pos (by unfold ec_;simpa using hi),if_pos rfl]
  ·rw[if_neg e,f7_ _ hi,if_neg (λh=>e h.symm)]
 ·rw[List.getElem?_eq_none (by unfold ec_;simp;omega),List.getElem?_eq_none (by unfold ec_;simp;omega)]
theorem s8_ {f g:Nat->Bool} {n:Nat} (h:∀i,i<n->f i=g i):ec_ f n=ec_ g n:=by
 refine List.ext_getElem? λi=>?_;by_cases hi:i<n
 ·rw[f7_ _ hi,f7_ _ hi,h i hi]
 ·rw[List.getElem?_eq_none (by unfold ec_;simp;omega),List.getElem?_eq_none (by unfold ec_;simp;omega)]
structure OnM (w:World) (g n:Nat) (f:Nat->Bool) (wx:World):Prop where
 hb:Below w.heap.size w wx
 g0:w.heap.size<=g
 row:wx.ownsRow 0 4 1 (.slice (some ⟨g,0,none⟩) n n) n (ec_ f n)
theorem OnM.on {w wx w':World} {g n:Nat} {f:Nat->Bool} (h:OnM w g n f wx) (hb:Below wx.heap.size wx w'):OnM w g n f w':=
 ⟨h.hb.trans (hb.mono h.hb.size),h.g0,(Turn.of_below hb).owns h.row (λb a e=>by have e:wx.heap.size<=b:=e;obtain⟨r,p⟩:=g6_ h.row a;have:=b_ p;omega)⟩
theorem OnM.drew {w wx:World} {g n:Nat} {f:Nat->Bool} (h:OnM w g n f wx):OnM w g n f wx.drew:=h.on (Below.refl _ _).drew
theorem OnM.at_ {w wx:World} {g n k:Nat} {f:Nat->Bool} (h:OnM w g n f wx) (a:k<n):wx.cell? ⟨g,k,none⟩=some (.bool (f k)):=by rw[h.row.cellAt k (by omega)];exact f7_ f a
theorem OnM.set {w wx:World} {g n k:Nat} {f e:Nat->Bool} (h:OnM w g n f wx) (b:Bool) (p:∀i,i<n->e i=if i=k then b else f i):OnM w g n e (wx.setCell ⟨g,k,none⟩ (.bool b)):=by obtain⟨h1,h2⟩:=h.row.stored k (.bool b);rw[xu_]at h1;refine⟨j_ h.hb (Turn.of_grown h2) (λq a=>?_),h.g0,by rw[s8_ p];exact h1⟩;injection a with a;rw[a];exact h.g0
noncomputable def gF (T:List d_) (P:d_) (i:Nat):Bool:=bk_ P (T.getD i mg_)
theorem Fw_ {T:List d_} {P:d_} {i:Nat} {t:d_} (h:T[i]?=some t):gF T P i=bk_ P t:=by unfold gF;rw[List.getD_eq_getElem?_getD,h];rfl
theorem xv_ {T:List d_} {m:List Nat} (h:∀k,k∈m->k<T.length):Kof T m=m.filterMap λn=>T[n]?:=by
 induction m with
 | nil=>rfl
 | cons a r f=>
  have b:=h a (List.mem_cons_self ..);show T.getD a mg_::Kof T r=_;rw[f λk e=>h k (List.mem_cons_of_mem _ e),List.getD_eq_getElem?_getD,List.getElem?_eq_getElem b,List.filterMap_cons_some (List.getElem?_eq_getElem b)];rfl
theorem Fx_ {T:List d_} {P:d_} {l m:List Nat} (h:su_ T P l) (e:m.Perm (l.filter (gF T P))) (p:m.Pairwise λa b=>a<=b):Kof T m=T.filter (bk_ P)/\(∀k,k∈m->k<T.length):=by have h1:∀k,k∈m->k<T.length:=λk f=>h.lt k (List.mem_filter.1 (e.mem_iff.1 f)).1;have h2:=Ax_ h (gF T P) (λn t ht=>Fw_ ht) e p;refine⟨?_,h1⟩;rw[xv_ h1,h2];exact xi_ (bk_ P) T (gF T P) λn t ht=>Fw_ ht
theorem je_.at18 {F:Nat->Prop} {w:World} {cs:Nat->Array Value} {T:List d_} {S:Value} (h:je_ F w cs T S) {i:Nat} {t:d_} (ht:T[i]?=some t) :
    ∃r c ss,S = .slice (some ⟨r,0,none⟩) T.length c/\(∀e,e<3->∃A cap,ss e = .slice A 0 cap)/\∀w',je_ F w' cs T S->w'.rangeAt r (i*18) (s_ t ss).toList:=by
 have hi:=(List.getElem?_eq_some_iff.1 ht).1;obtain⟨A,cap,rfl,L,x⟩:=h.form;obtain⟨C,rfl,_,J⟩:=x (by omega);obtain⟨_,_,ss,p,z⟩:=h.el i t ht;refine⟨C,cap,ss,rfl,p,λw' D=>?_⟩;obtain⟨M,I,b,_,f⟩:=D.form;injection b with b _ _;obtain⟨N,a,_,s⟩:=f (by omega);rw[<-b]at a;injection a with a;injection a with a;subst a;exact kb_ (λj B=>by rw[s i hi j B,z]) (mf_ t ss)
structure AtM (w:World) (c8:Array Value) (m:List Nat) (S:Value) (wx:World):Prop where
 hb:Below w.heap.size w wx
 box:wx.heap[w.heap.size+1]?=some (.cells c8 99 (0,0))
 row:df_ w.heap.size S m wx
theorem AtM.on {w wx w':World} {a:Array Value} {m:List Nat} {S:Value} (h:AtM w a m S wx) (hb:Below wx.heap.size wx w'):AtM w a m S w':=
 ⟨h.hb.trans (hb.mono h.hb.size),(hb.block _ (b_ h.box)).trans h.box,h.row.turn (Turn.of_below hb) λb f e=>by have:=(h.row.blk b f).2;have e:wx.heap.size<=b:=e;omega⟩
theorem AtM.more {w wr w':World} {f:Array Value} {m:List Nat} {S:Value} {g cap k n:Nat} (h:AtM w f m S wr) (p:m.length=n) (r:wr.grownBy w' S.ownBlock) (x:S.ownBlock=some g\/wr.heap.size<=g) (a:g<w'.heap.size)
    (s:w'.ownsRow 0 3 1 (.slice (some ⟨g,0,none⟩) (n+1) cap) (n+1) (ixC (m++[k]))):AtM w f (m++[k]) (.slice (some ⟨g,0,none⟩) (n+1) cap) w':=by
 have ht:=Turn.of_grown r;refine⟨j_ h.hb ht (λb hb=>by have:=(h.row.blk b hb.symm).1;omega),ht.heap h.box (λe=>c8_ h.row.row h.box (by decide) e.symm),⟨?_,λb hb=>?_⟩⟩
 ·rw[List.length_append,p];exact s
 ·have hb:some g=some b:=hb;injection hb with hb;subst hb;refine⟨?_,a⟩;rcases x with h1 | h1
  ·exact (h.row.blk _ h1).1
  ·have:=b_ h.box;omega
structure vo_ (w:World) (m:List Nat) (S6:Value) (L:List d_) (S:Value) (wx:World):Prop where
 all:s6_ w L S wx
 row:df_ w.heap.size S6 m wx
theorem vo_.on {w wx w':World} {m:List Nat} {a S:Value} {L:List d_} (h:vo_ w m a L S wx) (hb:Below wx.heap.size wx w'):vo_ w m a L S w':=
 ⟨h.all.on hb,h.row.turn (Turn.of_below hb) λb f e=>by have:=(h.row.blk b f).2;have e:wx.heap.size<=b:=e;omega⟩
theorem vo_.more {w wr w':World} {m:List Nat} {f S:Value} {L:List d_} {g cap n:Nat} {t:d_} (h:vo_ w m f L S wr) (p:wr.grownBy w' S.ownBlock) (x:S.ownBlock=some g\/wr.heap.size<=g) (r:g<w'.heap.size)
    (s:B_ 41 18 TrS w' (λb=>(w.heap.size<=b/\b<wr.heap.size)\/b=g) (L++[t]) (.slice (some ⟨g,0,none⟩) n cap)):vo_ w m f (L++[t]) (.slice (some ⟨g,0,none⟩) n cap) w':=by
 refine⟨h.all.more p x r s,h.row.turn (Turn.of_grown p) λb hb e=>?_⟩;obtain⟨cs,a,_⟩:=h.all.own;exact hz_ a h.row.row (by decide) b hb e.symm
theorem Bt_ (t:d_) (ss:Nat->Value) (W:World):(Instr.build 99 #[(0,.agg (c_ (t.get 0) (ss 0))),(1,.agg (c_ (t.get 1) (ss 1))),(2,.agg (c_ (t.get 2) (ss 2)))]).run Tryz.prog W = .ok (.agg (s_ t ss)) W:=by kernel_rfl
theorem I8_ {t:d_} {ss:Nat->Value} (h:∀i,i<3->∃A n cap,ss i = .slice A n cap):(s_ t ss).all (·.oneCell')=true:=by rw[<-Array.toArray_toList (xs:=s_ t ss)];exact all_oneCell_toArray (b0_ t ss λq a=>by obtain⟨A,n,b,e⟩:=h q a;exact⟨A,n,b,e⟩)
theorem rh_ {F:Nat->Prop} {c:Nat} {T:List d_} {w:World} (h:en_ F w c T) (hF:∀b,F b->b<w.heap.size) (P:d_) (ps:Nat->Value) (bc:∀e,e<3->∃B cap,ps e = .slice B (P.get e).list.length cap) (fb:∀n,ag_ (P.get n)) (bi:F_ w) (bk:as_ w) :
    Calls Tryz.prog 19 #[.pointer (some ⟨c,0,none⟩),.agg (s_ P ps)] w (mj_ (T.filter (bk_ P)) w):=by
 have b2:=q_ (λ(W:World) (hb:Below w.heap.size w W)=>Fp_ (h.keep (w':=W) λb b5=>hb.block b (hF b b5)) (λb b5=>Nat.lt_of_lt_of_le (hF b b5) hb.size) P ps fb (f_ bi hb) (n_ bk hb));unfold s5_ at b2;have ao:=q_ (λ(t:d_) (ts:Nat->Value) (W:World) (hs:bn_ t) (ht:∀e,e<3->∃A cap,ts e = .slice A 0 cap)=>Fq_ t P ts ps W (λe _=>cm_ (hs.get e)) ht bc);unfold u_ at ao;obtain⟨S,d5,cs,h1,h2,_⟩:=h.cells;have HR:=q_ (λ(W:World) (hb:Below w.heap.size w W)=>h2.keep (w':=W) λp hp=>hb.cell (hF _ hp));have HC:=q_ (λ(W:World) (hb:Below w.heap.size w W)=>(show W.cell? ⟨c,0,none⟩=some S from (hb.cell (p:=⟨c,0,none⟩) (hF c h.fc)).trans (cell_of_heap h1 0)));have bl:=q_ h.scal;have cl:=q_ h.fit;have bp:=q_ h.len;have c2:=q_ hF;have Y:=I8_ (t:=P) (ss:=ps) (λi hi=>by obtain⟨B,cp,e⟩:=bc i hi;exact⟨B,_,cp,e⟩);have I:=q_ (Bt_ P ps);clear h h1 h2 hF bc fb bi bk;obtain⟨f,M⟩:=ah_ P ps;rw[M.o]at Y I b2;have ao:=q_ (show ∀(t:d_) (ts:Nat->Value) (W:World),bn_ t->(∀e,e<3->∃A cap,ts e = .slice A 0 cap)->Calls Tryz.prog 61 #[.agg (s_ t ts),.agg f] W (λe w'=>e = .returned (.bool (bk_ P t))/\Below W.heap.size W w') from by have:=ao.o;rw[M.o]at this;exact this);rw[M.o];have bg:=q_ Y;have Z8:=q_ M.size;have Q8:=q_ (show (Tryz.prog.info? 99).map (·.size)=some f.size from by rw[Z8.o];kernel_rfl);clear Y;obtain⟨v0,aj⟩:=H_ (P.get 0) (ps 0);obtain⟨v1,ay⟩:=H_ (P.get 1) (ps 1);obtain⟨v2,ak⟩:=H_ (P.get 2) (ps 2);rw[aj.o,ay.o,ak.o]at I;have c9:=q_ (am_.trans (congrArg some aj.size.symm));have co:=q_ (am_.trans (congrArg some ay.size.symm));have cj:=q_ (am_.trans (congrArg some ak.size.symm));obtain⟨z,Hz⟩:=a_ w.heap.size;obtain⟨L,a5⟩:=a_ (w.alloc (.cells f 45));have bt:=q_ (show Below w.heap.size w L from by rw[<-a5.o];exact (Below.refl _ _).alloc (Nat.le_refl _) _);have b6:=q_ (show L.heap[z]?=some (.cells f 45 (0,0)) from by rw[<-a5.o,<-Hz.o];exact heap_alloc_new w _);have af:=q_ (show L.heap.size=z+1 from by rw[<-a5.o,<-Hz.o];simp);have cd:=q_ (λi (hi:i<v0.size)=>(show L.cell? ((⟨z,0,none⟩:Addr).add i)=v0[i]? from by rw[Addr.add_mid,cell_of_row L z (0+i) f _ _ b6.o,<-aj.o,<-M.o];exact D_ P ps 0 (by omega) i (by rwa [aj.size]at hi)));have cy:=q_ (λi (hi:i<v1.size)=>(show L.cell? ((⟨z,6,none⟩:Addr).add i)=v1[i]? from by rw[Addr.add_mid,cell_of_row L z (6+i) f _ _ b6.o,<-ay.o,<-M.o];exact D_ P ps 1 (by omega) i (by rwa [ay.size]at hi)));have d1:=q_ (λi (hi:i<v2.size)=>(show L.cell? ((⟨z,12,none⟩:Addr).add i)=v2[i]? from by rw[Addr.add_mid,cell_of_row L z (12+i) f _ _ b6.o,<-ak.o,<-M.o];exact D_ P ps 2 (by omega) i (by rwa [ak.size]at hi)));go_enter Tryz.func19,Tryz.ntmps19
 go_upto_region 1 with fail;rw[a5.o,Hz.o];clear a5;have a7:=q_ (show (L.alloc (.cells #[.int .i64 0,.bool false,.int .i64 0,.string ⟨#[]⟩,.string ⟨#[]⟩,.slice none 0 0,.int .i64 0,.bool false,.int .i64 0,.string ⟨#[]⟩,.string ⟨#[]⟩,.slice none 0 0,.int .i64 0,.bool false,.int .i64 0,.string ⟨#[]⟩,.string ⟨#[]⟩,.slice none 0 0] 99)).heap[z+1]?=some (.cells #[.int .i64 0,.bool false,.int .i64 0,.string ⟨#[]⟩,.string ⟨#[]⟩,.slice none 0 0,.int .i64 0,.bool false,.int .i64 0,.string ⟨#[]⟩,.string ⟨#[]⟩,.slice none 0 0,.int .i64 0,.bool false,.int .i64 0,.string ⟨#[]⟩,.string ⟨#[]⟩,.slice none 0 0] 99 (0,0)) from by rw[<-af.o];exact heap_alloc_new L _)
 go_upto_region 3 with (first
  | ((with_reducible refine e_ (some 14) ?_);refine M_ (by rfl) 39 _ rfl rfl v0 _ cd.o Tryz.underlying39 rfl c9.o ?_)
  | ((with_reducible refine e_ (some 16) ?_);refine M_ (by rfl) 39 _ rfl rfl v1 _ cy.o Tryz.underlying39 rfl co.o ?_)
  | ((with_reducible refine e_ (some 18) ?_);refine M_ (by rfl) 39 _ rfl rfl v2 _ d1.o Tryz.underlying39 rfl cj.o ?_)
  | ((with_reducible refine e_ (some 19) ?_);refine O_ rfl 99 _ rfl #[(0,.agg v0),(1,.agg v1),(2,.agg v2)] (by kernel_rfl) (.agg f) (I.o _) ?_)
  | ((with_reducible refine z_ 5 ?_);refine r_ rfl 99 _ _ rfl (z+1) (#[.int .i64 0,.bool false,.int .i64 0,.string ⟨#[]⟩,.string ⟨#[]⟩,.slice none 0 0,.int .i64 0,.bool false,.int .i64 0,.string ⟨#[]⟩,.string ⟨#[]⟩,.slice none 0 0,.int .i64 0,.bool false,.int .i64 0,.string ⟨#[]⟩,.string ⟨#[]⟩,.slice none 0 0]) f 99 (by rw[<-af.o];rfl) rfl a7.o Z8.o Q8.o bg.o ?_;intro w2 br bm))
 rw[af.o];have b4:=q_ (bt.o.trans ((cn_ (w5:=w2) (by rw[af.o];exact bm)).mono bt.o.size));have b1:=q_ br;clear br bm a7 I;go_wp2_with ((with_reducible refine e_ (some 21) ?_);refine A_ rfl 99 _ rfl (z+1) 0 rfl f _ (p_ b1.o) Tryz.underlying99 rfl Q8.o ?_)
 refine (b2.o w2 b4.o).mono ?_;rintro e3 w3 ⟨l,sl,rfl,ap,aa,bb⟩;obtain⟨A,cap,rfl,c3,_⟩:=id aa;have ag:=q_ ap;have bq:=q_ (b4.o.trans (bb.mono b4.o.size));have bo:=q_ (λ(W:World) (hb:Below w.heap.size w W)=>aa.keep (w':=W) λp hp=>World.cell?_of_block ((hb.block _ (c2.o _ hp)).trans (bq.o.block _ (c2.o _ hp)).symm));have cx:=q_ (show AtM w f [] (.slice none 0 0) w3 from ⟨bq.o,by rw[Hz.o];exact (bb.block (z+1) (b_ b1.o)).trans b1.o,df_.nil _ _⟩);clear ap aa bb c3;obtain⟨n,Hn⟩:=a_ l.length;rw[Hn.o]at bo ⊢;go_wp2_with fail;go_loopw [6,24] (λs6 ce wx=>∃(k:Nat) (S6:Value),k<=n/\ce = .int .i64 (k:Nat)/\S6=s6/\Q_ (AtM w f ((l.take k).filter (gF T P)) S6 wx)) (λ_ s _=>n-(intOf s).toNat)
 case atStart=>exact⟨0,_,by omega,rfl,rfl,cx⟩
 case round=>
  obtain⟨k,S6,hk,rfl,rfl,r⟩:=hrel;have b0:=q_ (show l.length<=65536 from by have h1:=bp.o;have h2:=ag.o.nodup.length_le_of_subset (l₂:=List.range T.length) (λx hx=>List.mem_range.2 (ag.o.lt x hx));rw[List.length_range]at h2;omega);by_cases U:k<n
  ·have a2:(k:Int)<n:=by omega
   have HK:=q_ U;obtain⟨i,hi⟩:∃i,l[k]?=some i:=⟨_,List.getElem?_eq_getElem (by rw[Hn.o];exact U)⟩;have HI:=q_ hi;have O:=ag.o.lt i (List.mem_of_getElem? hi);obtain⟨t,ht⟩:∃t,T[i]?=some t:=⟨_,List.getElem?_eq_getElem O⟩;obtain⟨r1,cS,ss,rfl,C,b8⟩:=(HR.o wr r.o.hb).at18 ht;obtain⟨A',c4,X,_,a9⟩:=bo.o wr r.o.hb;injection X with X e2 e3;obtain⟨r2,o2,e4,_,hx⟩:=a9 (by rw[Hn.o];omega);rw[<-X]at e4;subst e4;have b7:=hx k i hi;have bf:=q_ (Fw_ (P:=P) ht);have aq:=q_ (λW=>ao.o t ss W (bl.o t (List.mem_of_getElem? ht)) C);obtain⟨b,Hb⟩:=a_ (bk_ P t);rw[Hb.o]at aq bf;obtain⟨D,J⟩:=ah_ t ss;rw[J.o]at aq b8;have Q1:=q_ (show (Tryz.prog.info? 99).map (·.size)=some D.size from by rw[J.size];kernel_rfl);have cc:=q_ (λ(W:World) (hb:Below w.heap.size w W)=>b8 W (HR.o W hb));obtain⟨N,HN⟩:=a_ T.length;rw[HN.o]at HC O;have cu:=q_ O;clear b8 ht hi O C a9 hx X e2 e3;have d3:IntKind.i64.wrap ((k:Int)+1)=(k:Int)+1:=IntWalk.i64_in _ (by have:=b0.o;have:=Hn.o;omega);have ac:=q_ (show wr.heap[z+1]?=some (.cells f 99 (0,0)) from by have:=r.o.box;rwa [Hz.o]at this);go_upto_region 6 with ((with_reducible refine e_ (some 26) ?_);refine ek_ rfl (.pointer (some ⟨r2,o2+k,none⟩)) (k_ (nf_ r2 o2 n cap k HK.o _)) ?_)
   clear b7 a2;refine wp_region_held_drew (S:=λW'=>Below w.heap.size w W'/\W'.heap[z+1]?=some (.cells f 99 (0,0))) (by kernel_rfl) ⟨r.o.hb.drew,ac.o⟩ λa=>?_;refine V_.o ?_;refine v_ 0 28 (.pointer (some ⟨c,0,none⟩)) a λa=>?_;(try simp only[Act.put,aT,aZ,aS]);refine v_ 1 29 (.pointer (some ⟨c,0,none⟩)) a λa=>?_;(try simp only[Act.put,aT,aZ,aS]);refine v_ 2 30 (.pointer (some ⟨c,0,none⟩)) a λa=>?_;(try simp only[Act.put,aT,aZ,aS]);refine J_ 3 31 (.slice (some ⟨r1,0,none⟩) N cS) a (λw V=>?_) λa=>?_
   ·have p9:=HC.o w V.1;unfold o_;go_simp
   (try simp only[Act.put,aT,aZ,aS]);refine v_ 4 32 (.int .i64 (i:Nat)) a λa=>?_;(try simp only[Act.put,aT,aZ,aS]);refine J_ 5 33 (.pointer (some ⟨r1,i*18,none⟩)) a (λw V=>?_) λa=>?_
   ·exact k_ (gm_ r1 N cS i cu.o w)
   (try simp only[Act.put,aT,aZ,aS]);refine J_ 6 34 (.agg D) a (λw V=>?_) λa=>?_
   ·have q9:=run_loadAt_mid (P:=Tryz.prog) w r1 (i*18) 99 D.toList _ (cc.o w V.1) Tryz.underlying99 rfl (by rw[Array.length_toList];exact Q1.o);rw[Array.toArray_toList]at q9;exact k_ q9
   (try simp only[Act.put,aT,aZ,aS]);refine J_ 7 35 (.agg f) a (λw V=>?_) λa=>?_
   ·exact k_ (ap_ V.2 99 _ Tryz.underlying99 rfl Q8.o)
   (try simp only[Act.put,aT,aZ,aS]);refine tkC 8 λK hK=>?_;change Oper.wp _ ⟨some 36,_,_,_,_,_⟩ _ _ _ _;go_simp;refine (aq.o _).mono ?_;rintro e w4 ⟨rfl,bh⟩;have ah:=q_ (show Below wr.heap.size wr w4 from aa_ bh);clear bh aq;dsimp only;refine hK.out _ _ ⟨r.o.hb.trans (ah.o.mono r.o.hb.size),(ah.o.block (z+1) (b_ ac.o)).trans ac.o⟩ λa=>?_;clear hK K;(try simp only[Act.put,aT,aZ,aS]);refine⟨wpAnyH_done (by kernel_rfl) ?_ _⟩;clear a
   cases b with
   | false=>
    have cv:=q_ (show AtM w f ((l.take (k+1)).filter (gF T P)) S6 w4 from by rw[g_ HI.o,List.filter_append,List.filter_cons_of_neg (by rw[bf.o];exact Bool.false_ne_true),List.filter_nil,List.append_nil];exact r.o.on ah.o);go_wp2_with fail;go_roundw
    case rel=>exact⟨k+1,_,by omega,by first | rfl | go_num,rfl,cv⟩
    case measure=>simp[intOf];omega
   | true=>
    have bw:=q_ (r.o.on ah.o);have au:=q_ (show ((l.take k).filter (gF T P)).length<=65536 from by have h1:=List.length_filter_le (gF T P) (l.take k);have h2:=List.length_take_le k l;have h3:=b0.o;have h4:(l.take k).length<=l.length:=List.length_take_le' k l;omega);obtain⟨mm,av⟩:=a_ ((l.take k).filter (gF T P)).length;rw[av.o]at au;have cg:=q_ (show w4.ownsRow 0 3 1 S6 mm (ixC ((l.take k).filter (gF T P))) from by have:=bw.o.row.row;rwa [av.o]at this);go_wp2_with ((with_reducible refine e_ (some 40) ?_);refine wpList_plain rfl λK hK=>?_;refine o8_ (.tmp 37) (.tmp 39) rfl (k:=i) rfl av.o cg.o rfl (by have:=au.o;omega) (λg7 c7 w7 a6 a8 a0 Z=>hK _ _ ?_);clear hK K)
    have ba:=q_ (show AtM w f ((l.take (k+1)).filter (gF T P)) (.slice (some ⟨g7,0,none⟩) (mm+1) c7) w7 from by rw[g_ HI.o,List.filter_append,List.filter_cons_of_pos (by rw[bf.o]),List.filter_nil];exact bw.o.more av.o a8 a0 Z a6);clear a6 a8 a0 Z;go_wp2_with fail;go_roundw
    case rel=>exact⟨k+1,_,by omega,by first | rfl | go_num,rfl,ba⟩
    case measure=>simp[intOf];omega
  ·have cm:k=n:=by omega
   subst cm;have HA:=q_ (show AtM w f (l.filter (gF T P)) S6 wr from by have:=r.o;rwa [List.take_of_length_le (by rw[Hn.o];omega)]at this);have au:=q_ (show (l.filter (gF T P)).length<=100000000 from by have h1:=List.length_filter_le (gF T P) l;have h3:=b0.o;omega);have a2:¬(k:Int)<k:=by omega
   clear r hk U;go_wp2_with fail;refine (Bq_ HA.o.row.row au.o).mono ?_;rintro e6 w6 ⟨rfl,m,hp,hs,am,bd⟩;obtain⟨ae,bu⟩:=Fx_ ag.o hp hs;have cb:=q_ (j_ HA.o.hb bd (λb hb=>by have:=(HA.o.row.blk b hb).1;omega));have bj:=q_ (show df_ w.heap.size S6 m w6 from ⟨am,λb hb=>⟨(HA.o.row.blk b hb).1,Nat.lt_of_lt_of_le (HA.o.row.blk b hb).2 bd.size⟩⟩);have ch:=q_ bu;have cz:=q_ ae;have b9:=q_ (show m.length<=65536 from by have h1:=List.length_filter_le (bk_ P) T;rw[<-ae,s3_]at h1;exact Nat.le_trans h1 bp.o);clear hp hs am bd ae bu a2;obtain⟨A6,c6,rfl,_,_⟩:=id (bj.o.rd (F:=λ_=>True) (λ_ _ _=>trivial));have bn:=q_ (show vo_ w m (.slice A6 m.length c6) [] (.slice none 0 0) w6 from ⟨⟨cb.o,B_.nil ..⟩,bj.o⟩);obtain⟨AS,d4,rfl⟩:=vm_ (HR.o w (Below.refl _ _));obtain⟨N,HN⟩:=a_ T.length;obtain⟨mn,a1⟩:=a_ m.length;rw[HN.o]at HR HC;rw[a1.o]at bn b9 ⊢;go_wp2_with fail;go_loopw [9,46] (λs9 ck wx=>∃(k:Nat) (S9:Value),k<=mn/\ck = .int .i64 (k:Nat)/\S9=s9/\Q_ (vo_ w m (.slice A6 mn c6) ((Kof T m).take k) S9 wx)) (λ_ s _=>mn-(intOf s).toNat)
   case atStart=>exact⟨0,_,by omega,rfl,rfl,bn⟩
   case round=>
    obtain⟨k,S9,hk,rfl,rfl,r⟩:=hrel;by_cases U:k<mn
    ·have HK:=q_ U;obtain⟨i,hi⟩:∃i,m[k]?=some i:=⟨_,List.getElem?_eq_getElem (by rw[a1.o];exact U)⟩;have O:=ch.o i (List.mem_of_getElem? hi);obtain⟨t,ht⟩:∃t,T[i]?=some t:=⟨_,List.getElem?_eq_getElem O⟩;have HT:=q_ (zb_ hi ht);obtain⟨A',c4,X,_,a9⟩:=r.o.row.rd (F:=λ_=>True) (λ_ _ _=>trivial);injection X with X e2 e3;obtain⟨r2,o2,e4,_,hx⟩:=a9 (by rw[a1.o];omega);rw[<-X]at e4;subst e4;have b7:=hx k i hi;obtain⟨ad,ss,rfl,_,C,hq⟩:=pc_ (HR.o wr r.o.all.hb) ht;have cw:=HC.o wr r.o.all.hb;have bz:=q_ (λ(w:World) (F:Nat->Prop)=>(show TrS w F t (s_ t ss) from ⟨bl.o t (List.mem_of_getElem? ht),cl.o t (List.mem_of_getElem? ht),ss,C,rfl⟩));have I:=q_ (lr_ t ss);have ab:=xp_ (t:=t) C;rw[HN.o]at O;obtain⟨A0,q0,e0⟩:=C 0 (by omega);obtain⟨A1,q1,cn⟩:=C 1 (by omega);obtain⟨A2,q2,ca⟩:=C 2 (by omega);clear ht C a9 hx X e2 e3 hi;obtain⟨D,J⟩:=ah_ t ss;rw[J.o]at hq ab bz I;obtain⟨u0,az⟩:=H_ (t.get 0) (ss 0);obtain⟨u1,ar⟩:=H_ (t.get 1) (ss 1);obtain⟨u2,ai⟩:=H_ (t.get 2) (ss 2);rw[az.o,ar.o,ai.o]at I;have HQ:=q_ hq;have c5:=q_ ab;have Z1:=q_ J.size;have QP:=q_ (show (Tryz.prog.info? 99).map (·.size)=some D.size from by rw[Z1.o];kernel_rfl);have d0:=q_ (am_.trans (congrArg some az.size.symm));have cq:=q_ (am_.trans (congrArg some ar.size.symm));have d2:=q_ (am_.trans (congrArg some ai.size.symm));clear hq ab e0 cn ca;have a2:(k:Int)<mn:=by omega
     have a3:(0:Int)<=i:=by omega
     have a4:(i:Int)<N:=by omega
     have L:IntKind.i64.wrap ((k:Int)+1)=(k:Int)+1:=IntWalk.i64_in _ (by have:=b9.o;omega);obtain⟨zy,aw⟩:=a_ wr.heap.size;have a7:=q_ (show (wr.alloc (.cells #[.int .i64 0,.bool false,.int .i64 0,.string ⟨#[]⟩,.string ⟨#[]⟩,.slice none 0 0,.int .i64 0,.bool false,.int .i64 0,.string ⟨#[]⟩,.string ⟨#[]⟩,.slice none 0 0,.int .i64 0,.bool false,.int .i64 0,.string ⟨#[]⟩,.string ⟨#[]⟩,.slice none 0 0] 99)).heap[zy]?=some (.cells #[.int .i64 0,.bool false,.int .i64 0,.string ⟨#[]⟩,.string ⟨#[]⟩,.slice none 0 0,.int .i64 0,.bool false,.int .i64 0,.string ⟨#[]⟩,.string ⟨#[]⟩,.slice none 0 0,.int .i64 0,.bool false,.int .i64 0,.string ⟨#[]⟩,.string ⟨#[]⟩,.slice none 0 0] 99 (0,0)) from by rw[<-aw.o];exact heap_alloc_new wr _)
     go_upto_region 15 with (first
      | ((with_reducible refine e_ (some 48) ?_);refine ek_ rfl (.pointer (some ⟨r2,o2+k,none⟩)) (k_ (nf_ r2 o2 mn c6 k HK.o _)) ?_)
      | ((with_reducible refine e_ (some 56) ?_);refine nc_ rfl 99 _ rfl rfl D _ HQ.o Tryz.underlying99 rfl QP.o ?_)
      | ((with_reducible refine z_ 12 ?_);refine r_ rfl 99 _ _ rfl zy (#[.int .i64 0,.bool false,.int .i64 0,.string ⟨#[]⟩,.string ⟨#[]⟩,.slice none 0 0,.int .i64 0,.bool false,.int .i64 0,.string ⟨#[]⟩,.string ⟨#[]⟩,.slice none 0 0,.int .i64 0,.bool false,.int .i64 0,.string ⟨#[]⟩,.string ⟨#[]⟩,.slice none 0 0]) D 99 (by rw[<-aw.o];rfl) rfl a7.o Z1.o QP.o c5.o ?_;intro w5 c0 bs))
     rw[aw.o];have ci:=q_ (show Below wr.heap.size wr w5 from cn_ (by rw[aw.o];exact bs));have b3:=q_ c0;clear c0 bs HQ a7 b7 cw;have bx:=q_ (r.o.on ci.o);have cf:=q_ (λi (hi:i<u0.size)=>(show w5.cell? ((⟨zy,0,none⟩:Addr).add i)=u0[i]? from by rw[Addr.add_mid,cell_of_row w5 zy (0+i) D _ _ b3.o,<-az.o,<-J.o];exact D_ t ss 0 (by omega) i (by rwa [az.size]at hi)));have ct:=q_ (λi (hi:i<u1.size)=>(show w5.cell? ((⟨zy,6,none⟩:Addr).add i)=u1[i]? from by rw[Addr.add_mid,cell_of_row w5 zy (6+i) D _ _ b3.o,<-ar.o,<-J.o];exact D_ t ss 1 (by omega) i (by rwa [ar.size]at hi)));have cr:=q_ (λi (hi:i<u2.size)=>(show w5.cell? ((⟨zy,12,none⟩:Addr).add i)=u2[i]? from by rw[Addr.add_mid,cell_of_row w5 zy (12+i) D _ _ b3.o,<-ai.o,<-J.o];exact D_ t ss 2 (by omega) i (by rwa [ai.size]at hi)))
     go_wp2_with (first
      | ((with_reducible refine e_ (some 59) ?_);refine M_ (by rfl) 39 _ rfl rfl u0 _ cf.o Tryz.underlying39 rfl d0.o ?_)
      | ((with_reducible refine e_ (some 61) ?_);refine M_ (by rfl) 39 _ rfl rfl u1 _ ct.o Tryz.underlying39 rfl cq.o ?_)
      | ((with_reducible refine e_ (some 63) ?_);refine M_ (by rfl) 39 _ rfl rfl u2 _ cr.o Tryz.underlying39 rfl d2.o ?_)
      | ((with_reducible refine e_ (some 64) ?_);refine O_ rfl 41 _ rfl #[(0,.agg u0),(1,.agg u1),(2,.agg u2)] (by kernel_rfl) (.agg D) (I.o _) ?_)
      | ((with_reducible refine e_ (some 65) ?_);refine xr_ rfl 22 1 _ rfl #[(0,.agg D)] (by kernel_rfl) (.slice (some ⟨w5.heap.size,0,none⟩) 1 1) _ (ng_ D Z1.o w5) ?_)
      | ((with_reducible refine e_ (some 66) ?_);refine wpList_plain rfl λK hK=>?_;refine vl_ (.tmp 57) (.tmp 65) rfl rfl bx.o.all.own (show ((Kof T m).take k).length=k from by rw[List.length_take,s3_,a1.o];omega) rfl bz.o (by have:=b9.o;omega) (λb hb=>hb.2) (λg7 c7 w7 a6 a8 a0 Z=>hK _ _ ?_);clear hK K))
     have ba:=q_ (bx.o.more a8 a0 Z a6);clear a6 a8 a0 Z;go_wp2_with fail;go_roundw
     case rel=>exact⟨k+1,_,by omega,by go_num,rfl,q_ (by rw[g_ HT.o];exact ba.o)⟩
     case measure=>simp[intOf];omega
    ·have a2:¬(k:Int)<mn:=by omega
     have HE:=q_ (show mj_ (T.filter (bk_ P)) w (.returned S9) wr from ⟨S9,rfl,by have:=r.o.all.own;rw[List.take_of_length_le (by rw[s3_,a1.o];omega),cz.o]at this;exact this,r.o.all.hb⟩);go_wp2_with fail;go_ret;exact HE.o
def s9_ (n:Nat) (w:World) (e:Ending) (w':World):Prop:=e = .returned (.int .i64 (n:Nat))/\Below w.heap.size w w'
theorem Bu_ {F:Nat->Prop} {c:Nat} {T:List d_} {w:World} (h:en_ F w c T) (M:∀b,F b->b<w.heap.size) (P:d_) (ps:Nat->Value) (J:∀e,e<3->∃B cap,ps e = .slice B (P.get e).list.length cap) (U:∀n,ag_ (P.get n)) (D:F_ w) (I:as_ w) :
    Calls Tryz.prog 21 #[.pointer (some ⟨c,0,none⟩),.agg (s_ P ps)] w (s9_ (T.filter (bk_ P)).length w):=by
 have p:=q_ (λ(W:World) (hb:Below w.heap.size w W)=>rh_ (h.keep (w':=W) λb a=>hb.block b (M b a)) (λb a=>Nat.lt_of_lt_of_le (M b a) hb.size) P ps J U (f_ D hb) (n_ I hb));unfold mj_ at p;unfold s9_;obtain⟨n,X⟩:=a_ (T.filter (bk_ P)).length;rw[X.o];obtain⟨C,s⟩:=ah_ P ps;rw[s.o]at p ⊢;have Y:=q_ (show (Tryz.prog.info? 45).map (·.size)=some C.size from by rw[s.size];kernel_rfl);obtain⟨z,N⟩:=a_ w.heap.size;obtain⟨L,f⟩:=a_ (w.alloc (.cells C 45));have r:=q_ (show Below w.heap.size w L from by rw[<-f.o];exact (Below.refl _ _).alloc (Nat.le_refl _) _);have V:=q_ (show L.heap[z]?=some (.cells C 45 (0,0)) from by rw[<-f.o,<-N.o];exact heap_alloc_new w _);clear h M J U D I s;go_enter Tryz.func21,Tryz.ntmps21
 go_upto_region 1 with fail;rw[f.o,N.o];clear f;go_wp2_with ((with_reducible refine e_ (some 6) ?_);refine A_ rfl 45 _ rfl z 0 rfl C _ (p_ V.o) Tryz.underlying45 rfl Y.o ?_)
 refine (p.o L r.o).mono ?_;rintro Z w2 ⟨v,rfl,x,a⟩;obtain⟨A,cap,rfl⟩:=x.form;have O:=q_ (r.o.trans (a.mono r.o.size));clear x a p;rw[X.o];go_wp2_with fail;go_ret;exact⟨rfl,O.o⟩
structure RfM (w:World) (z:Nat) (c1 c2:Array Value) (wx:World):Prop where
 hb:Below w.heap.size w wx
 hp:wx.heap[z+2]?=some (.cells c2 39 (0,0))
 ht:wx.heap[z+3]?=some (.cells c1 39 (0,0))
theorem RfM.on {w wx w':World} {z:Nat} {b a:Array Value} (h:RfM w z b a wx) (hb:Below wx.heap.size wx w'):RfM w z b a w':=
 ⟨h.hb.trans (hb.mono h.hb.size),(hb.block _ (b_ h.hp)).trans h.hp,(hb.block _ (b_ h.ht)).trans h.ht⟩
theorem RfM.drew {w wx:World} {z:Nat} {b a:Array Value} (h:RfM w z b a wx):RfM w z b a wx.drew:=h.on (Below.refl _ _).drew
theorem Fy_ (ad:Addr) (n cap a:Nat) (f:a<n) (w:World):(Instr.indexAt 22 (.slice (some ad) n cap) (.int .i64 (a:Nat))).run Tryz.prog w = .ok (.pointer (some (ad.add (a*18)))) w:=by
 have e:(0:Int)<=a:=by omega
 have b:(a:Int)<n:=by omega
 go_simp
theorem TrS.cells {w:World} {F:Nat->Prop} {L:List d_} {A:Option Addr} {n:Nat} (h:SRd 18 TrS w F L A n) {k:Nat} {t:d_} (ht:L[k]?=some t) :
    ∃ad c,A=some ad/\F ad.block/\eg_ c t/\∀j,j<c.size->w.cell? ((ad.add (k*18)).add j)=c[j]?:=by
 obtain⟨ad,c,e,b,p,a,f⟩:=h.at_ ht;exact⟨ad,c,e,b,f.cellT,λj r=>by rw[add_of_add];exact a j (by omega)⟩
section
variable {K T:List d_} {i k:Nat} {t u:d_}
end
section
variable {P:Program} {T E:TypeId} {sz:Nat}
end
section
variable {α : Type} {E:TypeId} {sz:Nat} {R:α -> Array Value->Prop} {w wx w':World} {S v v':Value} {l nx:List α}
theorem b9_.cell {E:TypeId} (p:e5_ sz R) {A:Option Addr} {n cap:Nat} (h:b9_ E sz R w l (.slice A n cap)) (a:l.length=n) {k:Nat} {x:α} (r:l[k]?=some x) :
    ∃ad c,A=some ad/\ad.block<w.heap.size/\R x c/\∀j,j<c.size->w.cell? ((ad.add (k*sz)).add j)=c[j]?:=by
 obtain⟨ad,c,e,s,C,f,z⟩:=(h.rd p (F:=λb=>b<w.heap.size) (λb hb=>h.lt hb) a).at_ r;exact⟨ad,c,e,s,z,λj B=>by rw[add_of_add];exact f j (by omega)⟩
structure LdP (E:TypeId) (sz:Nat) (R:α -> Array Value->Prop) (w:World) (l:List α) (S:Value) (wx:World):Prop where
 hb:Below w.heap.size w wx
 own:b9_ E sz R wx l S
 ow:∀b,S.ownBlock=some b->w.heap.size<=b
theorem LdP.on (h:LdP E sz R w l S wx) (hb:Below wx.heap.size wx w'):LdP E sz R w l S w':=⟨h.hb.trans (hb.mono h.hb.size),h.own.on hb,h.ow⟩
theorem LdP.drew (h:LdP E sz R w l S wx):LdP E sz R w l S wx.drew:=h.on (Below.refl _ _).drew
theorem LdP.start (w:World):LdP E sz R w [] (.slice none 0 0) w:=⟨Below.refl _ _,b9_.nil ..,λb h=>by cases h⟩
structure InP (E:TypeId) (sz:Nat) (R:α -> Array Value->Prop) (w:World) (l:List α) (S:Value) (nx:List α) (v:Value) (wx:World):Prop where
 l:LdP E sz R w l S wx
 n:LdP E sz R w nx v wx
 ne:∀b,v.ownBlock=some b->S.ownBlock≠some b
theorem InP.start (h:LdP E sz R w l S wx):InP E sz R w l S [] (.slice none 0 0) wx:=⟨h,⟨h.hb,b9_.nil ..,λb h=>by cases h⟩,λb h=>by cases h⟩
theorem InP.on (h:InP E sz R w l S nx v wx) (hb:Below wx.heap.size wx w'):InP E sz R w l S nx v w':=⟨h.l.on hb,h.n.on hb,h.ne⟩
theorem InP.app {a:List α} (h:InP E sz R w l S nx v wx) (r:b9_ E sz R w' (nx++a) v') (p:wx.grownBy w' v.ownBlock) (f:v'.ownBlock=v.ownBlock\/v'.ownBlock=some wx.heap.size):InP E sz R w l S (nx++a) v' w':=by
 have ht:=Turn.of_grown p;have hb:Below w.heap.size w w':=mh_ h.l.hb ht (λb hb=>h.n.ow b hb.symm);refine⟨⟨hb,h.l.own.turn ht (λb h1 h2=>h.ne b h2.symm h1),h.l.ow⟩,⟨hb,r,λb hb=>?_⟩,λb hb=>?_⟩
 ·rcases f with e | e
  ·rw[e]at hb;exact h.n.ow b hb
  ·rw[e]at hb;injection hb with hb;rw[<-hb];exact h.l.hb.size
 ·rcases f with e | e
  ·rw[e]at hb;exact h.ne b hb
  ·rw[e]at hb;injection hb with hb;intro h2;have:=h.l.own.lt h2;omega
theorem InP.done (h:InP E sz R w l S nx v wx):LdP E sz R w nx v wx:=h.n
end
section
variable {α : Type} {o:α -> α -> Int} {l:List α} {y:α} {k:Nat}
end
theorem fl_:e5_ 18 (λ(t:d_) c=>eg_ c t):=⟨λh=>h.size,fun {x c} h u p=>by
 obtain⟨_,ss,f,rfl⟩:=h;exact b0_ x ss (λq b=>by obtain⟨A,a,e⟩:=f q b;exact⟨A,0,a,e⟩) u p⟩
theorem SRd.imp {α : Type} {R R':bj_ α} {sz:Nat} {w:World} {F F':Nat->Prop} {l:List α} {A:Option Addr} {n:Nat} (h:SRd sz R w F l A n) (B:∀b,F b->F' b) (a:∀x c,R w F x c->R' w F' x c):SRd sz R' w F' l A n:=
 ⟨h.1,λr=>by
  obtain⟨ad,e,p,s⟩:=h.2 r;refine⟨ad,e,B _ p,λi x z=>?_⟩;obtain⟨c,h1,h2,f⟩:=s i x z;exact⟨c,h1,h2,a x c f⟩⟩
theorem eg_.trR {c:Array Value} {t:d_} (h:eg_ c t) (w:World) (F:Nat->Prop):TrR w F t c:=by obtain⟨a,ss,b,rfl⟩:=h;refine⟨ss,rfl,λn f=>?_⟩;obtain⟨A,cap,e⟩:=b n f;rw[e];exact I6_ w F (a n).list A cap
end
section
open Go
def nmV (x:ByteArray):h_:=.mk 0 false 0 x ⟨#[]⟩ []
theorem fits_names (a b c:ByteArray) (t:d_):bk_ ⟨nmV a,nmV b,nmV c⟩ t=true↔(b≠⟨#[]⟩->a=b->t.get 1=t.get 0)/\(c≠⟨#[]⟩->a=c->t.get 2=t.get 0)/\(c≠⟨#[]⟩->b=c->t.get 2=t.get 1):=by
 rw[pa_];constructor
 ·intro h;exact⟨λh1 h2=>(h 1 (by omega)).2 rfl 0 (by omega) rfl h1 h2,λh1 h2=>(h 2 (by omega)).2 rfl 0 (by omega) rfl h1 h2,λh1 h2=>(h 2 (by omega)).2 rfl 1 (by omega) rfl h1 h2⟩
 ·rintro⟨h1,h2,r⟩ i hi;rcases (show i=0\/i=1\/i=2 by omega) with rfl | rfl | rfl
  ·exact⟨λh=>absurd rfl h,λ_ k p=>absurd p (by omega)⟩
  ·refine⟨λh=>absurd rfl h,λ_ k p _ f e=>?_⟩;obtain rfl:k=0:=by omega
   exact h1 f e
  ·refine⟨λh=>absurd rfl h,λ_ k p _ f e=>?_⟩;rcases (show k=0\/k=1 by omega) with rfl | rfl
   ·exact h2 f e
   ·exact r f e
theorem Bv_ {a b c:ByteArray} (h1:b=⟨#[]⟩\/a≠b) (h2:c=⟨#[]⟩\/a≠c) (p:c=⟨#[]⟩\/b≠c) (T:List d_):T.filter (bk_ ⟨nmV a,nmV b,nmV c⟩)=T:=by rw[List.filter_eq_self];intro t _;rw[fits_names];exact⟨λf e=>by rcases h1 with h | h<;>contradiction,λf e=>by rcases h2 with h | h<;>contradiction,λf e=>by rcases p with h | h<;>contradiction⟩
end
section
open Go Go.RowKit Go.Maps
noncomputable def go_ (L M:List d_):Bool:=by classical exact decide (L=M)
theorem gp_ {L M:List d_}:go_ L M=true↔L=M:=by unfold go_;simp
theorem ri_ {L M:List d_} (h:L≠M):go_ L M=false:=by
 cases e:go_ L M with
 | false=>rfl
 | true=>exact absurd (gp_.1 e) h
theorem Bw_ {L M:List d_} {n:Nat} (h1:L.length=n) (h2:M.length=n) (h:∀m,m<n->L[m]?=M[m]?):L=M:=List.ext_getElem? λm=>by
 by_cases a:m<n
 ·exact h m a
 ·rw[List.getElem?_eq_none (by omega),List.getElem?_eq_none (by omega)]
theorem vp_ {F G:Nat->Prop} {w:World} {L M:List d_} {A B:Option Addr} {n m ca cb:Nat} (h1:SRd 18 TrR w F L A n) (h2:SRd 18 TrR w G M B m) (hF:∀b,F b->b<w.heap.size) (hG:∀b,G b->b<w.heap.size) (hn:n<=1000000000)
    (a7:∀t,t∈L->∀i,ab_ (t.get i).list<=999999999):Calls Tryz.prog 14 #[.slice A n ca,.slice B m cb] w (u_ (go_ L M) w):=by
 have H1:=q_ h1;have H2:=q_ h2;have HF:=q_ hF;have HG:=q_ hG;have aa:=q_ a7;have L1:=q_ h1.1;have L2:=q_ h2.1;have HN:=q_ hn;clear h1 h2 hF hG a7;by_cases a4:n=m
 ·subst a4;obtain⟨r,Hr⟩:=a_ (go_ L M);rw[Hr.o];go_enter Tryz.func14,Tryz.ntmps14
  go_wp2_with fail;go_loopw [5] (λs5 wx=>∃i:Nat,i<=n/\s5 = .int .i64 (i:Nat)/\Q_ (Below w.heap.size w wx/\∀m,m<i->L[m]?=M[m]?)) (λs5 _=>n-(intOf s5).toNat)
  case atStart=>exact⟨0,by omega,rfl,q_ ⟨Below.refl _ _,λm hm=>absurd hm (by omega)⟩⟩
  case round=>
   obtain⟨i,hi,rfl,X⟩:=hrel;by_cases O:i<n
   ·have a1:(0:Int)<=i:=by omega
    have a2:(i:Int)<n:=by omega
    have w1:IntKind.i64.wrap ((i:Int)+1)=(i:Int)+1:=IntWalk.i64_in _ (by omega);obtain⟨t,ht⟩:∃t,L[i]?=some t:=⟨_,List.getElem?_eq_getElem (by rw[<-L1.o];exact O)⟩;obtain⟨u,hu⟩:∃u,M[i]?=some u:=⟨_,List.getElem?_eq_getElem (by rw[<-L2.o];exact O)⟩;obtain⟨C,s1,rfl,a0,U,a5⟩:=TrR.cells H1.o ht;obtain⟨D,s2,rfl,a3,J,a8⟩:=TrR.cells H2.o hu;have HT:=q_ ht;have HU:=q_ hu;have s:=λ(W:World) (hb:Below w.heap.size w W)=>Fv_ (a:=t) (b:=u) (sa:=s1) (sb:=s2) (F:=F) (G:=G) (λq _=>aa.o t (List.mem_of_getElem? ht) q) W (λg h=>Nat.lt_of_lt_of_le (HF.o g h) hb.size) (λg h=>Nat.lt_of_lt_of_le (HG.o g h) hb.size) (λq V=>(a5 q V).under hb HF.o) (λq V=>(a8 q V).under hb HG.o);unfold u_ at s;obtain⟨ct,a6⟩:=ah_ t s1;obtain⟨cu,Z⟩:=ah_ u s2;rw[a6.o]at U s;rw[Z.o]at J s;obtain⟨b,Hb⟩:=a_ (rg_ t u);rw[Hb.o]at s;have a9:=q_ s;have ac:=q_ (λ(W:World) (hb:Below w.heap.size w W) (j:Nat) (hj:j<ct.size)=>(hb.cell (p:=(C.add (i*18)).add j) (by rw[a3_,a3_];exact HF.o _ a0)).trans (U j hj));have ab:=q_ (λ(W:World) (hb:Below w.heap.size w W) (j:Nat) (hj:j<cu.size)=>(hb.cell (p:=(D.add (i*18)).add j) (by rw[a3_,a3_];exact HG.o _ a3)).trans (J j hj));have I1:=q_ (gj_.trans (congrArg some a6.size.symm));have I2:=q_ (gj_.trans (congrArg some Z.size.symm));have Y:=q_ O;clear ht hu a0 a3 U J a5 a8 s;go_upto_region 6 with fail;refine wp_region_held_drew (S:=λW'=>Below w.heap.size w W') (by kernel_rfl) X.o.1.drew λf=>?_;refine V_.o ?_;refine v_ 0 17 (.slice (some C) n ca) f λf=>?_;(try simp only[Act.put,aT,aZ,aS]);refine v_ 1 18 (.int .i64 (i:Nat)) f λf=>?_;(try simp only[Act.put,aT,aZ,aS]);refine J_ 2 19 (.pointer (some (C.add (i*18)))) f (λw z=>?_) λf=>?_
    ·exact k_ (Fy_ C n ca i Y.o w)
    (try simp only[Act.put,aT,aZ,aS]);refine J_ 3 20 (.agg ct) f (λw z=>?_) λf=>?_
    ·have p:=bu_ w (C.add (i*18)) 41 ct _ (ac.o _ z) Tryz.underlying41 rfl I1.o;exact k_ (by simp only[Instr.loadAt,Instr.sureAddr,Sem.run_bind];exact p)
    (try simp only[Act.put,aT,aZ,aS]);refine v_ 4 21 (.slice (some D) n cb) f λf=>?_;(try simp only[Act.put,aT,aZ,aS]);refine v_ 5 22 (.int .i64 (i:Nat)) f λf=>?_;(try simp only[Act.put,aT,aZ,aS]);refine J_ 6 23 (.pointer (some (D.add (i*18)))) f (λw z=>?_) λf=>?_
    ·exact k_ (Fy_ D n cb i Y.o w)
    (try simp only[Act.put,aT,aZ,aS]);refine J_ 7 24 (.agg cu) f (λw z=>?_) λf=>?_
    ·have p:=bu_ w (D.add (i*18)) 41 cu _ (ab.o _ z) Tryz.underlying41 rfl I2.o;exact k_ (by simp only[Instr.loadAt,Instr.sureAddr,Sem.run_bind];exact p)
    (try simp only[Act.put,aT,aZ,aS]);refine tkC 8 λK hK=>?_;change Oper.wp _ ⟨some 25,_,_,_,_,_⟩ _ _ _ _;go_simp;refine (a9.o _ f).mono ?_;rintro e x ⟨rfl,hb⟩;have HX:=q_ (f.trans (hb.mono f.size));clear hb;dsimp only;refine hK.out _ _ HX.o λf=>?_;clear hK K;(try simp only[Act.put,aT,aZ,aS])
    cases b with
    | false=>
     refine v_ 9 26 (.bool true) f λf=>?_;(try simp only[Act.put,aT,aZ,aS]);refine⟨wpAnyH_done (by kernel_rfl) ?_ _⟩
     have I:=q_ (show go_ L M=false from ri_ λe=>by
      have h1:=HT.o;rw[e,HU.o]at h1;injection h1 with h1;have h2:=Hb.o;rw[h1,xt_]at h2
      cases h2)
     have N:=q_ f;clear f;go_wp2_with fail;go_ret;exact⟨congrArg (λb=>Ending.returned (Value.bool b)) (I.o.symm.trans Hr.o),N.o⟩
    | true=>
     refine v_ 9 26 (.bool false) f λf=>?_;(try simp only[Act.put,aT,aZ,aS]);refine⟨wpAnyH_done (by kernel_rfl) ?_ _⟩;have N:=q_ f;clear f;go_wp2_with fail;go_roundw
     case rel=>exact⟨i+1,by omega,by go_num,q_ ⟨N.o,λm hm=>by
      by_cases e:m=i
      ·subst e;rw[HT.o,HU.o,vn_.1 Hb.o]
      ·exact X.o.2 m (by omega)⟩⟩
     case measure=>simp[intOf];omega
   ·have a2:¬(i:Int)<n:=by omega
    have I:=q_ (show go_ L M=true from gp_.2 (Bw_ (n:=n) L1.o.symm L2.o.symm λq V=>X.o.2 q (by omega)));have N:=q_ X.o.1;go_wp2_with fail;go_ret;exact⟨congrArg (λb=>Ending.returned (Value.bool b)) (I.o.symm.trans Hr.o),N.o⟩
 ·have I:=q_ (show go_ L M=false from ri_ λe=>a4 (by rw[L1.o,L2.o,e]));have ad:¬(n:Int)=m:=by omega
  rw[I.o];go_enter Tryz.func14,Tryz.ntmps14
  go_wp2_with fail;go_ret;exact⟨rfl,Below.refl _ _⟩
theorem Fz_ {t:d_} (h:bn_ t) (a:∀n,ag_ (t.get n)):I7_ t:=λn=>⟨cm_ (h.get n),a n,by have:=(h.get n).2.1;omega⟩
abbrev CTx:d_->Array Value->Prop:=λt c=>eg_ c t
theorem xw_ {w:World} {F:Nat->Prop} {T:List d_} {v:Value} (h:B_ 41 18 TrS w F T v):∃A cap,v = .slice A T.length cap/\SRd 18 (ofP CTx) w F T A T.length:=by obtain⟨A,cap,e,_,f⟩:=h.rd TrS.good;exact⟨A,cap,e,f.imp (λ_ h=>h) λt c ⟨h1,h2,ss,b,a⟩=>⟨Fz_ h1 h2,ss,b,a⟩⟩
theorem Kd_ {w:World} {F:Nat->Prop} {T:List d_} {A:Option Addr} {n:Nat} (h:SRd 18 (ofP CTx) w F T A n):SRd 18 TrR w F T A n:=h.imp (λ_ h=>h) λ_ _ h=>eg_.trR h w F
theorem F0_ {α : Type} (o:α -> α -> Int) (l:List α) (v:α):(qb_ o l v).length<=l.length+1:=by
 unfold qb_;simp only;split
 ·omega
 ·rw[List.length_append,List.length_cons,List.length_take,List.length_drop];omega
theorem ls_ {α : Type} (o:α -> α -> Int) (l:List α):(ba_ o l).length<=l.length:=by
 unfold ba_;suffices h:∀(l a:List α),(l.foldl (qb_ o) a).length<=a.length+l.length by have:=h l [];simpa using this
 intro l;induction l with
 | nil=>intro a;simp
 | cons x r b=>
  intro a;rw[List.foldl_cons];have h1:=b (qb_ o a x);have h2:=F0_ o a x;rw[List.length_cons];omega
def WkS (K:List d_) (w:Way) (c:fd_) (wt:d_) (G:List d_) (a:Bool) (st k:Nat):Prop:=
 (K.length=0/\c=⟨[],false⟩/\a=true/\G=[]/\st=0/\k=500)\/(∃m d,a=true/\WkA K w m d c wt G/\st<=L6_ m d/\k+L6_ m d=500)\/(∃m d,a=false/\WkB K w m d c wt G/\st<=L7_ m d/\k+L7_ m d=500)
section
variable {T K:List d_} {w:Way} {m d st k:Nat} {c:fd_} {wt:d_} {G:List d_}
theorem WkB.keyV (e:gz_ T K w) (f:∀t,t∈T->∀n,ag_ (t.get n)) (h:WkB K w m d c wt G):Bs_ (wt.get d):=by have p:=h.len;obtain⟨s,b⟩:∃s,K[m]?=some s:=⟨_,List.getElem?_eq_getElem p.2.2⟩;rw[h.2.1 s b d (by omega)];have a:=(e.mem s).1 (List.mem_of_getElem? b);exact s7_ (e.scal s a) (f s a) _
theorem WkS.start (wt:d_) (K:List d_) (w:Way):WkS K w ⟨[],false⟩ wt [] true 0 500:=by
 rcases Nat.eq_zero_or_pos K.length with h | h
 ·exact .inl ⟨h,rfl,rfl,rfl,rfl,rfl⟩
 ·exact .inr (.inl ⟨0,0,rfl,WkA.start h wt,Nat.zero_le _,rfl⟩)
end
structure WkM (F:Nat->Prop) (w0:World) (q zw j:Nat) (T:List d_) (c:fd_) (wt:d_) (sw:Nat->Value) (G:List d_) (S:Value) (wx:World):Prop where
 b:Below w0.heap.size w0 wx
 cur:hp_ F wx q j T c
 way:wx.heap[zw]?=some (.cells (s_ wt sw) 98 (0,0))
 own:B_ 41 18 TrS wx (λb=>zw<b/\b<wx.heap.size) G S
 sl:∀i,i<3->∃A cap,sw i = .slice A 0 cap
 q0:w0.heap.size<=q
 qz:q<zw
 fz:∀b,F b->b<w0.heap.size
section
variable {F:Nat->Prop} {w0 wx w':World} {q zw j:Nat} {T:List d_} {c c':fd_} {wt:d_} {sw:Nat->Value} {G:List d_} {S:Value}
theorem WkM.on (h:WkM F w0 q zw j T c wt sw G S wx) (hb:Below wx.heap.size wx w'):WkM F w0 q zw j T c wt sw G S w':=
 ⟨h.b.trans (hb.mono h.b.size),h.cur.on hb,(hb.block zw (b_ h.way)).trans h.way,(h.own.turn TrS.good (Turn.of_below hb) (λb hb=>hb.2) (λb hb=>λe=>by have e:wx.heap.size<=b:=e;have:=hb.2;omega)).mono TrS.good λb h1=>⟨h1.1,Nat.lt_of_lt_of_le h1.2 hb.size⟩,h.sl,h.q0,h.qz,h.fz⟩
theorem WkM.drew (h:WkM F w0 q zw j T c wt sw G S wx):WkM F w0 q zw j T c wt sw G S wx.drew:=h.on (Below.refl _ _).drew
theorem WkM.more {g cap n:Nat} {t:d_} (h:WkM F w0 q zw j T c wt sw G S wx) (f:wx.grownBy w' S.ownBlock) (x:S.ownBlock=some g\/wx.heap.size<=g) (p:g<w'.heap.size)
    (r:B_ 41 18 TrS w' (λb=>(zw<b/\b<wx.heap.size)\/b=g) (G++[t]) (.slice (some ⟨g,0,none⟩) n cap)):WkM F w0 q zw j T c wt sw (G++[t]) (.slice (some ⟨g,0,none⟩) n cap) w':=by
 have a:∀b,S.ownBlock=some b->zw<b/\b<wx.heap.size:=λb hb=>by
  obtain⟨_,_,_,s,_⟩:=h.own;exact s b hb
 have ht:=Turn.of_grown f;refine⟨j_ h.b ht (λb hb=>by have:=a b hb.symm;have:=h.q0;have:=h.qz;omega),h.cur.turn ht (λb hb e=>by have:=a b e.symm;have:=h.fz b hb;have:=h.q0;have:=h.qz;omega) (λe=>by have:=a q e.symm;have:=h.qz;omega),ht.heap h.way (λe=>by have:=a zw e.symm;omega),r.mono TrS.good λb hb=>?_,h.sl,h.q0,h.qz,h.fz⟩;rcases hb with hb | rfl
 ·exact⟨hb.1,Nat.lt_of_lt_of_le hb.2 f.size⟩
 ·refine⟨?_,p⟩;rcases x with h1 | h1
  ·exact (a _ h1).1
  ·have:=b_ h.way;omega
end
structure CpM (w:World) (L:List d_) (S:Value) (wx:World):Prop where
 hb:Below w.heap.size w wx
 own:B_ 41 18 TrR wx (λb=>w.heap.size<=b/\b<wx.heap.size) L S
theorem CpM.on {w wx w':World} {L:List d_} {S:Value} (h:CpM w L S wx) (hb:Below wx.heap.size wx w'):CpM w L S w':=
 ⟨h.hb.trans (hb.mono h.hb.size),(h.own.turn TrR.good (Turn.of_below hb) (λb hb=>hb.2) (λb hb=>λe=>by have e:wx.heap.size<=b:=e;have:=hb.2;omega)).mono TrR.good λb h1=>⟨h1.1,Nat.lt_of_lt_of_le h1.2 hb.size⟩⟩
theorem CpM.drew {w wx:World} {L:List d_} {S:Value} (h:CpM w L S wx):CpM w L S wx.drew:=h.on (Below.refl _ _).drew
theorem CpM.lt {w wx:World} {L:List d_} {S:Value} (h:CpM w L S wx) {b:Nat} (hb:S.ownBlock=some b):w.heap.size<=b/\b<wx.heap.size:=by obtain⟨_,_,_,a,_⟩:=h.own;exact a b hb
theorem CpM.more {w wr w':World} {g cap n:Nat} {S:Value} {L:List d_} {t:d_} {G:Nat->Prop} (h:CpM w L S wr) (a:wr.grownBy w' S.ownBlock) (r:S.ownBlock=some g\/wr.heap.size<=g) (e:g<w'.heap.size) (f:∀b,G b->w.heap.size<=b/\b<wr.heap.size)
    (p:B_ 41 18 TrR w' (λb=>(w.heap.size<=b/\b<wr.heap.size)\/G b\/b=g) (L++[t]) (.slice (some ⟨g,0,none⟩) n cap)):CpM w (L++[t]) (.slice (some ⟨g,0,none⟩) n cap) w':=by
 refine⟨j_ h.hb (Turn.of_grown a) (λb hb=>(h.lt hb.symm).1),p.mono TrR.good λb hb=>?_⟩;rcases hb with hb | hb | rfl
 ·exact⟨hb.1,Nat.lt_of_lt_of_le hb.2 a.size⟩
 ·exact⟨(f b hb).1,Nat.lt_of_lt_of_le (f b hb).2 a.size⟩
 ·refine⟨?_,e⟩;rcases r with h1 | h1
  ·exact (h.lt h1).1
  ·exact Nat.le_trans h.hb.size h1
theorem qh_ {w:World} {E sz g n cap k:Nat} {cs:Nat->Array Value} {c:Array Value} (h:w.ownsRow 0 E sz (.slice (some ⟨g,0,none⟩) n cap) n (N_ cs n)) (O:∀i,i<n->(cs i).size=sz) (Z:k<n) (N:c.size=sz) :
    (w.setCells g (k*sz) c.toList).ownsRow 0 E sz (.slice (some ⟨g,0,none⟩) n cap) n (N_ (λi=>if i=k then c else cs i) n):=by
 have p:∀i,i<n->((λi=>if i=k then c else cs i) i).size=sz:=λi hi=>by
  dsimp only;split
  ·exact N
  ·exact O i hi
 rcases h.2 with⟨h0,_⟩ | ⟨g',Y,B,h0,hb,X,C,U,D,z⟩
 ·simp at h0
 ·simp only[Value.slice.injEq,Option.some.injEq,Addr.mk.injEq,and_true,true_and]at h0;obtain⟨rfl,rfl⟩:=h0;obtain⟨L,h1,h2,W⟩:=gg_ c.toList (k*sz) X;refine⟨by rw[ad_ p],.inr ⟨g,cap,L,rfl,hb,h1,C,U,by rw[h2];exact D,?_⟩⟩;have V:n*sz<=B.size:=Nat.le_trans (Nat.mul_le_mul_right sz C) (by rw[D];exact Nat.le_refl _);refine List.ext_getElem? λj=>?_;by_cases I:j<n*sz
  ·rcases Nat.eq_zero_or_pos sz with A | A
   ·subst A;omega
   ·have hi:j / sz<n:=(Nat.div_lt_iff_lt_mul A).2 I;have J:j % sz<sz:=Nat.mod_lt _ A;have e:j=(j / sz)*sz+j % sz:=by rw[Nat.mul_comm];exact (Nat.div_add_mod j sz).symm
    have f:(B.toList.take (n*sz))[j]?=(N_ cs n)[j]?:=by rw[z]
    rw[List.getElem?_take_of_lt I,Array.getElem?_toList]at f;rw[List.getElem?_take_of_lt I,Array.getElem?_toList,W j,Array.length_toList,N];obtain⟨a,M⟩:∃a,a=j / sz:=⟨_,rfl⟩;obtain⟨b,r⟩:∃b,b=j % sz:=⟨_,rfl⟩;rw[<-M,<-r]at e;rw[<-M]at hi;rw[<-r]at J;clear M r;subst e;rw[bt_ p hi J];by_cases x:a=k
    ·subst x;rw[if_pos ⟨by omega,by omega,by omega⟩,if_pos rfl,Nat.add_sub_cancel_left,Array.getElem?_toList]
    ·rw[if_neg x,if_neg,f,bt_ O hi J];rintro⟨q1,q2,_⟩;rcases Nat.lt_or_gt_of_ne x with s | s
     ·have:=Nat.mul_le_mul_right sz (show a+1<=k from s);rw[Nat.succ_mul]at this;omega
     ·have:=Nat.mul_le_mul_right sz (show k+1<=a from s);rw[Nat.succ_mul]at this;omega
  ·rw[List.getElem?_eq_none (by rw[List.length_take,Array.length_toList];omega),List.getElem?_eq_none (by rw[ad_ p];omega)]
section
variable {α : Type} {E:TypeId} {sz:Nat} {R:α -> Array Value->Prop} {w w':World} {l:List α} {g n cap:Nat}
theorem hq_ {c:Array Value} (h:∀u∈c.toList,u.oneCell'=true):c.all (·.oneCell')=true:=by rw[<-Array.toArray_toList (xs:=c)];exact all_oneCell_toArray h
theorem b9_.set (p:e5_ sz R) (h:b9_ E sz R w l (.slice (some ⟨g,0,none⟩) n cap)) (z:l.length=n) {k:Nat} (f:k<n) {x:α} {c:Array Value} (r:R x c) :
    b9_ E sz R (w.setCells g (k*sz) c.toList) (l.set k x) (.slice (some ⟨g,0,none⟩) n cap):=by
 obtain⟨cs,b,s⟩:=h;subst z;have A:∀i,i<l.length->(cs i).size=sz:=λi hi=>p.size (s i _ (List.getElem?_eq_getElem hi));refine⟨λi=>if i=k then c else cs i,?_,λi y a=>?_⟩
 ·rw[List.length_set];exact qh_ b A f (p.size r)
 ·dsimp only;rw[List.getElem?_set]at a;by_cases e:k=i
  ·subst e;rw[if_pos rfl,if_pos f]at a;injection a with a;subst a;rw[if_pos rfl];exact r
  ·rw[if_neg e]at a;rw[if_neg (λh=>e h.symm)];exact s i y a
end
end
end Go.Proofs.YtefhfadjajcmkaaGreatDoor
