/- What Load lays into memory: the store, its triples, its six rows of numbers. -/
import Derived.Test.YtefhfadjajcmkaaGreatDoorHA
import Derived.Test.YtefhfadjajcmkaaGreatDoorGV
set_option linter.unusedVariables false
set_option linter.unusedSimpArgs false
set_option maxRecDepth 100000
set_option maxHeartbeats 64000000
namespace Go.Proofs.YtefhfadjajcmkaaGreatDoor
open Go.Lib (cell_of_heap)
section
open Go Go.RowKit Go.Shelf Go.Lib Go.Sort Go.Proofs
def vd_:bi_ h_:=λ_ _ v c=>Y_ v/\a9_ v/\∃A cap,c=c_ v (.slice A 0 cap)
theorem vd_.good:vd_.Good:=⟨λh _=>h,λh _=>h⟩
structure ItV where
 v:h_
 s:Value
 sc:Y_ v
 fit:a9_ v
 sl:∃A cap,s = .slice A 0 cap
instance:Inhabited ItV:=⟨⟨u7_,.slice none 0 0,i7_,u8_,⟨none,0,rfl⟩⟩⟩
def ve_ (x:ItV):List Value:=(c_ x.v x.s).toList
theorem E4_ (x:ItV):(ve_ x).length=6:=rfl
theorem vf_ (x:ItV):(ve_ x).toArray=c_ x.v x.s:=by unfold ve_;rw[Array.toArray_toList]
theorem vg_ (x:ItV):∀v∈ve_ x,v.oneCell'=true:=by obtain⟨A,cap,e⟩:=x.sl;intro v d;unfold ve_ c_ at d;rw[e]at d;simp only[List.mem_cons,List.not_mem_nil,or_false]at d;rcases d with rfl | rfl | rfl | rfl | rfl | rfl<;>rfl
theorem it6 {w:World} {F:Nat->Prop} {x:h_} {c:Array Value} (h:vd_ w F x c):∃d:ItV,ve_ d=c.toList/\d.v=x:=by obtain⟨h1,e,A,cap,rfl⟩:=h;exact⟨⟨x,.slice A 0 cap,h1,e,⟨A,cap,rfl⟩⟩,rfl,rfl⟩
theorem A5_ (a b:h_) (A:Y_ a) (sa sb:Value) (w:World) (C:a9_ a) (B:a9_ b) (q:M_ w) (x:bc_ w) :
    Calls Tryz.prog 67 #[.agg (c_ a sa),.agg (c_ b sb)] w λe w'=>e = .returned (.int .i64 (G_ a b))/\Below w.heap.size w w':=by
 have g:=λ(W:World) (hb:Below w.heap.size w W)=>uw_ a b sa sb W A.2.1 C B (g_ q hb) (p_ x hb);unfold b4_ at g;obtain⟨r,D⟩:=a_ (G_ a b);rw[D.o]at g ⊢;obtain⟨c,u⟩:=F_ a sa;obtain⟨d,t⟩:=F_ b sb;rw[u.o,t.o]at g ⊢;have m:=q_ g;clear g;obtain⟨z,s⟩:=a_ w.heap.size;obtain⟨y,k⟩:=a_ (w.heap.size+1);obtain⟨j,f⟩:=a_ ((w.alloc (.cells c 39)).alloc (.cells d 39));have i:=q_ (show Below w.heap.size w j from by rw[<-f.o];exact ((Below.refl w.heap.size w).alloc (Nat.le_refl _) _).alloc (by simp) _);have v:=q_ (show j.heap[z]?=some (.cells c 39 (0,0)) from by rw[<-f.o,<-s.o,heap_alloc_old _ _ (by simp)];exact heap_alloc_new w _);have l:=q_ (show j.heap[y]?=some (.cells d 39 (0,0)) from by rw[<-f.o,<-k.o];have h:=heap_alloc_new (w.alloc (.cells c 39)) (.cells d 39);rwa [show (w.alloc (.cells c 39)).heap.size=w.heap.size+1 from by simp]at h);have F:=q_ (show (Tryz.prog.info? 39).map (·.size)=some c.size from cs_.trans (congrArg some u.size.symm));have E:=q_ (show (Tryz.prog.info? 39).map (·.size)=some d.size from cs_.trans (congrArg some t.size.symm));go_enter Tryz.func67,Tryz.ntmps67
 go_upto_region 1 with fail;rw[f.o,k.o,s.o];clear f
 go_wp2_with (first
  | ((with_reducible refine e_ (some 5) ?_);refine w_ rfl 39 _ rfl z 0 rfl c _ (k_ v.o) Tryz.underlying39 rfl F.o ?_)
  | ((with_reducible refine e_ (some 6) ?_);refine w_ rfl 39 _ rfl y 0 rfl d _ (k_ l.o) Tryz.underlying39 rfl E.o ?_))
 refine (m.o j i.o).mono ?_;rintro e w2 ⟨rfl,hb⟩;have p:=q_ (i.o.trans (hb.mono i.o.size));clear hb;go_wp2_with fail;go_ret;exact⟨rfl,p.o⟩
theorem A6_ (w0:World) {w:World} {F:Nat->Prop} {l:List h_} {s:Value} (h:x_ 39 6 vd_ w F l s) (f:l.length<=100000000) (o:∀b,F b->b<w.heap.size)
    (hb:Below w0.heap.size w0 w) (i:∀b,s.ownBlock=some b->w0.heap.size<=b) (j:M_ w0) (k:bc_ w0) :
    Calls Tryz.prog 66 #[s,.func (.func 67) #[] #[]] w λe w'=>e = .returned (.tuple #[])/\∃g:List h_,g.Perm l/\g.Pairwise (λa b=>¬G_ b a<0)/\x_ 39 6 vd_ w' F g s/\Turn (λb=>s.ownBlock=some b) w w':=by
 refine rc_ Tryz.sortV vd_.good (by decide) Tryz.isAgg39 Tryz.sizeOf39 ve_ ItV.v E4_ vg_ it6 G_ (s2_ el_ ItV.v) 67 #[] (enters_of Tryz.func67 (by kernel_rfl) rfl) (λx y V m=>?_) h f o;rw[vf_,vf_];have d:=j_ hb m i;exact A5_ x.v y.v x.sc x.s y.s V x.fit y.fit (g_ j d) (p_ k d)
theorem nq_ (r n cap a:Nat) (f:a<n) (w:World):(Instr.indexAt 93 (.slice (some ⟨r,0,none⟩) n cap) (.int .i64 (a:Nat))).run Tryz.prog w = .ok (.pointer (some ⟨r,a*18,none⟩)) w:=by
 have e:(0:Int)<=a:=by omega
 have g:(a:Int)<n:=by omega
 have d:(⟨r,0,none⟩:Addr).add (a*18)=⟨r,a*18,none⟩:=by unfold Addr.add;split<;>simp_all
 go_simp
structure StC (h c r n cap g:Nat) (W:Way) (cs:Nat->Array Value) (w:World):Prop where
 ph:w.cell? ⟨h,0,none⟩=some (.pointer (some ⟨c,0,none⟩))
 ps:w.cell? ⟨c,0,none⟩=some (.slice (some ⟨r,0,none⟩) n cap)
 row:∀a,a<n->∀j,j<18->w.cell? ⟨r,a*18+j,none⟩=(cs a)[j]?
 way:w.heap[g]?=some (.cells (gt_ W) 101 (0,0))
theorem StC.on {h c r n cap g:Nat} {W:Way} {cs:Nat->Array Value} {w w':World} (d:StC h c r n cap g W cs w) (h1:h<w.heap.size) (f:c<w.heap.size) (k:r<w.heap.size) (hb:Below w.heap.size w w'):StC h c r n cap g W cs w':=
 ⟨(hb.cell (p:=⟨h,0,none⟩) h1).trans d.ph,(hb.cell (p:=⟨c,0,none⟩) f).trans d.ps,λa i j e=>(hb.cell (p:=⟨r,a*18+j,none⟩) k).trans (d.row a i j e),(hb.block g (b_ d.way)).trans d.way⟩
theorem StC.drew {h c r n cap g:Nat} {W:Way} {cs:Nat->Array Value} {w:World} (d:StC h c r n cap g W cs w):StC h c r n cap g W cs w.drew:=⟨d.ph,d.ps,d.row,d.way⟩
theorem bt_ {w:World} {p:Addr} {v:Value} (h:w.cell? p=some v):p.block<w.heap.size:=World.block_lt_of_cell? _ _ h
theorem pc_ {w:World} {r o:Nat} {c:Array Value} (h:∀j,j<18->w.cell? ⟨r,o+j,none⟩=c[j]?) (f:c.size=18):w.rangeAt r o c.toList:=λj v d=>by
 have e:j<c.toList.length:=(List.getElem?_eq_some_iff.1 d).1;rw[Array.length_toList,f]at e;rw[h j e,<-Array.getElem?_toList];exact d
theorem A7_ (W:Way) (Y:W.Ok) (h c r n cap g a b:Nat) (cs:Nat->Array Value) (x y:d_) (sx I:Nat->Value) (w:World) (M:a<n) (hb:b<n) (J:cs a=L_ x sx) (F:cs b=L_ y I) (T:StC h c r n cap g W cs w)
    (kx:∀n,uz_ (x.get n)) (O:∀n,a9_ (y.get n)) (C:M_ w) (E:bc_ w) :
    Calls Tryz.prog 55 #[.int .i64 (a:Nat),.int .i64 (b:Nat),.pointer (some ⟨h,0,none⟩),.pointer (some ⟨g,0,none⟩)] w (xj_ W x y w):=by
 have l:=q_ (λ(m:World) (hb:Below w.heap.size w m)=>l9_ W Y x y sx I m kx O (g_ C hb) (p_ E hb));clear kx O C E Y;unfold xj_ at l ⊢;obtain⟨v,Hv⟩:=a_ (A_ W x y);rw[Hv.o]at l ⊢;clear Hv;obtain⟨Z,s⟩:=bn_ x sx;obtain⟨V,u⟩:=bn_ y I;rw[s.o]at l J;rw[u.o]at l F;have Z1:=q_ s.size;have Z2:=q_ u.size;have z:=q_ T;have L:=q_ M;have HB:=q_ hb;have G:=q_ J;have U:=q_ F;have Q1:=q_ (fv_.trans (congrArg some s.size.symm));have Q2:=q_ (fv_.trans (congrArg some u.size.symm));clear T M hb J F s u;have D:gt_ W=#[.int .i64 (W.i:Nat),.int .i64 (W.j:Nat),.int .i64 (W.k:Nat)]:=rfl;rw[<-D]at l;obtain⟨wc,t⟩:=a_ (gt_ W);have ZW:=q_ (show wc.size=3 from by rw[<-t.o];rfl);rw[t.o]at l;have X:=q_ (λ(m:World) (h:StC h c r n cap g W cs m)=>(show m.heap[g]?=some (.cells wc 101 (0,0)) from by rw[<-t.o];exact h.way));clear D t;go_enter Tryz.func55,Tryz.ntmps55
 go_upto_region 1 with fail;refine wp_region_held_drew (S:=λm=>StC h c r n cap g W cs m) (by kernel_rfl) z.o.drew λd=>?_;refine W_.o ?_;refine tkW 0 7 (.pointer (some ⟨c,0,none⟩)) d (λw f=>?_) λd=>?_
 ·have p:=f.ph;unfold s_;go_simp
 (try simp only[Act.put,aT,aZ,aS]);refine X_ 1 8 (.pointer (some ⟨c,0,none⟩)) d λd=>?_;(try simp only[Act.put,aT,aZ,aS]);refine X_ 2 9 (.pointer (some ⟨c,0,none⟩)) d λd=>?_;(try simp only[Act.put,aT,aZ,aS]);refine tkW 3 10 (.slice (some ⟨r,0,none⟩) n cap) d (λw f=>?_) λd=>?_
 ·have p:=f.ps;unfold s_;go_simp
 (try simp only[Act.put,aT,aZ,aS]);refine X_ 4 11 (.int .i64 (a:Nat)) d λd=>?_;(try simp only[Act.put,aT,aZ,aS]);refine tkW 5 12 (.pointer (some ⟨r,a*18,none⟩)) d (λw f=>?_) λd=>?_
 ·exact o_ (nq_ r n cap a L.o w)
 (try simp only[Act.put,aT,aZ,aS]);refine tkW 6 13 (.agg Z) d (λw f=>?_) λd=>?_
 ·have p:=pc_ (f.row a L.o) (show (cs a).size=18 from by rw[G.o];exact Z1.o);rw[G.o]at p;have q:=run_loadAt_mid (P:=Tryz.prog) w r (a*18) 99 Z.toList _ p Tryz.underlying99 rfl (by rw[Array.length_toList];exact Q1.o);rw[Array.toArray_toList]at q;exact o_ q
 (try simp only[Act.put,aT,aZ,aS]);refine tkW 7 14 (.pointer (some ⟨c,0,none⟩)) d (λw f=>?_) λd=>?_
 ·have p:=f.ph;unfold s_;go_simp
 (try simp only[Act.put,aT,aZ,aS]);refine X_ 8 15 (.pointer (some ⟨c,0,none⟩)) d λd=>?_;(try simp only[Act.put,aT,aZ,aS]);refine X_ 9 16 (.pointer (some ⟨c,0,none⟩)) d λd=>?_;(try simp only[Act.put,aT,aZ,aS]);refine tkW 10 17 (.slice (some ⟨r,0,none⟩) n cap) d (λw f=>?_) λd=>?_
 ·have p:=f.ps;unfold s_;go_simp
 (try simp only[Act.put,aT,aZ,aS]);refine X_ 11 18 (.int .i64 (b:Nat)) d λd=>?_;(try simp only[Act.put,aT,aZ,aS]);refine tkW 12 19 (.pointer (some ⟨r,b*18,none⟩)) d (λw f=>?_) λd=>?_
 ·exact o_ (nq_ r n cap b HB.o w)
 (try simp only[Act.put,aT,aZ,aS]);refine tkW 13 20 (.agg V) d (λw f=>?_) λd=>?_
 ·have p:=pc_ (f.row b HB.o) (show (cs b).size=18 from by rw[U.o];exact Z2.o);rw[U.o]at p;have q:=run_loadAt_mid (P:=Tryz.prog) w r (b*18) 99 V.toList _ p Tryz.underlying99 rfl (by rw[Array.length_toList];exact Q2.o);rw[Array.toArray_toList]at q;exact o_ q
 (try simp only[Act.put,aT,aZ,aS]);refine tkW 14 21 (.agg wc) d (λw f=>?_) λd=>?_
 ·exact o_ (ab_ (X.o w f) 101 _ Tryz.underlying101 rfl (by rw[ZW.o];kernel_rfl))
 (try simp only[Act.put,aT,aZ,aS]);refine tkC 15 λK R=>?_;change Oper.wp _ ⟨some 22,_,_,_,_,_⟩ _ _ _ _;go_simp;refine (l.o w.drew (Below.refl _ _).drew).mono ?_;rintro e w2 ⟨rfl,B⟩;have A:=q_ (show Below w.heap.size w w2 from P_ B);have N:=q_ (z.o.on (bt_ z.o.ph) (bt_ z.o.ps) (by have:=z.o.row a L.o 0 (by omega);exact bt_ (p:=⟨r,a*18+0,none⟩) (this.trans (by rw[G.o];exact Array.getElem?_eq_getElem (by rw[Z1.o];omega)))) A.o);clear B;dsimp only;refine R.out _ _ N.o λd=>?_;clear R K;(try simp only[Act.put,aT,aZ,aS]);refine X_ 16 6 (.int .i64 v) d λd=>?_;(try simp only[Act.put,aT,aZ,aS]);refine⟨wpAnyH_done (by kernel_rfl) ?_ _⟩;clear d;go_wp2_with fail;go_ret;exact⟨rfl,A.o⟩
def ixC (d:List Nat):List Value:=d.map λk=>Value.int .i64 (k:Nat)
theorem k3_ {I:Type} [Inhabited I] {enc:I->Value} {w:World} {g n:Nat} {d:Array I} {os:Array Obj}:Turn (λb=>b=g) w (sortWorld enc w g 0 n d os):=by refine⟨rfl,rfl,rfl,by unfold sortWorld;rw[Go.Sort.size_grow,size_putRow];show w.heap.size<=w.heap.size+_;omega,λi hi f=>?_⟩;unfold sortWorld;rw[Go.Sort.heap_grow_old _ _ (by rw[size_putRow];exact hi)];have:g≠i:=λe=>f e.symm;simp[putRow,mapBlock,Sort.ahead,Array.getElem?_modify,this]
theorem xn_ (W:Way) (hW:W.Ok) (T:List d_) (h c r n cap g:Nat) (cs:Nat->Array Value) (w0:World) {w:World} {f:List Nat} {s:Value} (u:T.length=n)
    (a0:∀a t,T[a]?=some t->ce_ t/\(∀n,a9_ (t.get n))/\∃ss,cs a=L_ t ss) (C:w.ownsRow 0 3 1 s f.length (ixC f)) (a1:∀k,k∈f->k<n) (ao:f.length<=100000000) (I:0<n\/s = .slice none 0 0)
    (D:StC h c r n cap g W cs w) (hb:Below w0.heap.size w0 w) (ai:∀b,s.ownBlock=some b->w0.heap.size<=b) (a6:∀b,s.ownBlock=some b->b≠h/\b≠c/\b≠r/\b≠g) (ae:M_ w0) (ak:bc_ w0) :
    Calls Tryz.prog 54 #[s,.func (.func 55) #[] #[.pointer (some ⟨h,0,none⟩),.pointer (some ⟨g,0,none⟩)]] w λe w'=>e = .returned (.tuple #[])/\∃ix':List Nat,ix'.Perm f /\
     ix'.Pairwise (λa b=>∀s t,T[a]?=some s->T[b]?=some t->¬A_ W t s<0)/\w'.ownsRow 0 3 1 s ix'.length (ixC ix')/\Turn (λb=>s.ownBlock=some b) w w':=by
 rcases C.2 with⟨o,h0⟩ | ⟨b,B,aq,o,_,O,a5,a7,aj,am⟩
 ·subst o;have aa:f=[]:=List.eq_nil_of_length_eq_zero h0;subst aa;refine (AnyF.slices_SortFunc_none { Tryz.sortI with } none 0 _ w).mono λe w' ⟨o,N⟩=>⟨o,[],List.Perm.refl _,List.Pairwise.nil,?_,?_⟩
  ·rw[N];exact C
  ·rw[N];exact Turn.refl _ _
 ·subst o
  have a9:0<n:=by
   rcases I with I | I
   ·exact I
   ·cases I
  have:Inhabited {k:Nat // k<n}:=⟨⟨0,a9⟩⟩;have a4:=b_ O;obtain⟨d,hd⟩:∃d:Array {k:Nat // k<n},d.toList=f.pmap (λk hk=>⟨k,hk⟩) a1:=⟨(f.pmap (λk hk=>⟨k,hk⟩) a1).toArray,by simp⟩;have l:d.size=f.length:=by rw[<-Array.length_toList,hd];simp
  have Z:d.toList.map (·.1)=f:=by rw[hd];simp[List.map_pmap]
  have hH:Holds (λx:{k:Nat // k<n}=>Value.int .i64 ((x.1:Nat):Int)) w b 0 d:=by
   intro j J;refine⟨?_,by simp[World.frozen?,O]⟩;have P:=C.cellAt j (by rw[l]at J;omega);rw[Nat.zero_add,P,getElem!_pos d j J];unfold ixC;have h3:f[j]?=some (d[j].1):=by rw[<-Z,List.getElem?_map];simp[J]
   rw[List.getElem?_map,h3];rfl
  have X:d.size<4611686018427387904:=by rw[l];omega
  have a8:CmpLays1 Tryz.prog 55 #[.pointer (some ⟨h,0,none⟩),.pointer (some ⟨g,0,none⟩)] (λx:{k:Nat // k<n}=>Value.int .i64 ((x.1:Nat):Int)) (λx y=>A_ W (T[x.1]'(by rw[u];exact x.2)) (T[y.1]'(by rw[u];exact y.2))) b 0 d.size w:=λm os dk _ x y=>by
   have L:Turn (λi=>(Value.slice (some ⟨b,0,none⟩) f.length B).ownBlock=some i) w (sortWorld (λx:{k:Nat // k<n}=>Value.int .i64 ((x.1:Nat):Int)) w b 0 m dk os):=k3_.mono λi _ hi=>by rw[hi];rfl
   have Y:=j_ hb L ai;have F:=a6 b rfl;obtain⟨ac,f1,s1,U⟩:=a0 x.1 _ (List.getElem?_eq_getElem (by rw[u];exact x.2));obtain⟨ap,f2,s2,e2⟩:=a0 y.1 _ (List.getElem?_eq_getElem (by rw[u];exact y.2));have hr:r<w.heap.size:=bt_ (p:=⟨r,x.1*18+0,none⟩) ((D.row x.1 x.2 0 (by omega)).trans (by rw[U];exact Array.getElem?_eq_getElem (by rw[u0_];omega)));have E:∀q,q≠b->¬(Value.slice (some ⟨b,0,none⟩) f.length B).ownBlock=some q:=λq hq e=>by injection e with e;exact hq e.symm
   have ah:StC h c r n cap g W cs (sortWorld (λx:{k:Nat // k<n}=>Value.int .i64 ((x.1:Nat):Int)) w b 0 m dk os):=
    ⟨(L.cell (p:=⟨h,0,none⟩) (bt_ D.ph) (E h (λe=>F.1 e.symm))).trans D.ph,(L.cell (p:=⟨c,0,none⟩) (bt_ D.ps) (E c (λe=>F.2.1 e.symm))).trans D.ps,
     λa ha j J=>(L.cell (p:=⟨r,a*18+j,none⟩) hr (E r (λe=>F.2.2.1 e.symm))).trans (D.row a ha j J),L.heap D.way (E g (λe=>F.2.2.2 e.symm))⟩
   refine (Dn.calls_drawn (A7_ W hW h c r n cap g x.1 y.1 cs _ _ s1 s2 _ x.2 y.2 U e2 ah (λq=>⟨(ac.get q).2.1,f1 q⟩) f2 (g_ ae Y) (p_ ak Y))).mono λe w' ⟨⟨o,ag⟩,af⟩=>⟨o,?_⟩;exact Dn.grow_of_below ag (af (by rw[o];exact λh=>by cases h))
  have G:=Any.slices_SortFunc Tryz.sortI (λx:{k:Nat // k<n}=>Value.int .i64 ((x.1:Nat):Int)) (λ_=>rfl) (λx y=>A_ W (T[x.1]'(by rw[u];exact x.2)) (T[y.1]'(by rw[u];exact y.2))) (s2_ (be_ W) λx:{k:Nat // k<n}=>T[x.1]'(by rw[u];exact x.2)) 55 _ b 0 B d w (enters_of Tryz.func55 (by kernel_rfl) rfl) a8 hH a4 X;rw[l]at G;refine G.mono λe w' ⟨o,v,m,os,V,ad,N⟩=>⟨o,v.toList.map (·.1),?_,?_,?_,?_⟩
  ·have a2:=V.2.2;have U:(v.extract 0 f.length).toList=v.toList:=by rw[show f.length=v.size by rw[V.1,l]];simp
   have e2:(d.extract 0 f.length).toList=d.toList:=by rw[show f.length=d.size by rw[l]];simp
   rw[U,e2]at a2;have:=a2.map (·.1);rwa [Z]at this
  ·rw[List.pairwise_iff_getElem];intro i j a3 M ab s t A z;simp only[List.length_map,Array.length_toList]at a3 M;have P:=ad i j (Nat.zero_le _) ab (by rw[<-l,<-V.1];exact M);rw[getElem!_pos _ i a3,getElem!_pos _ j M]at P;unfold ltOf at P;simp only[List.getElem_map,Array.getElem_toList]at A z;rw[List.getElem?_eq_getElem (by rw[u];exact (v[i]).2)]at A;rw[List.getElem?_eq_getElem (by rw[u];exact (v[j]).2)]at z;injection A with A;injection z with z;rw[<-A,<-z];simpa using P
  ·have R:v.size=f.length:=by rw[V.1,l]
   have hl:(v.toList.map (·.1)).length=f.length:=by rw[List.length_map,Array.length_toList,R]
   rw[hl,N];have:=zb_ (e:=3) (m:=m) (os:=os) (sz:=1) (λx:{k:Nat // k<n}=>Value.int .i64 ((x.1:Nat):Int)) (d:=v) O a5 a7 aj (by rw[R,Nat.mul_one]);unfold ixC;rw[List.map_map];exact this
  ·rw[N];exact k3_.mono λi _ hi=>by rw[hi];rfl
end
section
open Go Go.RowKit Go.Maps
structure RwM (w:World) (b cap n:Nat) (cs:Nat->Array Value) (wx:World):Prop where
 turn:Turn (λq=>q=b) w wx
 blk:∃cur,wx.heap[b]?=some (.cells cur 99 (0,0))/\cur.size=cap*18/\∀a,a<n->∀j,j<18->cur[a*18+j]?=(cs a)[j]?
section
variable {w wx w':World} {b cap n a:Nat} {cs:Nat->Array Value}
theorem RwM.drew (h:RwM w b cap n cs wx):RwM w b cap n cs wx.drew:=⟨h.turn.drew,h.blk⟩
theorem RwM.on (h:RwM w b cap n cs wx) (hb:Below wx.heap.size wx w'):RwM w b cap n cs w':=by obtain⟨d,h1,e,f⟩:=h.blk;exact⟨h.turn.trans ⟨hb.os,hb.tape,hb.output,hb.size,λk g _=>hb.block k g⟩,d,(hb.block b (b_ h1)).trans h1,e,f⟩
theorem RwM.range (h:RwM w b cap n cs wx) (f:a<n) (g:(cs a).size=18):wx.rangeAt b (a*18) (cs a).toList:=by obtain⟨d,h1,k,i⟩:=h.blk;refine pc_ (λj e=>?_) g;rw[cell_of_row wx b (a*18+j) d _ _ h1,i a f j e]
theorem RwM.there (h:RwM w b cap n cs wx) (i:a<n) (k:n<=cap):wx.there b (a*18) 18:=by
 obtain⟨d,h1,f,l⟩:=h.blk;intro j g;have e:a*18+j<d.size:=by rw[f];omega
 exact⟨by rw[cell_of_row wx b (a*18+j) d _ _ h1,Array.getElem?_eq_getElem e];rfl,frozen_of_row _ _ _ _ _ h1⟩
theorem RwM.store (h:RwM w b cap n cs wx) {c:Array Value} (o:c.size=18) (u:n<=cap) (t:a<n):RwM w b cap n (λi=>if i=a then c else cs i) (wx.setCells b (a*18) c.toList):=by
 obtain⟨g,h1,f,p⟩:=h.blk;obtain⟨r,m,s,l⟩:=hn_ c.toList (a*18) h1;refine⟨hm_ (S:=λq=>q=b) b (.inr rfl) _ _ h.turn,r,m,by rw[s,f],λi hi j k=>?_⟩;rw[l,Array.length_toList,o];by_cases e:i=a
 ·subst e;have d:i*18+j<g.size:=by rw[f];omega
  rw[if_pos ⟨by omega,by omega,d⟩,if_pos rfl,Nat.add_sub_cancel_left,Array.getElem?_toList]
 ·rw[if_neg (by omega),if_neg e];exact p i hi j k
theorem RwM.clear (h:RwM w b cap n cs wx) {k:Nat} (s:k<=n) (d:List Value):RwM w b cap k cs (wx.setCells b (k*18) d):=by obtain⟨r,h1,l,m⟩:=h.blk;obtain⟨o,g,p,f⟩:=hn_ d (k*18) h1;refine⟨hm_ (S:=λq=>q=b) b (.inr rfl) _ _ h.turn,o,g,by rw[p,l],λi hi j e=>?_⟩;rw[f,if_neg (by omega)];exact m i (by omega) j e
theorem RwM.congr (h:RwM w b cap n cs wx) {d:Nat->Array Value} (k:∀i,i<n->cs i=d i):RwM w b cap n d wx:=by obtain⟨e,h1,g,l⟩:=h.blk;exact⟨h.turn,e,h1,g,λi hi j f=>by rw[<-k i hi];exact l i hi j f⟩
def ElT (K:List d_) (cs:Nat->Array Value):Prop:=∀i t,K[i]?=some t->ce_ t/\(∀n,a9_ (t.get n))/\∃ss:Nat->Value,(∀n,n<3->∃A cap,ss n = .slice A 0 cap)/\cs i=L_ t ss
theorem RwM.own (h:RwM w b cap n cs wx) {K:List d_} (j:ElT K cs) (l:K.length=n) (p:n<=cap) (o:cap<=maxLen) {F:Nat->Prop} (v:F b):x_ 99 18 TrS wx F K (.slice (some ⟨b,0,none⟩) n cap):=by
 obtain⟨m,h1,r,y⟩:=h.blk
 have d:∀i,i<n->(cs i).size=18:=λi hi=>by
  obtain⟨_,_,ss,_,e⟩:=j i _ (List.getElem?_eq_getElem (by rw[l];exact hi));rw[e];rfl
 subst l;refine⟨cs,⟨al_ d,.inr ⟨b,cap,m,rfl,Nat.zero_le _,h1,p,o,r,?_⟩⟩,d,λg f=>by injection f with f;rw[<-f];exact v,λi x q=>j i x q⟩;apply List.ext_getElem?;intro t;by_cases s:t<K.length*18
 ·have hi:t / 18<K.length:=by omega
  have k:=az_ d hi (Nat.mod_lt t (by decide:0<18));rw[show t / 18*18+t % 18=t by omega]at k;rw[List.getElem?_take_of_lt s,k,Array.getElem?_toList];have u:=y (t / 18) hi (t % 18) (Nat.mod_lt t (by decide:0<18));rwa [show t / 18*18+t % 18=t by omega]at u
 ·rw[List.getElem?_take_eq_none (by omega),List.getElem?_eq_none (by rw[al_ d];omega)]
end
theorem Lm_ {P:Program} {e:Array Oper} {rest:List Oper} {op:Oper} {d:Act} {w wx:World} {Q:Exit->Act->World->Prop} {b cap n:Nat} {cs:Nat->Array Value} (l:op.guard=none) (ty:TypeId) (x y:Operand) (o:op.op = .store ty x y) (a:Nat) (c:Array Value)
    (m:d.eval x = .pointer (some ⟨b,a*18,none⟩)) (p:d.eval y = .agg c) (j:RwM w b cap n cs wx) (g:a<n) (k:n<=cap) (f:c.size=18) (hi:(P.info? ty).map (·.size)=some 18) (h1:c.all (·.oneCell')=true)
    (h:∀w',RwM w b cap n (λi=>if i=a then c else cs i) w'->wpList P e Q rest (d.put op.dst undef) w'):wpList P e Q (op::rest) d wx:=
 wpList_store_mid l ty x y o b (a*18) c m p (by rw[f];exact j.there g k) (by rw[f];exact hi) h1 (h _ (j.store f k g))
theorem E5_ {w:World} {F:Nat->Prop} {L:List d_} {b n cap:Nat} (h:x_ 99 18 TrS w F L (.slice (some ⟨b,0,none⟩) n cap)):∃cs,ElT L cs/\RwM w b cap n cs w/\L.length=n/\n<=cap/\cap<=maxLen/\F b:=by
 obtain⟨A,u,e⟩:=h.form;injection e with _ e _;obtain⟨cs,d,m,r,q⟩:=h;rcases d.2 with⟨h0,_⟩ | ⟨g,t,i,h0,_,s,h1,o,p,k⟩
 ·cases h0
 ·injection h0 with h0 h5 h6';injection h0 with h0;injection h0 with h0;subst h0 h6';refine⟨cs,q,⟨Turn.refl _ _,i,s,p,λa v j l=>?_⟩,e.symm,by omega,o,r b rfl⟩;have f:=az_ m (show a<L.length by omega) l;rw[<-k,List.getElem?_take_of_lt (by omega),Array.getElem?_toList]at f;exact f
theorem k4_ {o:d_->d_->Int} {L:List d_} {m:Nat} {x y:d_} (f:L[m+1]?=some x) (e:L[m]?=some y):cpt o (L.take (m+2))=cpt o (L.take (m+1))++(if o x y=0 then [] else [x]):=by
 cases L with
 | nil=>simp at f
 | cons a r=>
  have h1:r[m]?=some x:=by simpa using f
  rw[List.take_succ_cons,List.take_succ_cons];have h:=(List.getElem?_eq_some_iff.1 h1).1;rw[f_ h1];show a::j3_ o a (r.take m++[x])=a::j3_ o a (r.take m)++_;rw[Ad_]
  have d:(r.take m).getLastD a=y:=by
   cases m with
   | zero=>simp at e;simpa using e
   | succ m=>
    have g:r[m]?=some y:=by simpa using e
    rw[f_ g];simp
  rw[d];rfl
theorem H6_ (o:d_->d_->Int) (L:List d_):(cpt o L).length<=L.length:=by
 cases L with
 | nil=>exact Nat.le_refl _
 | cons a r=>
  show (j3_ o a r).length+1<=r.length+1
  have:∀p,(j3_ o p r).length<=r.length:=by
   induction r with
   | nil=>intro p;exact Nat.le_refl _
   | cons b r d=>
    intro p;unfold j3_;split
    ·exact Nat.le_trans (d b) (by simp)
    ·have:=d b;simp;omega
  have:=this a;omega
theorem nh_ {P:Program} (w:World) (b o:Nat) (d:List Value) (h1:∀j,j<d.length->(w.cell? ⟨b,o+j,none⟩).isSome=true) (f:∀j,j<d.length->w.frozen? ⟨b,o+j,none⟩=false) (g:∀v∈d,v.oneCell'=true) :
    (storeCells ⟨b,o,none⟩ d).run P w = .ok () (w.setCells b o d):=run_storeCells_cells b o d 0 w (λj e=>h1 j e) (λj e=>f j e) g
theorem Kj_ (w:World):(zeroValue 99).run Tryz.prog w = .ok (.agg #[.int .i64 0,.bool false,.int .i64 0,.string ⟨#[]⟩,.string ⟨#[]⟩,.slice none 0 0,.int .i64 0,.bool false,.int .i64 0,.string ⟨#[]⟩,.string ⟨#[]⟩,.slice none 0 0,.int .i64 0,.bool false,.int .i64 0,.string ⟨#[]⟩,.string ⟨#[]⟩,.slice none 0 0]) w:=by kernel_rfl
theorem A8_ {w wx:World} {b cap n k:Nat} {cs:Nat->Array Value} (h:RwM w b cap n cs wx) (y:n<=cap) (A:k<n):∃x,∀ty,(Builtin.clear_ #[93] ty #[.slice (some ⟨b,k*18,none⟩) (n-k) (cap-k)]).run Tryz.prog wx = .ok (.tuple #[]) (wx.setCells b (k*18) x):=by
 obtain⟨g,h1,t,z⟩:=h.blk;obtain⟨Z,l⟩:∃Z:Array Value,Z=#[.int .i64 0,.bool false,.int .i64 0,.string ⟨#[]⟩,.string ⟨#[]⟩,.slice none 0 0,.int .i64 0,.bool false,.int .i64 0,.string ⟨#[]⟩,.string ⟨#[]⟩,.slice none 0 0,.int .i64 0,.bool false,.int .i64 0,.string ⟨#[]⟩,.string ⟨#[]⟩,.slice none 0 0]:=⟨_,rfl⟩;have hz:=Kj_ wx;rw[<-l]at hz;have d:Z.size=18:=by rw[l];rfl
 have o:∀v∈Z.toList,v.oneCell'=true:=by rw[l];intro v e;simp only[List.mem_cons,List.not_mem_nil,or_false]at e;rcases e with rfl | rfl | rfl | rfl | rfl | rfl | rfl | rfl | rfl | rfl | rfl | rfl | rfl | rfl | rfl | rfl | rfl | rfl<;>rfl
 have p:(Builtin.zeroCells Z (n-k)).size=(n-k)*18:=by unfold Builtin.zeroCells;simp[d]
 refine⟨(Builtin.zeroCells Z (n-k)).toList,λty=>?_⟩
 have f:=nh_ (P:=Tryz.prog) wx b (k*18) (Builtin.zeroCells Z (n-k)).toList (λj r=>by
     rw[Array.length_toList,p]at r;have m:k*18+j<g.size:=by rw[t];omega
     rw[cell_of_row wx b (k*18+j) g _ _ h1,Array.getElem?_eq_getElem m];rfl) (λj _=>frozen_of_row _ _ _ _ _ h1) (λv e=>by
     unfold Builtin.zeroCells at e;simp only[Array.toList_map,List.mem_map]at e;obtain⟨i,_,rfl⟩:=e;rw[d,getElem!_pos Z (i % 18) (by rw[d];omega)];exact o _ (by simp))
 obtain⟨q,u⟩:∃q,n-k=q+1:=⟨n-k-1,by omega⟩;rw[u]at f ⊢;have s:=run_underlying (P:=Tryz.prog) Tryz.underlying93 wx;unfold Builtin.clear_;simp only[List.getElem?_toArray,List.getElem?_cons_zero,Sem.run_bind,s,Result.andThen_ok,hz,Value.cells,f,Sem.run_pure]
def E6_ (o:d_->d_->Int) (L:List d_) (F:Nat->Prop) (s:Value) (w:World) (e:Ending) (w':World):Prop:=
 ∃d,e = .returned d/\d.ownBlock=s.ownBlock/\x_ 99 18 TrS w' F (cpt o L) d/\Turn (λb=>s.ownBlock=some b) w w'
theorem vh_ (r o n cap a:Nat) (f:a<n) (w:World):(Instr.indexAt 93 (.slice (some ⟨r,o,none⟩) n cap) (.int .i64 (a:Nat))).run Tryz.prog w = .ok (.pointer (some ⟨r,o+a*18,none⟩)) w:=by
 have e:(0:Int)<=a:=by omega
 have g:(a:Int)<n:=by omega
 have d:(⟨r,o,none⟩:Addr).add (a*18)=⟨r,o+a*18,none⟩:=by unfold Addr.add;split<;>simp_all
 go_simp
theorem re_ {o:d_->d_->Int} {L:List d_} (h:L.length<2):cpt o L=L:=by
 cases L with
 | nil=>rfl
 | cons a r=>
  cases r with
  | nil=>rfl
  | cons b r=>simp only[List.length_cons]at h;omega
theorem vi_ (u:Way) (hW:u.Ok) (g:Nat) (w0:World) {w:World} {F:Nat->Prop} {L:List d_} {s:Value} (h:x_ 99 18 TrS w F L s) (X:L.length<=100000000)
    (ab:Below w0.heap.size w0 w) (ac:∀b,s.ownBlock=some b->w0.heap.size<=b) (ae:M_ w0) (ai:bc_ w0) (hp:w.heap[g]?=some (.cells (gt_ u) 101 (0,0))) :
    Calls Tryz.prog 52 #[s,.func (.func 53) #[] #[.pointer (some ⟨g,0,none⟩)]] w (E6_ (A_ u) L F s w):=by
 obtain⟨A,cap,rfl⟩:=h.form;have HO:=q_ h;obtain⟨n,D⟩:=a_ L.length;rw[D.o];rw[D.o]at X;by_cases ao:n<2
 ·have e1:(n:Int)<2:=by omega
  have a7:=q_ (show cpt (A_ u) L=L from re_ (by rw[D.o];exact ao));have HR:=q_ (show E6_ (A_ u) L F (.slice A n cap) w (.returned (.slice A n cap)) w from ⟨_,rfl,rfl,by rw[a7.o,<-D.o];exact HO.o,Turn.refl _ _⟩);clear ao X ab ac ae ai hp h HO a7 D;go_enter Tryz.func52,Tryz.ntmps52
  go_wp2_with fail;go_ret;exact HR.o
 ·have e1:¬(n:Int)<2:=by omega
  have Z:=HO.o;rw[D.o]at Z;have hA:∃b,A=some ⟨b,0,none⟩:=by obtain⟨cs,bd,_⟩:=Z;obtain⟨b,cp,e,_⟩:=World.ownsRow.form bd (by rw[D.o];omega);injection e with e _ _;exact⟨b,e⟩
  obtain⟨b,rfl⟩:=hA;obtain⟨J,b0,ag,bj,ay,aj,ar⟩:=E5_ Z;have E:=q_ b0;have au:=q_ ag;have aw:=q_ (And.intro ay (And.intro aj ar));have bi:=q_ (show 2<=n from by omega);have HL:=q_ (show n<=100000000 from X)
  have bc:b≠g:=λe=>by
   obtain⟨bz,h1,_⟩:=ag.blk;rw[e,hp]at h1;injection h1 with h1;injection h1 with _ h1;exact absurd h1 (by decide)
  have ad:=q_ (λ(V:World) (ht:Turn (λq=>q=b) w V)=>j_ ab ht (λq hq=>ac q (by rw[hq];rfl)))
  have a2:=q_ (λ(V:World) (ht:Turn (λq=>q=b) w V) (x y:d_) (sx sy:Nat->Value) (R:ce_ x) (fx:∀n,a9_ (x.get n)) (fy:∀n,a9_ (y.get n))=>
   Au_ u hW x y sx sy g V (ht.heap hp (λe=>bc e.symm)) (λn=>⟨(R.get n).2.1,fx n⟩) fy (g_ ae (ad.o V ht)) (p_ ai (ad.o V ht)))
  unfold z_ at a2;have U:=q_ (λ(K:List d_) (k:Nat) (cs:Nat->Array Value) (V:World) (hK:K=cpt (A_ u) L) (hk:K.length=k) (b1:k<=n) (he:ElT K cs) (hr:RwM w b cap k cs V)=>(show E6_ (A_ u) L F (.slice (some ⟨b,0,none⟩) n cap) w (.returned (.slice (some ⟨b,0,none⟩) k cap)) V from ⟨_,rfl,rfl,hK▸hr.own he hk (Nat.le_trans b1 ay) aj ar,hr.turn.mono λq _ hq=>by rw[hq];rfl⟩));have w2:∀k:Nat,k<=1000000000->IntKind.i64.wrap ((k:Int)+1)=(k:Int)+1:=λk hk=>IntWalk.i64_in _ (by omega);have ak:=q_ w2;clear w2 h HO Z b0 ag bj ay aj ar ao X ab ac ae ai hp bc hW ad;go_enter Tryz.func52,Tryz.ntmps52
  go_wp2_with fail;go_loopw [5] (λs5 wx=>∃k:Nat,1<=k/\k<=n/\s5 = .int .i64 (k:Nat)/\Q_ (RwM w b cap n J wx/\cpt (A_ u) (L.take k)=L.take k)) (λs5 _=>n-(intOf s5).toNat)
  case atStart=>exact⟨1,by omega,by have:=bi.o;omega,rfl,q_ ⟨au.o,re_ (by simp;omega)⟩⟩
  case round=>
   obtain⟨k,c0,b1,rfl,hM⟩:=hrel;by_cases b7:k<n
   ·have e3:(k:Int)<n:=by omega
    obtain⟨m,hm⟩:∃m,k=m+1:=⟨k-1,by omega⟩;have N:=q_ hm;have e4:IntKind.i64.wrap ((k:Int)-1)=(m:Nat):=by have:=HL.o;rw[IntWalk.i64_in _ (by omega)];omega
    clear hm;obtain⟨x,R⟩:∃x,L[k]?=some x:=⟨_,List.getElem?_eq_getElem (by rw[D.o];exact b7)⟩;obtain⟨y,hy⟩:∃y,L[m]?=some y:=⟨_,List.getElem?_eq_getElem (by rw[D.o];have:=N.o;omega)⟩;obtain⟨a1,fx,sx,_,ex⟩:=E.o _ _ R;obtain⟨av,fy,sy,_,ey⟩:=E.o _ _ hy;have a0:=q_ (a2.o wr.drew hM.o.1.turn.drew x y sx sy a1 fx fy);have HX:=q_ R;have HY:=q_ hy;clear R hy a1 fx av fy;obtain⟨v,Hv⟩:=a_ (A_ u x y==0);rw[Hv.o]at a0;obtain⟨c1,a5⟩:=bn_ x sx;obtain⟨c2,aa⟩:=bn_ y sy;rw[a5.o]at a0 ex;rw[aa.o]at a0 ey;have Y:=q_ ex;have EY:=q_ ey;have Z1:=q_ a5.size;have Z2:=q_ aa.size;have Q1:=q_ (fv_.trans (congrArg some a5.size.symm));have Q2:=q_ (fv_.trans (congrArg some aa.size.symm));have I:=q_ (show k<n from b7);have a9:=q_ (show L[m+1]?=some x from by rw[<-N.o];exact HX.o);clear ex ey a5 aa;go_upto_region 6 with fail;refine wp_region_held_drew (S:=λW'=>RwM w b cap n J W') (by kernel_rfl) hM.o.1.drew λd=>?_;refine W_.o ?_;refine X_ 0 18 (.func (.func 53) #[] #[.pointer (some ⟨g,0,none⟩)]) d λd=>?_;(try simp only[Act.put,aT,aZ,aS]);refine X_ 1 19 (.slice (some ⟨b,0,none⟩) n cap) d λd=>?_;(try simp only[Act.put,aT,aZ,aS]);refine X_ 2 20 (.int .i64 (k:Nat)) d λd=>?_;(try simp only[Act.put,aT,aZ,aS]);refine tkW 3 21 (.pointer (some ⟨b,k*18,none⟩)) d (λw B=>?_) λd=>?_
    ·exact o_ (nq_ b n cap k I.o w)
    (try simp only[Act.put,aT,aZ,aS]);refine tkW 4 22 (.agg c1) d (λw B=>?_) λd=>?_
    ·have p:=B.range I.o (show (J k).size=18 from by rw[Y.o];exact Z1.o);rw[Y.o]at p;have q:=run_loadAt_mid (P:=Tryz.prog) w b (k*18) 99 c1.toList _ p Tryz.underlying99 rfl (by rw[Array.length_toList];exact Q1.o);rw[Array.toArray_toList]at q;exact o_ q
    (try simp only[Act.put,aT,aZ,aS]);refine X_ 5 23 (.slice (some ⟨b,0,none⟩) n cap) d λd=>?_;(try simp only[Act.put,aT,aZ,aS]);refine X_ 6 24 (.int .i64 (k:Nat)) d λd=>?_;(try simp only[Act.put,aT,aZ,aS]);refine X_ 7 25 (.int .i64 (m:Nat)) d λd=>?_;(try simp only[Act.put,aT,aZ,aS]);refine tkW 8 26 (.pointer (some ⟨b,m*18,none⟩)) d (λw B=>?_) λd=>?_
    ·exact o_ (nq_ b n cap m (by have:=I.o;have:=N.o;omega) w)
    (try simp only[Act.put,aT,aZ,aS]);refine tkW 9 27 (.agg c2) d (λw B=>?_) λd=>?_
    ·have p:=B.range (by have:=I.o;have:=N.o;omega) (show (J m).size=18 from by rw[EY.o];exact Z2.o);rw[EY.o]at p;have q:=run_loadAt_mid (P:=Tryz.prog) w b (m*18) 99 c2.toList _ p Tryz.underlying99 rfl (by rw[Array.length_toList];exact Q2.o);rw[Array.toArray_toList]at q;exact o_ q
    (try simp only[Act.put,aT,aZ,aS]);refine tkC 10 λK hK=>?_;change Oper.wp _ ⟨some 28,_,_,_,_,_⟩ _ _ _ _;go_simp;refine (a0.o).mono ?_;rintro e w3 ⟨rfl,b9⟩;have af:=q_ (hM.o.1.drew.on b9);have HC:=q_ hM.o.2;clear b9 a0 hM;dsimp only;refine hK.out _ _ af.o λd=>?_;clear hK K;(try simp only[Act.put,aT,aZ,aS]);refine⟨wpAnyH_done (by kernel_rfl) ?_ _⟩;clear d
    cases v with
    | false=>
     have w1:=ak.o k (by have:=I.o;have:=HL.o;omega);have hz:¬A_ u x y=0:=by simpa using Hv.o
     have HZ:=q_ hz;clear hz;go_wp2_with fail;go_roundw
     case rel=>exact⟨k+1,by omega,by have:=I.o;omega,by go_num,q_ ⟨af.o,by have hc:=HC.o;rw[N.o]at hc ⊢;rw[k4_ a9.o HY.o,if_neg HZ.o,hc,<-f_ a9.o]⟩⟩
     case measure=>have:=I.o;simp[intOf];omega
    | true=>
     have hz:A_ u x y=0:=by simpa using Hv.o
     have HK:=q_ (show cpt (A_ u) (L.take (k+1))=L.take k from by have hc:=HC.o;rw[N.o]at hc ⊢;rw[k4_ a9.o HY.o,if_pos hz,hc,List.append_nil]);clear hz HC a9 N e4 Hv Y EY Q1 Q2 Z1 Z2 HX HY;have e5:(0:Int)<=k:=by omega
     have e6:(k:Int)<=n:=by omega
     have e7:(n:Int)<=cap:=by have:=aw.o.1;omega
     have e8:(n:Int)-k=((n-k:Nat):Int):=by omega
     have bw:(⟨b,0,none⟩:Addr).add (k*18)=⟨b,k*18,none⟩:=by rw[Addr.add_mid,Nat.zero_add]
     go_wp2_with fail;go_loopw [5,7] (λs5 s7 wx=>∃(j f:Nat) (z:Nat->Array Value),1<=f/\k+f<=n/\j+1<=k+f/\s5 = .int .i64 (j:Nat)/\s7 = .int .i64 (f:Nat)/\Q_ (RwM w b cap n z wx/\(cpt (A_ u) (L.take (k+f))).length=j/\ElT (cpt (A_ u) (L.take (k+f))) z/\∀i,k+f<=i+1->i<n->z i=J i)) (λ_ s7 _=>n-(intOf s7).toNat)
     case atStart=>exact⟨k,1,J,by omega,by omega,by omega,rfl,rfl,q_ ⟨af.o,by rw[HK.o,List.length_take,D.o];omega,by rw[HK.o];exact λi t hi=>E.o i t (by have:=(List.getElem?_eq_some_iff.1 hi).1;rw[List.length_take]at this;rw[List.getElem?_take_of_lt (by omega)]at hi;exact hi),λ_ _ _=>rfl⟩⟩
     case round=>
      obtain⟨j,f,z,bu,bt,c4,rfl,rfl,G⟩:=hrel;by_cases a4:k+f<n
      ·have e9:(f:Int)<((n-k:Nat):Int):=by omega
       obtain⟨r,b8⟩:∃r,f=r+1:=⟨f-1,by omega⟩;have C:=q_ b8;have c3:IntKind.i64.wrap ((f:Int)-1)=(r:Nat):=by have:=HL.o;rw[IntWalk.i64_in _ (by omega)];omega
       clear b8;obtain⟨T,R⟩:∃T,L[k+f]?=some T:=⟨_,List.getElem?_eq_getElem (by rw[D.o];exact a4)⟩;obtain⟨W,hy⟩:∃W,L[k+r]?=some W:=⟨_,List.getElem?_eq_getElem (by rw[D.o];have:=C.o;omega)⟩;have bg:=q_ (E.o _ _ R);obtain⟨a1,fx,aq,b5,ex⟩:=E.o _ _ R;obtain⟨av,fy,b4,_,ey⟩:=E.o _ _ hy;rw[<-G.o.2.2.2 (k+f) (by omega) a4]at ex;rw[<-G.o.2.2.2 (k+r) (by have:=C.o;omega) (by have:=C.o;omega)]at ey;have O:=q_ (a2.o wr.drew G.o.1.turn.drew T W aq b4 a1 fx fy);have HX:=q_ R;have HY:=q_ hy;clear R hy a1 fx av fy;obtain⟨v2,ap⟩:=a_ (A_ u T W==0);rw[ap.o]at O;obtain⟨d1,a8⟩:=bn_ T aq;obtain⟨d2,ah⟩:=bn_ W b4;rw[a8.o]at O ex;rw[ah.o]at O ey;have Y:=q_ ex;have EY:=q_ ey;have Z1:=q_ a8.size;have Z2:=q_ ah.size;have Q1:=q_ (fv_.trans (congrArg some a8.size.symm));have Q2:=q_ (fv_.trans (congrArg some ah.size.symm));have l:=q_ a4;have o1:=ct_ T aq λq hq=>by obtain⟨A,cp,e⟩:=b5 q hq;exact⟨A,0,cp,e⟩
       rw[a8.o]at o1;have O1:=q_ (show d1.all (·.oneCell')=true from by rw[<-Array.toArray_toList (xs:=d1)];exact all_oneCell_toArray o1);clear o1 b5;clear ex ey;go_upto_region 11 with fail;refine wp_region_held_drew (S:=λW'=>RwM w b cap n z W') (by kernel_rfl) G.o.1.drew λd=>?_;refine W_.o ?_;refine X_ 0 38 (.func (.func 53) #[] #[.pointer (some ⟨g,0,none⟩)]) d λd=>?_;(try simp only[Act.put,aT,aZ,aS]);refine X_ 1 39 (.slice (some ⟨b,k*18,none⟩) (n-k) (cap-k)) d λd=>?_;(try simp only[Act.put,aT,aZ,aS]);refine X_ 2 40 (.int .i64 (f:Nat)) d λd=>?_;(try simp only[Act.put,aT,aZ,aS]);refine tkW 3 41 (.pointer (some ⟨b,k*18+f*18,none⟩)) d (λw B=>?_) λd=>?_
       ·exact o_ (vh_ b (k*18) (n-k) (cap-k) f (by have:=l.o;omega) w)
       (try simp only[Act.put,aT,aZ,aS]);refine tkW 4 42 (.agg d1) d (λw B=>?_) λd=>?_
       ·have p:=B.range (a:=k+f) l.o (show (z (k+f)).size=18 from by rw[Y.o];exact Z1.o);rw[Y.o,show (k+f)*18=k*18+f*18 by omega]at p;have q:=run_loadAt_mid (P:=Tryz.prog) w b (k*18+f*18) 99 d1.toList _ p Tryz.underlying99 rfl (by rw[Array.length_toList];exact Q1.o);rw[Array.toArray_toList]at q;exact o_ q
       (try simp only[Act.put,aT,aZ,aS]);refine X_ 5 43 (.slice (some ⟨b,k*18,none⟩) (n-k) (cap-k)) d λd=>?_;(try simp only[Act.put,aT,aZ,aS]);refine X_ 6 44 (.int .i64 (f:Nat)) d λd=>?_;(try simp only[Act.put,aT,aZ,aS]);refine X_ 7 45 (.int .i64 (r:Nat)) d λd=>?_;(try simp only[Act.put,aT,aZ,aS]);refine tkW 8 46 (.pointer (some ⟨b,k*18+r*18,none⟩)) d (λw B=>?_) λd=>?_
       ·exact o_ (vh_ b (k*18) (n-k) (cap-k) r (by have:=l.o;have:=C.o;omega) w)
       (try simp only[Act.put,aT,aZ,aS]);refine tkW 9 47 (.agg d2) d (λw B=>?_) λd=>?_
       ·have p:=B.range (a:=k+r) (by have:=l.o;have:=C.o;omega) (show (z (k+r)).size=18 from by rw[EY.o];exact Z2.o);rw[EY.o,show (k+r)*18=k*18+r*18 by omega]at p;have q:=run_loadAt_mid (P:=Tryz.prog) w b (k*18+r*18) 99 d2.toList _ p Tryz.underlying99 rfl (by rw[Array.length_toList];exact Q2.o);rw[Array.toArray_toList]at q;exact o_ q
       (try simp only[Act.put,aT,aZ,aS]);refine tkC 10 λK hK=>?_;change Oper.wp _ ⟨some 48,_,_,_,_,_⟩ _ _ _ _;go_simp;refine (O.o).mono ?_;rintro e w4 ⟨rfl,b6⟩;have a6:=q_ (G.o.1.drew.on b6);have M:=q_ G.o.2;clear b6 O G;dsimp only;refine hK.out _ _ a6.o λd=>?_;clear hK K;(try simp only[Act.put,aT,aZ,aS]);refine X_ 11 49 (.bool (!v2)) d λd=>?_;(try simp only[Act.put,aT,aZ,aS]);refine⟨wpAnyH_done (by kernel_rfl) ?_ _⟩;clear d;have w5:=ak.o f (by have:=l.o;have:=HL.o;omega)
       cases v2 with
       | true=>
        have hz:A_ u T W=0:=by simpa using ap.o
        have HZ:=q_ hz;clear hz;go_wp2_with fail;go_roundw
        case rel=>
         have h0:=k4_ (o:=A_ u) (L:=L) (m:=k+r) (x:=T) (y:=W) (by rw[show k+r+1=k+f by have:=C.o;omega];exact HX.o) HY.o;rw[if_pos HZ.o,List.append_nil,show k+r+2=k+(f+1) by have:=C.o;omega,show k+r+1=k+f by have:=C.o;omega]at h0;exact⟨j,f+1,z,by omega,by have:=l.o;omega,by omega,rfl,by go_num,q_ ⟨a6.o,by rw[h0];exact M.o.1,by rw[h0];exact M.o.2.1,λi h1 h2=>M.o.2.2 i (by omega) h2⟩⟩
        case measure=>have:=l.o;simp[intOf];omega
       | false=>
        have hz:¬A_ u T W=0:=by simpa using ap.o
        have HZ:=q_ hz;clear hz;have w6:=ak.o j (by have:=l.o;have:=HL.o;omega);have bl:(0:Int)<=j:=by omega
        have bq:(j:Int)<n:=by have:=l.o;omega
        have bk:(0:Int)<=f:=by omega
        have az:(⟨b,0,none⟩:Addr).add (j*18)=⟨b,j*18,none⟩:=by rw[Addr.add_mid,Nat.zero_add]
        have br:(⟨b,k*18,none⟩:Addr).add (f*18)=⟨b,k*18+f*18,none⟩:=Addr.add_mid _ _ _;have am:=a6.o.range (a:=k+f) l.o (show (z (k+f)).size=18 from by rw[Y.o];exact Z1.o);rw[Y.o,show (k+f)*18=k*18+f*18 by omega]at am;have bp:=q_ am;clear am
        go_wp2_with (first
         | ((with_reducible refine e_ (some 55) ?_);refine w_ rfl 99 _ rfl b (k*18+f*18) rfl d1 _ bp.o Tryz.underlying99 rfl Q1.o ?_)
         | ((with_reducible refine y_ 56 ?_);refine Lm_ rfl 99 _ _ rfl j d1 rfl rfl a6.o (by have:=l.o;omega) aw.o.1 Z1.o fv_ O1.o ?_;intro w7 ba))
        have bm:=q_ ba;clear ba;go_roundw
        case rel=>
         have h0:=k4_ (o:=A_ u) (L:=L) (m:=k+r) (x:=T) (y:=W) (by rw[show k+r+1=k+f by have:=C.o;omega];exact HX.o) HY.o;rw[if_neg HZ.o,show k+r+2=k+(f+1) by have:=C.o;omega,show k+r+1=k+f by have:=C.o;omega]at h0;refine⟨j+1,f+1,λi=>if i=j then d1 else z i,by omega,by have:=l.o;omega,by omega,by go_num,by go_num,q_ ⟨bm.o,by rw[h0,List.length_append,M.o.1];rfl,?_,λi h1 h2=>?_⟩⟩
         ·rw[h0];intro i t hi;rcases Nat.lt_or_ge i j with bf | bs
          ·rw[List.getElem?_append_left (by rw[M.o.1];exact bf)]at hi;dsimp only;rw[if_neg (show ¬i=j by omega)];exact M.o.2.1 i t hi
          ·have b2:=(List.getElem?_eq_some_iff.1 hi).1;rw[List.length_append,M.o.1]at b2;have bn:i=j:=by simp only[List.length_cons,List.length_nil]at b2;omega
           subst bn;rw[List.getElem?_append_right (by rw[M.o.1];exact Nat.le_refl _),M.o.1,Nat.sub_self]at hi;injection hi with hi;subst hi;dsimp only;rw[if_pos rfl];obtain⟨g1,g2,g3,g4,g5⟩:=bg.o;exact⟨g1,g2,g3,g4,by rw[<-Y.o,M.o.2.2 (k+f) (by omega) l.o];exact g5⟩
         ·dsimp only;rw[if_neg (show ¬i=j by omega)];exact M.o.2.2 i (by omega) h2
        case measure=>have:=l.o;simp[intOf];omega
      ·have a3:k+f=n:=by omega
       have b3:j<n:=by omega
       obtain⟨zs,bb⟩:=A8_ G.o.1 aw.o.1 b3;have bx:=bb;have e9:¬(f:Int)<((n-k:Nat):Int):=by omega
       have bl:(0:Int)<=j:=by omega
       have bq:(j:Int)<=n:=by omega
       have bk:(j:Int)<=cap:=by omega
       have az:(⟨b,0,none⟩:Addr).add (j*18)=⟨b,j*18,none⟩:=by rw[Addr.add_mid,Nat.zero_add]
       have bh:=q_ (U.o (cpt (A_ u) L) j z (wr.setCells b (j*18) zs) rfl (by have h:=G.o.2.1;rw[a3,List.take_of_length_le (by rw[D.o];exact Nat.le_refl _)]at h;exact h) (by omega) (by have h:=G.o.2.2.1;rw[a3,List.take_of_length_le (by rw[D.o];exact Nat.le_refl _)]at h;exact h) (G.o.1.clear (by omega) zs));clear G U a2 E au a3 b3 bb;go_wp2_with fail;go_ret;exact bh.o
   ·have bo:n=k:=by omega
    subst bo;have HR:=q_ (U.o L n J wr (by have h:=hM.o.2;rw[List.take_of_length_le (by rw[D.o];exact Nat.le_refl _)]at h;exact h.symm) D.o (Nat.le_refl _) E.o hM.o.1);have e3:¬(n:Int)<n:=by omega
    clear U a2 E au hM;go_wp2_with fail;go_ret;exact HR.o
end
section
open Go Go.RowKit
def gu_ (i:Nat):ByteArray:=if i=0 then ⟨#[115,112,111]⟩ else if i=1 then ⟨#[115,111,112]⟩ else if i=2 then ⟨#[112,115,111]⟩ else if i=3 then ⟨#[112,111,115]⟩ else if i=4 then ⟨#[111,115,112]⟩ else ⟨#[111,112,115]⟩
def k5_ (i:Nat) (w:World) (e:Ending) (w':World):Prop:=e = .returned (.tuple #[.agg (gt_ (av_ i)),.int .i64 (i:Nat),.bool true])/\Below w.heap.size w w'
theorem cx_ {P:Program} {f:Func} {a u v:Tmp} {T o:TypeId} {w:World} (h:f.results=#[.cell a T,.tmp u,.tmp v]) {e:Array Value} {g:Nat} (q:e.getD a undef = .pointer (some ⟨g,0,none⟩)) {c:Array Value} (l:w.heap[g]?=some (.cells c o (0,0)))
    (d:TypeDesc) (m:P.underlying T=some d) (r:d.isRow=true) (hi:(P.info? T).map (·.size)=some c.size) {x y:Value} (p:e.getD u undef=x) (s:e.getD v undef=y):(results f e).run P w = .ok (.tuple #[.agg c,x,y]) w:=by
 have:=run_loadVar_mid (P:=P) w g 0 T c.toList d (k_ l) m r (by rw[Array.length_toList];exact hi);rw[Array.toArray_toList]at this;have j:e[a]?.getD undef = .pointer (some ⟨g,0,none⟩):=by rw[<-q];simp
 have i:e[u]?.getD undef=x:=by rw[<-p];simp
 have k:e[v]?.getD undef=y:=by rw[<-s];simp
 simp[results,h,j,asAddr,this,i,k]
theorem Js_ (w:World):Calls Tryz.prog 48 #[.string ⟨#[115,112,111]⟩] w (k5_ 0 w):=by
 obtain⟨z,f⟩:=a_ w.heap.size;obtain⟨l,e⟩:=a_ (w.alloc (.cells #[.int .i64 0,.int .i64 0,.int .i64 0] 101));have i:=q_ (show Below w.heap.size w l from by rw[<-e.o];exact (Below.refl _ _).alloc (Nat.le_refl _) _);have p:=q_ (show l.heap[z]?=some (.cells #[.int .i64 0,.int .i64 0,.int .i64 0] 101 (0,0)) from by rw[<-e.o,<-f.o];exact heap_alloc_new w _);have h:=q_ (show (Tryz.prog.info? 101).map (·.size)=some 3 from by kernel_rfl);go_enter Tryz.func48,Tryz.ntmps48
 go_upto_region 1 with fail;rw[e.o,f.o];clear e;have r:=q_ (show (#[.int .i64 0,.int .i64 1,.int .i64 2]:Array Value).all (·.oneCell')=true from by kernel_rfl);go_wp2_with ((with_reducible refine y_ 2 ?_);refine m_ rfl 101 _ _ rfl z (#[.int .i64 0,.int .i64 0,.int .i64 0]) (#[.int .i64 0,.int .i64 1,.int .i64 2]) 101 rfl rfl p.o rfl h.o r.o ?_;intro w2 m d)
 have j:=q_ (show Below w.heap.size w w2 from i.o.trans ⟨d.os,d.tape,d.output,d.size,λk q=>d.block k (Nat.lt_of_lt_of_le q i.o.size) (by rw[<-f.o];omega)⟩);refine bodyPost_ret (v:=.tuple #[.agg (#[.int .i64 0,.int .i64 1,.int .i64 2]),.int .i64 0,.bool true]) (cx_ Tryz.results48 (g:=z) rfl m _ Tryz.underlying101 rfl h.o rfl rfl) rfl ⟨rfl,j.o⟩
theorem Ln_ (w:World):Calls Tryz.prog 48 #[.string ⟨#[115,111,112]⟩] w (k5_ 1 w):=by
 obtain⟨z,f⟩:=a_ w.heap.size;obtain⟨l,e⟩:=a_ (w.alloc (.cells #[.int .i64 0,.int .i64 0,.int .i64 0] 101));have i:=q_ (show Below w.heap.size w l from by rw[<-e.o];exact (Below.refl _ _).alloc (Nat.le_refl _) _);have p:=q_ (show l.heap[z]?=some (.cells #[.int .i64 0,.int .i64 0,.int .i64 0] 101 (0,0)) from by rw[<-e.o,<-f.o];exact heap_alloc_new w _);have h:=q_ (show (Tryz.prog.info? 101).map (·.size)=some 3 from by kernel_rfl);go_enter Tryz.func48,Tryz.ntmps48
 go_upto_region 1 with fail;rw[e.o,f.o];clear e;have r:=q_ (show (#[.int .i64 0,.int .i64 2,.int .i64 1]:Array Value).all (·.oneCell')=true from by kernel_rfl);go_wp2_with ((with_reducible refine y_ 2 ?_);refine m_ rfl 101 _ _ rfl z (#[.int .i64 0,.int .i64 0,.int .i64 0]) (#[.int .i64 0,.int .i64 2,.int .i64 1]) 101 rfl rfl p.o rfl h.o r.o ?_;intro w2 m d)
 have j:=q_ (show Below w.heap.size w w2 from i.o.trans ⟨d.os,d.tape,d.output,d.size,λk q=>d.block k (Nat.lt_of_lt_of_le q i.o.size) (by rw[<-f.o];omega)⟩);refine bodyPost_ret (v:=.tuple #[.agg (#[.int .i64 0,.int .i64 2,.int .i64 1]),.int .i64 1,.bool true]) (cx_ Tryz.results48 (g:=z) rfl m _ Tryz.underlying101 rfl h.o rfl rfl) rfl ⟨rfl,j.o⟩
theorem Lo_ (w:World):Calls Tryz.prog 48 #[.string ⟨#[112,115,111]⟩] w (k5_ 2 w):=by
 obtain⟨z,f⟩:=a_ w.heap.size;obtain⟨l,e⟩:=a_ (w.alloc (.cells #[.int .i64 0,.int .i64 0,.int .i64 0] 101));have i:=q_ (show Below w.heap.size w l from by rw[<-e.o];exact (Below.refl _ _).alloc (Nat.le_refl _) _);have p:=q_ (show l.heap[z]?=some (.cells #[.int .i64 0,.int .i64 0,.int .i64 0] 101 (0,0)) from by rw[<-e.o,<-f.o];exact heap_alloc_new w _);have h:=q_ (show (Tryz.prog.info? 101).map (·.size)=some 3 from by kernel_rfl);go_enter Tryz.func48,Tryz.ntmps48
 go_upto_region 1 with fail;rw[e.o,f.o];clear e;have r:=q_ (show (#[.int .i64 1,.int .i64 0,.int .i64 2]:Array Value).all (·.oneCell')=true from by kernel_rfl);go_wp2_with ((with_reducible refine y_ 2 ?_);refine m_ rfl 101 _ _ rfl z (#[.int .i64 0,.int .i64 0,.int .i64 0]) (#[.int .i64 1,.int .i64 0,.int .i64 2]) 101 rfl rfl p.o rfl h.o r.o ?_;intro w2 m d)
 have j:=q_ (show Below w.heap.size w w2 from i.o.trans ⟨d.os,d.tape,d.output,d.size,λk q=>d.block k (Nat.lt_of_lt_of_le q i.o.size) (by rw[<-f.o];omega)⟩);refine bodyPost_ret (v:=.tuple #[.agg (#[.int .i64 1,.int .i64 0,.int .i64 2]),.int .i64 2,.bool true]) (cx_ Tryz.results48 (g:=z) rfl m _ Tryz.underlying101 rfl h.o rfl rfl) rfl ⟨rfl,j.o⟩
theorem Lp_ (w:World):Calls Tryz.prog 48 #[.string ⟨#[112,111,115]⟩] w (k5_ 3 w):=by
 obtain⟨z,f⟩:=a_ w.heap.size;obtain⟨l,e⟩:=a_ (w.alloc (.cells #[.int .i64 0,.int .i64 0,.int .i64 0] 101));have i:=q_ (show Below w.heap.size w l from by rw[<-e.o];exact (Below.refl _ _).alloc (Nat.le_refl _) _);have p:=q_ (show l.heap[z]?=some (.cells #[.int .i64 0,.int .i64 0,.int .i64 0] 101 (0,0)) from by rw[<-e.o,<-f.o];exact heap_alloc_new w _);have h:=q_ (show (Tryz.prog.info? 101).map (·.size)=some 3 from by kernel_rfl);go_enter Tryz.func48,Tryz.ntmps48
 go_upto_region 1 with fail;rw[e.o,f.o];clear e;have r:=q_ (show (#[.int .i64 1,.int .i64 2,.int .i64 0]:Array Value).all (·.oneCell')=true from by kernel_rfl);go_wp2_with ((with_reducible refine y_ 2 ?_);refine m_ rfl 101 _ _ rfl z (#[.int .i64 0,.int .i64 0,.int .i64 0]) (#[.int .i64 1,.int .i64 2,.int .i64 0]) 101 rfl rfl p.o rfl h.o r.o ?_;intro w2 m d)
 have j:=q_ (show Below w.heap.size w w2 from i.o.trans ⟨d.os,d.tape,d.output,d.size,λk q=>d.block k (Nat.lt_of_lt_of_le q i.o.size) (by rw[<-f.o];omega)⟩);refine bodyPost_ret (v:=.tuple #[.agg (#[.int .i64 1,.int .i64 2,.int .i64 0]),.int .i64 3,.bool true]) (cx_ Tryz.results48 (g:=z) rfl m _ Tryz.underlying101 rfl h.o rfl rfl) rfl ⟨rfl,j.o⟩
theorem Lq_ (w:World):Calls Tryz.prog 48 #[.string ⟨#[111,115,112]⟩] w (k5_ 4 w):=by
 obtain⟨z,f⟩:=a_ w.heap.size;obtain⟨l,e⟩:=a_ (w.alloc (.cells #[.int .i64 0,.int .i64 0,.int .i64 0] 101));have i:=q_ (show Below w.heap.size w l from by rw[<-e.o];exact (Below.refl _ _).alloc (Nat.le_refl _) _);have p:=q_ (show l.heap[z]?=some (.cells #[.int .i64 0,.int .i64 0,.int .i64 0] 101 (0,0)) from by rw[<-e.o,<-f.o];exact heap_alloc_new w _);have h:=q_ (show (Tryz.prog.info? 101).map (·.size)=some 3 from by kernel_rfl);go_enter Tryz.func48,Tryz.ntmps48
 go_upto_region 1 with fail;rw[e.o,f.o];clear e;have r:=q_ (show (#[.int .i64 2,.int .i64 0,.int .i64 1]:Array Value).all (·.oneCell')=true from by kernel_rfl);go_wp2_with ((with_reducible refine y_ 2 ?_);refine m_ rfl 101 _ _ rfl z (#[.int .i64 0,.int .i64 0,.int .i64 0]) (#[.int .i64 2,.int .i64 0,.int .i64 1]) 101 rfl rfl p.o rfl h.o r.o ?_;intro w2 m d)
 have j:=q_ (show Below w.heap.size w w2 from i.o.trans ⟨d.os,d.tape,d.output,d.size,λk q=>d.block k (Nat.lt_of_lt_of_le q i.o.size) (by rw[<-f.o];omega)⟩);refine bodyPost_ret (v:=.tuple #[.agg (#[.int .i64 2,.int .i64 0,.int .i64 1]),.int .i64 4,.bool true]) (cx_ Tryz.results48 (g:=z) rfl m _ Tryz.underlying101 rfl h.o rfl rfl) rfl ⟨rfl,j.o⟩
theorem Lr_ (w:World):Calls Tryz.prog 48 #[.string ⟨#[111,112,115]⟩] w (k5_ 5 w):=by
 obtain⟨z,f⟩:=a_ w.heap.size;obtain⟨l,e⟩:=a_ (w.alloc (.cells #[.int .i64 0,.int .i64 0,.int .i64 0] 101));have i:=q_ (show Below w.heap.size w l from by rw[<-e.o];exact (Below.refl _ _).alloc (Nat.le_refl _) _);have p:=q_ (show l.heap[z]?=some (.cells #[.int .i64 0,.int .i64 0,.int .i64 0] 101 (0,0)) from by rw[<-e.o,<-f.o];exact heap_alloc_new w _);have h:=q_ (show (Tryz.prog.info? 101).map (·.size)=some 3 from by kernel_rfl);go_enter Tryz.func48,Tryz.ntmps48
 go_upto_region 1 with fail;rw[e.o,f.o];clear e;have r:=q_ (show (#[.int .i64 2,.int .i64 1,.int .i64 0]:Array Value).all (·.oneCell')=true from by kernel_rfl);go_wp2_with ((with_reducible refine y_ 2 ?_);refine m_ rfl 101 _ _ rfl z (#[.int .i64 0,.int .i64 0,.int .i64 0]) (#[.int .i64 2,.int .i64 1,.int .i64 0]) 101 rfl rfl p.o rfl h.o r.o ?_;intro w2 m d)
 have j:=q_ (show Below w.heap.size w w2 from i.o.trans ⟨d.os,d.tape,d.output,d.size,λk q=>d.block k (Nat.lt_of_lt_of_le q i.o.size) (by rw[<-f.o];omega)⟩);refine bodyPost_ret (v:=.tuple #[.agg (#[.int .i64 2,.int .i64 1,.int .i64 0]),.int .i64 5,.bool true]) (cx_ Tryz.results48 (g:=z) rfl m _ Tryz.underlying101 rfl h.o rfl rfl) rfl ⟨rfl,j.o⟩
theorem H7_ (i:Nat) (hi:i<6) (w:World):Calls Tryz.prog 48 #[.string (gu_ i)] w (k5_ i w):=by
 rcases (show i=0\/i=1\/i=2\/i=3\/i=4\/i=5 by omega) with rfl | rfl | rfl | rfl | rfl | rfl
 ·exact Js_ w
 ·exact Ln_ w
 ·exact Lo_ w
 ·exact Lp_ w
 ·exact Lq_ w
 ·exact Lr_ w
end
section
open Go Go.RowKit Go.Maps
theorem s5_ {w:World} {b e sz:Nat} {v:Value} {n:Nat} {xs j:List Value} (h1:w.ownsRow b e sz v n xs) (h:w.ownsRow b e sz v n j):xs=j:=by
 rcases h1.2 with⟨g,o⟩ | ⟨r,q,u,g,_,p,_,_,_,l⟩
 ·have k:=h1.1;have i:=h.1;rw[o,Nat.zero_mul]at k i;rw[List.eq_nil_of_length_eq_zero k,List.eq_nil_of_length_eq_zero i]
 ·rcases h.2 with⟨d,t⟩ | ⟨y,x,s,d,_,f,_,_,_,m⟩
  ·rw[g]at d;cases d
  ·rw[g]at d;injection d with d _ e3;injection d with d;injection d with d;subst d e3;rw[p]at f;injection f with f;injection f with f;subst f;rw[<-l,<-m]
theorem H8_:(Tryz.prog.info? 99).map (λi=>(i.zero,i.size,i.bytes))=some (some (.agg #[.int .i64 0,.bool false,.int .i64 0,.string ⟨#[]⟩,.string ⟨#[]⟩,.slice none 0 0,.int .i64 0,.bool false,.int .i64 0,.string ⟨#[]⟩,.string ⟨#[]⟩,.slice none 0 0,.int .i64 0,.bool false,.int .i64 0,.string ⟨#[]⟩,.string ⟨#[]⟩,.slice none 0 0]),18,240):=by kernel_rfl
theorem Kk_:(Tryz.prog.info? 3).map (λi=>(i.zero,i.size,i.bytes))=some (some (.int .i64 0),1,8):=by kernel_rfl
theorem pd_ {op:Oper} {a:Act} {K:Act->World->Prop} {Q:Exit->Act->World->Prop} (s x:Operand) (M:op.op = .call { callee:=.builtin .append,args:=#[s,x],argTypes:=#[93,93] })
    {wr:World} {F:Nat->Prop} {L:List d_} {S:Value} {t:d_} {c:Array Value} {n:Nat} (P:a.eval s=S) (i:x_ 99 18 TrS wr F L S) (J:L.length=n) (T:a.eval x = .slice (some ⟨wr.heap.size,0,none⟩) 1 1) (j:∀w F,TrS w F t c) (O:n<=1000000) (R:∀b,F b->b<wr.heap.size)
    (h:∀g cap w',x_ 99 18 TrS w' (λb=>F b\/b=g) (L++[t]) (.slice (some ⟨g,0,none⟩) (n+1) cap)->wr.grownBy w' S.ownBlock->(S.ownBlock=some g\/wr.heap.size<=g)->g<w'.heap.size->K (a.put op.dst (.slice (some ⟨g,0,none⟩) (n+1) cap)) w') :
    op.wp Tryz.prog a (wr.alloc (.cells c 99)) K Q:=by
 subst J;obtain⟨N,hi,l,r,o⟩:=info_parts H8_;obtain⟨cs,d,U,y,W⟩:=i;have f:c.size=18:=by obtain⟨_,_,ss,_,e⟩:=j wr F;rw[e];rfl
 have k:∀u∈c.toList,u.oneCell'=true:=by obtain⟨_,_,ss,I,e⟩:=j wr F;rw[e];exact ct_ t ss λq C=>by obtain⟨A,B,e⟩:=I q C;exact⟨A,0,B,e⟩
 refine wp_append_lies _ s x _ M 0 99 N _ 18 240 Tryz.underlying93 hi l r o rfl (by decide) S L.length (I_ cs L.length) P (d.alloc _) ⟨wr.heap.size,0,none⟩ 1 1 c.toList T (by rw[Array.length_toList,f]) (World.news_of_block (heap_alloc_new wr _)) k (by omega) (by unfold maxLen;omega) (by omega) (Nat.zero_le _) (wr.heap.size+1) (by simp) λg cap w' h1 V D z=>?_;have m:=aa_ V;have p:S.ownBlock=some g\/wr.heap.size<=g:=D.imp id (λe=>by rw[e];omega);have v:=x_.snoc (x:=t) (c:=c) (G:=λ_=>False) TrS.good ⟨cs,d,U,y,W⟩ (j _ _) f (λb hb=>hb.elim) R (λb hb=>hb.elim) (λX E=>by rw[s5_ E d];exact h1) m p;exact h g cap w' (v.mono TrS.good λb hb=>by rcases hb with hb | hb | hb;exact .inl hb;exact hb.elim;exact .inr hb) m p z
theorem vj_ {op:Oper} {a:Act} {K:Act->World->Prop} {Q:Exit->Act->World->Prop} (s x:Operand) (v:op.op = .call { callee:=.builtin .append,args:=#[s,x],argTypes:=#[94,94] })
    {wr:World} {d:List Nat} {S:Value} {k n:Nat} (t:a.eval s=S) (A:d.length=n) (f:wr.ownsRow 0 3 1 S n (ixC d)) (q:a.eval x = .slice (some ⟨wr.heap.size,0,none⟩) 1 1) (o:n<=1000000)
    (h:∀g cap w',w'.ownsRow 0 3 1 (.slice (some ⟨g,0,none⟩) (n+1) cap) (n+1) (ixC (d++[k]))->wr.grownBy w' S.ownBlock->(S.ownBlock=some g\/wr.heap.size<=g)->g<w'.heap.size->K (a.put op.dst (.slice (some ⟨g,0,none⟩) (n+1) cap)) w') :
    op.wp Tryz.prog a (wr.alloc (.cells #[.int .i64 (k:Nat)] 3)) K Q:=by
 obtain⟨z,hi,l,j,m⟩:=info_parts Kk_;refine wp_append_lies _ s x _ v 0 3 z _ 1 8 Tryz.underlying94 hi l j m rfl (by decide) S n (ixC d) t (f.alloc _) ⟨wr.heap.size,0,none⟩ 1 1 [.int .i64 (k:Nat)] q rfl (World.news_of_block (cs:=#[.int .i64 (k:Nat)]) (heap_alloc_new wr _)) (λu i=>by simp at i;subst i;rfl) (by omega) (by unfold maxLen;omega) (by omega) (Nat.zero_le _) (wr.heap.size+1) (by simp) λg cap w' h1 r y p=>?_;exact h g cap w' (by unfold ixC at h1 ⊢;rw[List.map_append];exact h1) (aa_ r) (y.imp id (λe=>by rw[e];omega)) p
structure LdM (w0:World) (c:Nat) (S:Value) (ss:Nat->Value) (wx:World):Prop where
 hb:Below w0.heap.size w0 wx
 c0:w0.heap.size<=c
 ph:wx.heap[c+1]?=some (.cells #[.pointer (some ⟨c,0,none⟩)] 29 (0,0))
 pc:wx.heap[c]?=some (.cells #[S,ss 0,ss 1,ss 2,ss 3,ss 4,ss 5] 97 (0,0))
section
variable {w0 wx w':World} {c:Nat} {S:Value} {ss:Nat->Value}
theorem LdM.on (h:LdM w0 c S ss wx) (hb:Below wx.heap.size wx w'):LdM w0 c S ss w':=
 ⟨h.hb.trans (hb.mono h.hb.size),h.c0,(hb.block _ (b_ h.ph)).trans h.ph,(hb.block _ (b_ h.pc)).trans h.pc⟩
theorem LdM.turn (h:LdM w0 c S ss wx) {T:Nat->Prop} (d:Turn T wx w') (h1:∀b,T b->c+2<=b):LdM w0 c S ss w':=
 ⟨j_ h.hb d (λb hb=>by have:=h1 b hb;have:=h.c0;omega),h.c0,d.heap h.ph (λhb=>by have:=h1 _ hb;omega),d.heap h.pc (λhb=>by have:=h1 _ hb;omega)⟩
theorem LdM.drew (h:LdM w0 c S ss wx):LdM w0 c S ss wx.drew:=⟨h.hb.drew,h.c0,h.ph,h.pc⟩
theorem LdM.cellS (h:LdM w0 c S ss wx):wx.cell? ⟨c,0,none⟩=some S:=cell_of_heap h.pc 0
theorem LdM.cellP (h:LdM w0 c S ss wx):wx.cell? ⟨c+1,0,none⟩=some (.pointer (some ⟨c,0,none⟩)):=cell_of_heap h.ph 0
theorem LdM.setS (h:LdM w0 c S ss wx) (S':Value):LdM w0 c S' ss (wx.setCell ⟨c,0,none⟩ S'):=by
 refine⟨h.hb.trans ?_,h.c0,?_,?_⟩
 ·have d:=(Turn.refl (λb=>b=c) wx).setCell (p:=⟨c,0,none⟩) (.inr rfl) S';exact⟨d.os,d.tape,d.output,d.size,λk f=>d.block k (Nat.lt_of_lt_of_le f h.hb.size) (λe=>by have:=h.c0;omega)⟩
 ·have d:=(Turn.refl (λb=>b=c) wx).setCell (p:=⟨c,0,none⟩) (.inr rfl) S';exact d.heap h.ph (by show ¬c+1=c;omega)
 ·exact heap_setCell_same wx c 0 _ _ S' h.pc
end
def s6_:Nat->Value:=λ_=>.slice none 0 0
structure LdT (w0:World) (c:Nat) (S:Value) (K:List d_) (wx:World):Prop where
 m:LdM w0 c S s6_ wx
 own:x_ 99 18 TrS wx (λb=>c+2<=b/\b<wx.heap.size) K S
theorem LdT.on {w0 wx w':World} {c:Nat} {S:Value} {K:List d_} (h:LdT w0 c S K wx) (hb:Below wx.heap.size wx w'):LdT w0 c S K w':=
 ⟨h.m.on hb,(h.own.turn TrS.good (Turn.of_below hb) (λb hb=>hb.2) (λb hb h=>by have e:wx.heap.size<=b:=h;omega)).mono TrS.good λb d=>⟨d.1,Nat.lt_of_lt_of_le d.2 hb.size⟩⟩
theorem LdT.drew {w0 wx:World} {c:Nat} {S:Value} {K:List d_} (h:LdT w0 c S K wx):LdT w0 c S K wx.drew:=⟨h.m.drew,h.own⟩
theorem LdT.blk {w0 wx:World} {c:Nat} {S:Value} {K:List d_} (h:LdT w0 c S K wx):∀b,S.ownBlock=some b->c+2<=b/\b<wx.heap.size:=by obtain⟨cs,_,_,d,_⟩:=h.own;exact d
theorem LdT.more {w0 wr w':World} {c g cap:Nat} {S:Value} {K:List d_} {t:d_} {n:Nat} (h:LdT w0 c S K wr) (i:wr.grownBy w' S.ownBlock) (o:S.ownBlock=some g\/wr.heap.size<=g) (d:g<w'.heap.size)
    (l:x_ 99 18 TrS w' (λb=>(c+2<=b/\b<wr.heap.size)\/b=g) (K++[t]) (.slice (some ⟨g,0,none⟩) (n+1) cap)) :
    LdT w0 c (.slice (some ⟨g,0,none⟩) (n+1) cap) (K++[t]) (w'.setCell ⟨c,0,none⟩ (.slice (some ⟨g,0,none⟩) (n+1) cap)):=by
 have q:c+2<=wr.heap.size:=by have:=b_ h.m.ph;omega
 have k:LdM w0 c S s6_ w':=h.m.turn (Turn.of_grown i) λb hb=>(h.blk b hb.symm).1
 have j:c+2<=g:=by
  rcases o with h1 | h1
  ·exact (h.blk g h1).1
  ·omega
 refine⟨k.setS _,?_⟩;have f:=(Turn.refl (λb=>b=c) w').setCell (p:=⟨c,0,none⟩) (.inr rfl) (.slice (some ⟨g,0,none⟩) (n+1) cap);refine (l.turn TrS.good f (λb hb=>?_) (λb hb e=>?_)).mono TrS.good λb hb=>?_
 ·rcases hb with hb | hb
  ·exact Nat.lt_of_lt_of_le hb.2 i.size
  ·rw[hb];exact d
 ·rcases hb with hb | hb
  ·have:b=c:=e;omega
  ·have:b=c:=e;omega
 ·rcases hb with hb | hb
  ·exact⟨hb.1,Nat.lt_of_lt_of_le (Nat.lt_of_lt_of_le hb.2 i.size) f.size⟩
  ·rw[hb];exact⟨j,Nat.lt_of_lt_of_le d f.size⟩
end
end Go.Proofs.YtefhfadjajcmkaaGreatDoor
