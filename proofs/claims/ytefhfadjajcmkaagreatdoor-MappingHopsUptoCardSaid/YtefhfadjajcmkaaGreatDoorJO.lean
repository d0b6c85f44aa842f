/- What a script, a list of triples in memory read as: printed by gen_Y3.py. -/
import Derived.Test.YtefhfadjajcmkaaGreatDoorJN
import Derived.Test.YtefhfadjajcmkaaGreatDoorBulk
import Derived.Deep.Slices
import Derived.Lib.SmallJoins
set_option linter.unusedVariables false
set_option linter.unusedSimpArgs false
set_option maxRecDepth 100000
set_option maxHeartbeats 64000000
namespace Go.Proofs.YtefhfadjajcmkaaGreatDoor
open Go.Lib (cell_of_heap)
section
open Go Go.RowKit Go.Maps
theorem zu_ {T:List d_} (b:ai_ T) (a:∀t,t∈T->∀n,ag_ (t.get n)):∀v,v∈R_ T->ag_ v:=λv c=>by
 obtain⟨t,ht,e | e⟩:=pd_ ((b.vals.2 v).1 c)
 ·rw[e];exact a t ht 0
 ·rw[e];exact a t ht 2
def Jr_ (a b:Value):Nat->Value:=λe=>if e=0 then a else if e=1 then b else .slice none 0 0
def Js_ (a b:Value):Nat->Value:=λe=>if e=1 then a else if e=2 then b else .slice none 0 0
theorem Hf_ (v p:h_) (a b:Value) (W:World):(Instr.build 45 #[(0,.agg (c_ v a)),(1,.agg (c_ p b))]).run Tryz.prog W = .ok (.agg (s_ ⟨v,p,nmV ⟨#[]⟩⟩ (Jr_ a b))) W:=by kernel_rfl
theorem Hg_ (v p:h_) (a b:Value) (W:World):(Instr.build 45 #[(1,.agg (c_ p a)),(2,.agg (c_ v b))]).run Tryz.prog W = .ok (.agg (s_ ⟨nmV ⟨#[]⟩,p,v⟩ (Js_ a b))) W:=by kernel_rfl
theorem Hh_ (W:World):(Instr.build 45 #[]).run Tryz.prog W = .ok (.agg (s_ ⟨nmV ⟨#[]⟩,nmV ⟨#[]⟩,nmV ⟨#[]⟩⟩ (λ_=>.slice none 0 0))) W:=by kernel_rfl
theorem Hi_ (i:Nat) (W:World):(Instr.build 39 #[(0,.int .i64 6),(2,.int .i64 (i:Nat))]).run Tryz.prog W = .ok (.agg (zt_ i)) W:=by kernel_rfl
theorem Me_ {v p:h_} {A B:Option Addr} {c d:Nat} (f:v.list=[]) (b:p.list=[]):∀e,e<3->∃C a,Jr_ (.slice A 0 c) (.slice B 0 d) e = .slice C ((⟨v,p,nmV ⟨#[]⟩⟩:d_).get e).list.length a:=λe g=>by
 rcases (show e=0\/e=1\/e=2 by omega) with rfl | rfl | rfl
 ·exact⟨A,c,by show _=Value.slice A v.list.length c;rw[f];rfl⟩
 ·exact⟨B,d,by show _=Value.slice B p.list.length d;rw[b];rfl⟩
 ·exact⟨none,0,rfl⟩
theorem Mf_ {v p:h_} {A B:Option Addr} {c d:Nat} (f:v.list=[]) (b:p.list=[]):∀e,e<3->∃C a,Js_ (.slice B 0 d) (.slice A 0 c) e = .slice C ((⟨nmV ⟨#[]⟩,p,v⟩:d_).get e).list.length a:=λe g=>by
 rcases (show e=0\/e=1\/e=2 by omega) with rfl | rfl | rfl
 ·exact⟨none,0,rfl⟩
 ·exact⟨B,d,by show _=Value.slice B p.list.length d;rw[b];rfl⟩
 ·exact⟨A,c,by show _=Value.slice A v.list.length c;rw[f];rfl⟩
theorem ks_:ag_ (nmV ⟨#[]⟩):=⟨show (-9223372036854775808:Int)<=0 by decide,show (0:Int)<=9223372036854775807 by decide,show (0:Nat)<=_ by decide⟩
theorem tu_ {a b c:h_} (e:ag_ a) (hb:ag_ b) (f:ag_ c):∀n,ag_ ((⟨a,b,c⟩:d_).get n):=λn=>by
 unfold d_.get;split
 ·exact e
 ·split
  ·exact hb
  ·exact f
theorem C0_ (L:List d_) (bi:∀t,t∈L->OkT t) (F:Nat->Prop) (A:Option Addr) (n0 cp:Nat) (w:World) (hF:∀b,F b->b<w.heap.size) (hL:SRd 18 TrR w F L A n0) (hn:n0<=1000000000) (ak:F_ w) (am:as_ w) :
    Calls Tryz.prog 9 #[.slice A n0 cp] w (u_ true w):=by
 have HG:=q_ (And.intro ak am);have dv:=q_ bi;have c7:=q_ (lu_ L bi F A n0 cp w hF hL hn ak am);have ah:=q_ (λ(W:World) (hb:Below w.heap.size w W)=>rf_ L bi F A n0 cp W (λb h=>Nat.lt_of_lt_of_le (hF b h) hb.size) (hL.under TrR.good hb hF) hn (f_ ak hb) (n_ am hb));have HW:=q_ (λ(W:World) (hb:Below w.heap.size w W)=>(yq_ W (f_ ak hb) (n_ am hb)).mono (λe w' (h:u_ true W e w')=>(⟨h.1,hb.trans (h.2.mono hb.size)⟩:u_ true w e w')));unfold kg_ at c7;unfold h8_ at ah;unfold u_ at HW;clear hL bi ak am hF hn;go_enter Tryz.func9,Tryz.ntmps9
 go_upto_region 1 with fail;by_cases dn:40<n0
 ·have e1:(40:Int)<n0:=by omega
  go_wp2_with fail;refine (HW.o _ (Below.refl _ _)).mono ?_;rintro e w9 ⟨rfl,U⟩;have ap:=q_ U;clear U;go_wp2_with fail;go_ret;exact⟨rfl,ap.o⟩
 ·have e1:¬(40:Int)<n0:=by omega
  clear dn;go_wp2_with fail;refine c7.o.mono ?_;rintro e w2 (⟨ba,rfl,hb⟩ | ⟨aq,a0,NV,EV,rfl,a4,hb⟩)
  ·have I:=q_ hb;have dz:=q_ ba;clear hb ba;obtain⟨x,a3⟩:=a_ w2.heap.size;obtain⟨wa,G⟩:=a_ (w2.alloc (.cells #[.slice none 0 0,.slice none 0 0] 54));have ao:=q_ (show Below w2.heap.size w2 wa from by rw[<-G.o];exact (Below.refl _ _).alloc (Nat.le_refl _) _);have aj:=q_ (show wa.heap[x]?=some (.cells #[.slice none 0 0,.slice none 0 0] 54 (0,0)) from by rw[<-G.o,<-a3.o];exact heap_alloc_new w2 _);go_upto_region 4 with ((with_reducible refine z_ 3 ?_);rw[G.o,a3.o];refine r_ rfl 54 _ _ rfl x (#[.slice none 0 0,.slice none 0 0]) (#[.slice none 0 0,.slice none 0 0]) 54 rfl rfl aj.o rfl (U_ _ _) (c7_ _ _ _ _ _ _) ?_;intro w4 az af)
   have Y:=q_ (show Below w2.heap.size w2 w4 from j_ ao.o af (λb e=>by have e:b=x:=e;have h2:w2.heap.size=x:=a3.o;omega));have V:=q_ (I.o.trans (Y.o.mono I.o.size));clear az af G aj ao;go_wp2_with fail;refine (ah.o w4 V.o).mono ?_;rintro e w5 (⟨_,rfl,hb⟩ | ⟨aq,a0,_⟩)
   ·have C:=q_ (V.o.trans (hb.mono V.o.size));clear hb;go_wp2_with fail;refine (HW.o _ C.o).mono ?_;rintro e w9 ⟨rfl,U⟩;have ap:=q_ U;clear U;go_wp2_with fail;go_ret;exact⟨rfl,ap.o⟩
   ·exact absurd ⟨aq,a0⟩ dz.o
  ·have I:=q_ hb;have ed:=q_ (And.intro aq a0);have u:=q_ (Ha_ aq a0 dv.o);obtain⟨T,HT⟩:=a_ (ba_ (w_ (ak_ 0)) L);rw[HT.o]at u a4 ah;obtain⟨N',E',e,⟨A1,c1,eN,b5,c2⟩,⟨B1,d1,eE,et,ek⟩⟩:=id a4;subst eN;subst eE;injection e with e;have e3:=congrArg (λa:Array Value=>a[0]?) e;have e4:=congrArg (λa:Array Value=>a[1]?) e;simp at e3 e4;subst e3;subst e4;have bz:Q_ ((af_ T).nodes.length=(R_ T).length):=q_ (List.length_mapIdx);obtain⟨M,eu⟩:=a_ (af_ T).nodes.length;obtain⟨nE,es⟩:=a_ (af_ T).edges.length;rw[eu.o]at a4 c2 bz ⊢;rw[es.o]at a4 ⊢;have cr:=q_ (λ(W:World) (hb:Below w2.heap.size w2 W)=>a4.under hb (λb h=>h.2));have eq:=q_ (λ(W:World) (hb:Below w2.heap.size w2 W)=>c2.under NoR.good hb (λb h=>h.2));clear a4 hb e b5 et c2 ek aq a0;obtain⟨x,a3⟩:=a_ w2.heap.size;obtain⟨wa,G⟩:=a_ (w2.alloc (.cells #[.slice none 0 0,.slice none 0 0] 54));have ao:=q_ (show Below w2.heap.size w2 wa from by rw[<-G.o];exact (Below.refl _ _).alloc (Nat.le_refl _) _);have aj:=q_ (show wa.heap[x]?=some (.cells #[.slice none 0 0,.slice none 0 0] 54 (0,0)) from by rw[<-G.o,<-a3.o];exact heap_alloc_new w2 _);go_upto_region 4 with ((with_reducible refine z_ 3 ?_);rw[G.o,a3.o];refine r_ rfl 54 _ _ rfl x (#[.slice none 0 0,.slice none 0 0]) (#[.slice A1 M c1,.slice B1 nE d1]) 54 rfl rfl aj.o rfl (U_ _ _) (c7_ _ _ _ _ _ _) ?_;intro w4 az af)
   have Y:=q_ (show Below w2.heap.size w2 w4 from j_ ao.o af (λb e=>by have e:b=x:=e;have h2:w2.heap.size=x:=a3.o;omega));have V:=q_ (I.o.trans (Y.o.mono I.o.size));have ai:=q_ az;clear az af G aj ao;go_wp2_with fail;refine (ah.o w4 V.o).mono ?_;rintro e w5 (⟨ba,_⟩ | ⟨_,_,c,rfl,hb,hs⟩)
   ·exact absurd ed.o ba
   ·have bp:=q_ hb;have C:=q_ (V.o.trans (hb.mono V.o.size));have ay:=q_ (Y.o.trans (hb.mono Y.o.size));obtain⟨Gs,bq⟩:=a_ (λb=>w4.heap.size<=b/\b<w5.heap.size);rw[bq.o]at hs;have a5:=q_ (show ∀b,Gs b->b<w5.heap.size from by rw[<-bq.o];exact λb h=>h.2);have HS:=q_ (λ(W:World) (hb:Below w5.heap.size w5 W)=>hs.keep (w':=W) λb N=>hb.block b (a5.o b N));have cz:=q_ hs.scal;have bg:=q_ hs.fit;have ck:=q_ hs.len;have cc:=q_ (λ(W:World) (hb:Below w5.heap.size w5 W) (P:d_) (ps:Nat->Value) (e0:∀e,e<3->∃B em,ps e = .slice B (P.get e).list.length em) (fb:∀n,ag_ (P.get n))=>Bu_ (hs.keep (w':=W) λb N=>hb.block b (a5.o b N)) (λb N=>Nat.lt_of_lt_of_le (a5.o b N) hb.size) P ps e0 fb (f_ HG.o.1 (C.o.trans (hb.mono C.o.size))) (n_ HG.o.2 (C.o.trans (hb.mono C.o.size))));have bu:=q_ (λ(W:World) (hb:Below w5.heap.size w5 W)=>rh_ (hs.keep (w':=W) λb N=>hb.block b (a5.o b N)) (λb N=>Nat.lt_of_lt_of_le (a5.o b N) hb.size) ⟨nmV ⟨#[]⟩,nmV ⟨#[]⟩,nmV ⟨#[]⟩⟩ (λ_=>.slice none 0 0) (λe he=>by rcases (show e=0\/e=1\/e=2 by omega) with rfl | rfl | rfl<;>exact⟨none,0,rfl⟩) (tu_ ks_ ks_ ks_) (f_ HG.o.1 (C.o.trans (hb.mono C.o.size))) (n_ HG.o.2 (C.o.trans (hb.mono C.o.size))))
    rw[Bv_ (.inl rfl) (.inl rfl) (.inl rfl)]at bu;unfold mj_ at bu;unfold s9_ at cc;have co:=q_ (λ(W:World) (hb:Below w2.heap.size w2 W)=>hx_ (af_ T) u.o.fit _ _ W (λb h=>Nat.lt_of_lt_of_le h.2 hb.size) (cr.o W hb) (f_ HG.o.1 (I.o.trans (hb.mono I.o.size))));unfold ic_ at co;have ej:=q_ ((hb.block x (b_ ai.o)).trans ai.o);have di:=q_ (show x<w4.heap.size from b_ ai.o);clear hs hb bq ah c7;go_wp2_with ((with_reducible refine e_ (some 46) ?_);refine A_ rfl 54 _ rfl x 0 rfl (#[.slice A1 M c1,.slice B1 nE d1]) _ (p_ ej.o) Tryz.underlying54 rfl (U_ _ _) ?_)
    refine (co.o w5 ay.o).mono ?_;rintro e w6 ⟨hb,dh⟩
    obtain⟨p,g',rfl,bb,dk⟩:∃p g',e = .returned (.tuple #[.pointer (some ⟨p,0,none⟩),.int .i64 0])/\dy_ w6 w5.heap.size p g'/\g4_ (af_ T) g':=by
     rcases dh with⟨hm,_⟩ | ⟨_,p,g',e1,e2,e3⟩
     ·rw[u.o.graph]at hm
      cases hm
     ·exact⟨p,g',e1,e2,e3⟩
    have dy:=pw_ u.o.graph dk u.o.srt;subst dy;obtain⟨Ns,Es,mh,mt,ma,ef,n1,bb⟩:=bb;have ab:=q_ hb;have d6:=q_ (C.o.trans (hb.mono C.o.size));have e5:=q_ (λ(W:World) (hb:Below w6.heap.size w6 W)=>bb.turn (Turn.of_below hb) (λb _ h2 h3=>by have h3:w6.heap.size<=b:=h3;omega));clear hb dh bb dk;go_wp2_with fail;refine (zd_ (HS.o _ ab.o) (λb h=>Nat.lt_of_lt_of_le (a5.o b h) ab.o.size)).mono ?_;unfold mj_;rintro e w7 ⟨v7,rfl,X,hb⟩;obtain⟨A5,c5,rfl,ct⟩:=xw_ X;have br:=q_ hb;have db:=q_ (d6.o.trans (hb.mono d6.o.size));have O:=q_ (ab.o.trans (hb.mono ab.o.size));have ac:=q_ (bp.o.trans (O.o.mono bp.o.size));have Z:=q_ (ay.o.trans (O.o.mono ay.o.size));have cf:=q_ (λ(W:World) (hb:Below w7.heap.size w7 W)=>ct.under (ofP.good CTx) hb (λb h=>h.2));have de:=q_ (λ(W:World) (hb:Below w7.heap.size w7 W)=>(show W.cell? ⟨x,0,none⟩=some (.slice A1 M c1) from by have h:=ac.o.trans (hb.mono ac.o.size);exact (h.cell (p:=⟨x,0,none⟩) di.o).trans (cell_of_heap ai.o 0)));have er:=q_ (λ(W:World) (hb:Below w7.heap.size w7 W)=>(show W.heap[x]?=some (.cells #[.slice A1 M c1,.slice B1 nE d1] 54 (0,0)) from by have h:=ac.o.trans (hb.mono ac.o.size);exact (h.block x di.o).trans ai.o));obtain⟨n,HN⟩:=a_ T.length;rw[HN.o]at cf ck ⊢;have dw:=q_ u.o.vlen;clear X hb ct;go_wp2_with fail;go_loopw [9] (λs9 wx=>∃i:Nat,i<=M/\s9 = .int .i64 (i:Nat)/\Q_ (Below w7.heap.size w7 wx)) (λs9 _=>M-(intOf s9).toNat)
    case atStart=>exact⟨0,by omega,rfl,q_ (Below.refl _ _)⟩
    case round=>
     obtain⟨i,hi,rfl,E⟩:=hrel;have eg:=de.o wr E.o;by_cases ci:i<M
     ·have bl:=q_ ci;have a1:(0:Int)<=i:=by omega
      have a2:(i:Int)<M:=by omega
      obtain⟨v,hv⟩:∃v,(R_ T)[i]?=some v:=⟨_,List.getElem?_eq_getElem (by have:=bz.o;omega)⟩;have HV:=q_ hv;have HI:=q_ (show i<=131072 from by have:=dw.o;have:=bz.o;omega);have dg:(af_ T).nodes[i]?=some (E_ (i:Nat) v):=by show ((R_ T).mapIdx λi v=>E_ (i:Nat) v)[i]?=_;rw[List.getElem?_mapIdx,hv];rfl
      obtain⟨s,cN,rfl,cu,ec,b5,LL,PP,eN,-,-⟩:=(eq.o wr (Z.o.trans (E.o.mono Z.o.size))).at_ dg;rw[bd_]at eN;have bw:=q_ (λ(W:World) (hb:Below wr.heap.size wr W)=>(show W.cell? (s.add (i*3))=some (.int .i64 (i:Nat)) from by refine (hb.cell (p:=s.add (i*3)) (by rw[a3_];exact Nat.lt_of_lt_of_le cu.2 (Nat.le_trans Z.o.size E.o.size))).trans ?_;have h:=b5 0 (by omega);rw[eN]at h;exact h));have b8:=q_ (λ(W:World) (hb:Below wr.heap.size wr W)=>And.intro (de.o W (E.o.trans (hb.mono E.o.size))) (er.o W (E.o.trans (hb.mono E.o.size))));have ag:=q_ (λ(W:World) (hb:Below wr.heap.size wr W)=>(show Calls Tryz.prog 35 #[.agg #[.slice (some s) M c1,.slice B1 nE d1],.agg (zt_ i)] W (yr_ v W) from by have h2:=Z.o.trans ((E.o.trans (hb.mono E.o.size)).mono Z.o.size);exact Cz_ u.o i HV.o _ _ W (λb h=>Nat.lt_of_lt_of_le h.2 h2.size) (cr.o W h2) (f_ HG.o.1 (I.o.trans (h2.mono I.o.size)))));unfold yr_ at ag;have a6:=q_ (Hi_ i);obtain⟨kn,d8⟩:=Kg_ i;rw[d8.o]at ag a6;clear d8 hv dg cu ec b5 eN;go_upto_region 14 with fail;clear eg;go_cut [10,11] (λdx el wx=>∃(z:Nat) (Av:Option Addr) (cv:Nat),dx = .pointer (some ⟨z,0,none⟩)/\el = .bool true/\Q_ (wx.heap[z]?=some (.cells (c_ v (.slice Av 0 cv)) 39 (0,0))/\Below wr.heap.size wr wx))
      case first=>
       refine wp_region_held_drew (S:=λW'=>Below wr.heap.size wr W') (by kernel_rfl) (Below.refl _ _).drew λf=>?_;refine V_.o ?_;refine J_ 0 66 (.agg #[.slice (some s) M c1,.slice B1 nE d1]) f (λw g=>?_) λf=>?_
       ·exact k_ (ap_ (b8.o w g).2 54 _ Tryz.underlying54 rfl (U_ _ _))
       (try simp only[Act.put,aT,aZ,aS]);refine v_ 1 67 (.pointer (some ⟨x,0,none⟩)) f λf=>?_;(try simp only[Act.put,aT,aZ,aS]);refine J_ 2 68 (.slice (some s) M c1) f (λw g=>?_) λf=>?_
       ·have p:=(b8.o w g).1;unfold o_;go_simp
       (try simp only[Act.put,aT,aZ,aS]);refine v_ 3 69 (.int .i64 (i:Nat)) f λf=>?_;(try simp only[Act.put,aT,aZ,aS]);refine v_ 4 70 (.pointer (some (s.add (i*3)))) f λf=>?_;(try simp only[Act.put,aT,aZ,aS]);refine v_ 5 71 (.pointer (some (s.add (i*3)))) f λf=>?_;(try simp only[Act.put,aT,aZ,aS]);refine J_ 6 72 (.int .i64 (i:Nat)) f (λw g=>?_) λf=>?_
       ·have p:=bw.o w g;unfold o_;go_simp
       (try simp only[Act.put,aT,aZ,aS]);refine J_ 7 73 (.agg kn) f (λw g=>?_) λf=>?_
       ·exact ch_ _ _ #[(0,.int .i64 6),(2,.int .i64 (i:Nat))] _ (by kernel_rfl) (a6.o w)
       (try simp only[Act.put,aT,aZ,aS]);refine b4_ 8 12 (by kernel_rfl) (by rfl) (by rfl) (λK m=>?_) λK m=>?_
       ·change Oper.wp _ ⟨some 74,_,_,_,_,_⟩ _ _ _ _;go_simp;refine (ag.o _ f).mono ?_;rintro e R ⟨Av,cv,rfl,hb⟩;have r:=q_ (show Below wr.heap.size wr R from f.trans (hb.mono f.size));clear hb;obtain⟨uu,D⟩:=H_ v (.slice Av 0 cv);rw[D.o];have SR:=q_ D.size;have IR:=q_ (am_.trans (congrArg some D.size.symm));have OR:=q_ (show uu.all (·.oneCell')=true from by rw[<-D.o];kernel_rfl);dsimp only;refine m.out _ _ r.o λf=>?_;clear m K;(try simp only[Act.put,aT,aZ,aS]);refine v_ 9 65 (.tuple #[.agg uu,.bool true]) f λf=>?_;(try simp only[Act.put,aT,aZ,aS]);refine v_ 10 75 (.agg uu) f λf=>?_;(try simp only[Act.put,aT,aZ,aS]);refine v_ 11 76 (.bool true) f λf=>?_;(try simp only[Act.put,aT,aZ,aS]);refine tkC 12 λK m=>?_;change Oper.wp _ ⟨some 10,_,_,_,_,_⟩ _ _ _ _;go_simp;refine m.out _ _ (r.o.alloc r.o.size _) λf=>?_;clear m K;(try simp only[Act.put,aT,aZ,aS]);refine tkC 13 λK m=>?_;change Oper.wp _ ⟨none,_,_,_,_,_⟩ _ _ _ _;refine j1_ 39 _ _ rfl R.heap.size (#[.int .i64 0,.bool false,.int .i64 0,.string ⟨#[]⟩,.string ⟨#[]⟩,.slice none 0 0]) uu 39 rfl rfl (heap_alloc_new R _) (SR.o) IR.o OR.o λcd av aw=>?_;have ar:=q_ (show Below wr.heap.size wr cd from j_ (r.o.alloc r.o.size _) aw (λb e=>by have e:b=R.heap.size:=e;have:=r.o.size;omega));dsimp only;refine m.out _ _ ar.o λf=>?_;clear m K;(try simp only[Act.put,aT,aZ,aS]);refine v_ 14 11 (.bool true) f λf=>?_;(try simp only[Act.put,aT,aZ,aS]);refine⟨wpAnyH_done (by kernel_rfl) ?_ _⟩;clear f;go_wp2_with fail;go_meet;exact⟨_,Av,cv,rfl,rfl,q_ ⟨by rw[D.o];exact av,ar.o⟩⟩
       ·change Oper.wp _ ⟨some 10,_,_,_,_,_⟩ _ _ _ _;go_simp;obtain⟨we,bk⟩:=a_ (wr.alloc (.cells #[.int .i64 0,.bool false,.int .i64 0,.string ⟨#[]⟩,.string ⟨#[]⟩,.slice none 0 0] 39)).drew;obtain⟨ze,bn⟩:=a_ wr.heap.size;have e8:=q_ (show Below wr.heap.size wr we from by rw[<-bk.o];exact ((Below.refl _ _).alloc (Nat.le_refl _) _).drew);have d7:=q_ (show we.heap[ze]?=some (.cells #[.int .i64 0,.bool false,.int .i64 0,.string ⟨#[]⟩,.string ⟨#[]⟩,.slice none 0 0] 39 (0,0)) from by rw[<-bk.o,<-bn.o];exact heap_alloc_new wr _);rw[bk.o,bn.o];refine m.out _ _ e8.o λf=>?_;clear m K bk;(try simp only[Act.put,aT,aZ,aS]);refine tkC 8 λK m=>?_;change Oper.wp _ ⟨some 74,_,_,_,_,_⟩ _ _ _ _;go_simp;refine (ag.o _ f).mono ?_;rintro e R ⟨Av,cv,rfl,hb⟩;have r:=q_ (show Below wr.heap.size wr R from f.trans (hb.mono f.size));have ds:=q_ ((hb.block ze (b_ d7.o)).trans d7.o);clear hb;obtain⟨uu,D⟩:=H_ v (.slice Av 0 cv);rw[D.o];have SR:=q_ D.size;have IR:=q_ (am_.trans (congrArg some D.size.symm));have OR:=q_ (show uu.all (·.oneCell')=true from by rw[<-D.o];kernel_rfl);dsimp only;refine m.out _ _ r.o λf=>?_;clear m K;(try simp only[Act.put,aT,aZ,aS]);refine v_ 9 65 (.tuple #[.agg uu,.bool true]) f λf=>?_;(try simp only[Act.put,aT,aZ,aS]);refine v_ 10 75 (.agg uu) f λf=>?_;(try simp only[Act.put,aT,aZ,aS]);refine v_ 11 76 (.bool true) f λf=>?_;(try simp only[Act.put,aT,aZ,aS]);refine tkC 13 λK m=>?_;change Oper.wp _ ⟨none,_,_,_,_,_⟩ _ _ _ _;refine j1_ 39 _ _ rfl ze (#[.int .i64 0,.bool false,.int .i64 0,.string ⟨#[]⟩,.string ⟨#[]⟩,.slice none 0 0]) uu 39 rfl rfl ds.o (SR.o) IR.o OR.o λcd av aw=>?_;have ar:=q_ (show Below wr.heap.size wr cd from j_ r.o aw (λb e=>by have e:b=ze:=e;have:=bn.o;omega));dsimp only;refine m.out _ _ ar.o λf=>?_;clear m K;(try simp only[Act.put,aT,aZ,aS]);refine v_ 14 11 (.bool true) f λf=>?_;(try simp only[Act.put,aT,aZ,aS]);refine⟨wpAnyH_done (by kernel_rfl) ?_ _⟩;clear f;go_wp2_with fail;go_meet;exact⟨_,Av,cv,rfl,rfl,q_ ⟨by rw[D.o];exact av,ar.o⟩⟩
      case rest=>
      rename World=>wc
      obtain⟨z,Av,cv,rfl,rfl,h⟩:=hcut;have b7:=q_ h.o.1;have bs:=q_ h.o.2;have bj:=q_ (E.o.trans (bs.o.mono E.o.size));clear h ag a6;obtain⟨sv,c3⟩:=a_ (Value.slice Av 0 cv);rw[c3.o]at b7;obtain⟨uv,b4⟩:=H_ v sv;rw[b4.o]at b7;have ch:=q_ (am_.trans (congrArg some b4.size.symm));go_wp2_with fail;go_loopw [12] (λc0 wx=>∃k:Nat,k<=n/\c0 = .int .i64 (k:Nat)/\Q_ (Below wc.heap.size wc wx)) (λc0 _=>n-(intOf c0).toNat)
      case atStart=>exact⟨0,by omega,rfl,q_ (Below.refl _ _)⟩
      case round=>
       rename World=>wq
       obtain⟨k,hk,rfl,hQ⟩:=hrel;by_cases cy:k<n/\k<8
       ·obtain⟨dt,e9⟩:=cy;have b1:(0:Int)<=k:=by omega
        have b2:(k:Int)<n:=by omega
        have b3:(k:Int)<8:=by omega
        obtain⟨t,ht⟩:∃t,T[k]?=some t:=⟨_,List.getElem?_eq_getElem (by rw[HN.o];exact dt)⟩;have au:=q_ (List.mem_of_getElem? ht);have bc:=q_ (bj.o.trans (hQ.o.mono bj.o.size));obtain⟨ad,c8,rfl,cl,dr,cm,e9,ss,dc,rfl⟩:=(cf.o wq bc.o).at_ ht;have a8:=q_ (λ(W:World) (hb:Below wq.heap.size wq W) (j:Nat) (hj:j<6)=>(show W.cell? (((ad.add (k*18)).add 6).add j)=(c_ t.p (ss 1))[j]? from by rw[add_of_add,add_of_add];refine (hb.cell (p:=ad.add (k*18+(6+j))) (by rw[a3_];exact Nat.lt_of_lt_of_le cl.2 bc.o.size)).trans ((cm (6+j) (by omega)).trans ?_);have h:=D_ t ss 1 (by omega) j hj;rw[Nat.one_mul]at h;exact h));have d2:wq.cell? ⟨(ad.add (k*18)).block,(ad.add (k*18)).off+6+3,none⟩=some (.string t.p.text):=a8.o wq (Below.refl _ _) 3 (by omega);obtain⟨Ap,du,ep⟩:=dc 1 (by omega);rw[ep]at a8;have cj:=q_ (cm_ ((cz.o t au.o).get 1));have dj:=q_ (cm_ (u.o.val v (List.mem_of_getElem? HV.o)));obtain⟨sp,b6⟩:=a_ (Value.slice Ap 0 du);rw[b6.o]at a8;have aa:=q_ (λ(W:World) (hb:Below w5.heap.size w5 W)=>cc.o W hb ⟨v,t.p,nmV ⟨#[]⟩⟩ (Jr_ sv sp) (by rw[<-c3.o,<-b6.o];exact Me_ dj.o cj.o) (tu_ (zu_ u.o bg.o v (List.mem_of_getElem? HV.o)) (bg.o t au.o 1) ks_));have a9:=q_ (λ(W:World) (hb:Below w5.heap.size w5 W)=>cc.o W hb ⟨nmV ⟨#[]⟩,t.p,v⟩ (Js_ sp sv) (by rw[<-c3.o,<-b6.o];exact Mf_ dj.o cj.o) (tu_ ks_ (bg.o t au.o 1) (zu_ u.o bg.o v (List.mem_of_getElem? HV.o))));rw[<-Li_ u.o HV.o au.o]at aa;rw[<-Lj_ u.o HV.o au.o]at a9;have dd:=q_ (Hf_ v t.p sv sp);have cx:=q_ (Hg_ v t.p sp sv);obtain⟨up,a7⟩:=H_ t.p sp;obtain⟨x1,bx⟩:=a_ (s_ ⟨v,t.p,nmV ⟨#[]⟩⟩ (Jr_ sv sp));obtain⟨x2,c4⟩:=a_ (s_ ⟨nmV ⟨#[]⟩,t.p,v⟩ (Js_ sp sv));rw[a7.o]at a8;rw[b4.o,a7.o,bx.o]at dd;rw[b4.o,a7.o,c4.o]at cx;rw[bx.o]at aa;rw[c4.o]at a9;have d4:=q_ (am_.trans (congrArg some a7.size.symm));have ea:=q_ a7.size;obtain⟨tx,en⟩:=a_ t.p.text;rw[en.o]at d2 aa a9;obtain⟨l1,ce⟩:=a_ (ck_ (af_ T).edges [tx] (aj_ (af_ T).edges ((i:Nat):Int) 1));obtain⟨l2,c9⟩:=a_ (ck_ (af_ T).edges [tx] (aj_ (af_ T).edges ((i:Nat):Int) (-1)));rw[ce.o]at aa;rw[c9.o]at a9;clear cl dr cm dc ep ht a7 bx c4 b6;obtain⟨zq,bt⟩:=a_ wq.heap.size;obtain⟨l,bh⟩:=a_ (wq.alloc (.cells #[.string tx] 9));have J:=q_ (show Below wq.heap.size wq l from by rw[<-bh.o];exact (Below.refl _ _).alloc (Nat.le_refl _) _);have cg:=q_ (show l.heap[zq]?=some (.cells #[.string tx] 9 (0,0)) from by rw[<-bh.o,<-bt.o];exact heap_alloc_new wq _);have ae:=q_ (bc.o.trans (J.o.mono bc.o.size));go_upto_region 21 with fail;rw[bh.o,bt.o];clear bh
        have d5:=q_ (show SRd 1 TxR l (λb=>b=zq) [tx] (some ⟨zq,0,none⟩) 1 from ⟨rfl,λ_=>⟨_,rfl,rfl,λj y hy=>by
         have hj:j=0:=by have:=by_ hy;simp at this;omega
         subst hj;have hy:tx=y:=by simpa using hy
         subst hy
         exact⟨#[.string tx],rfl,λq hq=>by
          have hq:q=0:=by omega
          subst hq;exact (cell_of_heap cg.o 0),rfl⟩⟩⟩)
        have bo:=q_ (λ(W:World) (hb:Below l.heap.size l W) (d:Int) (hd:VI d)=>by
         have h6:=br.o.trans ((ae.o.trans (hb.mono ae.o.size)).mono br.o.size);exact Gy_ (af_ T) ((i:Nat):Int) d [tx] w5.heap.size p Ns Es mh mt ma ef n1 (λb=>b=zq) (some ⟨zq,0,none⟩) 1 1 W (e5.o W h6) (pp_ (by have:=HI.o;omega)) hd (λb h=>by rw[h];exact Nat.lt_of_lt_of_le (b_ cg.o) hb.size) (d5.o.under TxR.good hb (λb h=>by rw[h];exact b_ cg.o)) (by decide) (by have h:=u.o.len;have h2:(af_ T).edges.length=T.length:=List.length_mapIdx;omega))
        have bf:=q_ (λ(W:World) (hb:Below l.heap.size l W)=>bo.o W hb 1 (by unfold VI;decide));have b0:=q_ (λ(W:World) (hb:Below l.heap.size l W)=>bo.o W hb (-1) (by unfold VI;decide));rw[ce.o]at bf;rw[c9.o]at b0;unfold Gv_ at bf b0;obtain⟨m1,cs⟩:=a_ l1.length;obtain⟨m2,cw⟩:=a_ l2.length;rw[cs.o]at bf aa;rw[cw.o]at b0 a9;have df:=q_ (λ(W:World) (hb:Below l.heap.size l W)=>O.o.trans ((ae.o.trans (hb.mono ae.o.size)).mono O.o.size));have ei:=q_ (λ(W:World) (hb:Below l.heap.size l W)=>bs.o.trans ((hQ.o.trans ((J.o.trans (hb.mono J.o.size)).mono hQ.o.size)).mono bs.o.size));have HU:=q_ (λ(W:World) (hb:Below l.heap.size l W)=>(show W.heap[z]?=some (.cells uv 39 (0,0)) from by have h:=hQ.o.trans ((J.o.trans (hb.mono J.o.size)).mono hQ.o.size);exact (h.block z (b_ b7.o)).trans b7.o));have da:=q_ (λ(W:World) (hb:Below l.heap.size l W) (j:Nat) (hj:j<up.size)=>a8.o W (J.o.trans (hb.mono J.o.size)) j (by rw[ea.o]at hj;exact hj));clear d2 bo d5 a8 ce c9 cs cw bt;refine wp_region_held_drew (S:=λW'=>Below l.heap.size l W') (by kernel_rfl) (Below.refl _ _).drew λf=>?_;refine V_.o ?_;have bd:=q_ (λ(W:World) (hb:Below l.heap.size l W)=>ei.o W hb);refine v_ 0 96 (.pointer (some ⟨p,0,none⟩)) f λf=>?_;(try simp only[Act.put,aT,aZ,aS]);refine v_ 1 97 (.pointer (some ⟨x,0,none⟩)) f λf=>?_;(try simp only[Act.put,aT,aZ,aS]);refine J_ 2 98 (.slice (some s) M c1) f (λw g=>?_) λf=>?_
        ·have p:=(b8.o w (bd.o w g)).1;unfold o_;go_simp
        (try simp only[Act.put,aT,aZ,aS]);refine v_ 3 99 (.int .i64 (i:Nat)) f λf=>?_;(try simp only[Act.put,aT,aZ,aS]);refine v_ 4 100 (.pointer (some (s.add (i*3)))) f λf=>?_;(try simp only[Act.put,aT,aZ,aS]);refine v_ 5 101 (.pointer (some (s.add (i*3)))) f λf=>?_;(try simp only[Act.put,aT,aZ,aS]);refine J_ 6 102 (.int .i64 (i:Nat)) f (λw g=>?_) λf=>?_
        ·have p:=bw.o w (bd.o w g);unfold o_;go_simp
        (try simp only[Act.put,aT,aZ,aS]);refine v_ 7 103 (.slice (some ⟨zq,0,none⟩) 1 1) f λf=>?_;(try simp only[Act.put,aT,aZ,aS]);refine v_ 10 106 (.pointer (some ⟨c,0,none⟩)) f λf=>?_;(try simp only[Act.put,aT,aZ,aS]);refine J_ 11 107 (.agg uv) f (λw g=>?_) λf=>?_
        ·exact k_ (ap_ (HU.o w g) 39 _ Tryz.underlying39 rfl ch.o)
        (try simp only[Act.put,aT,aZ,aS]);refine v_ 12 108 (.slice (some ad) n c5) f λf=>?_;(try simp only[Act.put,aT,aZ,aS]);refine v_ 13 109 (.int .i64 (k:Nat)) f λf=>?_;(try simp only[Act.put,aT,aZ,aS]);refine v_ 14 110 (.pointer (some (ad.add (k*18)))) f λf=>?_;(try simp only[Act.put,aT,aZ,aS]);refine v_ 15 111 (.pointer (some ((ad.add (k*18)).add 6))) f λf=>?_;(try simp only[Act.put,aT,aZ,aS]);refine J_ 16 112 (.agg up) f (λw g=>?_) λf=>?_
        ·have p:=bu_ w ((ad.add (k*18)).add 6) 39 up _ (da.o w g) Tryz.underlying39 rfl d4.o;exact k_ (by simp only[Instr.loadAt,Instr.sureAddr,Sem.run_bind];exact p)
        (try simp only[Act.put,aT,aZ,aS]);refine J_ 17 113 (.agg x1) f (λw g=>?_) λf=>?_
        ·exact ch_ _ _ #[(0,.agg uv),(1,.agg up)] _ (by kernel_rfl) (dd.o w)
        (try simp only[Act.put,aT,aZ,aS]);refine tkC 8 λK m=>?_;change Oper.wp _ ⟨some 104,_,_,_,_,_⟩ _ _ _ _;go_simp;refine (bf.o _ f).mono ?_;rintro e e6 ⟨_,_,rfl,hb,-⟩;have dp:=q_ (show Below l.heap.size l e6 from (f).trans (hb.mono (f).size));clear hb;dsimp only;refine m.out _ _ dp.o λf=>?_;clear m K;(try simp only[Act.put,aT,aZ,aS]);refine v_ 9 105 (.int .i64 (m1:Nat)) f λf=>?_;(try simp only[Act.put,aT,aZ,aS]);refine tkC 18 λK m=>?_;change Oper.wp _ ⟨some 114,_,_,_,_,_⟩ _ _ _ _;go_simp;refine (aa.o _ (df.o _ f)).mono ?_;rintro e ee ⟨rfl,hb⟩;have dq:=q_ (show Below l.heap.size l ee from (f).trans (hb.mono (f).size));clear hb;dsimp only;refine m.out _ _ dq.o λf=>?_;clear m K;(try simp only[Act.put,aT,aZ,aS]);refine v_ 19 115 (.bool false) f λf=>?_;(try simp only[Act.put,aT,aZ,aS]);refine v_ 20 116 (.bool false) f λf=>?_;(try simp only[Act.put,aT,aZ,aS]);refine l_ 21 117 (by kernel_rfl) (by rfl) (by kernel_rfl) (by kernel_rfl) (by kernel_rfl) (λ_ _ _ h=>h) f λf=>?_;(try simp only[Act.put,aT,aZ,aS]);refine l_ 22 118 (by kernel_rfl) (by rfl) (by kernel_rfl) (by kernel_rfl) (by kernel_rfl) (λ_ _ _ h=>h) f λf=>?_;(try simp only[Act.put,aT,aZ,aS]);refine l_ 23 119 (by kernel_rfl) (by rfl) (by kernel_rfl) (by kernel_rfl) (by kernel_rfl) (λ_ _ _ h=>h) f λf=>?_;(try simp only[Act.put,aT,aZ,aS]);refine l_ 24 120 (by kernel_rfl) (by rfl) (by kernel_rfl) (by kernel_rfl) (by kernel_rfl) (λ_ _ _ h=>h) f λf=>?_;(try simp only[Act.put,aT,aZ,aS]);refine l_ 25 121 (by kernel_rfl) (by rfl) (by kernel_rfl) (by kernel_rfl) (by kernel_rfl) (λ_ _ _ h=>h) f λf=>?_;(try simp only[Act.put,aT,aZ,aS]);refine l_ 26 122 (by kernel_rfl) (by rfl) (by kernel_rfl) (by kernel_rfl) (by kernel_rfl) (λ_ _ _ h=>h) f λf=>?_;(try simp only[Act.put,aT,aZ,aS]);refine l_ 27 123 (by kernel_rfl) (by rfl) (by kernel_rfl) (by kernel_rfl) (by kernel_rfl) (λ_ _ _ h=>h) f λf=>?_;(try simp only[Act.put,aT,aZ,aS]);refine l_ 28 124 (by kernel_rfl) (by rfl) (by kernel_rfl) (by kernel_rfl) (by kernel_rfl) (λ_ _ _ h=>h) f λf=>?_;(try simp only[Act.put,aT,aZ,aS]);refine v_ 29 125 (.bool false) f λf=>?_;(try simp only[Act.put,aT,aZ,aS]);refine v_ 30 126 (.bool false) f λf=>?_;(try simp only[Act.put,aT,aZ,aS]);refine v_ 31 127 (.pointer (some ⟨p,0,none⟩)) f λf=>?_;(try simp only[Act.put,aT,aZ,aS]);refine v_ 32 128 (.pointer (some ⟨x,0,none⟩)) f λf=>?_;(try simp only[Act.put,aT,aZ,aS]);refine J_ 33 129 (.slice (some s) M c1) f (λw g=>?_) λf=>?_
        ·have p:=(b8.o w (bd.o w g)).1;unfold o_;go_simp
        (try simp only[Act.put,aT,aZ,aS]);refine v_ 34 130 (.int .i64 (i:Nat)) f λf=>?_;(try simp only[Act.put,aT,aZ,aS]);refine v_ 35 131 (.pointer (some (s.add (i*3)))) f λf=>?_;(try simp only[Act.put,aT,aZ,aS]);refine v_ 36 132 (.pointer (some (s.add (i*3)))) f λf=>?_;(try simp only[Act.put,aT,aZ,aS]);refine J_ 37 133 (.int .i64 (i:Nat)) f (λw g=>?_) λf=>?_
        ·have p:=bw.o w (bd.o w g);unfold o_;go_simp
        (try simp only[Act.put,aT,aZ,aS]);refine v_ 38 134 (.slice (some ⟨zq,0,none⟩) 1 1) f λf=>?_;(try simp only[Act.put,aT,aZ,aS]);refine v_ 41 137 (.pointer (some ⟨c,0,none⟩)) f λf=>?_;(try simp only[Act.put,aT,aZ,aS]);refine v_ 42 138 (.slice (some ad) n c5) f λf=>?_;(try simp only[Act.put,aT,aZ,aS]);refine v_ 43 139 (.int .i64 (k:Nat)) f λf=>?_;(try simp only[Act.put,aT,aZ,aS]);refine v_ 44 140 (.pointer (some (ad.add (k*18)))) f λf=>?_;(try simp only[Act.put,aT,aZ,aS]);refine v_ 45 141 (.pointer (some ((ad.add (k*18)).add 6))) f λf=>?_;(try simp only[Act.put,aT,aZ,aS]);refine J_ 46 142 (.agg up) f (λw g=>?_) λf=>?_
        ·have p:=bu_ w ((ad.add (k*18)).add 6) 39 up _ (da.o w g) Tryz.underlying39 rfl d4.o;exact k_ (by simp only[Instr.loadAt,Instr.sureAddr,Sem.run_bind];exact p)
        (try simp only[Act.put,aT,aZ,aS]);refine J_ 47 143 (.agg uv) f (λw g=>?_) λf=>?_
        ·exact k_ (ap_ (HU.o w g) 39 _ Tryz.underlying39 rfl ch.o)
        (try simp only[Act.put,aT,aZ,aS]);refine J_ 48 144 (.agg x2) f (λw g=>?_) λf=>?_
        ·exact ch_ _ _ #[(1,.agg up),(2,.agg uv)] _ (by kernel_rfl) (cx.o w)
        (try simp only[Act.put,aT,aZ,aS]);refine tkC 39 λK m=>?_;change Oper.wp _ ⟨some 135,_,_,_,_,_⟩ _ _ _ _;go_simp;refine (b0.o _ f).mono ?_;rintro e eh ⟨_,_,rfl,hb,-⟩;have dl:=q_ (show Below l.heap.size l eh from (f).trans (hb.mono (f).size));clear hb;dsimp only;refine m.out _ _ dl.o λf=>?_;clear m K;(try simp only[Act.put,aT,aZ,aS]);refine v_ 40 136 (.int .i64 (m2:Nat)) f λf=>?_;(try simp only[Act.put,aT,aZ,aS]);refine tkC 49 λK m=>?_;change Oper.wp _ ⟨some 145,_,_,_,_,_⟩ _ _ _ _;go_simp;refine (a9.o _ (df.o _ f)).mono ?_;rintro e R ⟨rfl,hb⟩;have r:=q_ (show Below l.heap.size l R from (f).trans (hb.mono (f).size));clear hb;dsimp only;refine m.out _ _ r.o λf=>?_;clear m K;(try simp only[Act.put,aT,aZ,aS]);refine v_ 50 146 (.bool false) f λf=>?_;(try simp only[Act.put,aT,aZ,aS]);refine v_ 51 147 (.bool false) f λf=>?_;(try simp only[Act.put,aT,aZ,aS]);refine⟨wpAnyH_done (by kernel_rfl) ?_ _⟩;clear f;have eo:=q_ (hQ.o.trans ((J.o.trans (r.o.mono J.o.size)).mono hQ.o.size));go_wp2_with fail;go_roundw
        case rel=>exact⟨k+1,by omega,by first | rfl | go_num,eo⟩
        case measure=>simp[intOf];omega
       ·have e7:¬(k:Int)<n\/((k:Int)<n/\¬(k:Int)<8):=by omega
        have d9:=q_ (bj.o.trans (hQ.o.mono bj.o.size));have ew:=HI.o;clear cy;rcases e7 with b2 | ⟨b2,b3⟩
        all_goals go_wp2_with fail
        all_goals go_roundw
        case rel=>exact⟨i+1,by have:=bl.o;omega,by first | rfl | go_num,d9⟩
        case measure=>have:=bl.o;simp[intOf];omega
        case rel=>exact⟨i+1,by have:=bl.o;omega,by first | rfl | go_num,d9⟩
        case measure=>have:=bl.o;simp[intOf];omega
     ·have e1:¬(i:Int)<M:=by omega
      have a6:=q_ (Hh_);have cn:=q_ (bu.o wr (O.o.trans (E.o.mono O.o.size)));have cq:=q_ (db.o.trans (E.o.mono db.o.size));obtain⟨x0,eb⟩:=a_ (s_ ⟨nmV ⟨#[]⟩,nmV ⟨#[]⟩,nmV ⟨#[]⟩⟩ (λ_=>Value.slice none 0 0));rw[eb.o]at a6 cn;clear ci hi;go_wp2_with ((with_reducible refine e_ (some 150) ?_);refine O_ rfl 45 _ rfl #[] (by kernel_rfl) (.agg x0) (a6.o _) ?_)
      refine cn.o.mono ?_;rintro e w8 ⟨v8,rfl,X,hb⟩;obtain⟨A6,c6,rfl,d3⟩:=xw_ X;have d0:=q_ (cq.o.trans (hb.mono cq.o.size));have bm:=q_ (E.o.trans (hb.mono E.o.size));have b9:=vp_ (ca:=c5) (cb:=c6) (Kd_ (cf.o w8 bm.o)) (Kd_ d3) (λb h=>Nat.lt_of_lt_of_le h.2 bm.o.size) (λb h=>h.2) (by have:=ck.o;omega) (λt ht i=>by rw[cm_ ((cz.o t ht).get i)];decide);rw[gp_.2 rfl,HN.o]at b9;rw[HN.o];clear X d3 hb;unfold u_ at b9;go_wp2_with fail;refine b9.mono ?_;rintro e ev ⟨rfl,hb⟩;have dm:=q_ (d0.o.trans (hb.mono d0.o.size));clear hb b9;go_wp2_with fail;refine (HW.o _ dm.o).mono ?_;rintro e w9 ⟨rfl,U⟩;have ap:=q_ U;clear U;go_wp2_with fail;go_ret;exact⟨rfl,ap.o⟩
end
section
open Go Go.ChangeShapes Go.WideShapes Go.ChangeAt Go.RowKit Go.Joins
theorem zv_ (a:Addr) (i j:Nat):(a.add i).add j=a.add (i+j):=Go.Deep.add_add a i j
theorem Hj_ {H:Type} {enc:TypeId×Value->H} {P:Program} {w:World} {b:Nat} {a:Nat->Bool} {held:Bool} {t:TypeId} {i e g l f j:Field} {fuel:Nat} {cs:List Value} {x:DataW H×List MemPlace} (ht:P.underlying t=some (.struct #[i,e,g,l,f,j])) (S:P.cellsOf t=6)
    (E:i.offset=0) (J:e.offset=1) (G:g.offset=2) (M:l.offset=3) (D:f.offset=4) (I:j.offset=5) (L:P.cellsOf i.type=1) (N:P.cellsOf e.type=1) (R:P.cellsOf g.type=1) (F:P.cellsOf l.type=1) (c4:P.cellsOf f.type=1) (O:P.cellsOf j.type=1)
    (h:DataW.trod enc P w b a held fuel t cs=some x) :
    ∃(o q n m r v5:Value) (y0 y1 y2 y3 y4 y5:DataW H×List MemPlace) (k:Nat),cs=[o,q,n,m,r,v5]/\x.1 = .agg [y0.1,y1.1,y2.1,y3.1,y4.1,y5.1]/\DataW.trod enc P w b a held k i.type [o]=some y0/\DataW.trod enc P w b a held k e.type [q]=some y1/\DataW.trod enc P w b a held k g.type [n]=some y2/\DataW.trod enc P w b a held k l.type [m]=some y3/\DataW.trod enc P w b a held k f.type [r]=some y4/\DataW.trod enc P w b a held k j.type [v5]=some y5:=by
 obtain⟨xs,k,T,C,s,z,c⟩:=DataW.trod_struct ht h;rw[S]at s;match xs,z,cs,s with
 | [y0,y1,y2,y3,y4,y5],_,[o,q,n,m,r,v5],_=>
  have B:=c 0 i rfl;have A:=c 1 e rfl;have y:=c 2 g rfl;have v:=c 3 l rfl;have g4:=c 4 f rfl;have u:=c 5 j rfl;simp[E,J,G,M,D,I,L,N,R,F,c4,O]at B A y v g4 u;exact⟨o,q,n,m,r,v5,y0,y1,y2,y3,y4,y5,k,rfl,by rw[C];rfl,B,A,y,v,g4,u⟩
theorem r6_ {H:Type} {enc:TypeId×Value->H} {W:World} {N:Nat} {held:Bool} {n:Nat} {cs:List Value} {d:DataW H} {p:List MemPlace}
    (D:∀{fuel:Nat} {v:Value} {d:DataW H} {p:List MemPlace},Rows.uptoBulk d<=N->DataW.trod enc Tryz.prog W 0 (λ_=>true) held fuel 37 [v]=some (d,p) ->
     ∃A n c l,v = .slice A n c/\n<=c/\LRd W (λg=>g<W.heap.size) l A n/\sm_ l/\ab_ l<Rows.uptoBulk d)
    (hN:Rows.uptoBulk d<=N+1) (h:DataW.trod enc Tryz.prog W 0 (λ_=>true) held n 39 cs=some (d,p)) :
    ∃x,cs.toArray.size=6/\VRd W (λg=>g<W.heap.size) x (.agg cs.toArray)/\jv_ x/\T_ x<=Rows.uptoBulk d:=by
 obtain⟨v0,v1,v2,Y,v4,v5,y0,Z,y2,y3,V,f,k,rfl,i,R,P,I,G,g4,C⟩:=Hj_ Tryz.underlying39 (by kernel_rfl) rfl rfl rfl rfl rfl rfl (by kernel_rfl) (by kernel_rfl) (by kernel_rfl) (by kernel_rfl) (by kernel_rfl) (by kernel_rfl) h;obtain⟨t,e0,J,w0⟩:=DataW.trod_int (by kernel_rfl:Tryz.prog.underlying 3=some (.int .i64)) R;obtain⟨r,q,L⟩:=DataW.trod_bool (by kernel_rfl:Tryz.prog.underlying 4=some .bool) P;obtain⟨e,s,M,w2⟩:=DataW.trod_int (by kernel_rfl:Tryz.prog.underlying 2=some (.int .i64)) I;obtain⟨b,u,S,w3⟩:=DataW.trod_string (by kernel_rfl:Tryz.prog.underlying 9=some .string) G;obtain⟨a,o,E,X⟩:=DataW.trod_string (by kernel_rfl:Tryz.prog.underlying 9=some .string) g4;injection e0 with e0 _;injection q with q _;injection s with s _;injection u with u _;injection o with o _;subst e0 q s u o J L M S E;obtain⟨f,p5⟩:=f;simp only at i;subst i
 have B:6+b.size+a.size+Rows.uptoBulk f<=Rows.uptoBulk (DataW.agg [.lit (.int .i64 t),.lit (.bool r),.lit (.int .i64 e),.lit (.string b.data.toList),.lit (.string a.data.toList),f]):=by
  have U:b.data.toList.length=b.size:=by rw[Array.length_toList];rfl
  have z4:a.data.toList.length=a.size:=by rw[Array.length_toList];rfl
  simp only[Rows.uptoBulk,Rows.uptoBulkAll];omega
 obtain⟨A,m,c,l,F,j,z,y,T⟩:=D (by omega) C;subst F;have O:m=l.length:=z.1;subst O;have h2:-9223372036854775808<=e/\e<=9223372036854775807:=by simpa [Lit.wf,IntKind.min,IntKind.max,IntKind.signed,IntKind.bits] using w2
 refine⟨.mk t r e b a l,rfl,VRd.of_list (v:=.mk t r e b a l) j z,⟨h2,y⟩,?_⟩;simp only[T_];omega
theorem C1_ {H:Type} {enc:TypeId×Value->H} {W:World} {held:Bool} (N:Nat):∀{fuel:Nat} {v:Value} {d:DataW H} {p:List MemPlace},Rows.uptoBulk d<=N->DataW.trod enc Tryz.prog W 0 (λ_=>true) held fuel 37 [v]=some (d,p) ->
      ∃A n k l,v = .slice A n k/\n<=k/\LRd W (λg=>g<W.heap.size) l A n/\sm_ l/\ab_ l<Rows.uptoBulk d:=by
 induction N with
 | zero=>intro fuel v d p I;have:=bulks.one_le d;omega
 | succ N S=>
  intro fuel v d p I h;rcases Go.Deep.open_slice Tryz.underlying37 h with⟨e,y⟩ | ⟨a,b,k,m,n,D,Pl,e,_,O,a0,Z,y,z⟩
  ·injection e with e _;subst e;exact⟨none,0,0,[],rfl,Nat.le_refl _,LRd.nil 0 rfl,trivial,by simp only[ab_];exact bulks.one_le d⟩
  ·injection e with e _;subst e;have a1:b<=m:=by rw[Z];split<;>omega
   injection y with y _;subst y;have hb:=bulks.slice_elems ((List.range b).map D) ((List.range (m-b)).map λj=>D (b+j))
   have M:∀i,i<b->Rows.uptoBulk (D i)<=N:=λi hi=>by
    have:=bulks.part_le (List.mem_map.2 ⟨i,List.mem_range.2 hi,rfl⟩:D i∈(List.range b).map D);omega
   have s:∀i,i<b->∃q:h_×Array Value,q.2.size=6/\(∀j,j<6->W.cell? (a.add (i*6+j))=q.2[j]?)/\VRd W (λg=>g<W.heap.size) q.1 (.agg q.2)/\jv_ q.1/\T_ q.1<=Rows.uptoBulk (D i):=λi hi=>by
    obtain⟨C,u,Y⟩:=z i (by omega);rw[show Tryz.prog.cellsOf 39=6 by kernel_rfl]at u;obtain⟨_,E,c⟩:=World.cells?_some u;obtain⟨x,P,x2,X,U⟩:=r6_ (λI h=>S I h) (Nat.le_succ_of_le (M i hi)) Y;exact⟨(x,C.toArray),P,λj V=>by rw[<-zv_,c j V];simp,x2,X,U⟩
   have J:∃q:Nat->h_×Array Value,∀i,i<b->(q i).2.size=6/\(∀j,j<6->W.cell? (a.add (i*6+j))=(q i).2[j]?)/\VRd W (λg=>g<W.heap.size) (q i).1 (.agg (q i).2)/\jv_ (q i).1/\T_ (q i).1<=Rows.uptoBulk (D i):=by
    classical
    exact⟨λi=>if hi:i<b then Classical.choose (s i hi) else (.mk 0 false 0 ⟨#[]⟩ ⟨#[]⟩ [],#[]),λi hi=>by simp only[dif_pos hi];exact Classical.choose_spec (s i hi)⟩
   obtain⟨q,F⟩:=J;refine⟨some a,b,k,(List.range b).map λi=>(q i).1,rfl,O,⟨by simp,λhn=>⟨a,rfl,?_,λi x f=>?_⟩⟩,?_,?_⟩
   ·obtain⟨C,u,_⟩:=z 0 (by omega);rw[show Tryz.prog.cellsOf 39=6 by kernel_rfl]at u;obtain⟨_,E,c⟩:=World.cells?_some u;have h0:=c 0 (by omega);rw[List.getElem?_eq_getElem (by omega)]at h0;have:=World.block_lt_of_cell? W _ h0;simpa [Addr.add] using this
   ·rw[List.getElem?_map]at f
    have B:i<b:=by
     rcases Nat.lt_or_ge i b with G | G
     ·exact G
     ·rw[List.getElem?_eq_none (by simpa using G)]at f;cases f
    rw[List.getElem?_range B]at f;injection f with f;subst f;obtain⟨R,q2,T,_⟩:=F i B;exact⟨_,R,q2,T⟩
   ·have:∀L:List Nat,(∀i,i∈L->i<b)->sm_ (L.map λi=>(q i).1):=λL=>by
      induction L with
      | nil=>intro _;trivial
      | cons x r o=>intro t;exact⟨(F x (t x (List.mem_cons_self ..))).2.2.2.1,o λi hi=>t i (List.mem_cons_of_mem _ hi)⟩
    exact this _ λi hi=>List.mem_range.1 hi
   ·have:∀L:List Nat,(∀i,i∈L->i<b)->ab_ (L.map λi=>(q i).1)<=Rows.uptoBulkAll (L.map D):=λL=>by
      induction L with
      | nil=>intro _;simp[ab_]
      | cons x r o=>
       intro t;have h1:=(F x (t x (List.mem_cons_self ..))).2.2.2.2;have h2:=o λi hi=>t i (List.mem_cons_of_mem _ hi);simp only[List.map_cons,ab_,Rows.uptoBulkAll];omega
    have:=this (List.range b) λi hi=>List.mem_range.1 hi;omega
theorem Jt_ {H:Type} {enc:TypeId×Value->H} {P:Program} {w:World} {b:Nat} {a:Nat->Bool} {held:Bool} {t:TypeId} {q n o:Field} {fuel:Nat} {cs:List Value} {x:DataW H×List MemPlace} (ht:P.underlying t=some (.struct #[q,n,o])) (U:P.cellsOf t=18)
    (M:q.offset=0) (O:n.offset=6) (N:o.offset=12) (R:P.cellsOf q.type=6) (S:P.cellsOf n.type=6) (T:P.cellsOf o.type=6)
    (h:DataW.trod enc P w b a held fuel t cs=some x) :
    ∃(u y s r C v5 v z A B i l m f g c j e:Value) (y0 y1 y2:DataW H×List MemPlace) (k:Nat),cs=[u,y,s,r,C,v5,v,z,A,B,i,l,m,f,g,c,j,e]/\x.1 = .agg [y0.1,y1.1,y2.1]/\DataW.trod enc P w b a held k q.type [u,y,s,r,C,v5]=some y0/\DataW.trod enc P w b a held k n.type [v,z,A,B,i,l]=some y1/\DataW.trod enc P w b a held k o.type [m,f,g,c,j,e]=some y2:=by
 obtain⟨xs,k,V,L,D,G,E⟩:=DataW.trod_struct ht h;rw[U]at D;match xs,G,cs,D with
 | [y0,y1,y2],_,[u,y,s,r,C,v5,v,z,A,B,i,l,m,f,g,c,j,e],_=>
  have J:=E 0 q rfl;have I:=E 1 n rfl;have F:=E 2 o rfl;simp[M,O,N,R,S,T]at J I F;exact⟨u,y,s,r,C,v5,v,z,A,B,i,l,m,f,g,c,j,e,y0,y1,y2,k,rfl,by rw[L];rfl,J,I,F⟩
def wp_ {a : Type} (f:a -> Nat) (l:List a):Nat:=(l.map f).sum
theorem Hk_ {f : Type} [Inhabited f] {H:Type} {enc:TypeId×Value->H} {W:World} {held:Bool} {R:bj_ f} {sz N:Nat} {T E:TypeId} {Q:f -> Prop} {s:f -> Nat} (hT:Tryz.prog.underlying T=some (.slice E)) (V:Tryz.prog.cellsOf E=sz) (X:0<sz)
    (C:∀{fuel:Nat} {cs:List Value} {d:DataW H} {p:List MemPlace},Rows.uptoBulk d<=N->DataW.trod enc Tryz.prog W 0 (λ_=>true) held fuel E cs=some (d,p)->∃x:f,cs.toArray.size=sz/\R W (λg=>g<W.heap.size) x cs.toArray/\Q x/\s x<=Rows.uptoBulk d)
    {fuel:Nat} {v:Value} {d:DataW H} {p:List MemPlace} (hN:Rows.uptoBulk d<=N) (h:DataW.trod enc Tryz.prog W 0 (λ_=>true) held fuel T [v]=some (d,p)) :
    ∃l:List f,SlR sz R W (λg=>g<W.heap.size) l v/\(∀x,x∈l->Q x)/\wp_ s l<Rows.uptoBulk d/\l.length<Rows.uptoBulk d:=by
 rcases Go.Deep.open_slice hT h with⟨k,u⟩ | ⟨a,b,S,m,n,D,Pl,k,_,O,a0,hm,u,y⟩
 ·injection k with k _;subst k;have h1:=bulks.one_le d;exact⟨[],SlR.nil ..,λx c=>(List.not_mem_nil c).elim,by show 0<_;omega,by show 0<_;omega⟩
 ·injection k with k _;subst k;have a1:b<=m:=by rw[hm];split<;>omega
  injection u with u _;subst u;have hb:=bulks.slice_elems ((List.range b).map D) ((List.range (m-b)).map λj=>D (b+j));have a2:=bulks.slice_le ((List.range b).map D) ((List.range (m-b)).map λj=>D (b+j))
  have M:∀i,i<b->Rows.uptoBulk (D i)<=N:=λi hi=>by
   have:=bulks.part_le (List.mem_map.2 ⟨i,List.mem_range.2 hi,rfl⟩:D i∈(List.range b).map D);omega
  have P:∀i,i<b->∃q:f × Array Value,q.2.size=sz/\(∀j,j<sz->W.cell? (a.add (i*sz+j))=q.2[j]?)/\R W (λg=>g<W.heap.size) q.1 q.2/\Q q.1/\s q.1<=Rows.uptoBulk (D i):=λi hi=>by
   obtain⟨A,t,c2⟩:=y i (by omega);rw[V]at t;obtain⟨_,B,e⟩:=World.cells?_some t;obtain⟨x,Y,x2,x3,x4⟩:=C (M i hi) c2;exact⟨(x,A.toArray),Y,λj hj=>by rw[<-zv_,e j hj];simp,x2,x3,x4⟩
  have I:∃q:Nat -> f × Array Value,∀i,i<b->(q i).2.size=sz/\(∀j,j<sz->W.cell? (a.add (i*sz+j))=(q i).2[j]?)/\R W (λg=>g<W.heap.size) (q i).1 (q i).2/\Q (q i).1/\s (q i).1<=Rows.uptoBulk (D i):=by
   classical
   exact⟨λi=>if hi:i<b then Classical.choose (P i hi) else (default,#[]),λi hi=>by simp only[dif_pos hi];exact Classical.choose_spec (P i hi)⟩
  obtain⟨q,F⟩:=I;have o:((List.range b).map λi=>(q i).1).length=b:=by simp
  refine⟨(List.range b).map λi=>(q i).1,⟨some a,S,by rw[o],by rw[o];exact O,rfl,λZ=>⟨a,rfl,?_,λi x c=>?_⟩⟩,?_,?_,?_⟩
  ·obtain⟨A,t,_⟩:=y 0 (by rw[o]at Z;omega);rw[V]at t;obtain⟨_,B,e⟩:=World.cells?_some t;have h0:=e 0 X;rw[List.getElem?_eq_getElem (by omega)]at h0;have:=World.block_lt_of_cell? W _ h0;simpa [Addr.add] using this
  ·rw[List.getElem?_map]at c
   have z:i<b:=by
    rcases Nat.lt_or_ge i b with G | G
    ·exact G
    ·rw[List.getElem?_eq_none (by simpa using G)]at c;cases c
   rw[List.getElem?_range z]at c;injection c with c;subst c;obtain⟨q1,q2,q3,_⟩:=F i z;exact⟨_,q1,q2,q3⟩
  ·intro x c;obtain⟨i,hi,rfl⟩:=List.mem_map.1 c;exact (F i (List.mem_range.1 hi)).2.2.2.1
  ·have:∀L:List Nat,(∀i,i∈L->i<b)->wp_ s (L.map λi=>(q i).1)<=Rows.uptoBulkAll (L.map D):=λL=>by
     induction L with
     | nil=>intro _;simp[wp_]
     | cons x r J=>
      intro U;have h1:=(F x (U x (List.mem_cons_self ..))).2.2.2.2;have h2:=J λi hi=>U i (List.mem_cons_of_mem _ hi);simp only[wp_,List.map_cons,List.sum_cons,Rows.uptoBulkAll]at h2 ⊢;omega
   have:=this (List.range b) λi hi=>List.mem_range.1 hi;omega
  ·rw[o];have hh:((List.range b).map D).length=b:=by simp
   omega
instance:Inhabited h_:=⟨.mk 0 false 0 ⟨#[]⟩ ⟨#[]⟩ []⟩
instance:Inhabited d_:=⟨⟨default,default,default⟩⟩
section
variable {H:Type} {enc:TypeId×Value->H} {W:World} {held:Bool} {fuel:Nat} {d:DataW H} {p:List MemPlace}
theorem gu_ {cs:List Value} (c:Rows.uptoBulk d<=1048576) (h:DataW.trod enc Tryz.prog W 0 (λ_=>true) held fuel 39 cs=some (d,p)) :
    ∃x:h_,OkV x/\∃s,cs.toArray=c_ x s/\VRd W (λg=>g<W.heap.size) x (.agg (c_ x s)):=by
 obtain⟨x,m,f,e,j⟩:=r6_ (N:=1048576) (λc h=>C1_ 1048576 c h) (by omega) h;obtain⟨A,i,a,_,_⟩:=f.inv;injection a with a
 have hi:-9223372036854775808<=x.num/\x.num<=9223372036854775807:=by
  cases x with
  | mk k b n t y l=>
   simp only[jv_]at e;exact e.1
 exact⟨x,⟨by omega,hi.1,hi.2⟩,_,a,by rw[<-a];exact f⟩
theorem Mg_ {cs:List Value} (hN:Rows.uptoBulk d<=1048576) (h:DataW.trod enc Tryz.prog W 0 (λ_=>true) held fuel 41 cs=some (d,p)) :
    ∃x:d_,cs.toArray.size=18/\TrR W (λg=>g<W.heap.size) x cs.toArray/\OkT x/\(λ_:d_=>0) x<=Rows.uptoBulk d:=by
 obtain⟨S,T,P,N,Z,v5,R,U,X,Y,G,J,L,E,F,C,I,D,b,a,c,k,rfl,e,A,v,s⟩:=Jt_ Tryz.underlying41 (by kernel_rfl) rfl rfl rfl (by kernel_rfl) (by kernel_rfl) (by kernel_rfl) h;obtain⟨b,V⟩:=b;obtain⟨a,M⟩:=a;obtain⟨c,O⟩:=c;simp only at e;subst e;have hb:Rows.uptoBulk b+Rows.uptoBulk a+Rows.uptoBulk c<=Rows.uptoBulk (DataW.agg [b,a,c]):=by simp only[Rows.uptoBulk,Rows.uptoBulkAll];omega
 obtain⟨x,n,j,e0,q⟩:=gu_ (by omega) A;obtain⟨y,u,l,r,m⟩:=gu_ (by omega) v;obtain⟨z,o,f,t,B⟩:=gu_ (by omega) s;refine⟨⟨x,y,z⟩,rfl,⟨λi=>if i=0 then j else if i=1 then l else f,?_,λi hi=>?_⟩,⟨n,u,o⟩,Nat.zero_le _⟩
 ·show _=c_ x j++c_ y l++c_ z f;rw[<-e0,<-r,<-t];rfl
 ·rcases (show i=0\/i=1\/i=2 by omega) with rfl | rfl | rfl
  ·exact q
  ·exact m
  ·exact B
theorem ys_ {v:Value} (a:Rows.uptoBulk d<=1048576) (h:DataW.trod enc Tryz.prog W 0 (λ_=>true) held fuel 22 [v]=some (d,p)) :
    ∃l:List d_,SlR 18 TrR W (λg=>g<W.heap.size) l v/\(∀x,x∈l->OkT x)/\wp_ (λ_=>0) l<Rows.uptoBulk d/\l.length<Rows.uptoBulk d:=
 Hk_ (Q:=OkT) Tryz.underlying22 (by kernel_rfl) (by decide) (λa h=>Mg_ a h) a h
end
theorem tv_ {H:Type} {enc:TypeId×Value->H} {W:World} {f:Nat} {v:Value} {d:DataW H} {p:List MemPlace} (i:Rows.uptoBulk d<=1048576) (g:Value.okWide Tryz.prog W .any f 22 v)
    (h:DataW.Trod enc Tryz.prog W 0 (λ_=>true) true 22 v d p) :
    ∃(A:Option Addr) (n c:Nat) (L:List d_),v = .slice A n c/\(∀t,t∈L->OkT t)/\SRd 18 TrR W (λb=>b<W.heap.size) L A n/\n<=100000000:=by
 obtain⟨a,n,o,rfl⟩:=okWide_slice Tryz.underlying22 g;obtain⟨fuel,k⟩:=h;obtain⟨L,⟨A,c,e,_,l⟩,j,_,m⟩:=ys_ i k;rw[e];exact⟨A,L.length,c,L,rfl,j,l,by omega⟩
end
end Go.Proofs.YtefhfadjajcmkaaGreatDoor
