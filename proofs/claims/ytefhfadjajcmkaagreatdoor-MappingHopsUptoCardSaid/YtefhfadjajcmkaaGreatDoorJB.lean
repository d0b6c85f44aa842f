/- Appending an element with lists of its own; what mapping's Graph holds while it fills its graph. -/
import Derived.Test.YtefhfadjajcmkaaGreatDoorJA
import Derived.Maps.AppendAt
set_option linter.unusedVariables false
set_option linter.unusedSimpArgs false
set_option maxRecDepth 100000
set_option maxHeartbeats 64000000
namespace Go.Proofs.YtefhfadjajcmkaaGreatDoor
open Go.Lib (cell_of_heap)
section
open Go Go.RowKit Go.Maps
structure RwM (w:World) (b cap n:Nat) (cs:Nat->Array Value) (wx:World):Prop where
 turn:Turn (λq=>q=b) w wx
 blk:∃cur,wx.heap[b]?=some (.cells cur 99 (0,0))/\cur.size=cap*18/\∀a,a<n->∀j,j<18->cur[a*18+j]?=(cs a)[j]?
section
variable {w wx w':World} {b cap n a:Nat} {cs:Nat->Array Value}
theorem RwM.drew (h:RwM w b cap n cs wx):RwM w b cap n cs wx.drew:=⟨h.turn.drew,h.blk⟩
theorem RwM.on (h:RwM w b cap n cs wx) (hb:Below wx.heap.size wx w'):RwM w b cap n cs w':=by obtain⟨d,h1,h2,f⟩:=h.blk;exact⟨h.turn.trans ⟨hb.os,hb.tape,hb.output,hb.size,λk e _=>hb.block k e⟩,d,(hb.block b (b_ h1)).trans h1,h2,f⟩
theorem RwM.range (h:RwM w b cap n cs wx) (i:a<n) (f:(cs a).size=18):wx.rangeAt b (a*18) (cs a).toList:=by obtain⟨d,h1,h2,e⟩:=h.blk;refine kb_ (λj g=>?_) f;rw[cell_of_row wx b (a*18+j) d _ _ h1,e a i j g]
theorem RwM.there (h:RwM w b cap n cs wx) (k:a<n) (g:n<=cap):wx.there b (a*18) 18:=by
 obtain⟨d,h1,h2,f⟩:=h.blk;intro j i;have e:a*18+j<d.size:=by rw[h2];omega
 exact⟨by rw[cell_of_row wx b (a*18+j) d _ _ h1,Array.getElem?_eq_getElem e];rfl,frozen_of_row _ _ _ _ _ h1⟩
theorem RwM.store (h:RwM w b cap n cs wx) {c:Array Value} (k:c.size=18) (u:n<=cap) (x:a<n):RwM w b cap n (λi=>if i=a then c else cs i) (wx.setCells b (a*18) c.toList):=by
 obtain⟨f,h1,h2,g⟩:=h.blk;obtain⟨t,o,s,p⟩:=gg_ c.toList (a*18) h1;refine⟨gf_ (S:=λq=>q=b) b (.inr rfl) _ _ h.turn,t,o,by rw[s,h2],λi hi j r=>?_⟩;rw[p,Array.length_toList,k];by_cases e:i=a
 ·subst e;have d:i*18+j<f.size:=by rw[h2];omega
  rw[if_pos ⟨by omega,by omega,d⟩,if_pos rfl,Nat.add_sub_cancel_left,Array.getElem?_toList]
 ·rw[if_neg (by omega),if_neg e];exact g i hi j r
theorem RwM.clear (h:RwM w b cap n cs wx) {k:Nat} (t:k<=n) (d:List Value):RwM w b cap k cs (wx.setCells b (k*18) d):=by obtain⟨s,h1,h2,e⟩:=h.blk;obtain⟨r,g,p,f⟩:=gg_ d (k*18) h1;refine⟨gf_ (S:=λq=>q=b) b (.inr rfl) _ _ h.turn,r,g,by rw[p,h2],λi hi j o=>?_⟩;rw[f,if_neg (by omega)];exact e i (by omega) j o
theorem RwM.congr (h:RwM w b cap n cs wx) {d:Nat->Array Value} (g:∀i,i<n->cs i=d i):RwM w b cap n d wx:=by obtain⟨e,h1,h2,f⟩:=h.blk;exact⟨h.turn,e,h1,h2,λi hi j k=>by rw[<-g i hi];exact f i hi j k⟩
def ElT (K:List d_) (cs:Nat->Array Value):Prop:=∀i t,K[i]?=some t->bn_ t/\(∀n,ag_ (t.get n))/\∃ss:Nat->Value,(∀n,n<3->∃A cap,ss n = .slice A 0 cap)/\cs i=s_ t ss
theorem RwM.own (h:RwM w b cap n cs wx) {K:List d_} (j:ElT K cs) (k:K.length=n) (r:n<=cap) (u:cap<=maxLen) {F:Nat->Prop} (z:F b):B_ 99 18 TrS wx F K (.slice (some ⟨b,0,none⟩) n cap):=by
 obtain⟨p,h1,h2,s⟩:=h.blk
 have d:∀i,i<n->(cs i).size=18:=λi hi=>by
  obtain⟨_,_,ss,_,e⟩:=j i _ (List.getElem?_eq_getElem (by rw[k];exact hi));rw[e];rfl
 subst k;refine⟨cs,⟨ad_ d,.inr ⟨b,cap,p,rfl,Nat.zero_le _,h1,r,u,h2,?_⟩⟩,d,λg f=>by injection f with f;rw[<-f];exact z,λi x y=>j i x y⟩;apply List.ext_getElem?;intro t;by_cases ht:t<K.length*18
 ·have hi:t / 18<K.length:=by omega
  have o:=bt_ d hi (Nat.mod_lt t (by decide:0<18));rw[show t / 18*18+t % 18=t by omega]at o;rw[List.getElem?_take_of_lt ht,o,Array.getElem?_toList];have q:=s (t / 18) hi (t % 18) (Nat.mod_lt t (by decide:0<18));rwa [show t / 18*18+t % 18=t by omega]at q
 ·rw[List.getElem?_take_eq_none (by omega),List.getElem?_eq_none (by rw[ad_ d];omega)]
end
theorem L0_ {P:Program} {e:Array Oper} {rest:List Oper} {op:Oper} {d:Act} {w wx:World} {Q:Exit->Act->World->Prop} {b cap n:Nat} {cs:Nat->Array Value} (g:op.guard=none) (ty:TypeId) (x y:Operand) (q:op.op = .store ty x y) (a:Nat) (c:Array Value)
    (p:d.eval x = .pointer (some ⟨b,a*18,none⟩)) (r:d.eval y = .agg c) (j:RwM w b cap n cs wx) (o:a<n) (k:n<=cap) (f:c.size=18) (hi:(P.info? ty).map (·.size)=some 18) (h1:c.all (·.oneCell')=true)
    (h:∀w',RwM w b cap n (λi=>if i=a then c else cs i) w'->wpList P e Q rest (d.put op.dst undef) w'):wpList P e Q (op::rest) d wx:=
 wpList_store_mid g ty x y q b (a*18) c p r (by rw[f];exact j.there o k) (by rw[f];exact hi) h1 (h _ (j.store f k o))
theorem Fe_ {w:World} {F:Nat->Prop} {L:List d_} {b n cap:Nat} (h:B_ 99 18 TrS w F L (.slice (some ⟨b,0,none⟩) n cap)):∃cs,ElT L cs/\RwM w b cap n cs w/\L.length=n/\n<=cap/\cap<=maxLen/\F b:=by
 obtain⟨A,x,e⟩:=h.form;injection e with _ e _;obtain⟨cs,d,t,q,s⟩:=h;rcases d.2 with⟨h0,_⟩ | ⟨g,u,i,h0,_,o,h1,h2,k,r⟩
 ·cases h0
 ·injection h0 with h0 h5 h6';injection h0 with h0;injection h0 with h0;subst h0 h6';refine⟨cs,s,⟨Turn.refl _ _,i,o,k,λa y j p=>?_⟩,e.symm,by omega,h2,q b rfl⟩;have f:=bt_ t (show a<L.length by omega) p;rw[<-r,List.getElem?_take_of_lt (by omega),Array.getElem?_toList]at f;exact f
theorem kc_ {o:d_->d_->Int} {L:List d_} {m:Nat} {x y:d_} (f:L[m+1]?=some x) (e:L[m]?=some y):cpt o (L.take (m+2))=cpt o (L.take (m+1))++(if o x y=0 then [] else [x]):=by
 cases L with
 | nil=>simp at f
 | cons a r=>
  have h1:r[m]?=some x:=by simpa using f
  rw[List.take_succ_cons,List.take_succ_cons];have g:=(List.getElem?_eq_some_iff.1 h1).1;rw[g_ h1];show a::i6_ o a (r.take m++[x])=a::i6_ o a (r.take m)++_;rw[Ai_]
  have d:(r.take m).getLastD a=y:=by
   cases m with
   | zero=>simp at e;simpa using e
   | succ m=>
    have h2:r[m]?=some y:=by simpa using e
    rw[g_ h2];simp
  rw[d];rfl
theorem It_ (o:d_->d_->Int) (L:List d_):(cpt o L).length<=L.length:=by
 cases L with
 | nil=>exact Nat.le_refl _
 | cons a r=>
  show (i6_ o a r).length+1<=r.length+1
  have:∀p,(i6_ o p r).length<=r.length:=by
   induction r with
   | nil=>intro p;exact Nat.le_refl _
   | cons b r d=>
    intro p;unfold i6_;split
    ·exact Nat.le_trans (d b) (by simp)
    ·have:=d b;simp;omega
  have:=this a;omega
theorem m4_ {P:Program} (w:World) (b o:Nat) (d:List Value) (h1:∀j,j<d.length->(w.cell? ⟨b,o+j,none⟩).isSome=true) (h2:∀j,j<d.length->w.frozen? ⟨b,o+j,none⟩=false) (f:∀v∈d,v.oneCell'=true) :
    (storeCells ⟨b,o,none⟩ d).run P w = .ok () (w.setCells b o d):=run_storeCells_cells b o d 0 w (λj e=>h1 j e) (λj e=>h2 j e) f
theorem K2_ (w:World):(zeroValue 99).run Tryz.prog w = .ok (.agg #[.int .i64 0,.bool false,.int .i64 0,.string ⟨#[]⟩,.string ⟨#[]⟩,.slice none 0 0,.int .i64 0,.bool false,.int .i64 0,.string ⟨#[]⟩,.string ⟨#[]⟩,.slice none 0 0,.int .i64 0,.bool false,.int .i64 0,.string ⟨#[]⟩,.string ⟨#[]⟩,.slice none 0 0]) w:=by kernel_rfl
theorem Bh_ {w wx:World} {b cap n k:Nat} {cs:Nat->Array Value} (h:RwM w b cap n cs wx) (C:n<=cap) (z:k<n):∃u,∀ty,(Builtin.clear_ #[93] ty #[.slice (some ⟨b,k*18,none⟩) (n-k) (cap-k)]).run Tryz.prog wx = .ok (.tuple #[]) (wx.setCells b (k*18) u):=by
 obtain⟨g,h1,h2,B⟩:=h.blk;obtain⟨Z,o⟩:∃Z:Array Value,Z=#[.int .i64 0,.bool false,.int .i64 0,.string ⟨#[]⟩,.string ⟨#[]⟩,.slice none 0 0,.int .i64 0,.bool false,.int .i64 0,.string ⟨#[]⟩,.string ⟨#[]⟩,.slice none 0 0,.int .i64 0,.bool false,.int .i64 0,.string ⟨#[]⟩,.string ⟨#[]⟩,.slice none 0 0]:=⟨_,rfl⟩;have hz:=K2_ wx;rw[<-o]at hz;have d:Z.size=18:=by rw[o];rfl
 have s:∀v∈Z.toList,v.oneCell'=true:=by rw[o];intro v e;simp only[List.mem_cons,List.not_mem_nil,or_false]at e;rcases e with rfl | rfl | rfl | rfl | rfl | rfl | rfl | rfl | rfl | rfl | rfl | rfl | rfl | rfl | rfl | rfl | rfl | rfl<;>rfl
 have p:(Builtin.zeroCells Z (n-k)).size=(n-k)*18:=by unfold Builtin.zeroCells;simp[d]
 refine⟨(Builtin.zeroCells Z (n-k)).toList,λty=>?_⟩
 have f:=m4_ (P:=Tryz.prog) wx b (k*18) (Builtin.zeroCells Z (n-k)).toList (λj x=>by
     rw[Array.length_toList,p]at x;have r:k*18+j<g.size:=by rw[h2];omega
     rw[cell_of_row wx b (k*18+j) g _ _ h1,Array.getElem?_eq_getElem r];rfl) (λj _=>frozen_of_row _ _ _ _ _ h1) (λv e=>by
     unfold Builtin.zeroCells at e;simp only[Array.toList_map,List.mem_map]at e;obtain⟨i,_,rfl⟩:=e;rw[d,getElem!_pos Z (i % 18) (by rw[d];omega)];exact s _ (by simp))
 obtain⟨q,t⟩:∃q,n-k=q+1:=⟨n-k-1,by omega⟩;rw[t]at f ⊢;have y:=run_underlying (P:=Tryz.prog) Tryz.underlying93 wx;unfold Builtin.clear_;simp only[List.getElem?_toArray,List.getElem?_cons_zero,Sem.run_bind,y,Result.andThen_ok,hz,Value.cells,f,Sem.run_pure]
def Ff_ (o:d_->d_->Int) (L:List d_) (F:Nat->Prop) (s:Value) (w:World) (e:Ending) (w':World):Prop:=
 ∃d,e = .returned d/\d.ownBlock=s.ownBlock/\B_ 99 18 TrS w' F (cpt o L) d/\Turn (λb=>s.ownBlock=some b) w w'
theorem vf_ (r o n cap a:Nat) (g:a<n) (w:World):(Instr.indexAt 93 (.slice (some ⟨r,o,none⟩) n cap) (.int .i64 (a:Nat))).run Tryz.prog w = .ok (.pointer (some ⟨r,o+a*18,none⟩)) w:=by
 have e:(0:Int)<=a:=by omega
 have f:(a:Int)<n:=by omega
 have d:(⟨r,o,none⟩:Addr).add (a*18)=⟨r,o+a*18,none⟩:=by unfold Addr.add;split<;>simp_all
 go_simp
theorem re_ {o:d_->d_->Int} {L:List d_} (h:L.length<2):cpt o L=L:=by
 cases L with
 | nil=>rfl
 | cons a r=>
  cases r with
  | nil=>rfl
  | cons b r=>simp only[List.length_cons]at h;omega
theorem vg_ (u:Way) (hW:u.Ok) (g:Nat) (w0:World) {w:World} {F:Nat->Prop} {L:List d_} {s:Value} (h:B_ 99 18 TrS w F L s) (Z:L.length<=100000000)
    (am:Below w0.heap.size w0 w) (ad:∀b,s.ownBlock=some b->w0.heap.size<=b) (af:F_ w0) (ag:as_ w0) (hp:w.heap[g]?=some (.cells (e3_ u) 101 (0,0))) :
    Calls Tryz.prog 52 #[s,.func (.func 53) #[] #[.pointer (some ⟨g,0,none⟩)]] w (Ff_ (w_ u) L F s w):=by
 obtain⟨A,cap,rfl⟩:=h.form;have HO:=q_ h;obtain⟨n,G⟩:=a_ L.length;rw[G.o];rw[G.o]at Z;by_cases ay:n<2
 ·have e1:(n:Int)<2:=by omega
  have ab:=q_ (show cpt (w_ u) L=L from re_ (by rw[G.o];exact ay));have HR:=q_ (show Ff_ (w_ u) L F (.slice A n cap) w (.returned (.slice A n cap)) w from ⟨_,rfl,rfl,by rw[ab.o,<-G.o];exact HO.o,Turn.refl _ _⟩);clear ay Z am ad af ag hp h HO ab G;go_enter Tryz.func52,Tryz.ntmps52
  go_wp2_with fail;go_ret;exact HR.o
 ·have e1:¬(n:Int)<2:=by omega
  have a0:=HO.o;rw[G.o]at a0;have hA:∃b,A=some ⟨b,0,none⟩:=by obtain⟨cs,bg,_⟩:=a0;obtain⟨b,cp,e,_⟩:=World.ownsRow.form bg (by rw[G.o];omega);injection e with e _ _;exact⟨b,e⟩
  obtain⟨b,rfl⟩:=hA;obtain⟨T,b8,ah,bs,ai,az,au⟩:=Fe_ a0;have I:=q_ b8;have b0:=q_ ah;have av:=q_ (And.intro ai (And.intro az au));have bp:=q_ (show 2<=n from by omega);have HL:=q_ (show n<=100000000 from Z)
  have b5:b≠g:=λe=>by
   obtain⟨c6,h1,_⟩:=ah.blk;rw[e,hp]at h1;injection h1 with h1;injection h1 with _ h1;exact absurd h1 (by decide)
  have ae:=q_ (λ(V:World) (ht:Turn (λq=>q=b) w V)=>j_ am ht (λq hq=>ad q (by rw[hq];rfl)))
  have a2:=q_ (λ(V:World) (ht:Turn (λq=>q=b) w V) (x y:d_) (sx sy:Nat->Value) (Y:bn_ x) (fx:∀n,ag_ (x.get n)) (fy:∀n,ag_ (y.get n))=>
   A3_ u hW x y sx sy g V (ht.heap hp (λe=>b5 e.symm)) (λn=>⟨(Y.get n).2.1,fx n⟩) fy (f_ af (ae.o V ht)) (n_ ag (ae.o V ht)))
  unfold u_ at a2;have a1:=q_ (λ(K:List d_) (k:Nat) (cs:Nat->Array Value) (V:World) (hK:K=cpt (w_ u) L) (hk:K.length=k) (ba:k<=n) (he:ElT K cs) (hr:RwM w b cap k cs V)=>(show Ff_ (w_ u) L F (.slice (some ⟨b,0,none⟩) n cap) w (.returned (.slice (some ⟨b,0,none⟩) k cap)) V from ⟨_,rfl,rfl,hK▸hr.own he hk (Nat.le_trans ba ai) az au,hr.turn.mono λq _ hq=>by rw[hq];rfl⟩));have w2:∀k:Nat,k<=1000000000->IntKind.i64.wrap ((k:Int)+1)=(k:Int)+1:=λk hk=>IntWalk.i64_in _ (by omega);have aw:=q_ w2;clear w2 h HO a0 b8 ah bs ai az au ay Z am ad af ag hp b5 hW ae;go_enter Tryz.func52,Tryz.ntmps52
  go_wp2_with fail;go_loopw [5] (λs5 wx=>∃k:Nat,1<=k/\k<=n/\s5 = .int .i64 (k:Nat)/\Q_ (RwM w b cap n T wx/\cpt (w_ u) (L.take k)=L.take k)) (λs5 _=>n-(intOf s5).toNat)
  case atStart=>exact⟨1,by omega,by have:=bp.o;omega,rfl,q_ ⟨b0.o,re_ (by simp;omega)⟩⟩
  case round=>
   obtain⟨k,c4,ba,rfl,hM⟩:=hrel;by_cases b7:k<n
   ·have e3:(k:Int)<n:=by omega
    obtain⟨m,hm⟩:∃m,k=m+1:=⟨k-1,by omega⟩;have W:=q_ hm;have e4:IntKind.i64.wrap ((k:Int)-1)=(m:Nat):=by have:=HL.o;rw[IntWalk.i64_in _ (by omega)];omega
    clear hm;obtain⟨x,Y⟩:∃x,L[k]?=some x:=⟨_,List.getElem?_eq_getElem (by rw[G.o];exact b7)⟩;obtain⟨y,hy⟩:∃y,L[m]?=some y:=⟨_,List.getElem?_eq_getElem (by rw[G.o];have:=W.o;omega)⟩;obtain⟨a4,fx,sx,_,ex⟩:=I.o _ _ Y;obtain⟨aq,fy,sy,_,ey⟩:=I.o _ _ hy;have a3:=q_ (a2.o wr.drew hM.o.1.turn.drew x y sx sy a4 fx fy);have HX:=q_ Y;have HY:=q_ hy;clear Y hy a4 fx aq fy;obtain⟨v,Hv⟩:=a_ (w_ u x y==0);rw[Hv.o]at a3;obtain⟨c1,a8⟩:=ah_ x sx;obtain⟨c2,ac⟩:=ah_ y sy;rw[a8.o]at a3 ex;rw[ac.o]at a3 ey;have EX:=q_ ex;have EY:=q_ ey;have Z1:=q_ a8.size;have Z2:=q_ ac.size;have Q1:=q_ (e2_.trans (congrArg some a8.size.symm));have Q2:=q_ (e2_.trans (congrArg some ac.size.symm));have M:=q_ (show k<n from b7);have a7:=q_ (show L[m+1]?=some x from by rw[<-W.o];exact HX.o);clear ex ey a8 ac;go_upto_region 6 with fail;refine wp_region_held_drew (S:=λW'=>RwM w b cap n T W') (by kernel_rfl) hM.o.1.drew λd=>?_;refine V_.o ?_;refine v_ 0 18 (.func (.func 53) #[] #[.pointer (some ⟨g,0,none⟩)]) d λd=>?_;(try simp only[Act.put,aT,aZ,aS]);refine v_ 1 19 (.slice (some ⟨b,0,none⟩) n cap) d λd=>?_;(try simp only[Act.put,aT,aZ,aS]);refine v_ 2 20 (.int .i64 (k:Nat)) d λd=>?_;(try simp only[Act.put,aT,aZ,aS]);refine J_ 3 21 (.pointer (some ⟨b,k*18,none⟩)) d (λw D=>?_) λd=>?_
    ·exact k_ (gm_ b n cap k M.o w)
    (try simp only[Act.put,aT,aZ,aS]);refine J_ 4 22 (.agg c1) d (λw D=>?_) λd=>?_
    ·have p:=D.range M.o (show (T k).size=18 from by rw[EX.o];exact Z1.o);rw[EX.o]at p;have q:=run_loadAt_mid (P:=Tryz.prog) w b (k*18) 99 c1.toList _ p Tryz.underlying99 rfl (by rw[Array.length_toList];exact Q1.o);rw[Array.toArray_toList]at q;exact k_ q
    (try simp only[Act.put,aT,aZ,aS]);refine v_ 5 23 (.slice (some ⟨b,0,none⟩) n cap) d λd=>?_;(try simp only[Act.put,aT,aZ,aS]);refine v_ 6 24 (.int .i64 (k:Nat)) d λd=>?_;(try simp only[Act.put,aT,aZ,aS]);refine v_ 7 25 (.int .i64 (m:Nat)) d λd=>?_;(try simp only[Act.put,aT,aZ,aS]);refine J_ 8 26 (.pointer (some ⟨b,m*18,none⟩)) d (λw D=>?_) λd=>?_
    ·exact k_ (gm_ b n cap m (by have:=M.o;have:=W.o;omega) w)
    (try simp only[Act.put,aT,aZ,aS]);refine J_ 9 27 (.agg c2) d (λw D=>?_) λd=>?_
    ·have p:=D.range (by have:=M.o;have:=W.o;omega) (show (T m).size=18 from by rw[EY.o];exact Z2.o);rw[EY.o]at p;have q:=run_loadAt_mid (P:=Tryz.prog) w b (m*18) 99 c2.toList _ p Tryz.underlying99 rfl (by rw[Array.length_toList];exact Q2.o);rw[Array.toArray_toList]at q;exact k_ q
    (try simp only[Act.put,aT,aZ,aS]);refine tkC 10 λK hK=>?_;change Oper.wp _ ⟨some 28,_,_,_,_,_⟩ _ _ _ _;go_simp;refine (a3.o).mono ?_;rintro e w3 ⟨rfl,bc⟩;have ap:=q_ (hM.o.1.drew.on bc);have HC:=q_ hM.o.2;clear bc a3 hM;dsimp only;refine hK.out _ _ ap.o λd=>?_;clear hK K;(try simp only[Act.put,aT,aZ,aS]);refine⟨wpAnyH_done (by kernel_rfl) ?_ _⟩;clear d
    cases v with
    | false=>
     have w1:=aw.o k (by have:=M.o;have:=HL.o;omega);have hz:¬w_ u x y=0:=by simpa using Hv.o
     have HZ:=q_ hz;clear hz;go_wp2_with fail;go_roundw
     case rel=>exact⟨k+1,by omega,by have:=M.o;omega,by go_num,q_ ⟨ap.o,by have hc:=HC.o;rw[W.o]at hc ⊢;rw[kc_ a7.o HY.o,if_neg HZ.o,hc,<-g_ a7.o]⟩⟩
     case measure=>have:=M.o;simp[intOf];omega
    | true=>
     have hz:w_ u x y=0:=by simpa using Hv.o
     have HK:=q_ (show cpt (w_ u) (L.take (k+1))=L.take k from by have hc:=HC.o;rw[W.o]at hc ⊢;rw[kc_ a7.o HY.o,if_pos hz,hc,List.append_nil]);clear hz HC a7 W e4 Hv EX EY Q1 Q2 Z1 Z2 HX HY;have e5:(0:Int)<=k:=by omega
     have e6:(k:Int)<=n:=by omega
     have e7:(n:Int)<=cap:=by have:=av.o.1;omega
     have e8:(n:Int)-k=((n-k:Nat):Int):=by omega
     have bz:(⟨b,0,none⟩:Addr).add (k*18)=⟨b,k*18,none⟩:=by rw[Addr.add_mid,Nat.zero_add]
     go_wp2_with fail;go_loopw [5,7] (λs5 s7 wx=>∃(j f:Nat) (C:Nat->Array Value),1<=f/\k+f<=n/\j+1<=k+f/\s5 = .int .i64 (j:Nat)/\s7 = .int .i64 (f:Nat)/\Q_ (RwM w b cap n C wx/\(cpt (w_ u) (L.take (k+f))).length=j/\ElT (cpt (w_ u) (L.take (k+f))) C/\∀i,k+f<=i+1->i<n->C i=T i)) (λ_ s7 _=>n-(intOf s7).toNat)
     case atStart=>exact⟨k,1,T,by omega,by omega,by omega,rfl,rfl,q_ ⟨ap.o,by rw[HK.o,List.length_take,G.o];omega,by rw[HK.o];exact λi t hi=>I.o i t (by have:=(List.getElem?_eq_some_iff.1 hi).1;rw[List.length_take]at this;rw[List.getElem?_take_of_lt (by omega)]at hi;exact hi),λ_ _ _=>rfl⟩⟩
     case round=>
      obtain⟨j,f,C,bx,c0,c3,rfl,rfl,J⟩:=hrel;by_cases a6:k+f<n
      ·have e9:(f:Int)<((n-k:Nat):Int):=by omega
       obtain⟨z,b9⟩:∃z,f=z+1:=⟨f-1,by omega⟩;have B:=q_ b9;have c5:IntKind.i64.wrap ((f:Int)-1)=(z:Nat):=by have:=HL.o;rw[IntWalk.i64_in _ (by omega)];omega
       clear b9;obtain⟨X,Y⟩:∃X,L[k+f]?=some X:=⟨_,List.getElem?_eq_getElem (by rw[G.o];exact a6)⟩;obtain⟨y2,hy⟩:∃y2,L[k+z]?=some y2:=⟨_,List.getElem?_eq_getElem (by rw[G.o];have:=B.o;omega)⟩;have bi:=q_ (I.o _ _ Y);obtain⟨a4,fx,ao,bf,ex⟩:=I.o _ _ Y;obtain⟨aq,fy,bd,_,ey⟩:=I.o _ _ hy;rw[<-J.o.2.2.2 (k+f) (by omega) a6]at ex;rw[<-J.o.2.2.2 (k+z) (by have:=B.o;omega) (by have:=B.o;omega)]at ey;have U:=q_ (a2.o wr.drew J.o.1.turn.drew X y2 ao bd a4 fx fy);have HX:=q_ Y;have HY:=q_ hy;clear Y hy a4 fx aq fy;obtain⟨v2,aj⟩:=a_ (w_ u X y2==0);rw[aj.o]at U;obtain⟨d1,a9⟩:=ah_ X ao;obtain⟨d2,ar⟩:=ah_ y2 bd;rw[a9.o]at U ex;rw[ar.o]at U ey;have EX:=q_ ex;have EY:=q_ ey;have Z1:=q_ a9.size;have Z2:=q_ ar.size;have Q1:=q_ (e2_.trans (congrArg some a9.size.symm));have Q2:=q_ (e2_.trans (congrArg some ar.size.symm));have r:=q_ a6;have o1:=b0_ X ao λq hq=>by obtain⟨A,cp,e⟩:=bf q hq;exact⟨A,0,cp,e⟩
       rw[a9.o]at o1;have O1:=q_ (show d1.all (·.oneCell')=true from by rw[<-Array.toArray_toList (xs:=d1)];exact all_oneCell_toArray o1);clear o1 bf;clear ex ey;go_upto_region 11 with fail;refine wp_region_held_drew (S:=λW'=>RwM w b cap n C W') (by kernel_rfl) J.o.1.drew λd=>?_;refine V_.o ?_;refine v_ 0 38 (.func (.func 53) #[] #[.pointer (some ⟨g,0,none⟩)]) d λd=>?_;(try simp only[Act.put,aT,aZ,aS]);refine v_ 1 39 (.slice (some ⟨b,k*18,none⟩) (n-k) (cap-k)) d λd=>?_;(try simp only[Act.put,aT,aZ,aS]);refine v_ 2 40 (.int .i64 (f:Nat)) d λd=>?_;(try simp only[Act.put,aT,aZ,aS]);refine J_ 3 41 (.pointer (some ⟨b,k*18+f*18,none⟩)) d (λw D=>?_) λd=>?_
       ·exact k_ (vf_ b (k*18) (n-k) (cap-k) f (by have:=r.o;omega) w)
       (try simp only[Act.put,aT,aZ,aS]);refine J_ 4 42 (.agg d1) d (λw D=>?_) λd=>?_
       ·have p:=D.range (a:=k+f) r.o (show (C (k+f)).size=18 from by rw[EX.o];exact Z1.o);rw[EX.o,show (k+f)*18=k*18+f*18 by omega]at p;have q:=run_loadAt_mid (P:=Tryz.prog) w b (k*18+f*18) 99 d1.toList _ p Tryz.underlying99 rfl (by rw[Array.length_toList];exact Q1.o);rw[Array.toArray_toList]at q;exact k_ q
       (try simp only[Act.put,aT,aZ,aS]);refine v_ 5 43 (.slice (some ⟨b,k*18,none⟩) (n-k) (cap-k)) d λd=>?_;(try simp only[Act.put,aT,aZ,aS]);refine v_ 6 44 (.int .i64 (f:Nat)) d λd=>?_;(try simp only[Act.put,aT,aZ,aS]);refine v_ 7 45 (.int .i64 (z:Nat)) d λd=>?_;(try simp only[Act.put,aT,aZ,aS]);refine J_ 8 46 (.pointer (some ⟨b,k*18+z*18,none⟩)) d (λw D=>?_) λd=>?_
       ·exact k_ (vf_ b (k*18) (n-k) (cap-k) z (by have:=r.o;have:=B.o;omega) w)
       (try simp only[Act.put,aT,aZ,aS]);refine J_ 9 47 (.agg d2) d (λw D=>?_) λd=>?_
       ·have p:=D.range (a:=k+z) (by have:=r.o;have:=B.o;omega) (show (C (k+z)).size=18 from by rw[EY.o];exact Z2.o);rw[EY.o,show (k+z)*18=k*18+z*18 by omega]at p;have q:=run_loadAt_mid (P:=Tryz.prog) w b (k*18+z*18) 99 d2.toList _ p Tryz.underlying99 rfl (by rw[Array.length_toList];exact Q2.o);rw[Array.toArray_toList]at q;exact k_ q
       (try simp only[Act.put,aT,aZ,aS]);refine tkC 10 λK hK=>?_;change Oper.wp _ ⟨some 48,_,_,_,_,_⟩ _ _ _ _;go_simp;refine (U.o).mono ?_;rintro e w4 ⟨rfl,b4⟩;have aa:=q_ (J.o.1.drew.on b4);have O:=q_ J.o.2;clear b4 U J;dsimp only;refine hK.out _ _ aa.o λd=>?_;clear hK K;(try simp only[Act.put,aT,aZ,aS]);refine v_ 11 49 (.bool (!v2)) d λd=>?_;(try simp only[Act.put,aT,aZ,aS]);refine⟨wpAnyH_done (by kernel_rfl) ?_ _⟩;clear d;have w5:=aw.o f (by have:=r.o;have:=HL.o;omega)
       cases v2 with
       | true=>
        have hz:w_ u X y2=0:=by simpa using aj.o
        have HZ:=q_ hz;clear hz;go_wp2_with fail;go_roundw
        case rel=>
         have h0:=kc_ (o:=w_ u) (L:=L) (m:=k+z) (x:=X) (y:=y2) (by rw[show k+z+1=k+f by have:=B.o;omega];exact HX.o) HY.o;rw[if_pos HZ.o,List.append_nil,show k+z+2=k+(f+1) by have:=B.o;omega,show k+z+1=k+f by have:=B.o;omega]at h0;exact⟨j,f+1,C,by omega,by have:=r.o;omega,by omega,rfl,by go_num,q_ ⟨aa.o,by rw[h0];exact O.o.1,by rw[h0];exact O.o.2.1,λi h1 h2=>O.o.2.2 i (by omega) h2⟩⟩
        case measure=>have:=r.o;simp[intOf];omega
       | false=>
        have hz:¬w_ u X y2=0:=by simpa using aj.o
        have HZ:=q_ hz;clear hz;have w6:=aw.o j (by have:=r.o;have:=HL.o;omega);have bj:(0:Int)<=j:=by omega
        have bq:(j:Int)<n:=by have:=r.o;omega
        have br:(0:Int)<=f:=by omega
        have b1:(⟨b,0,none⟩:Addr).add (j*18)=⟨b,j*18,none⟩:=by rw[Addr.add_mid,Nat.zero_add]
        have bt:(⟨b,k*18,none⟩:Addr).add (f*18)=⟨b,k*18+f*18,none⟩:=Addr.add_mid _ _ _;have ak:=aa.o.range (a:=k+f) r.o (show (C (k+f)).size=18 from by rw[EX.o];exact Z1.o);rw[EX.o,show (k+f)*18=k*18+f*18 by omega]at ak;have bk:=q_ ak;clear ak
        go_wp2_with (first
         | ((with_reducible refine e_ (some 55) ?_);refine A_ rfl 99 _ rfl b (k*18+f*18) rfl d1 _ bk.o Tryz.underlying99 rfl Q1.o ?_)
         | ((with_reducible refine z_ 56 ?_);refine L0_ rfl 99 _ _ rfl j d1 rfl rfl aa.o (by have:=r.o;omega) av.o.1 Z1.o e2_ O1.o ?_;intro w7 b6))
        have bl:=q_ b6;clear b6;go_roundw
        case rel=>
         have h0:=kc_ (o:=w_ u) (L:=L) (m:=k+z) (x:=X) (y:=y2) (by rw[show k+z+1=k+f by have:=B.o;omega];exact HX.o) HY.o;rw[if_neg HZ.o,show k+z+2=k+(f+1) by have:=B.o;omega,show k+z+1=k+f by have:=B.o;omega]at h0;refine⟨j+1,f+1,λi=>if i=j then d1 else C i,by omega,by have:=r.o;omega,by omega,by go_num,by go_num,q_ ⟨bl.o,by rw[h0,List.length_append,O.o.1];rfl,?_,λi h1 h2=>?_⟩⟩
         ·rw[h0];intro i t hi;rcases Nat.lt_or_ge i j with bh | bu
          ·rw[List.getElem?_append_left (by rw[O.o.1];exact bh)]at hi;dsimp only;rw[if_neg (show ¬i=j by omega)];exact O.o.2.1 i t hi
          ·have bb:=(List.getElem?_eq_some_iff.1 hi).1;rw[List.length_append,O.o.1]at bb;have bn:i=j:=by simp only[List.length_cons,List.length_nil]at bb;omega
           subst bn;rw[List.getElem?_append_right (by rw[O.o.1];exact Nat.le_refl _),O.o.1,Nat.sub_self]at hi;injection hi with hi;subst hi;dsimp only;rw[if_pos rfl];obtain⟨g1,g2,g3,g4,g5⟩:=bi.o;exact⟨g1,g2,g3,g4,by rw[<-EX.o,O.o.2.2 (k+f) (by omega) r.o];exact g5⟩
         ·dsimp only;rw[if_neg (show ¬i=j by omega)];exact O.o.2.2 i (by omega) h2
        case measure=>have:=r.o;simp[intOf];omega
      ·have a5:k+f=n:=by omega
       have b3:j<n:=by omega
       obtain⟨zs,b2⟩:=Bh_ J.o.1 av.o.1 b3;have bw:=b2;have e9:¬(f:Int)<((n-k:Nat):Int):=by omega
       have bj:(0:Int)<=j:=by omega
       have bq:(j:Int)<=n:=by omega
       have br:(j:Int)<=cap:=by omega
       have b1:(⟨b,0,none⟩:Addr).add (j*18)=⟨b,j*18,none⟩:=by rw[Addr.add_mid,Nat.zero_add]
       have bo:=q_ (a1.o (cpt (w_ u) L) j C (wr.setCells b (j*18) zs) rfl (by have h:=J.o.2.1;rw[a5,List.take_of_length_le (by rw[G.o];exact Nat.le_refl _)]at h;exact h) (by omega) (by have h:=J.o.2.2.1;rw[a5,List.take_of_length_le (by rw[G.o];exact Nat.le_refl _)]at h;exact h) (J.o.1.clear (by omega) zs));clear J a1 a2 I b0 a5 b3 b2;go_wp2_with fail;go_ret;exact bo.o
   ·have bm:n=k:=by omega
    subst bm;have HR:=q_ (a1.o L n T wr (by have h:=hM.o.2;rw[List.take_of_length_le (by rw[G.o];exact Nat.le_refl _)]at h;exact h.symm) G.o (Nat.le_refl _) I.o hM.o.1);have e3:¬(n:Int)<n:=by omega
    clear a1 a2 I b0 hM;go_wp2_with fail;go_ret;exact HR.o
end
section
open Go Go.RowKit
def fe_ (i:Nat):ByteArray:=if i=0 then ⟨#[115,112,111]⟩ else if i=1 then ⟨#[115,111,112]⟩ else if i=2 then ⟨#[112,115,111]⟩ else if i=3 then ⟨#[112,111,115]⟩ else if i=4 then ⟨#[111,115,112]⟩ else ⟨#[111,112,115]⟩
def ip_ (i:Nat) (w:World) (e:Ending) (w':World):Prop:=e = .returned (.tuple #[.agg (e3_ (ak_ i)),.int .i64 (i:Nat),.bool true])/\Below w.heap.size w w'
theorem cl_ {P:Program} {j:Func} {a u v:Tmp} {T r:TypeId} {w:World} (h:j.results=#[.cell a T,.tmp u,.tmp v]) {e:Array Value} {g:Nat} (ht:e.getD a undef = .pointer (some ⟨g,0,none⟩)) {c:Array Value} (p:w.heap[g]?=some (.cells c r (0,0)))
    (d:TypeDesc) (t:P.underlying T=some d) (o:d.isRow=true) (hi:(P.info? T).map (·.size)=some c.size) {x y:Value} (q:e.getD u undef=x) (s:e.getD v undef=y):(results j e).run P w = .ok (.tuple #[.agg c,x,y]) w:=by
 have:=run_loadVar_mid (P:=P) w g 0 T c.toList d (p_ p) t o (by rw[Array.length_toList];exact hi);rw[Array.toArray_toList]at this;have i:e[a]?.getD undef = .pointer (some ⟨g,0,none⟩):=by rw[<-ht];simp
 have k:e[u]?.getD undef=x:=by rw[<-q];simp
 have f:e[v]?.getD undef=y:=by rw[<-s];simp
 simp[results,h,i,asAddr,this,k,f]
theorem Kb_ (w:World):Calls Tryz.prog 48 #[.string ⟨#[115,112,111]⟩] w (ip_ 0 w):=by
 obtain⟨z,f⟩:=a_ w.heap.size;obtain⟨h,e⟩:=a_ (w.alloc (.cells #[.int .i64 0,.int .i64 0,.int .i64 0] 101));have q:=q_ (show Below w.heap.size w h from by rw[<-e.o];exact (Below.refl _ _).alloc (Nat.le_refl _) _);have t:=q_ (show h.heap[z]?=some (.cells #[.int .i64 0,.int .i64 0,.int .i64 0] 101 (0,0)) from by rw[<-e.o,<-f.o];exact heap_alloc_new w _);have j:=q_ (show (Tryz.prog.info? 101).map (·.size)=some 3 from by kernel_rfl);go_enter Tryz.func48,Tryz.ntmps48
 go_upto_region 1 with fail;rw[e.o,f.o];clear e;have s:=q_ (show (#[.int .i64 0,.int .i64 1,.int .i64 2]:Array Value).all (·.oneCell')=true from by kernel_rfl);go_wp2_with ((with_reducible refine z_ 2 ?_);refine r_ rfl 101 _ _ rfl z (#[.int .i64 0,.int .i64 0,.int .i64 0]) (#[.int .i64 0,.int .i64 1,.int .i64 2]) 101 rfl rfl t.o rfl j.o s.o ?_;intro w2 p d)
 have i:=q_ (show Below w.heap.size w w2 from q.o.trans ⟨d.os,d.tape,d.output,d.size,λk r=>d.block k (Nat.lt_of_lt_of_le r q.o.size) (by rw[<-f.o];omega)⟩);refine bodyPost_ret (v:=.tuple #[.agg (#[.int .i64 0,.int .i64 1,.int .i64 2]),.int .i64 0,.bool true]) (cl_ Tryz.results48 (g:=z) rfl p _ Tryz.underlying101 rfl j.o rfl rfl) rfl ⟨rfl,i.o⟩
theorem L1_ (w:World):Calls Tryz.prog 48 #[.string ⟨#[115,111,112]⟩] w (ip_ 1 w):=by
 obtain⟨z,f⟩:=a_ w.heap.size;obtain⟨h,e⟩:=a_ (w.alloc (.cells #[.int .i64 0,.int .i64 0,.int .i64 0] 101));have q:=q_ (show Below w.heap.size w h from by rw[<-e.o];exact (Below.refl _ _).alloc (Nat.le_refl _) _);have t:=q_ (show h.heap[z]?=some (.cells #[.int .i64 0,.int .i64 0,.int .i64 0] 101 (0,0)) from by rw[<-e.o,<-f.o];exact heap_alloc_new w _);have j:=q_ (show (Tryz.prog.info? 101).map (·.size)=some 3 from by kernel_rfl);go_enter Tryz.func48,Tryz.ntmps48
 go_upto_region 1 with fail;rw[e.o,f.o];clear e;have s:=q_ (show (#[.int .i64 0,.int .i64 2,.int .i64 1]:Array Value).all (·.oneCell')=true from by kernel_rfl);go_wp2_with ((with_reducible refine z_ 2 ?_);refine r_ rfl 101 _ _ rfl z (#[.int .i64 0,.int .i64 0,.int .i64 0]) (#[.int .i64 0,.int .i64 2,.int .i64 1]) 101 rfl rfl t.o rfl j.o s.o ?_;intro w2 p d)
 have i:=q_ (show Below w.heap.size w w2 from q.o.trans ⟨d.os,d.tape,d.output,d.size,λk r=>d.block k (Nat.lt_of_lt_of_le r q.o.size) (by rw[<-f.o];omega)⟩);refine bodyPost_ret (v:=.tuple #[.agg (#[.int .i64 0,.int .i64 2,.int .i64 1]),.int .i64 1,.bool true]) (cl_ Tryz.results48 (g:=z) rfl p _ Tryz.underlying101 rfl j.o rfl rfl) rfl ⟨rfl,i.o⟩
theorem L2_ (w:World):Calls Tryz.prog 48 #[.string ⟨#[112,115,111]⟩] w (ip_ 2 w):=by
 obtain⟨z,f⟩:=a_ w.heap.size;obtain⟨h,e⟩:=a_ (w.alloc (.cells #[.int .i64 0,.int .i64 0,.int .i64 0] 101));have q:=q_ (show Below w.heap.size w h from by rw[<-e.o];exact (Below.refl _ _).alloc (Nat.le_refl _) _);have t:=q_ (show h.heap[z]?=some (.cells #[.int .i64 0,.int .i64 0,.int .i64 0] 101 (0,0)) from by rw[<-e.o,<-f.o];exact heap_alloc_new w _);have j:=q_ (show (Tryz.prog.info? 101).map (·.size)=some 3 from by kernel_rfl);go_enter Tryz.func48,Tryz.ntmps48
 go_upto_region 1 with fail;rw[e.o,f.o];clear e;have s:=q_ (show (#[.int .i64 1,.int .i64 0,.int .i64 2]:Array Value).all (·.oneCell')=true from by kernel_rfl);go_wp2_with ((with_reducible refine z_ 2 ?_);refine r_ rfl 101 _ _ rfl z (#[.int .i64 0,.int .i64 0,.int .i64 0]) (#[.int .i64 1,.int .i64 0,.int .i64 2]) 101 rfl rfl t.o rfl j.o s.o ?_;intro w2 p d)
 have i:=q_ (show Below w.heap.size w w2 from q.o.trans ⟨d.os,d.tape,d.output,d.size,λk r=>d.block k (Nat.lt_of_lt_of_le r q.o.size) (by rw[<-f.o];omega)⟩);refine bodyPost_ret (v:=.tuple #[.agg (#[.int .i64 1,.int .i64 0,.int .i64 2]),.int .i64 2,.bool true]) (cl_ Tryz.results48 (g:=z) rfl p _ Tryz.underlying101 rfl j.o rfl rfl) rfl ⟨rfl,i.o⟩
theorem L3_ (w:World):Calls Tryz.prog 48 #[.string ⟨#[112,111,115]⟩] w (ip_ 3 w):=by
 obtain⟨z,f⟩:=a_ w.heap.size;obtain⟨h,e⟩:=a_ (w.alloc (.cells #[.int .i64 0,.int .i64 0,.int .i64 0] 101));have q:=q_ (show Below w.heap.size w h from by rw[<-e.o];exact (Below.refl _ _).alloc (Nat.le_refl _) _);have t:=q_ (show h.heap[z]?=some (.cells #[.int .i64 0,.int .i64 0,.int .i64 0] 101 (0,0)) from by rw[<-e.o,<-f.o];exact heap_alloc_new w _);have j:=q_ (show (Tryz.prog.info? 101).map (·.size)=some 3 from by kernel_rfl);go_enter Tryz.func48,Tryz.ntmps48
 go_upto_region 1 with fail;rw[e.o,f.o];clear e;have s:=q_ (show (#[.int .i64 1,.int .i64 2,.int .i64 0]:Array Value).all (·.oneCell')=true from by kernel_rfl);go_wp2_with ((with_reducible refine z_ 2 ?_);refine r_ rfl 101 _ _ rfl z (#[.int .i64 0,.int .i64 0,.int .i64 0]) (#[.int .i64 1,.int .i64 2,.int .i64 0]) 101 rfl rfl t.o rfl j.o s.o ?_;intro w2 p d)
 have i:=q_ (show Below w.heap.size w w2 from q.o.trans ⟨d.os,d.tape,d.output,d.size,λk r=>d.block k (Nat.lt_of_lt_of_le r q.o.size) (by rw[<-f.o];omega)⟩);refine bodyPost_ret (v:=.tuple #[.agg (#[.int .i64 1,.int .i64 2,.int .i64 0]),.int .i64 3,.bool true]) (cl_ Tryz.results48 (g:=z) rfl p _ Tryz.underlying101 rfl j.o rfl rfl) rfl ⟨rfl,i.o⟩
theorem L4_ (w:World):Calls Tryz.prog 48 #[.string ⟨#[111,115,112]⟩] w (ip_ 4 w):=by
 obtain⟨z,f⟩:=a_ w.heap.size;obtain⟨h,e⟩:=a_ (w.alloc (.cells #[.int .i64 0,.int .i64 0,.int .i64 0] 101));have q:=q_ (show Below w.heap.size w h from by rw[<-e.o];exact (Below.refl _ _).alloc (Nat.le_refl _) _);have t:=q_ (show h.heap[z]?=some (.cells #[.int .i64 0,.int .i64 0,.int .i64 0] 101 (0,0)) from by rw[<-e.o,<-f.o];exact heap_alloc_new w _);have j:=q_ (show (Tryz.prog.info? 101).map (·.size)=some 3 from by kernel_rfl);go_enter Tryz.func48,Tryz.ntmps48
 go_upto_region 1 with fail;rw[e.o,f.o];clear e;have s:=q_ (show (#[.int .i64 2,.int .i64 0,.int .i64 1]:Array Value).all (·.oneCell')=true from by kernel_rfl);go_wp2_with ((with_reducible refine z_ 2 ?_);refine r_ rfl 101 _ _ rfl z (#[.int .i64 0,.int .i64 0,.int .i64 0]) (#[.int .i64 2,.int .i64 0,.int .i64 1]) 101 rfl rfl t.o rfl j.o s.o ?_;intro w2 p d)
 have i:=q_ (show Below w.heap.size w w2 from q.o.trans ⟨d.os,d.tape,d.output,d.size,λk r=>d.block k (Nat.lt_of_lt_of_le r q.o.size) (by rw[<-f.o];omega)⟩);refine bodyPost_ret (v:=.tuple #[.agg (#[.int .i64 2,.int .i64 0,.int .i64 1]),.int .i64 4,.bool true]) (cl_ Tryz.results48 (g:=z) rfl p _ Tryz.underlying101 rfl j.o rfl rfl) rfl ⟨rfl,i.o⟩
theorem L5_ (w:World):Calls Tryz.prog 48 #[.string ⟨#[111,112,115]⟩] w (ip_ 5 w):=by
 obtain⟨z,f⟩:=a_ w.heap.size;obtain⟨h,e⟩:=a_ (w.alloc (.cells #[.int .i64 0,.int .i64 0,.int .i64 0] 101));have q:=q_ (show Below w.heap.size w h from by rw[<-e.o];exact (Below.refl _ _).alloc (Nat.le_refl _) _);have t:=q_ (show h.heap[z]?=some (.cells #[.int .i64 0,.int .i64 0,.int .i64 0] 101 (0,0)) from by rw[<-e.o,<-f.o];exact heap_alloc_new w _);have j:=q_ (show (Tryz.prog.info? 101).map (·.size)=some 3 from by kernel_rfl);go_enter Tryz.func48,Tryz.ntmps48
 go_upto_region 1 with fail;rw[e.o,f.o];clear e;have s:=q_ (show (#[.int .i64 2,.int .i64 1,.int .i64 0]:Array Value).all (·.oneCell')=true from by kernel_rfl);go_wp2_with ((with_reducible refine z_ 2 ?_);refine r_ rfl 101 _ _ rfl z (#[.int .i64 0,.int .i64 0,.int .i64 0]) (#[.int .i64 2,.int .i64 1,.int .i64 0]) 101 rfl rfl t.o rfl j.o s.o ?_;intro w2 p d)
 have i:=q_ (show Below w.heap.size w w2 from q.o.trans ⟨d.os,d.tape,d.output,d.size,λk r=>d.block k (Nat.lt_of_lt_of_le r q.o.size) (by rw[<-f.o];omega)⟩);refine bodyPost_ret (v:=.tuple #[.agg (#[.int .i64 2,.int .i64 1,.int .i64 0]),.int .i64 5,.bool true]) (cl_ Tryz.results48 (g:=z) rfl p _ Tryz.underlying101 rfl j.o rfl rfl) rfl ⟨rfl,i.o⟩
theorem za_ (i:Nat) (hi:i<6) (w:World):Calls Tryz.prog 48 #[.string (fe_ i)] w (ip_ i w):=by
 rcases (show i=0\/i=1\/i=2\/i=3\/i=4\/i=5 by omega) with rfl | rfl | rfl | rfl | rfl | rfl
 ·exact Kb_ w
 ·exact L1_ w
 ·exact L2_ w
 ·exact L3_ w
 ·exact L4_ w
 ·exact L5_ w
end
section
open Go Go.RowKit Go.Maps
theorem s0_ {w:World} {b e sz:Nat} {v:Value} {n:Nat} {xs h:List Value} (h1:w.ownsRow b e sz v n xs) (h2:w.ownsRow b e sz v n h):xs=h:=by
 rcases h1.2 with⟨g,j⟩ | ⟨t,y,s,g,_,k,_,_,_,p⟩
 ·have i:=h1.1;have l2:=h2.1;rw[j,Nat.zero_mul]at i l2;rw[List.eq_nil_of_length_eq_zero i,List.eq_nil_of_length_eq_zero l2]
 ·rcases h2.2 with⟨d,q⟩ | ⟨x,r,u,d,_,f,_,_,_,o⟩
  ·rw[g]at d;cases d
  ·rw[g]at d;injection d with d _ e3;injection d with d;injection d with d;subst d e3;rw[k]at f;injection f with f;injection f with f;subst f;rw[<-p,<-o]
theorem Iu_:(Tryz.prog.info? 99).map (λi=>(i.zero,i.size,i.bytes))=some (some (.agg #[.int .i64 0,.bool false,.int .i64 0,.string ⟨#[]⟩,.string ⟨#[]⟩,.slice none 0 0,.int .i64 0,.bool false,.int .i64 0,.string ⟨#[]⟩,.string ⟨#[]⟩,.slice none 0 0,.int .i64 0,.bool false,.int .i64 0,.string ⟨#[]⟩,.string ⟨#[]⟩,.slice none 0 0]),18,240):=by kernel_rfl
theorem K3_:(Tryz.prog.info? 3).map (λi=>(i.zero,i.size,i.bytes))=some (some (.int .i64 0),1,8):=by kernel_rfl
theorem o7_ {op:Oper} {a:Act} {K:Act->World->Prop} {Q:Exit->Act->World->Prop} (s x:Operand) (Z:op.op = .call { callee:=.builtin .append,args:=#[s,x],argTypes:=#[93,93] })
    {wr:World} {F:Nat->Prop} {L:List d_} {S:Value} {t:d_} {c:Array Value} {n:Nat} (hS:a.eval s=S) (j:B_ 99 18 TrS wr F L S) (I:L.length=n) (O:a.eval x = .slice (some ⟨wr.heap.size,0,none⟩) 1 1) (i:∀w F,TrS w F t c) (T:n<=1000000) (V:∀b,F b->b<wr.heap.size)
    (h:∀g cap w',B_ 99 18 TrS w' (λb=>F b\/b=g) (L++[t]) (.slice (some ⟨g,0,none⟩) (n+1) cap)->wr.grownBy w' S.ownBlock->(S.ownBlock=some g\/wr.heap.size<=g)->g<w'.heap.size->K (a.put op.dst (.slice (some ⟨g,0,none⟩) (n+1) cap)) w') :
    op.wp Tryz.prog a (wr.alloc (.cells c 99)) K Q:=by
 subst I;obtain⟨P,hi,C,z,k⟩:=info_parts Iu_;obtain⟨cs,d,X,B,hr⟩:=j;have f:c.size=18:=by obtain⟨_,_,ss,_,e⟩:=i wr F;rw[e];rfl
 have p:∀u∈c.toList,u.oneCell'=true:=by obtain⟨_,_,ss,Y,e⟩:=i wr F;rw[e];exact b0_ t ss λq D=>by obtain⟨A,M,e⟩:=Y q D;exact⟨A,0,M,e⟩
 refine wp_append_lies _ s x _ Z 0 99 P _ 18 240 Tryz.underlying93 hi C z k rfl (by decide) S L.length (N_ cs L.length) hS (d.alloc _) ⟨wr.heap.size,0,none⟩ 1 1 c.toList O (by rw[Array.length_toList,f]) (World.news_of_block (heap_alloc_new wr _)) p (by omega) (by unfold maxLen;omega) (by omega) (Nat.zero_le _) (wr.heap.size+1) (by simp) λg cap w' h1 h2 J W=>?_;have r:=a5_ h2;have o:S.ownBlock=some g\/wr.heap.size<=g:=J.imp id (λe=>by rw[e];omega);have y:=B_.snoc (x:=t) (c:=c) (G:=λ_=>False) TrS.good ⟨cs,d,X,B,hr⟩ (i _ _) f (λb hb=>hb.elim) V (λb hb=>hb.elim) (λa0 U=>by rw[s0_ U d];exact h1) r o;exact h g cap w' (y.mono TrS.good λb hb=>by rcases hb with hb | hb | hb;exact .inl hb;exact hb.elim;exact .inr hb) r o W
theorem o8_ {op:Oper} {a:Act} {K:Act->World->Prop} {Q:Exit->Act->World->Prop} (s x:Operand) (z:op.op = .call { callee:=.builtin .append,args:=#[s,x],argTypes:=#[94,94] })
    {wr:World} {d:List Nat} {S:Value} {k n:Nat} (C:a.eval s=S) (D:d.length=n) (f:wr.ownsRow 0 3 1 S n (ixC d)) (y:a.eval x = .slice (some ⟨wr.heap.size,0,none⟩) 1 1) (r:n<=1000000)
    (h:∀g cap w',w'.ownsRow 0 3 1 (.slice (some ⟨g,0,none⟩) (n+1) cap) (n+1) (ixC (d++[k]))->wr.grownBy w' S.ownBlock->(S.ownBlock=some g\/wr.heap.size<=g)->g<w'.heap.size->K (a.put op.dst (.slice (some ⟨g,0,none⟩) (n+1) cap)) w') :
    op.wp Tryz.prog a (wr.alloc (.cells #[.int .i64 (k:Nat)] 3)) K Q:=by
 obtain⟨q,hi,p,o,i⟩:=info_parts K3_;refine wp_append_lies _ s x _ z 0 3 q _ 1 8 Tryz.underlying94 hi p o i rfl (by decide) S n (ixC d) C (f.alloc _) ⟨wr.heap.size,0,none⟩ 1 1 [.int .i64 (k:Nat)] y rfl (World.news_of_block (cs:=#[.int .i64 (k:Nat)]) (heap_alloc_new wr _)) (λu j=>by simp at j;subst j;rfl) (by omega) (by unfold maxLen;omega) (by omega) (Nat.zero_le _) (wr.heap.size+1) (by simp) λg cap w' h1 h2 t B=>?_;exact h g cap w' (by unfold ixC at h1 ⊢;rw[List.map_append];exact h1) (a5_ h2) (t.imp id (λe=>by rw[e];omega)) B
structure LdM (w0:World) (c:Nat) (S:Value) (ss:Nat->Value) (wx:World):Prop where
 hb:Below w0.heap.size w0 wx
 c0:w0.heap.size<=c
 ph:wx.heap[c+1]?=some (.cells #[.pointer (some ⟨c,0,none⟩)] 29 (0,0))
 pc:wx.heap[c]?=some (.cells #[S,ss 0,ss 1,ss 2,ss 3,ss 4,ss 5] 97 (0,0))
section
variable {w0 wx w':World} {c:Nat} {S:Value} {ss:Nat->Value}
theorem LdM.on (h:LdM w0 c S ss wx) (hb:Below wx.heap.size wx w'):LdM w0 c S ss w':=
 ⟨h.hb.trans (hb.mono h.hb.size),h.c0,(hb.block _ (b_ h.ph)).trans h.ph,(hb.block _ (b_ h.pc)).trans h.pc⟩
theorem LdM.turn (h:LdM w0 c S ss wx) {T:Nat->Prop} (ht:Turn T wx w') (h1:∀b,T b->c+2<=b):LdM w0 c S ss w':=
 ⟨j_ h.hb ht (λb hb=>by have:=h1 b hb;have:=h.c0;omega),h.c0,ht.heap h.ph (λhb=>by have:=h1 _ hb;omega),ht.heap h.pc (λhb=>by have:=h1 _ hb;omega)⟩
theorem LdM.drew (h:LdM w0 c S ss wx):LdM w0 c S ss wx.drew:=⟨h.hb.drew,h.c0,h.ph,h.pc⟩
theorem LdM.cellS (h:LdM w0 c S ss wx):wx.cell? ⟨c,0,none⟩=some S:=cell_of_heap h.pc 0
theorem LdM.cellP (h:LdM w0 c S ss wx):wx.cell? ⟨c+1,0,none⟩=some (.pointer (some ⟨c,0,none⟩)):=cell_of_heap h.ph 0
theorem LdM.setS (h:LdM w0 c S ss wx) (S':Value):LdM w0 c S' ss (wx.setCell ⟨c,0,none⟩ S'):=by
 refine⟨h.hb.trans ?_,h.c0,?_,?_⟩
 ·have ht:=(Turn.refl (λb=>b=c) wx).setCell (p:=⟨c,0,none⟩) (.inr rfl) S';exact⟨ht.os,ht.tape,ht.output,ht.size,λk d=>ht.block k (Nat.lt_of_lt_of_le d h.hb.size) (λe=>by have:=h.c0;omega)⟩
 ·have ht:=(Turn.refl (λb=>b=c) wx).setCell (p:=⟨c,0,none⟩) (.inr rfl) S';exact ht.heap h.ph (by show ¬c+1=c;omega)
 ·exact heap_setCell_same wx c 0 _ _ S' h.pc
end
def s1_:Nat->Value:=λ_=>.slice none 0 0
structure LdT (w0:World) (c:Nat) (S:Value) (K:List d_) (wx:World):Prop where
 m:LdM w0 c S s1_ wx
 own:B_ 99 18 TrS wx (λb=>c+2<=b/\b<wx.heap.size) K S
theorem LdT.on {w0 wx w':World} {c:Nat} {S:Value} {K:List d_} (h:LdT w0 c S K wx) (hb:Below wx.heap.size wx w'):LdT w0 c S K w':=
 ⟨h.m.on hb,(h.own.turn TrS.good (Turn.of_below hb) (λb hb=>hb.2) (λb hb h=>by have h2:wx.heap.size<=b:=h;omega)).mono TrS.good λb d=>⟨d.1,Nat.lt_of_lt_of_le d.2 hb.size⟩⟩
theorem LdT.drew {w0 wx:World} {c:Nat} {S:Value} {K:List d_} (h:LdT w0 c S K wx):LdT w0 c S K wx.drew:=⟨h.m.drew,h.own⟩
theorem LdT.blk {w0 wx:World} {c:Nat} {S:Value} {K:List d_} (h:LdT w0 c S K wx):∀b,S.ownBlock=some b->c+2<=b/\b<wx.heap.size:=by obtain⟨cs,_,_,d,_⟩:=h.own;exact d
theorem LdT.more {w0 wr w':World} {c g cap:Nat} {S:Value} {K:List d_} {t:d_} {n:Nat} (h:LdT w0 c S K wr) (f:wr.grownBy w' S.ownBlock) (o:S.ownBlock=some g\/wr.heap.size<=g) (d:g<w'.heap.size)
    (k:B_ 99 18 TrS w' (λb=>(c+2<=b/\b<wr.heap.size)\/b=g) (K++[t]) (.slice (some ⟨g,0,none⟩) (n+1) cap)) :
    LdT w0 c (.slice (some ⟨g,0,none⟩) (n+1) cap) (K++[t]) (w'.setCell ⟨c,0,none⟩ (.slice (some ⟨g,0,none⟩) (n+1) cap)):=by
 have q:c+2<=wr.heap.size:=by have:=b_ h.m.ph;omega
 have j:LdM w0 c S s1_ w':=h.m.turn (Turn.of_grown f) λb hb=>(h.blk b hb.symm).1
 have i:c+2<=g:=by
  rcases o with h1 | h1
  ·exact (h.blk g h1).1
  ·omega
 refine⟨j.setS _,?_⟩;have ht:=(Turn.refl (λb=>b=c) w').setCell (p:=⟨c,0,none⟩) (.inr rfl) (.slice (some ⟨g,0,none⟩) (n+1) cap);refine (k.turn TrS.good ht (λb hb=>?_) (λb hb e=>?_)).mono TrS.good λb hb=>?_
 ·rcases hb with hb | hb
  ·exact Nat.lt_of_lt_of_le hb.2 f.size
  ·rw[hb];exact d
 ·rcases hb with hb | hb
  ·have:b=c:=e;omega
  ·have:b=c:=e;omega
 ·rcases hb with hb | hb
  ·exact⟨hb.1,Nat.lt_of_lt_of_le (Nat.lt_of_lt_of_le hb.2 f.size) ht.size⟩
  ·rw[hb];exact⟨i,Nat.lt_of_lt_of_le d ht.size⟩
theorem mh_ {w0 w w':World} {S:Nat->Prop} (hb:Below w0.heap.size w0 w) (ht:Turn S w w') (e:∀b,S b->w0.heap.size<=b):Below w0.heap.size w0 w':=
 hb.trans ⟨ht.os,ht.tape,ht.output,ht.size,λk d=>ht.block k (Nat.lt_of_lt_of_le d hb.size) (λh=>by have:=e k h;omega)⟩
structure e5_ {α : Type} (sz:Nat) (R:α -> Array Value->Prop):Prop where
 size:∀{x:α} {c:Array Value},R x c->c.size=sz
 one:∀{x:α} {c:Array Value},R x c->∀u∈c.toList,u.oneCell'=true
abbrev ofP {α : Type} (R:α -> Array Value->Prop):bj_ α:=λ_ _ x c=>R x c
theorem ofP.good {α : Type} (R:α -> Array Value->Prop):(ofP R).Good:=⟨λh _=>h,λh _=>h⟩
def b9_ {α : Type} (E:TypeId) (sz:Nat) (R:α -> Array Value->Prop) (w:World) (l:List α) (v:Value):Prop:=
 ∃cs:Nat->Array Value,w.ownsRow 0 E sz v l.length (N_ cs l.length)/\∀i x,l[i]?=some x->R x (cs i)
section
variable {α : Type} {E:TypeId} {sz:Nat} {R:α -> Array Value->Prop} {w w':World} {F:Nat->Prop} {l l2:List α} {v:Value} {A:Option Addr} {n:Nat}
theorem b9_.nil (E:TypeId) (sz:Nat) (R:α -> Array Value->Prop) (w:World):b9_ E sz R w [] (.slice none 0 0):=⟨λ_=>#[],World.ownsRow_nil _ _ _ _,λi x d=>by simp at d⟩
theorem b9_.turn (h:b9_ E sz R w l v) {S:Nat->Prop} (ht:Turn S w w') (e:∀b,v.ownBlock=some b->¬S b):b9_ E sz R w' l v:=by obtain⟨cs,d,f⟩:=h;exact⟨cs,ht.owns d e,f⟩
theorem b9_.lt (h:b9_ E sz R w l v) {b:Nat} (hb:v.ownBlock=some b):b<w.heap.size:=by obtain⟨cs,d,g⟩:=h;obtain⟨f,e⟩:=g6_ d hb;exact b_ e
theorem b9_.on (h:b9_ E sz R w l v) (hb:Below w.heap.size w w'):b9_ E sz R w' l v:=
 h.turn (Turn.of_below hb) λb d e=>by have e:w.heap.size<=b:=e;have:=h.lt d;omega
theorem b9_.form (h:b9_ E sz R w l v):∃A cap,v = .slice A l.length cap/\l.length<=cap/\(A=none->cap=0):=by
 obtain⟨cs,d,_⟩:=h;rcases d.2 with⟨h0,h1⟩ | ⟨g,e,f,h0,_,_,h1,_⟩
 ·exact⟨none,0,by rw[h0,h1],by omega,λ_=>rfl⟩
 ·exact⟨_,e,h0,h1,λh=>by cases h⟩
theorem b9_.rd {cap:Nat} (r:e5_ sz R) (h:b9_ E sz R w l (.slice A n cap)) (t:∀b,(Value.slice A n cap).ownBlock=some b->F b) (e:l.length=n):SRd sz (ofP R) w F l A n:=by
 obtain⟨cs,d,o⟩:=h;subst e;refine⟨rfl,λe=>?_⟩;obtain⟨g,u,f,_,_⟩:=d.form e;injection f with f _ hcp;subst f;subst hcp;have q:∀i,i<l.length->(cs i).size=sz:=λi hi=>r.size (o i _ (List.getElem?_eq_getElem hi));refine⟨⟨g,0,none⟩,rfl,t g rfl,λi x k=>?_⟩;have hi:=by_ k;refine⟨cs i,q i hi,λj s=>?_,o i x k⟩;have p:i*sz+j<l.length*sz:=by have h1:(i+1)*sz<=l.length*sz:=Nat.mul_le_mul_right sz (by omega);rw[Nat.succ_mul]at h1;omega
 have h1:=d.cellAt (i*sz+j) p;rw[bt_ q hi s]at h1;rw[Addr.add_mid,Nat.zero_add];exact h1
theorem SRd.part (h:SRd sz (ofP R) w F l A n) {lo hi:Nat} (h1:lo<=hi) (h2:hi<=n):SRd sz (ofP R) w F ((l.drop lo).take (hi-lo)) (A.map (·.add (lo*sz))) (hi-lo):=by refine⟨by rw[List.length_take,List.length_drop,<-h.1];omega,λs=>?_⟩;obtain⟨ad,e,q,o⟩:=h.2 (by omega);refine⟨ad.add (lo*sz),by rw[e];rfl,by rw[block_of_add];exact q,λi x d=>?_⟩;have f:=(List.getElem?_eq_some_iff.1 d).1;rw[List.length_take]at f;rw[List.getElem?_take_of_lt (by omega),List.getElem?_drop]at d;obtain⟨c,k,r,g⟩:=o _ _ d;refine⟨c,k,λj p=>?_,g⟩;rw[add_of_add,<-r j p,Nat.add_mul,Nat.add_assoc]
theorem SRd.cells {ad:Addr} (r:e5_ sz R) (h:SRd sz (ofP R) w F l (some ad) n):∃cs:Nat->Array Value,(∀i x,l[i]?=some x->R x (cs i))/\∀j u,(N_ cs n)[j]?=some u->w.cell? (ad.add j)=some u:=by
 classical
 have d:∀i,∃c:Array Value,∀x,l[i]?=some x->R x c/\∀j,j<sz->w.cell? (ad.add (i*sz+j))=c[j]?:=λi=>by
  cases hi:l[i]? with
  | none=>exact⟨#[],λx h=>by cases h⟩
  | some x=>
   obtain⟨s,c,e,_,h1,h2,q⟩:=h.at_ hi;injection e with e;subst e;exact⟨c,λy g=>by injection g with g;subst g;exact⟨q,h2⟩⟩
 refine⟨λi=>(d i).choose,λi x hi=>((d i).choose_spec x hi).1,λj u f=>?_⟩;have p:∀i,i<n->((d i).choose).size=sz:=λi hi=>r.size ((d i).choose_spec _ (List.getElem?_eq_getElem (by rw[<-h.1];exact hi))).1;have o:=(List.getElem?_eq_some_iff.1 f).1;rw[ad_ p]at o;rcases Nat.eq_zero_or_pos sz with h0 | h0
 ·subst h0;omega
 ·have hi:j / sz<n:=(Nat.div_lt_iff_lt_mul h0).2 o;have k:j % sz<sz:=Nat.mod_lt _ h0;have e:j=(j / sz)*sz+j % sz:=by rw[Nat.mul_comm];exact (Nat.div_add_mod j sz).symm
  rw[e,bt_ p hi k]at f;rw[e,((d _).choose_spec _ (List.getElem?_eq_getElem (by rw[<-h.1];exact hi))).2 _ k];exact f
theorem Bi_ (cs ds:Nat->Array Value) (n m:Nat):N_ cs n++N_ ds m=N_ (λi=>if i<n then cs i else ds (i-n)) (n+m):=by
 induction m with
 | zero=>
  rw[Nat.add_zero,show N_ ds 0=[] from rfl,List.append_nil];exact fh_ λi hi=>(if_pos hi).symm
 | succ m d=>
  rw[cy_,<-List.append_assoc,d,<-Nat.add_assoc,cy_];congr 2
  rw[if_neg (by omega),Nat.add_sub_cancel_left]
end
theorem Bj_ {α : Type} {P:Program} {E:TypeId} {sz bytes:Nat} {R:α -> Array Value->Prop} (q:e5_ sz R) (t ty:TypeId) (i:TypeInfo) (z:Value) (ht:P.underlying t=some (.slice E)) (hi:P.info? E=some i) (hz:i.zero=some z)
    (p:i.size=sz) (C:i.bytes=bytes) (y:z.cells.size=sz) (I:0<sz) {w:World} {F:Nat->Prop} {l l2:List α} {v:Value} {A:Option Addr} {n m c:Nat} (h:b9_ E sz R w l v) (T:l.length=n) (h2:SRd sz (ofP R) w F l2 A m) (M:A=none->c=0)
    (G:n+m<=1000000000) (B:bytes<=100000) :
    ∃f w',(Builtin.append_ #[t,t] ty #[v,.slice A m c]).run P w = .ok f w'/\b9_ E sz R w' (l++l2) f/\w.grownBy w' v.ownBlock/\(f.ownBlock=v.ownBlock\/f.ownBlock=some w.heap.size):=by
 subst T;obtain⟨cs,d,J⟩:=h;have X:m=l2.length:=h2.1
 cases A with
 | none=>
  have h0:m=0:=by
   rcases Nat.eq_zero_or_pos m with h | h
   ·exact h
   ·obtain⟨_,e,_⟩:=h2.2 h;cases e
  have O:l2=[]:=List.eq_nil_of_length_eq_zero (by omega);subst O;rw[M rfl,h0];refine⟨v,w,run_append_owned_none (P:=P) (w:=w) 0 t ty E i sz ht hi v _ _ d,?_,⟨rfl,rfl,rfl,Nat.le_refl _,λ_ _ _=>rfl⟩,.inl rfl⟩;rw[List.append_nil];exact⟨cs,d,J⟩
 | some ad=>
  obtain⟨ds,s,k⟩:=h2.cells q;have V:∀i,i<m->(ds i).size=sz:=λi hi=>q.size (s i _ (List.getElem?_eq_getElem (by omega)))
  have r:∀u∈N_ ds m,u.oneCell'=true:=λu o=>by
   unfold N_ at o;obtain⟨i,hi,o⟩:=List.mem_flatMap.1 o;rw[List.mem_range]at hi;exact q.one (s i _ (List.getElem?_eq_getElem (by omega))) u o
  have g:(l.length+m)*bytes<=140737488355328:=Nat.le_trans (Nat.mul_le_mul G B) (by decide);obtain⟨f,w',h1,L,U,_,W⟩:=run_append_own_at (P:=P) w 0 t ty E i z sz bytes ht hi hz p C y I v l.length _ d ad m c (N_ ds m) (ad_ V) k r (by unfold maxLen;omega) g (Nat.zero_le _);refine⟨f,w',h1,⟨λi=>if i<l.length then cs i else ds (i-l.length),?_,λi x j=>?_⟩,U,W⟩
  ·rw[List.length_append,<-X,<-Bi_];exact L
  ·dsimp only;split
   ·rename_i D;rw[List.getElem?_append_left D]at j;exact J i x j
   ·rename_i Y;rw[List.getElem?_append_right (by omega)]at j;exact s _ x j
theorem Fg_ {α : Type} {P:Program} {E:TypeId} {sz bytes:Nat} {R:α -> Array Value->Prop} (B:e5_ sz R) {op:Oper} {a:Act} {K:Act->World->Prop} {Q:Exit->Act->World->Prop} (s x:Operand) (t:TypeId) (G:op.op = .call { callee:=.builtin .append,args:=#[s,x],argTypes:=#[t,t] })
    (i:TypeInfo) (z:Value) (ht:P.underlying t=some (.slice E)) (hi:P.info? E=some i) (hz:i.zero=some z)
    (e:i.size=sz) (j:i.bytes=bytes) (f:z.cells.size=sz) (k:0<sz) {w:World} {F:Nat->Prop} {l l2:List α} {v:Value} {A:Option Addr} {n m c:Nat} (D:a.eval s=v) (h:b9_ E sz R w l v) (u:l.length=n) (C:a.eval x = .slice A m c) (h2:SRd sz (ofP R) w F l2 A m) (y:A=none->c=0)
    (o:n+m<=1000000000) (g:bytes<=100000)
    (q:∀d w',b9_ E sz R w' (l++l2) d->w.grownBy w' v.ownBlock->(d.ownBlock=v.ownBlock\/d.ownBlock=some w.heap.size)->K (a.put op.dst d) w'):op.wp P a w K Q:=by
 obtain⟨d,w',h1,r,I,p⟩:=Bj_ (P:=P) B t op.type i z ht hi hz e j f k h u h2 y o g;unfold Oper.wp execOp;simp only[G,resolve,invoke,builtin,Sem.run_bind,Sem.run_pure,Result.andThen_ok,List.map_toArray,List.map_cons,List.map_nil,D,C,h1];exact q d w' r I p
theorem kd_ {α : Type} {P:Program} {E:TypeId} {sz bytes:Nat} {R:α -> Array Value->Prop} (C:e5_ sz R) {f:Array Oper} {rest:List Oper} {op:Oper} {a:Act} {Q:Exit->Act->World->Prop} (j:op.guard=none) (s x:Operand) (t:TypeId) (J:op.op = .call { callee:=.builtin .append,args:=#[s,x],argTypes:=#[t,t] })
    (i:TypeInfo) (z:Value) (ht:P.underlying t=some (.slice E)) (hi:P.info? E=some i) (hz:i.zero=some z)
    (e:i.size=sz) (o:i.bytes=bytes) (g:z.cells.size=sz) (q:0<sz) {w:World} {F:Nat->Prop} {l l2:List α} {v:Value} {A:Option Addr} {n m c:Nat} (I:a.eval s=v) (h:b9_ E sz R w l v) (D:l.length=n) (u:a.eval x = .slice A m c) (h2:SRd sz (ofP R) w F l2 A m) (B:A=none->c=0)
    (p:n+m<=1000000000) (k:bytes<=100000)
    (y:∀d w',b9_ E sz R w' (l++l2) d->w.grownBy w' v.ownBlock->(d.ownBlock=v.ownBlock\/d.ownBlock=some w.heap.size)->wpList P f Q rest (a.put op.dst d) w'):wpList P f Q (op::rest) a w:=
 wpList_plain j λ_ L=>Fg_ C s x t J i z ht hi hz e o g q I h D u h2 B p k λd w' h1 r G=>L _ _ (y d w' h1 r G)
theorem Fh_ {α : Type} {sz:Nat} {R:α -> Array Value->Prop} (e:e5_ sz R) {x:α} {c:Array Value} (h:R x c) (w:World) (T:TypeId):SRd sz (ofP R) (w.alloc (.cells c T)) (λb=>b=w.heap.size) [x] (some ⟨w.heap.size,0,none⟩) 1:=
 ⟨rfl,λ_=>⟨_,rfl,rfl,λi y d=>by
  have hi:i=0:=by have:=(List.getElem?_eq_some_iff.1 d).1;simp at this;omega
  subst hi;simp at d;subst d;refine⟨c,e.size h,λj f=>?_,h⟩;rw[Addr.add_mid,Nat.zero_mul,Nat.zero_add,Nat.zero_add];exact cell_of_row _ _ _ _ _ _ (heap_alloc_new w _)⟩⟩
theorem ke_ {α : Type} {P:Program} {E:TypeId} {sz bytes:Nat} {R:bj_ α} (hR:R.Good) {op:Oper} {a:Act} {K:Act->World->Prop} {Q:Exit->Act->World->Prop} (s x:Operand) (t:TypeId) (ho:op.op = .call { callee:=.builtin .append,args:=#[s,x],argTypes:=#[t,t] })
    (z:Value) (ht:P.underlying t=some (.slice E)) (hi:(P.info? E).map (λi=>(i.zero,i.size,i.bytes))=some (some z,sz,bytes)) (p:z.cells.size=sz) (I:0<sz) (B:bytes<=1000)
    {wr:World} {F G:Nat->Prop} {L:List α} {S:Value} {k:α} {c:Array Value} {n:Nat} (hS:a.eval s=S) (j:B_ E sz R wr F L S) (T:L.length=n) (V:a.eval x = .slice (some ⟨wr.heap.size,0,none⟩) 1 1) (Y:R wr G k c) (f:c.size=sz) (r:∀u∈c.toList,u.oneCell'=true) (X:n<=1000000000) (hF:∀b,F b->b<wr.heap.size) (hG:∀b,G b->b<wr.heap.size) (J:∀b,G b->S.ownBlock≠some b)
    (h:∀g cap w',B_ E sz R w' (λb=>F b\/G b\/b=g) (L++[k]) (.slice (some ⟨g,0,none⟩) (n+1) cap)->wr.grownBy w' S.ownBlock->(S.ownBlock=some g\/wr.heap.size<=g)->g<w'.heap.size->K (a.put op.dst (.slice (some ⟨g,0,none⟩) (n+1) cap)) w') :
    op.wp P a (wr.alloc (.cells c E)) K Q:=by
 subst T;obtain⟨W,hi,O,D,o⟩:=info_parts hi;obtain⟨cs,d,h6,M,hr⟩:=j;have C:(L.length+1)*bytes<=140737488355328:=Nat.le_trans (Nat.mul_le_mul (show L.length+1<=1000000001 by omega) B) (by decide);refine wp_append_lies _ s x t ho 0 E W z sz bytes ht hi O D o p I S L.length (N_ cs L.length) hS (d.alloc _) ⟨wr.heap.size,0,none⟩ 1 1 c.toList V (by rw[Array.length_toList,f,Nat.one_mul]) (World.news_of_block (heap_alloc_new wr _)) r (by omega) (by unfold maxLen;omega) C (Nat.zero_le _) (wr.heap.size+1) (by simp) λg cap w' h1 h2 U h4=>?_;have y:=a5_ h2;have q:S.ownBlock=some g\/wr.heap.size<=g:=U.imp id (λe=>by rw[e];omega);exact h g cap w' (B_.snoc (x:=k) (c:=c) (G:=G) hR ⟨cs,d,h6,M,hr⟩ Y f J hF hG (λa0 Z=>by rw[s0_ Z d];exact h1) y q) y q h4
theorem s2_ {α : Type} {P:Program} {E:TypeId} {sz bytes:Nat} {R:bj_ α} (M:R.Good) {d:Array Oper} {rest:List Oper} {op:Oper} {a:Act} {Q:Exit->Act->World->Prop} (o:op.guard=none) (s x:Operand) (t:TypeId) (U:op.op = .call { callee:=.builtin .append,args:=#[s,x],argTypes:=#[t,t] })
    (z:Value) (ht:P.underlying t=some (.slice E)) (hi:(P.info? E).map (λi=>(i.zero,i.size,i.bytes))=some (some z,sz,bytes)) (j:z.cells.size=sz) (q:0<sz) (p:bytes<=1000)
    {wr:World} {F G:Nat->Prop} {L:List α} {S:Value} {y:α} {c:Array Value} {n:Nat} (W:a.eval s=S) (f:B_ E sz R wr F L S) (C:L.length=n) (I:a.eval x = .slice (some ⟨wr.heap.size,0,none⟩) 1 1) (J:R wr G y c) (B:c.size=sz) (k:∀u∈c.toList,u.oneCell'=true) (e:n<=1000000000) (O:∀b,F b->b<wr.heap.size) (X:∀b,G b->b<wr.heap.size) (r:∀b,G b->S.ownBlock≠some b)
    (h:∀g cap w',B_ E sz R w' (λb=>F b\/G b\/b=g) (L++[y]) (.slice (some ⟨g,0,none⟩) (n+1) cap)->wr.grownBy w' S.ownBlock->(S.ownBlock=some g\/wr.heap.size<=g)->g<w'.heap.size->wpList P d Q rest (a.put op.dst (.slice (some ⟨g,0,none⟩) (n+1) cap)) w') :
    wpList P d Q (op::rest) a (wr.alloc (.cells c E)):=
 wpList_plain o λ_ V=>ke_ M s x t U z ht hi j q p W f C I J B k e O X r λg cap w' h1 h2 D T=>V _ _ (h g cap w' h1 h2 D T)
theorem K4_ {α : Type} {sz:Nat} {R:α -> Array Value->Prop} (f:e5_ sz R) {x y:α} {c d:Array Value} (h:R x c) (k:R y d) (w:World) (T:TypeId):SRd sz (ofP R) (w.alloc (.cells (c++d) T)) (λb=>b=w.heap.size) [x,y] (some ⟨w.heap.size,0,none⟩) 2:=by obtain⟨A,cap,e,_,g⟩:=y9_ (R:=ofP R) (F:=λb=>b=w.heap.size) (heap_alloc_new w (.cells (c++d) T)) (f.size h) (f.size k) rfl h k;injection e with e;rw[<-e]at g;exact g
abbrev CV6:h_->Array Value->Prop:=λv c=>X_ v/\ag_ v/\∃A cap,c=c_ v (.slice A 0 cap)
theorem h7_:e5_ 6 CV6:=⟨fun⟨_,_,A,cap,e⟩=>by rw[e];rfl,fun⟨h1,h2,A,cap,e⟩ u hu=>by
 have:=ve_ ⟨_,.slice A 0 cap,h1,h2,⟨A,cap,rfl⟩⟩ u;unfold vc_ at this;rw[e]at hu;exact this hu⟩
theorem Bk_ {w:World} {l:List h_} {s:Value} (h:b9_ 39 6 CV6 w l s):B_ 39 6 vb_ w (λb=>s.ownBlock=some b) l s:=by obtain⟨cs,d,e⟩:=h;exact⟨cs,d,λi hi=>h7_.size (e i _ (List.getElem?_eq_getElem hi)),λg f=>f,λi x j=>e i x j⟩
theorem Bl_ {w:World} {F:Nat->Prop} {l:List h_} {s:Value} (h:B_ 39 6 vb_ w F l s):b9_ 39 6 CV6 w l s:=by obtain⟨cs,d,_,_,f⟩:=h;exact⟨cs,d,λi x e=>f i x e⟩
theorem Bm_:(Tryz.prog.info? 39).map (λi=>(i.zero,i.size,i.bytes))=some (some (.agg #[.int .i64 0,.bool false,.int .i64 0,.string ⟨#[]⟩,.string ⟨#[]⟩,.slice none 0 0]),6,80):=by kernel_rfl
theorem lm_:(Tryz.prog.info? 72).map (λi=>(i.zero,i.size,i.bytes))=some (some (.agg #[.int .i64 0,.slice none 0 0,.slice none 0 0]),3,56):=by kernel_rfl
theorem Bn_:(Tryz.prog.info? 74).map (λi=>(i.zero,i.size,i.bytes))=some (some (.agg #[.int .i64 0,.int .i64 0,.int .i64 0,.string ⟨#[]⟩,.slice none 0 0]),5,64):=by kernel_rfl
theorem Fi_ (o g q j p a5 f d i h k e:Value) (w:World):(Instr.buildSlice 37 2 #[(0,.agg #[o,g,q,j,p,a5]),(1,.agg #[f,d,i,h,k,e])]).run Tryz.prog w = .ok (.slice (some ⟨w.heap.size,0,none⟩) 2 2) (w.alloc (.cells (#[o,g,q,j,p,a5]++#[f,d,i,h,k,e]) 39)):=by kernel_rfl
theorem Iv_ (c d:Array Value) (f:c.size=6) (e:d.size=6) (w:World):(Instr.buildSlice 37 2 #[(0,.agg c),(1,.agg d)]).run Tryz.prog w = .ok (.slice (some ⟨w.heap.size,0,none⟩) 2 2) (w.alloc (.cells (c++d) 39)):=by
 cases c with
 | mk l=>
  cases d with
  | mk m=>
   match l,f,m,e with
   | [a0,a1,a2,a3,a4,a5],_,[b0,b1,b2,b3,b4,b5],_=>exact Fi_ a0 a1 a2 a3 a4 a5 b0 b1 b2 b3 b4 b5 w
theorem o9_ (d L P:Value) (w:World):(Instr.buildSlice 51 1 #[(0,.agg #[d,L,P])]).run Tryz.prog w = .ok (.slice (some ⟨w.heap.size,0,none⟩) 1 1) (w.alloc (.cells #[d,L,P] 72)):=by kernel_rfl
theorem Fj_ (a b c d e:Value) (w:World):(Instr.buildSlice 52 1 #[(0,.agg #[a,b,c,d,e])]).run Tryz.prog w = .ok (.slice (some ⟨w.heap.size,0,none⟩) 1 1) (w.alloc (.cells #[a,b,c,d,e] 74)):=by kernel_rfl
def ci_ (D:List h_):List i_:=D.mapIdx λi v=>E_ (i:Nat) v
theorem ho_ (D:List h_) (v:h_):ci_ (D++[v])=ci_ D++[E_ (D.length:Nat) v]:=by unfold ci_;rw[List.mapIdx_append];simp
theorem jd_ (D:List h_):(ci_ D).length=D.length:=by unfold ci_;simp
noncomputable def e6_ (D:List h_) (T:List d_):List m_:=T.mapIdx λi t=>⟨(i:Nat),bf_ D t.s,bf_ D t.o,t.p.text,[]⟩
theorem vh_ (D:List h_) (T:List d_) (t:d_):e6_ D (T++[t])=e6_ D T++[⟨(T.length:Nat),bf_ D t.s,bf_ D t.o,t.p.text,[]⟩]:=by unfold e6_;rw[List.mapIdx_append];simp
theorem xo_ (D:List h_) (T:List d_):(e6_ D T).length=T.length:=by unfold e6_;simp
theorem Iw_ (T:List d_):af_ T=⟨ci_ (R_ T),e6_ (R_ T) T⟩:=rfl
structure GnM (w2:World) (m zg:Nat) (ns:List i_) (N:Value) (wx:World):Prop where
 t:Turn (λi=>i=m\/zg<=i) w2 wx
 box:wx.heap[zg]?=some (.cells #[N,.slice none 0 0] 54 (0,0))
 own:B_ 72 3 NoR wx (λb=>zg<b/\b<wx.heap.size) ns N
 hm:m<zg
section
variable {w2 wx w':World} {m zg:Nat} {ns:List i_} {N N':Value} {es:List m_} {E E':Value}
theorem GnM.on (h:GnM w2 m zg ns N wx) (hb:Below wx.heap.size wx w'):GnM w2 m zg ns N w':=
 ⟨h.t.trans (Turn.ofB hb),(hb.block zg (b_ h.box)).trans h.box,(h.own.turn NoR.good (Turn.of_below hb) (λb hb=>hb.2) (λb hb e=>by have e:wx.heap.size<=b:=e;have:=hb.2;omega)).mono NoR.good (λb k=>⟨k.1,Nat.lt_of_lt_of_le k.2 hb.size⟩),h.hm⟩
theorem GnM.map (h:GnM w2 m zg ns N wx) (ht:Turn (λi=>i=m) wx w'):GnM w2 m zg ns N w':=by have hm:=h.hm;exact⟨h.t.trans (ht.mono λi _ e=>.inl e),(ht.block zg (b_ h.box) (λe=>by have e:zg=m:=e;omega)).trans h.box,(h.own.turn NoR.good ht (λb hb=>hb.2) (λb hb e=>by have e:b=m:=e;have:=hb.1;omega)).mono NoR.good (λb k=>⟨k.1,Nat.lt_of_lt_of_le k.2 ht.size⟩),h.hm⟩
theorem GnM.blk (h:GnM w2 m zg ns N wx) {b:Nat} (hb:N.ownBlock=some b):zg<b/\b<wx.heap.size:=by obtain⟨_,_,_,d,_⟩:=h.own;exact d b hb
theorem GnM.more {w5:World} {g n cap:Nat} {j:i_} {G:Nat->Prop} (h:GnM w2 m zg ns N wx) (f:∀b,G b->zg<b/\b<wx.heap.size) (d:wx.grownBy w5 N.ownBlock) (q:N.ownBlock=some g\/wx.heap.size<=g) (r:g<w5.heap.size)
    (p:B_ 72 3 NoR w5 (λb=>(zg<b/\b<wx.heap.size)\/G b\/b=g) (ns++[j]) (.slice (some ⟨g,0,none⟩) n cap))
    (o:w'.heap[zg]?=some (.cells #[.slice (some ⟨g,0,none⟩) n cap,.slice none 0 0] 54 (0,0))) (ht:Turn (λb=>b=zg) w5 w'):GnM w2 m zg (ns++[j]) (.slice (some ⟨g,0,none⟩) n cap) w':=by
 have hb:=b_ h.box;refine⟨(h.t.trans ((Turn.of_grown d).mono λi _ e=>.inr (Nat.le_of_lt (h.blk e.symm).1))).trans (ht.mono λi _ e=>.inr (Nat.le_of_eq (show zg=i from Eq.symm e))),o,?_,h.hm⟩
 have s:zg<g:=by
  rcases q with e | e
  ·exact (h.blk e).1
  ·omega
 refine (p.turn NoR.good ht (λb k=>?_) (λb k e=>?_)).mono NoR.good λb k=>?_
 ·have:=d.size;rcases k with k | k | k
  ·omega
  ·have:=f b k;omega
  ·omega
 ·have e:b=zg:=e;rcases k with k | k | k
  ·omega
  ·have:=f b k;omega
  ·omega
 ·have:=d.size;have:=ht.size;rcases k with k | k | k
  ·omega
  ·have:=f b k;omega
  ·omega
end
structure GeM (w3:World) (zg ze:Nat) (ns:List i_) (N:Value) (es:List m_) (E:Value) (wx:World):Prop where
 t:Turn (λi=>i=zg\/ze<=i) w3 wx
 box:wx.heap[zg]?=some (.cells #[N,E] 54 (0,0))
 nodes:B_ 72 3 NoR wx (λb=>zg<b/\b<ze) ns N
 own:B_ 74 5 EdR wx (λb=>ze<=b/\b<wx.heap.size) es E
 lt:zg<ze/\ze<=wx.heap.size
section
variable {w2 w3 wx w':World} {m zg ze:Nat} {ns:List i_} {N N':Value} {es:List m_} {E E':Value}
theorem GnM.next (h:GnM w2 m zg ns N wx):GeM wx zg wx.heap.size ns N [] (.slice none 0 0) wx:=⟨Turn.refl _ _,h.box,h.own,B_.nil ..,b_ h.box,Nat.le_refl _⟩
theorem GeM.on (h:GeM w3 zg ze ns N es E wx) (hb:Below wx.heap.size wx w'):GeM w3 zg ze ns N es E w':=by
 have d:=h.lt
 exact⟨h.t.trans (Turn.ofB hb),(hb.block zg (b_ h.box)).trans h.box,h.nodes.turn NoR.good (Turn.of_below hb) (λb k=>by omega) (λb k e=>by have e:wx.heap.size<=b:=e;omega),
  (h.own.turn EdR.good (Turn.of_below hb) (λb hb=>hb.2) (λb hb e=>by have e:wx.heap.size<=b:=e;have:=hb.2;omega)).mono EdR.good (λb k=>⟨k.1,Nat.lt_of_lt_of_le k.2 hb.size⟩),d.1,Nat.le_trans d.2 hb.size⟩
theorem GeM.blk (h:GeM w3 zg ze ns N es E wx) {b:Nat} (hb:E.ownBlock=some b):ze<=b/\b<wx.heap.size:=by obtain⟨_,_,_,d,_⟩:=h.own;exact d b hb
theorem GeM.more {w5:World} {g n cap:Nat} {p:m_} {G:Nat->Prop} (h:GeM w3 zg ze ns N es E wx) (d:∀b,G b->ze<=b/\b<wx.heap.size) (o:wx.grownBy w5 E.ownBlock) (s:E.ownBlock=some g\/wx.heap.size<=g) (x:g<w5.heap.size)
    (r:B_ 74 5 EdR w5 (λb=>(ze<=b/\b<wx.heap.size)\/G b\/b=g) (es++[p]) (.slice (some ⟨g,0,none⟩) n cap))
    (q:w'.heap[zg]?=some (.cells #[N,.slice (some ⟨g,0,none⟩) n cap] 54 (0,0))) (ht:Turn (λb=>b=zg) w5 w'):GeM w3 zg ze ns N (es++[p]) (.slice (some ⟨g,0,none⟩) n cap) w':=by
 have hb:=b_ h.box;have j:=h.lt;have z:=o.size;have u:=ht.size
 have y:ze<=g:=by
  rcases s with e | e
  ·exact (h.blk e).1
  ·omega
 have f:Turn (λi=>i=zg\/ze<=i) wx w':=((Turn.of_grown o).mono λi _ e=>.inr (h.blk e.symm).1).trans (ht.mono λi _ e=>.inl e);refine⟨h.t.trans f,q,h.nodes.turn NoR.good f (λb k=>by omega) (λb k e=>by rcases e with e | e<;>omega),?_,j.1,by omega⟩
 refine (r.turn EdR.good ht (λb k=>?_) (λb k e=>?_)).mono EdR.good λb k=>?_
 ·rcases k with k | k | k
  ·omega
  ·have:=d b k;omega
  ·omega
 ·have e:b=zg:=e;rcases k with k | k | k
  ·omega
  ·have:=d b k;omega
  ·omega
 ·rcases k with k | k | k
  ·omega
  ·have:=d b k;omega
  ·omega
end
end
end Go.Proofs.YtefhfadjajcmkaaGreatDoor
