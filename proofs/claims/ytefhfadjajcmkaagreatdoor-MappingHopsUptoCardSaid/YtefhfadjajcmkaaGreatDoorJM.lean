/- Plain: the triples of a graph that is theirs, as the program tells them; values that nodes stand for. -/
import Derived.Test.YtefhfadjajcmkaaGreatDoorJL
set_option linter.unusedVariables false
set_option linter.unusedSimpArgs false
namespace Go.Proofs.YtefhfadjajcmkaaGreatDoor
open Go.Lib (cell_of_heap)
section
open Go Go.RowKit Go.Maps Go.WideMaps Go.MapKept
set_option maxRecDepth 100000 in
set_option maxHeartbeats 8000000 in
theorem hx_ (g:y_) (bm:m7_ g) (F:Nat->Prop) (u:Value) (w:World) (hF:∀b,F b->b<w.heap.size) (hg:GrR w F g u) (dw:F_ w) :
    Calls Tryz.prog 32 #[u] w (ic_ g w):=by
 have fo:=@run_makeMap Tryz.prog;obtain⟨NV,EV,rfl,⟨AN,cN,rfl,fk,eh⟩,AE,cE,rfl,fe,ei⟩:=hg;have HF:=q_ hF;have HG:=q_ dw;have bn:=q_ bm;have er:=q_ eh;have dt:=q_ ei;have du:=bm.1;have ep:=bm.2.1;obtain⟨nN,ay⟩:=a_ g.nodes.length;obtain⟨nE,aq⟩:=a_ g.edges.length;rw[ay.o]at er du ⊢;rw[aq.o]at dt ep ⊢;clear hF dw bm eh ei fk fe;obtain⟨z,Z⟩:=a_ w.heap.size;have bz:=q_ (show cw_ g=(decide (nN<=131072/\nE<=65536)&&(Y_ okN i_.id [] g.nodes&&Y_ (okE (g.nodes.map i_.id)) m_.id [] g.edges)) from by rw[<-ay.o,<-aq.o];rfl);by_cases j:nN<=131072/\nE<=65536
 ·have e1:decide ((131072:Int)<nN)=false:=decide_eq_false (by omega);have e2:decide ((65536:Int)<nE)=false:=decide_eq_false (by omega);rw[decide_eq_true j]at bz;have du:nN<=131072:=j.1;have ep:nE<=65536:=j.2;clear j;go_enter Tryz.func32,Tryz.ntmps32
  go_wp2_with fail;rw[Z.o];simp only[Nat.add_assoc,Nat.reduceAdd];obtain⟨w6,dk⟩:=a_ ((((((w.alloc (.cells #[.slice AN nN cN,.slice AE nE cE] 54)).alloc (.map #[] 0)).alloc (.map #[] 0)).alloc (.map #[] 0)).alloc (.cells #[.slice none 0 0,.slice none 0 0,.map (some (z+1)),.map (some (z+2)),.map (some (z+3))] 143)).alloc (.map #[] 0))
  have fc:=q_ (show fn_ w z (.slice AN nN cN) (.slice AE nE cE) g.nodes [] 0 [] (.slice none 0 0) w6 from by
   have hz:=Z.o;have hh:=Jf_ w (.cells #[.slice AN nN cN,.slice AE nE cE] 54) (.map #[] 0) (.map #[] 0) (.map #[] 0) (.cells #[.slice none 0 0,.slice none 0 0,.map (some (z+1)),.map (some (z+2)),.map (some (z+3))] 143) (.map #[] 0);rw[dk.o]at hh;refine⟨?_,?_,?_,?_,?_,?_,?_,B_.nil ..,bm_.nil _,rfl⟩
   ·rw[<-dk.o];exact ((((((Below.refl _ _).alloc (by omega) _).alloc (by simp;omega) _).alloc (by simp;omega) _).alloc (by simp;omega) _).alloc (by simp;omega) _).alloc (by simp;omega) _
   ·rw[hh];exact gq_ (i:=0) hz rfl
   ·rw[hh];exact gq_ (i:=1) hz rfl
   ·rw[hh];exact gq_ (i:=2) hz rfl
   ·rw[hh];exact gq_ (i:=3) hz rfl
   ·rw[hh];exact gq_ (i:=4) hz rfl
   ·exact⟨.map [],⟨#[],0,by rw[hh];exact gq_ (i:=5) hz rfl,⟨by simp,stamped_empty 0,by simp⟩,Nat.le_refl _,rfl⟩,λ_ _=>rfl⟩)
  rw[dk.o];go_loopw [36] (λde wr=>∃(k:Nat) (ns:List i_) (Ns:Value),k<=nN/\de = .int .i64 (k:Nat)/\Q_ (fn_ w z (.slice AN nN cN) (.slice AE nE cE) g.nodes ((g.nodes.take k).map i_.id) k ns Ns wr)) (λde _=>nN-(intOf de).toNat)
  case atStart=>exact⟨0,[],_,by omega,rfl,fc⟩
  case round=>
   obtain⟨k,ns,Ns,hk,rfl,y⟩:=hrel;by_cases ar:k<nN
   ·obtain⟨x,m⟩:∃x,g.nodes[k]?=some x:=⟨g.nodes[k]'(by rw[ay.o];exact ar),List.getElem?_eq_getElem _⟩;have HX:=q_ m;have I:=q_ (bn.o.2.2.1 x (List.mem_of_getElem? m));have aj:=q_ (λ(h:okN ((g.nodes.take k).map i_.id) x=false)=>Le_ (ti_ (key:=i_.id) m h));have cg:=q_ (λ(h:okN ((g.nodes.take k).map i_.id) x=true)=>v7_ m h y.o.ok);have aa:=q_ (show z+5<wr.heap.size from y.o.set.lt);have T:=q_ (λ(b:Nat) (hb:F b)=>show b<z from by rw[<-Z.o];exact HF.o b hb);obtain⟨ad,A1,c1,A2,c2,rfl,ao,cq,co,a8,d0,d1,d2⟩:=tj_ (er.o.under NoR.good y.o.below T.o) m;have G:=q_ cq;have ed:=q_ co;have bq:=q_ a8;clear m ao cq co a8;obtain⟨id,f⟩:=a_ x.id;obtain⟨m1,bb⟩:=a_ x.labels.length;obtain⟨X,ac⟩:=a_ x.props.length;rw[bb.o]at ed d1 G;rw[ac.o]at bq d2 G;rw[f.o]at d0 G;have fq:m1<=2000000:=by rw[<-bb.o];exact I.o.1.1
    have f1:X<=2000000:=by rw[<-ac.o];exact I.o.1.2.1
    obtain⟨a,l⟩:=a_ wr.heap.size;rw[l.o]at aa;obtain⟨w2,J⟩:=a_ (((wr.alloc (.cells #[.int .i64 id,.slice A1 m1 c1,.slice A2 X c2] 72)).alloc (.map #[] 0)).alloc (.cells #[.map (some (a+1))] 147));have b7:=q_ (show Below wr.heap.size wr w2 from by rw[<-J.o];exact nz_ wr _ _ _);have bc:=Cc_ wr (.cells #[.int .i64 id,.slice A1 m1 c1,.slice A2 X c2] 72) (.map #[] 0) (.cells #[.map (some (a+1))] 147);rw[J.o]at bc;have b9:=q_ (show w2.heap[a]?=some (.cells #[.int .i64 id,.slice A1 m1 c1,.slice A2 X c2] 72 (0,0)) from by rw[bc];exact gq_ (i:=0) l.o rfl);have ez:=q_ (show w2.heap[a+1]?=some (.map #[] 0) from by rw[bc];exact gq_ (i:=1) l.o rfl);have bp:=q_ (show w2.heap[a+2]?=some (.cells #[.map (some (a+1))] 147 (0,0)) from by rw[bc];exact gq_ (i:=2) l.o rfl);have cz:=q_ (show w2.heap.size=a+3 from by rw[bc,<-l.o];simp);clear bc;have dr:=q_ (B6_ x.labels (λs hs=>by have:=I.o.1.2.2.1 s hs;unfold VS maxLen;omega) ⟨a+2,0,none⟩ (a+1) F A1 m1 c1 w2 (λb hb=>by have:=T.o b hb;have:=cz.o;have:=aa.o;omega) (ed.o.under TxR.good b7.o (λb hb=>by have:=T.o b hb;have:=l.o;have:=aa.o;omega)) (by omega) (cell_of_heap bp.o 0) (by show a+2<_/\a+2≠_;rw[cz.o];omega) (Jg_ ez.o));unfold x9_ at dr;obtain⟨lb,dh⟩:=a_ (be_ [] x.labels);rw[dh.o]at dr;have b1:w2.cell? ⟨a,1,none⟩=some (.slice A1 m1 c1):=cell_of_heap b9.o 1;have e1:(0:Int)<=k:=by omega
    have e2:(k:Int)<nN:=by omega
    go_upto_region 9 with fail;rw[l.o];simp only[Nat.add_assoc,Nat.reduceAdd];rw[J.o];go_wp2_with fail;refine dr.o.mono ?_;rintro e w3 ⟨rfl,P⟩;have eb:=q_ (b7.o.trans (P.below (B:=wr.heap.size) (λi _ hi=>by rw[hi,l.o];omega) b7.o.size));have q:=q_ (y.o.on eb.o);have c4:=q_ ((P.block a (by rw[cz.o];omega) (by omega)).trans b9.o);have c0:w3.cell? ⟨a,0,none⟩=some (.int .i64 id):=cell_of_heap c4.o 0;have cb:=q_ (zg_ (z+5) ((g.nodes.take k).map i_.id) id (by rw[<-f.o];exact I.o.2) (by simp;omega) w3 q.o.set);obtain⟨ib,a9⟩:=a_ (inB ((g.nodes.take k).map i_.id) id);obtain⟨pb,ae⟩:=a_ (a0_ x.props);have HN:=q_ (show (decide (0<=id)&&(!ib&&(lb&&(decide (m1<=65536)&&pb))))=false->cw_ g=false from λh=>aj.o (by unfold okN;rw[f.o,a9.o,dh.o,bb.o,ae.o];exact h));have HY:=q_ (show (decide (0<=id)&&(!ib&&(lb&&(decide (m1<=65536)&&pb))))=true->Y_ okN i_.id [] (g.nodes.take (k+1))=true from λh=>cg.o (by unfold okN;rw[f.o,a9.o,dh.o,bb.o,ae.o];exact h));clear P b1 d0 d1 d2;by_cases a2:id<0
    ·have q1:decide (id<0)=true:=decide_eq_true a2;have R:=q_ (HN.o (by rw[decide_eq_false (by omega)];rfl));clear a2;go_wp2_with fail;go_ret2;exact⟨by rw[Z.o];exact q.o.below,.inl ⟨R.o,rfl⟩⟩
    ·have q1:decide (id<0)=false:=decide_eq_false a2;rw[decide_eq_true (show 0<=id by omega)]at HN HY;clear a2;go_wp2_with fail;refine cb.o.mono ?_;rintro e w4 ⟨rfl,b2,t⟩;rw[a9.o];have ak:=q_ t;have ex:=q_ b2;have cl:=q_ (show Below z w w4 from q.o.below.trans (t.below (B:=z) (λi _ hi=>by omega) (by have:=q.o.set.lt;omega)));clear t b2
     cases ib with
     | true=>
      have R:=q_ (HN.o rfl);go_wp2_with fail;go_ret2;exact⟨by rw[Z.o];exact cl.o,.inl ⟨R.o,rfl⟩⟩
     | false=>
      cases lb with
      | false=>
       have R:=q_ (HN.o rfl);go_wp2_with fail;go_ret2;exact⟨by rw[Z.o];exact cl.o,.inl ⟨R.o,rfl⟩⟩
      | true=>
       have fm:w3.heap.size<=w4.heap.size:=ak.o.size;have a4:=q_ ((ak.o.block a (b_ c4.o) (by have:=aa.o;omega)).trans c4.o);have k1:w4.cell? ⟨a,1,none⟩=some (.slice A1 m1 c1):=cell_of_heap a4.o 1;have k2:w4.cell? ⟨a,2,none⟩=some (.slice A2 X c2):=cell_of_heap a4.o 2;by_cases bh:m1<=65536
       ·have q2:decide ((65536:Int)<m1)=false:=decide_eq_false (by omega);rw[decide_eq_true bh]at HN HY;have bl:=q_ (show Below z wr w4 from (eb.o.mono (by have:=l.o;have:=aa.o;omega)).trans (ak.o.below (B:=z) (λi _ hi=>by omega) (by have:=q.o.set.lt;omega)));have br:=q_ (rl_ x.props I.o.1.2.2.2 I.o.1.2.1 F A2 X c2 w4 (λb hb=>by have:=T.o b hb;have:=q.o.set.lt;omega) (bq.o.under PaR.good bl.o (λb hb=>T.o b hb)) (Gp_ HG.o Z.o cl.o));rw[ae.o]at br;clear bh;go_wp2_with fail;refine br.o.mono ?_;rintro e w5 ⟨rfl,N⟩;have d:=q_ ((q.o.put ak.o ex.o).on N);have r:=q_ ((N.block a (b_ a4.o)).trans a4.o);have ag:=q_ (bl.o.trans (N.mono (by have:=q.o.set.lt;omega)));clear N
        cases pb with
        | false=>
         have R:=q_ (HN.o rfl);go_wp2_with fail;go_ret2;exact⟨by rw[Z.o];exact d.o.below,.inl ⟨R.o,rfl⟩⟩
        | true=>
         have d9:=q_ (HY.o rfl);have j:ns.length=k:=by rw[<-d.o.all.1,List.length_take,ay.o];omega
         have cf:=q_ j;obtain⟨A3,c3,h3⟩:=d.o.own.form;rw[j]at h3;subst h3;have d8:=q_ (pk_ x I.o.1 (fo_ ae.o) F _ w5.drew (λb hb=>by have:=T.o b hb;have:=d.o.set.lt;show b<w5.heap.size;omega) (NoR.good.keep G.o (w':=w5.drew) (λp hp=>ag.o.cell (T.o _ hp))));obtain⟨cs,a5,b4,am,hr⟩:=d.o.own;rw[j]at a5 b4;have cd:=q_ a5;have aw:=q_ (show ∀b,(Value.slice A3 k c3).ownBlock=some b->z+6<=b/\b<w5.heap.size from am);have a6:=q_ (And.intro b4 hr);have g0:w5.drew.cell? ⟨z+4,0,none⟩=some (.slice A3 k c3):=cell_of_heap d.o.store 0;have n0:w5.drew.cell? ⟨a,0,none⟩=some (.int .i64 id):=cell_of_heap r.o 0;have n1:w5.drew.cell? ⟨a,1,none⟩=some (.slice A1 m1 c1):=cell_of_heap r.o 1;have n2:w5.drew.cell? ⟨a,2,none⟩=some (.slice A2 X c2):=cell_of_heap r.o 2;clear j a5 b4 am hr k1 k2 c0;obtain⟨i0,dg,ch,ca,c9⟩:=info_parts v9_;go_upto_region 12 with fail;go_region_law (first | (refine step_append_lies _ rfl _ _ 51 rfl 0 72 i0 (.agg #[.int .i64 0,.slice none 0 0,.slice none 0 0]) 3 56 Tryz.underlying51 dg ch ca c9 rfl (by decide) (.slice A3 k c3) k (N_ cs k) rfl (by exact bi.o.alloc _) ⟨w6.heap.size,0,none⟩ 1 1 [.int .i64 id,.slice A6 q6 c6,.slice B6 r6 M] rfl rfl (World.news_of_block (cs:=#[.int .i64 id,.slice A6 q6 c6,.slice B6 r6 M]) (by exact NB.o)) ci.o (by omega) (by unfold maxLen;omega) (by omega) (Nat.zero_le _) (w6.heap.size+1) (by exact d6.o) (λg7 c7 w7 bt V bs _=>?_);have ct:=q_ bt;have bu:=q_ (show w6.grownBy w7 (Value.slice A3 k c3).ownBlock from a5_ (w:=w6) (o:=.cells #[.int .i64 id,.slice A6 q6 c6,.slice B6 r6 M] 72) ⟨V.os,V.tape,V.output,V.size,V.block⟩);have dm:=q_ (show (Value.slice A3 k c3).ownBlock=some g7\/g7=w6.heap.size+1 from bs);have bo:=q_ ((bu.o.block (z+4) (by have:=av.o;omega) (λe=>by have:=aw.o (z+4) e.symm;omega)).trans b3.o);have f7:w7.frozen? ⟨z+4,0,none⟩=false:=Lib.frozen_of_heap bo.o 0;have fl:w7.cell? ⟨z+4,0,none⟩=some (.slice A3 k c3):=cell_of_heap bo.o 0;clear bt V bs) | (go_simp;go_at_call 91;(with_reducible refine d8.o.mono ?_);rintro e w6 ⟨cc,n',rfl,D,v,b5⟩;have au:=q_ b5;obtain⟨L6,P6,rfl,⟨A6,c6,rfl,_,_⟩,B6,M,rfl,_,_⟩:=b5;obtain⟨q6,fh⟩:=a_ n'.labels.length;obtain⟨r6,cx⟩:=a_ n'.props.length;rw[fh.o,cx.o]at au ⊢;rw[v.1,f.o]at au ⊢;have d5:=q_ D;have ai:=q_ v;have av:=q_ (show z+5<w6.heap.size from by have h1:w5.heap.size<=w6.heap.size:=D.size;have:=d.o.set.lt;omega);have bi:=q_ ((Turn.of_below D).owns cd.o (λg hg h=>by have:=aw.o g hg;have h2:w5.heap.size<=g:=h;omega));have b3:=q_ ((D.block (z+4) (by show z+4<w5.heap.size;have:=d.o.set.lt;omega)).trans d.o.store);have dl:w6.cell? ⟨z+4,0,none⟩=some (.slice A3 k c3):=cell_of_heap b3.o 0;have f5:(w6.alloc (.cells #[.int .i64 id,.slice A6 q6 c6,.slice B6 r6 M] 72)).cell? ⟨z+4,0,none⟩=some (.slice A3 k c3):=(World.cell?_alloc_lt w6 _ _ (by show z+4<_;have:=av.o;omega)).trans dl;have ci:=q_ (show ∀u∈([.int .i64 id,.slice A6 q6 c6,.slice B6 r6 M]:List Value),u.oneCell'=true from λu hu=>by simp at hu;rcases hu with rfl | rfl | rfl<;>rfl);have NB:=q_ (heap_alloc_new w6 (.cells #[.int .i64 id,.slice A6 q6 c6,.slice B6 r6 M] 72));have d6:=q_ (show (w6.alloc (.cells #[.int .i64 id,.slice A6 q6 c6,.slice B6 r6 M] 72)).heap.size=w6.heap.size+1 by simp);clear D v))
         all_goals (
          have w1:IntKind.i64.wrap ((k:Int)+1)=(k:Int)+1:=IntWalk.i64_in _ (by omega);go_wp2_with fail;go_roundw)
         all_goals first
          | (case measure=>simp[intOf];omega)
          | (case rel=>
              refine⟨k+1,ns++[n'],.slice (some ⟨g7,0,none⟩) (k+1) c7,by omega,by go_num,q_ ?_⟩;have h:=fn_.more d.o cf.o aw.o a6.o.1 a6.o.2 HX.o (cv_ d5.o) ai.o au.o rfl bu.o dm.o ct.o d9.o;have e1:e9_ ((g.nodes.take k).map i_.id) id=(g.nodes.take (k+1)).map i_.id:=by unfold e9_;rw[a9.o,if_neg (by decide),g_ HX.o,List.map_append,<-f.o];rfl
              rw[e1]at h;exact h)
       ·have q2:decide ((65536:Int)<m1)=true:=decide_eq_true (by omega);have R:=q_ (HN.o (by rw[decide_eq_false bh];rfl));clear bh;go_wp2_with fail;go_ret2;exact⟨by rw[Z.o];exact cl.o,.inl ⟨R.o,rfl⟩⟩
   ·have a7:k=nN:=by omega
    have da:=q_ (show g.nodes.take k=g.nodes from List.take_of_length_le (by rw[ay.o,a7];exact Nat.le_refl _));have C:=y.o;have cv:=q_ (show Y_ okN i_.id [] g.nodes=true from by have h:=C.ok;rw[da.o]at h;exact h);have bd:=q_ (show bm_ ij_ g.nodes ns from by have h:=C.all;rw[da.o]at h;exact h);rw[da.o]at C;have cu:=q_ ((C.on ((Below.refl wr.heap.size wr).alloc (Nat.le_refl _) (.map #[] 0))).box);have ck:=q_ (C.next g.edges);have f3:=q_ C.set.lt;obtain⟨z2,dz⟩:=a_ wr.heap.size;obtain⟨wa,e5⟩:=a_ (wr.alloc (.map #[] 0));rw[dz.o]at ck f3;rw[e5.o]at ck cu;have b1:wa.cell? ⟨z,1,none⟩=some (.slice AE nE cE):=cell_of_heap cu.o 1;clear C;subst a7;go_upto_region 15 with fail;rw[dz.o,e5.o];go_wp2_with fail;clear b1;go_loopw [86] (λdc wx=>∃(k:Nat) (es:List m_) (Es:Value),k<=nE/\dc = .int .i64 (k:Nat)/\Q_ (fp_ w z z2 (g.nodes.map i_.id) ns Ns g.edges ((g.edges.take k).map m_.id) k es Es wx)) (λdc _=>nE-(intOf dc).toNat)
    case atStart=>exact⟨0,[],_,by omega,rfl,ck⟩
    case round=>
     clear ck cu y;obtain⟨k,es,Es,hk,rfl,y⟩:=hrel;by_cases ar:k<nE
     ·obtain⟨x,m⟩:∃x,g.edges[k]?=some x:=⟨g.edges[k]'(by rw[aq.o];exact ar),List.getElem?_eq_getElem _⟩;have HX:=q_ m;have I:=q_ (bn.o.2.2.2 x (List.mem_of_getElem? m));have aj:=q_ (λ(h:okE (g.nodes.map i_.id) ((g.edges.take k).map m_.id) x=false)=>Jh_ (ti_ (key:=m_.id) m h));have cg:=q_ (λ(h:okE (g.nodes.map i_.id) ((g.edges.take k).map m_.id) x=true)=>v7_ m h y.o.ok);have Y:=q_ y.o.far;have aa:=q_ (show z2<wr.heap.size from y.o.set.lt);have T:=q_ (λ(b:Nat) (hb:F b)=>show b<z from by rw[<-Z.o];exact HF.o b hb);obtain⟨fp,A2,c2,rfl,ao,cn,a8,d0,d1,d2,d3,d4⟩:=nh_ (dt.o.under EdR.good y.o.below T.o) m;have G:=q_ cn;have bq:=q_ a8;clear m ao cn a8;obtain⟨id,f⟩:=a_ x.id;obtain⟨src,a0⟩:=a_ x.src;obtain⟨dst,a1⟩:=a_ x.dst;obtain⟨E,af⟩:=a_ x.type;obtain⟨X,ac⟩:=a_ x.props.length;rw[ac.o]at bq d4 G;rw[f.o]at d0 G;rw[a0.o]at d1 G;rw[a1.o]at d2 G;rw[af.o]at d3 G;have f1:X<=2000000:=by rw[<-ac.o];exact I.o.1.2.1
      obtain⟨a,l⟩:=a_ wr.heap.size;rw[l.o]at aa;obtain⟨w2,J⟩:=a_ (wr.alloc (.cells #[.int .i64 id,.int .i64 src,.int .i64 dst,.string E,.slice A2 X c2] 74));have b7:=q_ (show Below wr.heap.size wr w2 from by rw[<-J.o];exact (Below.refl _ _).alloc (Nat.le_refl _) _);have b9:=q_ (show w2.heap[a]?=some (.cells #[.int .i64 id,.int .i64 src,.int .i64 dst,.string E,.slice A2 X c2] 74 (0,0)) from by rw[<-J.o,<-l.o];exact heap_alloc_new wr _);have q:=q_ (y.o.on b7.o);have c0:w2.cell? ⟨a,0,none⟩=some (.int .i64 id):=cell_of_heap b9.o 0;have e1:(0:Int)<=k:=by omega
      have e2:(k:Int)<nE:=by omega
      have cb:=q_ (zg_ z2 ((g.edges.take k).map m_.id) id (by rw[<-f.o];exact I.o.2.1) (by simp;omega) w2 q.o.set);have fb:=q_ (λ(W:World) (h:ax_ 2 VI hu_ W (z+5) (g.nodes.map i_.id))=>te_ (z+5) (g.nodes.map i_.id) src (by rw[<-a0.o];exact I.o.2.2.1) W h);have f8:=q_ (λ(W:World) (h:ax_ 2 VI hu_ W (z+5) (g.nodes.map i_.id))=>te_ (z+5) (g.nodes.map i_.id) dst (by rw[<-a1.o];exact I.o.2.2.2) W h);have dv:=q_ (λW=>tc_ E W);obtain⟨ib,a9⟩:=a_ (inB ((g.edges.take k).map m_.id) id);obtain⟨sb,cy⟩:=a_ (inB (g.nodes.map i_.id) src);obtain⟨db,dq⟩:=a_ (inB (g.nodes.map i_.id) dst);obtain⟨tb,dd⟩:=a_ (aw_ E);obtain⟨pb,ae⟩:=a_ (a0_ x.props);rw[dd.o]at dv;have HN:=q_ (show (decide (0<=id)&&(!ib&&(sb&&(db&&(tb&&pb)))))=false->cw_ g=false from λh=>aj.o (by unfold okE;rw[f.o,a0.o,a1.o,af.o,a9.o,cy.o,dq.o,dd.o,ae.o];exact h));have HY:=q_ (show (decide (0<=id)&&(!ib&&(sb&&(db&&(tb&&pb)))))=true->Y_ (okE (g.nodes.map i_.id)) m_.id [] (g.edges.take (k+1))=true from λh=>cg.o (by unfold okE;rw[f.o,a0.o,a1.o,af.o,a9.o,cy.o,dq.o,dd.o,ae.o];exact h));go_upto_region 18 with fail;rw[l.o,J.o];clear d0 d1 d2 d3 d4;by_cases a2:id<0
      ·have q1:decide (id<0)=true:=decide_eq_true a2;have R:=q_ (HN.o (by rw[decide_eq_false (by omega)];rfl));clear a2;go_wp2_with fail;go_ret2;exact⟨by rw[Z.o];exact q.o.below,.inl ⟨R.o,rfl⟩⟩
      ·have q1:decide (id<0)=false:=decide_eq_false a2;rw[decide_eq_true (show 0<=id by omega)]at HN HY;clear a2;go_wp2_with fail;refine cb.o.mono ?_;rintro e w4 ⟨rfl,b2,t⟩;rw[a9.o];have ab:=q_ (q.o.put t b2);have a4:=q_ ((t.block a (b_ b9.o) (by have:=aa.o;omega)).trans b9.o);have bl:=q_ (show Below z wr w4 from (b7.o.mono (by have:=l.o;have:=aa.o;have:=Y.o;omega)).trans (t.below (B:=z) (λi _ hi=>by have:=Y.o;omega) (by have:=q.o.set.lt;have:=Y.o;omega)));clear t b2 c0
       cases ib with
       | true=>
        have R:=q_ (HN.o rfl);go_wp2_with fail;go_ret2;exact⟨by rw[Z.o];exact ab.o.below,.inl ⟨R.o,rfl⟩⟩
       | false=>
        have k1:w4.cell? ⟨a,1,none⟩=some (.int .i64 src):=cell_of_heap a4.o 1;go_wp2_with fail;refine (fb.o _ ab.o.nset).mono ?_;rintro e w5 ⟨rfl,N⟩;rw[cy.o];have d:=q_ (ab.o.on N);have r:=q_ ((N.block a (b_ a4.o)).trans a4.o);have ag:=q_ (bl.o.trans (N.mono (by have:=ab.o.set.lt;have:=Y.o;omega)));clear N k1
        cases sb with
        | false=>
         have R:=q_ (HN.o rfl);go_wp2_with fail;go_ret2;exact⟨by rw[Z.o];exact d.o.below,.inl ⟨R.o,rfl⟩⟩
        | true=>
         have k2:w5.cell? ⟨a,2,none⟩=some (.int .i64 dst):=cell_of_heap r.o 2;go_wp2_with fail;refine (f8.o _ d.o.nset).mono ?_;rintro e w6 ⟨rfl,D⟩;rw[dq.o];have O:=q_ (d.o.on D);have bk:=q_ ((D.block a (b_ r.o)).trans r.o);have d7:=q_ (ag.o.trans (D.mono (by have:=d.o.set.lt;have:=Y.o;omega)));clear D k2
         cases db with
         | false=>
          have R:=q_ (HN.o rfl);go_wp2_with fail;go_ret2;exact⟨by rw[Z.o];exact O.o.below,.inl ⟨R.o,rfl⟩⟩
         | true=>
          have k3:w6.cell? ⟨a,3,none⟩=some (.string E):=cell_of_heap bk.o 3;have k4:w6.cell? ⟨a,4,none⟩=some (.slice A2 X c2):=cell_of_heap bk.o 4;go_wp2_with fail;refine (dv.o _).mono ?_;rintro e f0 ⟨rfl,f6⟩;subst f6
          cases tb with
          | false=>
           have R:=q_ (HN.o rfl);go_wp2_with fail;go_ret2;exact⟨by rw[Z.o];exact O.o.below,.inl ⟨R.o,rfl⟩⟩
          | true=>
           have br:=q_ (rl_ x.props I.o.1.2.2 I.o.1.2.1 F A2 X c2 f0 (λb hb=>by have:=T.o b hb;have:=O.o.set.lt;have:=Y.o;omega) (bq.o.under PaR.good d7.o (λb hb=>T.o b hb)) (Gp_ HG.o Z.o O.o.below));rw[ae.o]at br;go_wp2_with fail;refine br.o.mono ?_;rintro e w5 ⟨rfl,N⟩;clear d r ag;have d:=q_ (O.o.on N);have r:=q_ ((N.block a (b_ bk.o)).trans bk.o);have ag:=q_ (d7.o.trans (N.mono (by have:=O.o.set.lt;have:=Y.o;omega)));clear N k3 k4
           cases pb with
           | false=>
            have R:=q_ (HN.o rfl);go_wp2_with fail;go_ret2;exact⟨by rw[Z.o];exact d.o.below,.inl ⟨R.o,rfl⟩⟩
           | true=>
            have d9:=q_ (HY.o rfl);have j:es.length=k:=by rw[<-d.o.all.1,List.length_take,aq.o];omega
            have cf:=q_ j;obtain⟨A3,c3,h3⟩:=d.o.own.form;rw[j]at h3;subst h3;have d8:=q_ (v2_ x I.o.1 (fo_ ae.o) F _ w5.drew (λb hb=>by have:=T.o b hb;have:=d.o.set.lt;have:=Y.o;show b<w5.heap.size;omega) (EdR.good.keep G.o (w':=w5.drew) (λp hp=>ag.o.cell (T.o _ hp))));obtain⟨cs,a5,b4,am,hr⟩:=d.o.own;rw[j]at a5 b4;have cd:=q_ a5;have aw:=q_ (show ∀b,(Value.slice A3 k c3).ownBlock=some b->z2+1<=b/\b<w5.heap.size from am);have a6:=q_ (And.intro b4 hr);have fn:z+6<=z2:=Y.o;have g0:w5.drew.cell? ⟨z+4,1,none⟩=some (.slice A3 k c3):=cell_of_heap d.o.store 1;have n0:w5.drew.cell? ⟨a,0,none⟩=some (.int .i64 id):=cell_of_heap r.o 0;have n1:w5.drew.cell? ⟨a,1,none⟩=some (.int .i64 src):=cell_of_heap r.o 1;have n2:w5.drew.cell? ⟨a,2,none⟩=some (.int .i64 dst):=cell_of_heap r.o 2;have n3:w5.drew.cell? ⟨a,3,none⟩=some (.string E):=cell_of_heap r.o 3;have n4:w5.drew.cell? ⟨a,4,none⟩=some (.slice A2 X c2):=cell_of_heap r.o 4;clear j a5 b4 am hr;obtain⟨i0,dg,ch,ca,c9⟩:=info_parts wa_;go_upto_region 20 with fail;go_region_law (first | (refine step_append_lies _ rfl _ _ 52 rfl 0 74 i0 (.agg #[.int .i64 0,.int .i64 0,.int .i64 0,.string ⟨#[]⟩,.slice none 0 0]) 5 64 Tryz.underlying52 dg ch ca c9 rfl (by decide) (.slice A3 k c3) k (N_ cs k) rfl (by exact bi.o.alloc _) ⟨w6.heap.size,0,none⟩ 1 1 [.int .i64 id,.int .i64 src,.int .i64 dst,.string E,.slice B6 r6 M] rfl rfl (World.news_of_block (cs:=#[.int .i64 id,.int .i64 src,.int .i64 dst,.string E,.slice B6 r6 M]) (by exact NB.o)) ci.o (by omega) (by unfold maxLen;omega) (by omega) (Nat.zero_le _) (w6.heap.size+1) (by exact d6.o) (λg7 c7 w7 bt V bs _=>?_);have ct:=q_ bt;have bu:=q_ (show w6.grownBy w7 (Value.slice A3 k c3).ownBlock from a5_ (w:=w6) (o:=.cells #[.int .i64 id,.int .i64 src,.int .i64 dst,.string E,.slice B6 r6 M] 74) ⟨V.os,V.tape,V.output,V.size,V.block⟩);have dm:=q_ (show (Value.slice A3 k c3).ownBlock=some g7\/g7=w6.heap.size+1 from bs);have bo:=q_ ((bu.o.block (z+4) (by have:=av.o;omega) (λe=>by have:=aw.o (z+4) e.symm;omega)).trans b3.o);have f7:w7.frozen? ⟨z+4,1,none⟩=false:=Lib.frozen_of_heap bo.o 1;have fl:w7.cell? ⟨z+4,1,none⟩=some (.slice A3 k c3):=cell_of_heap bo.o 1;clear bt V bs) | (go_simp;go_at_call 93;(with_reducible refine d8.o.mono ?_);rintro e w6 ⟨cc,n',rfl,D,v,b5⟩;have au:=q_ b5;obtain⟨P6,rfl,B6,M,rfl,_,_⟩:=b5;obtain⟨r6,cx⟩:=a_ n'.props.length;rw[cx.o]at au ⊢;rw[v.1,v.2.1,v.2.2.1,v.2.2.2.1,f.o,a0.o,a1.o,af.o]at au ⊢;have d5:=q_ D;have ai:=q_ v;have av:=q_ (show z2<w6.heap.size from by have h1:w5.heap.size<=w6.heap.size:=D.size;have:=d.o.set.lt;omega);have bi:=q_ ((Turn.of_below D).owns cd.o (λg hg h=>by have:=aw.o g hg;have h2:w5.heap.size<=g:=h;omega));have b3:=q_ ((D.block (z+4) (by show z+4<w5.heap.size;have:=d.o.set.lt;omega)).trans d.o.store);have dl:w6.cell? ⟨z+4,1,none⟩=some (.slice A3 k c3):=cell_of_heap b3.o 1;have f5:(w6.alloc (.cells #[.int .i64 id,.int .i64 src,.int .i64 dst,.string E,.slice B6 r6 M] 74)).cell? ⟨z+4,1,none⟩=some (.slice A3 k c3):=(World.cell?_alloc_lt w6 _ _ (by show z+4<_;have:=av.o;omega)).trans dl;have ci:=q_ (show ∀u∈([.int .i64 id,.int .i64 src,.int .i64 dst,.string E,.slice B6 r6 M]:List Value),u.oneCell'=true from λu hu=>by simp at hu;rcases hu with rfl | rfl | rfl | rfl | rfl<;>rfl);have NB:=q_ (heap_alloc_new w6 (.cells #[.int .i64 id,.int .i64 src,.int .i64 dst,.string E,.slice B6 r6 M] 74));have d6:=q_ (show (w6.alloc (.cells #[.int .i64 id,.int .i64 src,.int .i64 dst,.string E,.slice B6 r6 M] 74)).heap.size=w6.heap.size+1 by simp);clear D v))
            all_goals (
             have w1:IntKind.i64.wrap ((k:Int)+1)=(k:Int)+1:=IntWalk.i64_in _ (by omega);go_wp2_with fail;go_roundw)
            all_goals first
             | (case measure=>simp[intOf];omega)
             | (case rel=>
                 refine⟨k+1,es++[n'],.slice (some ⟨g7,0,none⟩) (k+1) c7,by omega,by go_num,q_ ?_⟩;have h:=fp_.more d.o cf.o aw.o a6.o.1 a6.o.2 HX.o (cv_ d5.o) ai.o au.o rfl bu.o dm.o ct.o d9.o;have e1:e9_ ((g.edges.take k).map m_.id) id=(g.edges.take (k+1)).map m_.id:=by unfold e9_;rw[a9.o,if_neg (by decide),g_ HX.o,List.map_append,<-f.o];rfl
                 rw[e1]at h;exact h)
     ·have a7:k=nE:=by omega
      have c8:=q_ (show g.edges.take k=g.edges from List.take_of_length_le (by rw[aq.o,a7];exact Nat.le_refl _));have C:=y.o;have df:=q_ (show Y_ (okE (g.nodes.map i_.id)) m_.id [] g.edges=true from by have h:=C.ok;rw[c8.o]at h;exact h);have bf:=q_ (show bm_ jg_ g.edges es from by have h:=C.all;rw[c8.o]at h;exact h);rw[c8.o]at C;have ap:=q_ C;have et:ns.length<=100000000:=by rw[<-bd.o.1,ay.o];omega
      have ew:es.length<=100000000:=by rw[<-bf.o.1,aq.o];omega
      have v:=q_ (tk_ C.nodes et (λb hb=>by have:=C.set.lt;omega));have fj:wr.cell? ⟨z+4,0,none⟩=some Ns:=cell_of_heap C.store 0;clear C y;subst a7;go_upto_region 22 with fail;go_wp2_with fail;refine v.o.mono ?_;rintro e w4 ⟨rfl,U,az,ec,t⟩;have cp:=q_ az;have ds:=q_ ec;have ak:=q_ t;have aj:=q_ (show ∀b,Ns.ownBlock=some b->z+6<=b/\b<z2 from λb hb=>by obtain⟨cs,_,_,am,_⟩:=ap.o.nodes;exact am b hb);have f2:w4.cell? ⟨z+4,1,none⟩=some Es:=cell_of_heap ((t.block (z+4) (by have:=ap.o.set.lt;have:=ap.o.far;omega) (λm=>by have:=(aj.o _ m).1;omega)).trans ap.o.store) 1;have di:=q_ (Cf_ ((ap.o.own.turn EdR.good t (λb hb=>hb.2) (λb hb m=>by have:=(aj.o _ m).2;omega)).mono EdR.good (F':=λb=>z2+1<=b/\b<w4.heap.size) (λb hb=>⟨hb.1,Nat.lt_of_lt_of_le hb.2 t.size⟩)) ew (λb hb=>hb.2));clear az ec t fj v;go_wp2_with fail;refine di.o.mono ?_;rintro e w5 ⟨rfl,L,az,ej,ba⟩;have eo:=q_ az;have bw:=q_ (ap.o.next ds.o ak.o ej ba);have eq:=q_ (Cg_ bn.o cv.o bd.o cp.o.1);have e0:=q_ (Ch_ bn.o df.o bf.o az.1);have fa:U.length<=131072:=by rw[cp.o.1.length_eq,<-bd.o.1,ay.o];omega
      have fi:L.length<=65536:=by rw[az.1.length_eq,<-bf.o.1,aq.o];omega
      clear az ej ba f2 di;obtain⟨n5,bx⟩:=a_ U.length;obtain⟨n6,b6⟩:=a_ L.length;rw[bx.o]at fa;rw[b6.o]at fi;obtain⟨a3,ev⟩:=a_ w5.heap.size;rw[ev.o]at bw;obtain⟨A5,c5,fg⟩:∃A5 c5,Ns = .slice A5 n5 c5:=by obtain⟨A,c,h,_⟩:=ds.o;exact⟨A,c,by rw[h,bx.o]⟩
      obtain⟨A6,c6,ff⟩:∃A6 c6,Es = .slice A6 n6 c6:=by obtain⟨A,c,h,_⟩:=bw.o.edges;exact⟨A,c,by rw[h,b6.o]⟩
      subst fg ff;have fd:w5.cell? ⟨z+4,0,none⟩=some (.slice A5 n5 c5):=cell_of_heap bw.o.store 0;clear ap aj ak ds;go_wp2_with fail;clear fd;go_loopw [153] (λcj wx=>∃k:Nat,k<=n5/\cj = .int .i64 (k:Nat)/\Q_ (dm_ w z a3 U L (.slice A5 n5 c5) (.slice A6 n6 c6) ((U.take k).map i_.id) [] 0 (aj_ []) wx)) (λcj _=>n5-(intOf cj).toNat)
      case atStart=>exact⟨0,by omega,rfl,bw⟩
      case round=>
       clear bw;obtain⟨k,hk,rfl,y⟩:=hrel;by_cases ar:k<n5
       ·obtain⟨x,m⟩:∃x,U[k]?=some x:=⟨U[k]'(by rw[bx.o];exact ar),List.getElem?_eq_getElem _⟩;have HX:=q_ m;obtain⟨ad,A1,d1,A2,d2,rfl,ao,cq,co,a8,q0,q1,q2⟩:=tj_ y.o.nodes.rd m;clear ao cq co a8;obtain⟨id,f⟩:=a_ x.id;obtain⟨m1,bb⟩:=a_ x.labels.length;obtain⟨X,ac⟩:=a_ x.props.length;rw[f.o]at q0;rw[bb.o]at q1;rw[ac.o]at q2;obtain⟨a,l⟩:=a_ wr.heap.size;obtain⟨w2,J⟩:=a_ (wr.alloc (.cells #[.int .i64 id,.slice A1 m1 d1,.slice A2 X d2] 72));have S:=q_ (y.o.on (w2:=w2.drew) (by rw[<-J.o];exact ((Below.refl _ _).alloc (Nat.le_refl _) _).drew));have b0:w2.drew.cell? ⟨a,0,none⟩=some (.int .i64 id):=cell_of_heap (w:=w2.drew) (show w2.heap[a]?=some (.cells #[.int .i64 id,.slice A1 m1 d1,.slice A2 X d2] 72 (0,0)) from by rw[<-J.o,<-l.o];exact heap_alloc_new wr _) 0;have g4:w2.drew.cell? ⟨z+4,4,none⟩=some (.map (some (z+3))):=cell_of_heap S.o.store 4;obtain⟨w3,bg,ah,P⟩:=S.o.at_.more (x:=id) (by rw[<-f.o];exact eq.o.2 x (List.mem_of_getElem? m)) (by rw[<-f.o];exact pl_ eq.o.1 m) (by simp;omega);rw[show ((U.take k).map i_.id).length=k by rw[List.length_map,List.length_take,bx.o];omega]at bg;have q:=q_ (S.o.upd (ids':=(U.take (k+1)).map i_.id) P (λb hb=>.inl ⟨by omega,by omega⟩) (by rw[g_ m,List.map_append];show an_ w3 (z+3) (_++[x.id]);rw[f.o];exact ah) (S.o.types.turn P (λh=>by omega)) (S.o.hops.turn P (λh=>by omega) (λb hb h=>by have:=S.o.loc.1;omega)));clear ah P m;have e1:(0:Int)<=k:=by omega
        have e2:(k:Int)<n5:=by omega
        have w1:IntKind.i64.wrap ((k:Int)+1)=(k:Int)+1:=IntWalk.i64_in _ (by omega);go_upto_region 27 with fail;rw[l.o,J.o];go_region
        all_goals (go_wp2_with fail;go_roundw)
        all_goals first
         | (case measure=>simp[intOf];omega)
         | (case rel=>exact⟨k+1,by omega,by go_num,q⟩)
       ·have a7:n5=k:=by omega
        have cr:=q_ (show dm_ w z a3 U L (.slice A5 n5 c5) (.slice A6 n6 c6) (U.map i_.id) [] 0 (aj_ []) wr from by have h:=y.o;rw[List.take_of_length_le (by rw[bx.o];omega)]at h;exact h);clear y;subst a7;have f4:wr.cell? ⟨z+4,1,none⟩=some (.slice A6 n6 c6):=cell_of_heap cr.o.store 1;go_upto_region 29 with fail;go_wp2_with fail;clear f4;go_loopw [171] (λce wx=>∃(k n:Nat),k<=n6/\n<=4*k/\ce = .int .i64 (k:Nat)/\Q_ (dm_ w z a3 U L (.slice A5 n5 c5) (.slice A6 n6 c6) (U.map i_.id) ((L.take k).map m_.id) n (aj_ (L.take k)) wx)) (λce _=>n6-(intOf ce).toNat)
        case atStart=>exact⟨0,0,by omega,by omega,rfl,cr⟩
        case round=>
         clear cr;obtain⟨k,n,hk,fr,rfl,y⟩:=hrel;by_cases ar:k<n6
         ·obtain⟨x,m⟩:∃x,L[k]?=some x:=⟨L[k]'(by rw[b6.o];exact ar),List.getElem?_eq_getElem _⟩;have HX:=q_ m;obtain⟨dn,cm,cw⟩:=e0.o.2 x (List.mem_of_getElem? m);obtain⟨ad,A2,d2,rfl,ao,cn,a8,q0,q1,q2,q3,q4⟩:=nh_ y.o.edges.rd m;clear ao cn a8;obtain⟨id,f⟩:=a_ x.id;obtain⟨src,a0⟩:=a_ x.src;obtain⟨dst,a1⟩:=a_ x.dst;obtain⟨E,af⟩:=a_ x.type;obtain⟨X,ac⟩:=a_ x.props.length;rw[f.o]at q0 dn;rw[a0.o]at q1 cm;rw[a1.o]at q2 cw;rw[af.o]at q3;rw[ac.o]at q4;have ey:=q_ cm;have e7:=q_ cw;obtain⟨a,l⟩:=a_ wr.heap.size;obtain⟨w2,J⟩:=a_ (wr.alloc (.cells #[.int .i64 id,.int .i64 src,.int .i64 dst,.string E,.slice A2 X d2] 74));have S:=q_ (y.o.on (w2:=w2.drew) (by rw[<-J.o];exact ((Below.refl _ _).alloc (Nat.le_refl _) _).drew));have bp:=q_ (show w2.drew.heap[a]?=some (.cells #[.int .i64 id,.int .i64 src,.int .i64 dst,.string E,.slice A2 X d2] 74 (0,0)) from by rw[<-J.o,<-l.o];exact heap_alloc_new wr _);have b0:w2.drew.cell? ⟨a,0,none⟩=some (.int .i64 id):=cell_of_heap bp.o 0;have g3:w2.drew.cell? ⟨z+4,3,none⟩=some (.map (some (z+2))):=cell_of_heap S.o.store 3;have bj:=q_ (show z+6<=a3/\a3<=a from by rw[<-l.o];exact y.o.loc);obtain⟨w3,bg,ah,P⟩:=S.o.types.more (x:=id) dn (by rw[<-f.o];exact pl_ e0.o.1 m) (by simp;omega);rw[show ((L.take k).map m_.id).length=k by rw[List.length_map,List.length_take,b6.o];omega]at bg;have q:=q_ (S.o.upd (eids':=(L.take (k+1)).map m_.id) P (λb hb=>.inl ⟨by omega,by omega⟩) (S.o.at_.turn P (λh=>by omega)) (by rw[g_ m,List.map_append];show an_ w3 (z+2) (_++[x.id]);rw[f.o];exact ah) (S.o.hops.turn P (λh=>by omega) (λb hb h=>by have:=S.o.loc.1;omega)));have el:=q_ ((P.block a (b_ bp.o) (by have:=bj.o;omega)).trans bp.o);have n1:w3.cell? ⟨a,1,none⟩=some (.int .i64 src):=cell_of_heap el.o 1;have ef:=q_ (ib_ (z+4) a3 (z+1) n (aj_ (L.take k)) src 1 k _ _ _ _ w3 q.o.store q.o.hops cm vi1 (by omega) (by omega) q.o.loc.2);clear ah P m dn cm cw;have e1:(0:Int)<=k:=by omega
          have e2:(k:Int)<n6:=by omega
          have w1:IntKind.i64.wrap ((k:Int)+1)=(k:Int)+1:=IntWalk.i64_in _ (by omega);go_upto_region 32 with fail;rw[l.o,J.o];clear q0 q1 q2 q3 q4;go_region
          all_goals go_wp2_with fail
          all_goals refine ef.o.mono ?_
          all_goals rintro e w4 ⟨rfl,em,t⟩
          all_goals (
           have ab:=q_ (q.o.spoke em t);have eg:=q_ (pm_ el.o (by have:=bj.o;omega) t);have n2:w4.cell? ⟨a,2,none⟩=some (.int .i64 dst):=cell_of_heap eg.o 2;have dy:=q_ (ib_ (z+4) a3 (z+1) (n+1) _ dst (-1) k _ _ _ _ w4 ab.o.store ab.o.hops e7.o vim (by omega) (by omega) ab.o.loc.2);clear em t n1 ef;go_wp2_with fail;refine dy.o.mono ?_;rintro e w5 ⟨rfl,ea,ba⟩;have d:=q_ (ab.o.spoke ea ba);have e4:=q_ (pm_ eg.o (by have:=bj.o;omega) ba);have n3:w5.cell? ⟨a,1,none⟩=some (.int .i64 src):=cell_of_heap e4.o 1;have en:=q_ (ib_ (z+4) a3 (z+1) (n+1+1) _ src 0 k _ _ _ _ w5 d.o.store d.o.hops ey.o vi0 (by omega) (by omega) d.o.loc.2);clear ea ba n2 dy;go_wp2_with fail;refine en.o.mono ?_;rintro e w6 ⟨rfl,e9,dp⟩;have O:=q_ (d.o.spoke e9 dp);have e6:=q_ (pm_ e4.o (by have:=bj.o;omega) dp);have n4:w6.cell? ⟨a,1,none⟩=some (.int .i64 src):=cell_of_heap e6.o 1;have f9:w6.cell? ⟨a,2,none⟩=some (.int .i64 dst):=cell_of_heap e6.o 2;clear e9 dp n3 en;by_cases b8:dst=src
           ·have q5:(dst != src)=false:=by rw[b8];exact bne_self_eq_false src
            have dj:=q_ (show dm_ w z a3 U L (.slice A5 n5 c5) (.slice (some ad) n6 c6) (U.map i_.id) ((L.take (k+1)).map m_.id) (n+1+1+1) (aj_ (L.take (k+1))) w6 from by rw[g_ HX.o,ro_,a0.o,a1.o,if_pos b8,List.length_take,b6.o,Nat.min_eq_left hk,<-g_ HX.o];exact O.o);clear b8 O;go_wp2_with fail;exact⟨⟨k+1,n+1+1+1,by omega,by omega,by go_num,dj⟩,by simp[intOf];omega⟩
           ·have q5:(dst != src)=true:=bne_iff_ne.2 b8;have dx:=q_ (ib_ (z+4) a3 (z+1) (n+1+1+1) _ dst 0 k _ _ _ _ w6 O.o.store O.o.hops e7.o vi0 (by omega) (by omega) O.o.loc.2);go_wp2_with fail;refine dx.o.mono ?_;rintro e w7 ⟨rfl,ee,ek⟩;have dj:=q_ (show dm_ w z a3 U L (.slice A5 n5 c5) (.slice (some ad) n6 c6) (U.map i_.id) ((L.take (k+1)).map m_.id) (n+1+1+1+1) (aj_ (L.take (k+1))) w7 from by rw[g_ HX.o,ro_,a0.o,a1.o,if_neg b8,List.length_take,b6.o,Nat.min_eq_left hk,<-g_ HX.o];exact O.o.spoke ee ek);clear b8 O ee ek n4 f9 dx;go_wp2_with fail;exact⟨⟨k+1,n+1+1+1+1,by omega,by omega,by go_num,dj⟩,by simp[intOf];omega⟩)
         ·have a7:n6=k:=by omega
          have e3:=q_ (show dm_ w z a3 U L (.slice A5 n5 c5) (.slice A6 n6 c6) (U.map i_.id) (L.map m_.id) n (aj_ L) wr from by have h:=y.o;rw[List.take_of_length_le (by rw[b6.o];omega)]at h;exact h);clear y;subst a7;have eu:=q_ (show cw_ g=true from by rw[bz.o,cv.o,df.o];rfl);have ai:=q_ (show g4_ g ⟨U,L⟩ from ⟨⟨ns,bd.o,cp.o.1,cp.o.2⟩,⟨es,bf.o,eo.o.1,eo.o.2⟩⟩);go_upto_region 39 with fail;go_wp2_with fail;go_ret2;exact⟨by rw[Z.o];exact e3.o.below,.inr ⟨eu.o,z+4,⟨U,L⟩,rfl,by rw[Z.o];exact e3.o.done (by omega),ai.o⟩⟩
 ·have e8:=q_ (show cw_ g=false from by rw[bz.o,decide_eq_false j];rfl);have HB:=q_ (show Below w.heap.size w (w.alloc (.cells #[.slice AN nN cN,.slice AE nE cE] 54)) from (Below.refl _ _).alloc (Nat.le_refl _) _);by_cases h1:nN<=131072
  ·have e1:decide ((131072:Int)<nN)=false:=decide_eq_false (by omega);have e2:decide ((65536:Int)<nE)=true:=decide_eq_true (by omega);clear j h1;go_enter Tryz.func32,Tryz.ntmps32
   go_wp2_with fail;go_ret2;exact⟨HB.o,.inl ⟨e8.o,rfl⟩⟩
  ·have e1:decide ((131072:Int)<nN)=true:=decide_eq_true (by omega);clear j h1;go_enter Tryz.func32,Tryz.ntmps32
   go_wp2_with fail;go_ret2;exact⟨HB.o,.inl ⟨e8.o,rfl⟩⟩
end
section
open Go Go.RowKit Go.Maps Go.WideMaps
theorem Cn_ {K:Type} [DecidableEq K] {ks:List K} {k:K} (h:k∈ks):ks[place ks k]?=some k:=by unfold place;have a:=List.idxOf_lt_length_of_mem h;rw[List.getElem?_eq_getElem a,List.getElem_idxOf]
theorem an_.look {w:World} {m:Nat} {b:List Int} (h:an_ w m b) {x:Int} (e:VI x) :
    ∃q:Int,(Instr.lookup 141 (.map (some m)) (.int .i64 x) true).run Tryz.prog w = .ok (.tuple #[.int .i64 q,.bool (inB b x)]) w/\(x∈b->∃i:Nat,q=i/\b[i]?=some x):=by
 obtain⟨D,h1,_,h2⟩:=h;obtain⟨v,ps,c,l⟩:=h1.look_ok td_ Tryz.underlying141 (z:=.int .i64 0) (by kernel_rfl) (zd:=.lit (.int .i64 0)) (zp:=[]) (plainElem_int Tryz.underlying3 (by decide)) (keyOf_int_mk Tryz.underlying2 e);obtain⟨a,rfl,hz,_⟩:=plainElem_int_inv Tryz.underlying3 l;injection hz with hz _;obtain⟨g,k⟩:=h2 x e;refine⟨a,?_,λd=>⟨place b x,?_,Cn_ d⟩⟩
 ·rw[c];show _=Result.ok (Value.tuple #[_,.bool (decide (x∈b))]) w;rw[<-g];rfl
 ·have f:=k d;have j:(DataW.lit (.int .i64 a):DataW Unit) = .lit (.int .i64 ((place b x:Nat):Int)):=hz.symm.trans f;exact (Lit.int.inj (DataW.lit.inj j)).2
end
section
open Go Go.RowKit
theorem yi_ {l:List C_}:∀{ks:List ByteArray},az_ ks l=true->(∀p,p∈l->aw_ p.key=true/\p.key∉ks)/\(∀p q,p∈l->q∈l->p.key=q.key->p=q):=by
 induction l with
 | nil=>intro ks _;exact⟨λp a=>(List.not_mem_nil a).elim,λp q a=>(List.not_mem_nil a).elim⟩
 | cons x r m=>
  intro ks h;simp only[az_,Bool.and_eq_true]at h;obtain⟨⟨h1,h2,s⟩,n⟩:=h;obtain⟨c,o⟩:=m n;have k:x.key∉ks:=λf=>by rw[dx_ f]at h2;cases h2
  constructor
  ·intro p a;rcases List.mem_cons.1 a with rfl | a
   ·exact⟨h1,k⟩
   ·exact⟨(c p a).1,λf=>(c p a).2 (List.mem_append_left _ f)⟩
  ·intro p q a i e;rcases List.mem_cons.1 a with j | d
   ·rcases List.mem_cons.1 i with g | b
    ·rw[j,g]
    ·exact absurd (List.mem_append_right ks (List.mem_singleton.2 (by rw[<-e,j]))) (c q b).2
   ·rcases List.mem_cons.1 i with g | b
    ·exact absurd (List.mem_append_right ks (List.mem_singleton.2 (by rw[e,g]))) (c p d).2
    ·exact o p q d b e
theorem gs_ {l:List C_} (h:a0_ l=true):(∀p,p∈l->aw_ p.key=true)/\(∀p q,p∈l->q∈l->p.key=q.key->p=q):=by unfold a0_ at h;rw[Bool.and_eq_true]at h;have:=yi_ h.1;exact⟨λp a=>(this.1 p a).1,this.2⟩
theorem Co_ {g : Type} {key:g -> Int} {l:List g} (c:(l.map key).Nodup) {x y:g} (i:x∈l) (j:y∈l) (e:key x=key y):x=y:=by
 induction l with
 | nil=>cases i
 | cons a r k=>
  rw[List.map_cons,List.nodup_cons]at c;rcases List.mem_cons.1 i with h | d
  ·rcases List.mem_cons.1 j with f | b
   ·rw[h,f]
   ·exact absurd (List.mem_map.2 ⟨y,b,by rw[<-e,h]⟩) c.1
  ·rcases List.mem_cons.1 j with f | b
   ·exact absurd (List.mem_map.2 ⟨x,d,by rw[e,f]⟩) c.1
   ·exact k c.2 d b
theorem f9_ {g:y_} (a:cw_ g=true):Y_ okN i_.id [] g.nodes=true/\Y_ (okE (g.nodes.map i_.id)) m_.id [] g.edges=true:=by unfold cw_ at a;rw[Bool.and_eq_true,Bool.and_eq_true]at a;exact a.2
theorem pr_ {g:y_} (a:cw_ g=true) {n:i_} (b:n∈g.nodes):a0_ n.props=true/\(be_ [] n.labels=true/\n.labels.length<=65536):=by obtain⟨i,hi⟩:=List.mem_iff_getElem?.1 b;have h:=v8_ (f9_ a).1 hi;unfold okN at h;simp only[Bool.and_eq_true]at h;exact⟨h.2.2.2.2,h.2.2.1,of_decide_eq_true h.2.2.2.1⟩
theorem ps_ {g:y_} (a:cw_ g=true) {e:m_} (b:e∈g.edges):a0_ e.props=true:=by obtain⟨i,hi⟩:=List.mem_iff_getElem?.1 b;have h:=v8_ (f9_ a).2 hi;unfold okE at h;simp only[Bool.and_eq_true]at h;exact h.2.2.2.2.2
theorem pt_ {g:y_} (a:cw_ g=true):(g.nodes.map i_.id).Nodup:=gr_ (λ_ _ h=>zk_ h) List.nodup_nil (f9_ a).1
theorem yj_ {g:y_} (a:cw_ g=true):(g.edges.map m_.id).Nodup:=gr_ (λ_ _ h=>zl_ h) List.nodup_nil (f9_ a).2
theorem fa_ {c a : Type} {R:c -> a -> Prop} {l:List c} {m b:List a} (h:bm_ R l m) (d:b.Perm m) {y:a} (e:y∈b):∃x,x∈l/\R x y:=h.mem (d.mem_iff.1 e)
theorem G1_ {a c : Type} {R:a -> c -> Prop} {l:List a} {m b:List c} (h:bm_ R l m) (f:b.Perm m) {x:a} (e:x∈l):∃y,y∈b/\R x y:=by
 obtain⟨i,hi⟩:=List.mem_iff_getElem?.1 e;have g:i<m.length:=by rw[<-h.1];exact by_ hi
 have d:=List.getElem?_eq_getElem g;exact⟨_,f.mem_iff.2 (List.mem_of_getElem? d),h.2 i x _ hi d⟩
theorem Jl_ {g b:y_} (a:m7_ g) (d:g4_ g b):b.nodes.length<=2000000/\b.edges.length<=2000000:=by obtain⟨⟨m,h1,h2,_⟩,⟨f,c,e,_⟩⟩:=d;exact⟨by rw[h2.length_eq,<-h1.1];exact a.1,by rw[e.length_eq,<-c.1];exact a.2.1⟩
theorem id_ {a b:ByteArray} (h1:¬g3_ a b<0) (h2:¬g3_ b a<0):a=b:=by rw[kh_]at h1 h2;have c:a.data.toList=b.data.toList:=List.le_antisymm (List.not_lt.1 h2) (List.not_lt.1 h1);exact ByteArray.ext (Array.toList_inj.1 c)
theorem Cp_ {l c:List ByteArray} (d:l.Pairwise (λa b=>¬g3_ b a<0)) (h:Ge_ l c):c=l:=
 List.Perm.eq_of_pairwise (le:=λa b=>¬g3_ b a<0) (λ_ _ _ _ h1 h2=>id_ h2 h1) h.2 d h.1
theorem rt_ {l c:List C_} (d:∀p q,p∈l->q∈l->p.key=q.key->p=q) (e:l.Pairwise (λa b=>¬g3_ b.key a.key<0)) (h:ye_ l c):c=l:=
 List.Perm.eq_of_pairwise (le:=λa b=>¬g3_ b.key a.key<0) (λa b f hb h1 h2=>d a b (h.1.mem_iff.1 f) hb (id_ h2 h1)) h.2 e h.1
theorem Cq_ {a b:Int} (h1:¬dk_ a b<0) (h2:¬dk_ b a<0):a=b:=by rw[kk_]at h1 h2;omega
theorem ru_ {e : Type} {key:e -> Int} {l c:List e} (f:(l.map key).Nodup) (g:l.Pairwise (λa b=>¬dk_ (key b) (key a)<0)) (d:c.Perm l) (h:c.Pairwise (λa b=>¬dk_ (key b) (key a)<0)):c=l:=
 List.Perm.eq_of_pairwise (le:=λa b=>¬dk_ (key b) (key a)<0) (λ_ _ i hb h1 h2=>Co_ f (d.mem_iff.1 i) hb (Cq_ h2 h1)) h g d
theorem zq_ {a : Type} {R:a -> a -> Prop} {l m:List a} (h:bm_ R l m) (c:∀x y,x∈l->R x y->y=x):m=l:=by
 apply List.ext_getElem?;intro i
 cases hx:l[i]? with
 | none=>
  have h2:m[i]?=none:=by rw[List.getElem?_eq_none_iff]at hx ⊢;rw[<-h.1];exact hx
  exact h2
 | some x=>
  have b:i<m.length:=by rw[<-h.1];exact by_ hx
  have h2:=List.getElem?_eq_getElem b;rw[h2,c x _ (List.mem_of_getElem? hx) (h.2 i x _ hx h2)]
theorem iq_ {g c:y_} (s:cw_ g=true) (u:g4_ g c) {n a:i_} (o:n∈c.nodes) (h:ij_ n a):a=n:=by obtain⟨⟨m,h1,h2,_⟩,_⟩:=u;obtain⟨x,t,b⟩:=fa_ h1 h2 o;have j:n.props.Perm x.props:=b.2.2.1;have f:=Cp_ b.2.1.2 h.2.1;have k:=rt_ (λp q d l e=>(gs_ (pr_ s t).1).2 p q (j.mem_iff.1 d) (j.mem_iff.1 l) e) b.2.2.2 h.2.2;obtain⟨i,L,P⟩:=n;obtain⟨v,y,z⟩:=a;have r:v=i:=h.1;subst r;simp only at f k;rw[f,k]
theorem qm_ {g f:y_} (D:cw_ g=true) (F:g4_ g f) {n a:m_} (z:n∈f.edges) (h:jg_ n a):a=n:=by obtain⟨_,⟨m,h1,h2,_⟩⟩:=F;obtain⟨x,o,l⟩:=fa_ h1 h2 z;have j:n.props.Perm x.props:=l.2.2.2.2.1;have c:=rt_ (λp q b k e=>(gs_ (ps_ D o)).2 p q (j.mem_iff.1 b) (j.mem_iff.1 k) e) l.2.2.2.2.2 h.2.2.2.2;obtain⟨i,s,d,t,P⟩:=n;obtain⟨A,u,B,r,G⟩:=a;have C:A=i:=h.1;have v:u=s:=h.2.1;have y:B=d:=h.2.2.1;have E:r=t:=h.2.2.2.1;subst C v y E;simp only at c;rw[c]
theorem yk_ {g a:y_} (e:cw_ g=true) (f:g4_ g a) {d:List i_} {h:List m_} (h1:bm_ ij_ a.nodes d) (h2:bm_ jg_ a.edges h):(⟨d,h⟩:y_)=a:=by rw[zq_ h1 (λx y b c=>iq_ e f b c),zq_ h2 (λx y b c=>qm_ e f b c)]
theorem fb_ {d K:Type} [DecidableEq K] {e:List K -> d -> Bool} {key:d -> K} {c:d -> Prop} (f:∀ks x,e ks x=true↔(key x∉ks/\c x)) {l:List d}:∀{ks:List K},Y_ e key ks l=true↔((∀x,x∈l->c x/\key x∉ks)/\(l.map key).Nodup):=by
 induction l with
 | nil=>intro ks;simp[Y_]
 | cons x r i=>
  intro ks;simp only[Y_,Bool.and_eq_true,f,i,List.map_cons,List.nodup_cons,List.mem_cons,List.mem_append,List.mem_map];constructor
  ·rintro⟨⟨h1,h2⟩,b,g⟩;refine⟨λy a=>?_,fun⟨y,a,he⟩=>?_,g⟩
   ·rcases a with rfl | a
    ·exact⟨h2,h1⟩
    ·exact⟨(b y a).1,λh=>(b y a).2 (.inl h)⟩
   ·exact (b y a).2 (.inr (.inl he))
  ·rintro⟨h1,h2,b⟩;refine⟨⟨(h1 x (.inl rfl)).2,(h1 x (.inl rfl)).1⟩,λy a=>⟨(h1 y (.inr a)).1,λh=>?_⟩,b⟩;rcases h with h | h
   ·exact (h1 y (.inr a)).2 h
   ·rcases h with h | h
    ·exact h2 ⟨y,a,h⟩
    ·cases h
theorem rv_ {a K:Type} [DecidableEq K] {b:List K -> a -> Bool} {key:a -> K} {c:a -> Prop} (e:∀ks x,b ks x=true↔(key x∉ks/\c x)) {l m:List a} (d:m.Perm l) (h:Y_ b key [] l=true):Y_ b key [] m=true:=by rw[fb_ e]at h ⊢;exact⟨λx f=>h.1 x (d.mem_iff.1 f),((d.map key).nodup_iff).2 h.2⟩
theorem Cr_ (l:List ByteArray):∀ks,be_ ks l=Y_ (λks s=>aw_ s && !inB ks s) (λs=>s) ks l:=by
 induction l with
 | nil=>intro ks;rfl
 | cons x r a=>intro ks;simp only[be_,Y_,a]
theorem pu_ (l:List C_):∀ks,az_ ks l=Y_ (λks p=>aw_ p.key&&(!inB ks p.key&&bg_ p.v)) C_.key ks l:=by
 induction l with
 | nil=>intro ks;rfl
 | cons x r a=>intro ks;simp only[az_,Y_,a]
theorem nk_ {K:Type} [DecidableEq K] {ks:List K} {x:K}:(!inB ks x)=true↔x∉ks:=by unfold inB;simp
theorem Cs_ {l m:List ByteArray} (a:m.Perm l) (h:be_ [] l=true):be_ [] m=true:=by rw[Cr_]at h ⊢;refine rv_ (c:=λs=>aw_ s=true) (λks s=>?_) a h;rw[Bool.and_eq_true,nk_];exact⟨λh=>⟨h.2,h.1⟩,λh=>⟨h.2,h.1⟩⟩
theorem pv_ {l m:List C_} (a:m.Perm l) (h:a0_ l=true):a0_ m=true:=by unfold a0_ at h ⊢;rw[Bool.and_eq_true]at h ⊢;refine⟨?_,by rw[a.length_eq];exact h.2⟩;rw[pu_]at ⊢;have h1:=h.1;rw[pu_]at h1;refine rv_ (c:=λp=>aw_ p.key=true/\bg_ p.v=true) (λks p=>?_) a h1;rw[Bool.and_eq_true,Bool.and_eq_true,nk_];exact⟨λh=>⟨h.2.1,h.1,h.2.2⟩,λh=>⟨h.2.1,h.1,h.2.2⟩⟩
theorem tn_ (ks:List Int) (n:i_):okN ks n=true↔(n.id∉ks/\(0<=n.id/\be_ [] n.labels=true/\n.labels.length<=65536/\a0_ n.props=true)):=by unfold okN;rw[Bool.and_eq_true,Bool.and_eq_true,Bool.and_eq_true,Bool.and_eq_true,nk_,decide_eq_true_iff,decide_eq_true_iff];exact⟨λh=>⟨h.2.1,h.1,h.2.2.1,h.2.2.2.1,h.2.2.2.2⟩,λh=>⟨h.2.1,h.1,h.2.2.1,h.2.2.2.1,h.2.2.2.2⟩⟩
theorem to_ (a ks:List Int) (e:m_):okE a ks e=true↔(e.id∉ks/\(0<=e.id/\e.src∈a/\e.dst∈a/\aw_ e.type=true/\a0_ e.props=true)):=by
 unfold okE;rw[Bool.and_eq_true,Bool.and_eq_true,Bool.and_eq_true,Bool.and_eq_true,Bool.and_eq_true,nk_,decide_eq_true_iff];have h1:inB a e.src=true↔e.src∈a:=by unfold inB;simp
 have h2:inB a e.dst=true↔e.dst∈a:=by unfold inB;simp
 rw[h1,h2];exact⟨λh=>⟨h.2.1,h.1,h.2.2.1,h.2.2.2.1,h.2.2.2.2.1,h.2.2.2.2.2⟩,λh=>⟨h.2.1,h.1,h.2.2.1,h.2.2.2.1,h.2.2.2.2.1,h.2.2.2.2.2⟩⟩
theorem nl_ {g p:y_} (e:cw_ g=true) (u:g4_ g p):cw_ p=true:=by
 obtain⟨l,o⟩:=f9_ e;have b:g.nodes.length<=131072/\g.edges.length<=65536:=by unfold cw_ at e;rw[Bool.and_eq_true]at e;exact of_decide_eq_true e.1
 obtain⟨⟨m,h1,h2,_⟩,⟨v,n,q,_⟩⟩:=u;rw[fb_ tn_]at l;rw[fb_ (to_ _)]at o
 have j:∀i,i∈g.nodes.map i_.id->i∈p.nodes.map i_.id:=λi hi=>by
  obtain⟨x,c,rfl⟩:=List.mem_map.1 hi;obtain⟨y,d,a⟩:=G1_ h1 h2 c;exact List.mem_map.2 ⟨y,d,a.1⟩
 unfold cw_;rw[Bool.and_eq_true,Bool.and_eq_true,fb_ tn_,fb_ (to_ _),decide_eq_true_iff];refine⟨⟨by rw[h2.length_eq,<-h1.1];exact b.1,by rw[q.length_eq,<-n.1];exact b.2⟩,⟨λy d=>?_,?_⟩,λy d=>?_,?_⟩
 ·obtain⟨x,c,a⟩:=fa_ h1 h2 d;obtain⟨r,k,s,c4⟩:=(l.1 x c).1;exact⟨⟨by rw[a.1];exact r,Cs_ a.2.1.1 k,by rw[a.2.1.1.length_eq];exact s,pv_ a.2.2.1 c4⟩,List.not_mem_nil⟩
 ·refine km_ h2 ?_;rw[kl_ (R:=ij_) (f:=i_.id) (g:=i_.id) (λx y h=>h.1) h1];exact l.2
 ·obtain⟨x,c,a⟩:=fa_ n q d;obtain⟨r,k,s,c4,t⟩:=(o.1 x c).1;exact⟨⟨by rw[a.1];exact r,by rw[a.2.1];exact j _ k,by rw[a.2.2.1];exact j _ s,by rw[a.2.2.2.1];exact c4,pv_ a.2.2.2.2.1 t⟩,List.not_mem_nil⟩
 ·refine km_ q ?_;rw[kl_ (R:=jg_) (f:=m_.id) (g:=m_.id) (λx y h=>h.1) n];exact o.2
theorem G2_ {l a b:List ByteArray} (h1:Ge_ l a) (h2:Ge_ l b):a=b:=
 List.Perm.eq_of_pairwise (le:=λa b=>¬g3_ b a<0) (λ_ _ _ _ h1 h2=>id_ h2 h1) h1.2 h2.2 (h1.1.trans h2.1.symm)
theorem wg_ {l a b:List C_} (c:∀p q,p∈l->q∈l->p.key=q.key->p=q) (h1:ye_ l a) (h2:ye_ l b):a=b:=
 List.Perm.eq_of_pairwise (le:=λa b=>¬g3_ b.key a.key<0) (λx y e g d f=>c x y (h1.1.mem_iff.1 e) (h2.1.mem_iff.1 g) (id_ f d)) h1.2 h2.2 (h1.1.trans h2.1.symm)
theorem rw_ {f d : Type} {R:f -> d -> Prop} {l:List f} {a b:List d} (h1:bm_ R l a) (h2:bm_ R l b) (h:∀x y z,x∈l->R x y->R x z->y=z):a=b:=by
 apply List.ext_getElem?;intro i;rcases Nat.lt_or_ge i l.length with hi | hi
 ·have c:=List.getElem?_eq_getElem hi;have e:=List.getElem?_eq_getElem (show i<a.length by rw[<-h1.1];exact hi);have hb:=List.getElem?_eq_getElem (show i<b.length by rw[<-h2.1];exact hi);rw[e,hb,h _ _ _ (List.mem_of_getElem? c) (h1.2 i _ _ c e) (h2.2 i _ _ c hb)]
 ·rw[List.getElem?_eq_none (by rw[<-h1.1];exact hi),List.getElem?_eq_none (by rw[<-h2.1];exact hi)]
theorem pw_ {g a b:y_} (o:cw_ g=true) (h1:g4_ g a) (h2:g4_ g b):a=b:=by
 have j:=nl_ o h1;obtain⟨⟨D,v,V,X⟩,⟨A,E,a5,a6⟩⟩:=h1;obtain⟨⟨m2,M,B,b3⟩,⟨R,S,I,b6⟩⟩:=h2
 have Z:D=m2:=rw_ v M λx y z l c hz=>by
  have h:=G2_ c.2.1 hz.2.1;have f:=wg_ (λp q m k e=>(gs_ (pr_ o l).1).2 p q m k e) c.2.2 hz.2.2;obtain⟨i,L,P⟩:=y;obtain⟨n,L',F⟩:=z;have e0:i=n:=c.1.trans hz.1.symm;simp only at h f;rw[e0,h,f]
 have h:A=R:=rw_ E S λx y z l c hz=>by
  have f:=wg_ (λp q m k e=>(gs_ (ps_ o l)).2 p q m k e) c.2.2.2.2 hz.2.2.2.2;obtain⟨i,s,d,t,P⟩:=y;obtain⟨n,N,Y,J,F⟩:=z;have G:i=n:=c.1.trans hz.1.symm;have O:s=N:=c.2.1.trans hz.2.1.symm;have U:d=Y:=c.2.2.1.trans hz.2.2.1.symm;have f3:t=J:=c.2.2.2.1.trans hz.2.2.2.1.symm;simp only at f;rw[G,O,U,f3,f]
 subst Z h;obtain⟨T,ea⟩:=a;obtain⟨W,u⟩:=b;have r:T=W:=(ru_ (key:=i_.id) (pt_ j) X (B.trans V.symm) b3).symm;have C:ea=u:=(ru_ (key:=m_.id) (yj_ j) a6 (I.trans a5.symm) b6).symm;rw[r,C]
theorem tp_ {g r:y_} (b:m7_ g) (d:g4_ g r):m7_ r:=by
 have q:=Jl_ b d;obtain⟨⟨m,h1,h2,_⟩,⟨B,u,A,_⟩⟩:=d;refine⟨q.1,q.2,λn z=>?_,λe v=>?_⟩
 ·obtain⟨x,f,a⟩:=fa_ h1 h2 z;obtain⟨⟨h,i,o,l⟩,j⟩:=b.2.2.1 x f;have t:n.labels.Perm x.labels:=a.2.1.1;have c:n.props.Perm x.props:=a.2.2.1;exact⟨⟨by rw[t.length_eq];exact h,by rw[c.length_eq];exact i,λs d=>o s (t.mem_iff.1 d),λp k=>l p (c.mem_iff.1 k)⟩,by rw[a.1];exact j⟩
 ·obtain⟨x,f,a⟩:=fa_ u A v;obtain⟨⟨h,i,o⟩,l,j,y⟩:=b.2.2.2 x f;have c:e.props.Perm x.props:=a.2.2.2.2.1;exact⟨⟨by rw[a.2.2.2.1];exact h,by rw[c.length_eq];exact i,λp k=>o p (c.mem_iff.1 k)⟩,by rw[a.1];exact l,by rw[a.2.1];exact j,by rw[a.2.2.1];exact y⟩
theorem px_ {g:y_} (a:cw_ g=true):(∀n,n∈g.nodes->zi_ n)/\∀e,e∈g.edges->Gg_ e:=
 ⟨λ_ b=>fo_ (pr_ a b).1,λ_ c=>fo_ (ps_ a c)⟩
theorem G3_ {g a:y_} (c:g4_ g a):a.nodes.length=g.nodes.length/\a.edges.length=g.edges.length:=by obtain⟨⟨m,h1,h2,_⟩,⟨e,b,d,_⟩⟩:=c;exact⟨by rw[h2.length_eq,<-h1.1],by rw[d.length_eq,<-b.1]⟩
end
section
open Go Go.RowKit Go.Maps
abbrev CT:d_->Array Value->Prop:=λt c=>eg_ c t
noncomputable def b8_ (a:List i_) (i:Int):h_:=match a.find? (λn=>decide (n.id=i)) with | some n=>(bw_ n).1 | none=>hw_
noncomputable def d6_ (a:List i_) (e:m_):d_:=⟨b8_ a e.src,m5_ e.type,b8_ a e.dst⟩
noncomputable def bx_ (G:y_):Option (List d_):=open Classical in
 if (∀n,n∈G.nodes->(bw_ n).2=true)/\(G.edges.map (d6_ G.nodes)).length<=65536/\(G.edges.map (d6_ G.nodes)).all dj_=true/\af_ (ba_ (w_ (ak_ 0)) (G.edges.map (d6_ G.nodes)))=G then some (G.edges.map (d6_ G.nodes)) else none
def jj_ (g G:y_):Prop:=∃a,g4_ g a/\bm_ ij_ a.nodes G.nodes/\bm_ jg_ a.edges G.edges
theorem rx_ {c : Type} {R:c -> c -> Prop} {key:c -> Int} {l e:List c} (h:bm_ R l e) (d:∀x y,R x y->key y=key x) (f:l.Pairwise (λa b=>¬dk_ (key b) (key a)<0)):e.Pairwise (λa b=>¬dk_ (key b) (key a)<0):=by rw[List.pairwise_iff_getElem]at f ⊢;intro i j hi k g;have m:=h.1;have h1:=d _ _ (h.2 i _ _ (List.getElem?_eq_getElem (by omega)) (List.getElem?_eq_getElem hi));have h2:=d _ _ (h.2 j _ _ (List.getElem?_eq_getElem (by omega)) (List.getElem?_eq_getElem k));rw[h1,h2];exact f i j (by omega) (by omega) g
theorem jk_ {g G:y_} (h:jj_ g G):∃a,g4_ g a/\g4_ a G:=by obtain⟨a,h1,h2,b⟩:=h;obtain⟨⟨_,_,_,c⟩,⟨_,_,_,d⟩⟩:=id h1;exact⟨a,h1,⟨_,h2,List.Perm.refl _,rx_ (key:=i_.id) h2 (λ_ _ h=>h.1) c⟩,⟨_,b,List.Perm.refl _,rx_ (key:=m_.id) b (λ_ _ h=>h.1) d⟩⟩
theorem gt_ {g G:y_} (a:m7_ g) (h:jj_ g G):m7_ G:=by obtain⟨_,h1,h2⟩:=jk_ h;exact tp_ (tp_ a h1) h2
theorem yl_ {g G:y_} (a:cw_ g=true) (h:jj_ g G):cw_ G=true:=by obtain⟨_,h1,h2⟩:=jk_ h;exact nl_ (nl_ a h1) h2
def ry_ (n:i_) (p:Int×Value):Prop:=p.1=n.id/\(bw_ n).2=true/\∃A a,p.2 = .agg (c_ (bw_ n).1 (.slice A 0 a))
theorem G4_ {a:List i_} {l:List (Int×Value)} (h:bm_ ry_ a l):l.map (·.1)=a.map i_.id:=by
 refine List.ext_getElem? λi=>?_;rw[List.getElem?_map,List.getElem?_map];by_cases hi:i<a.length
 ·have b:i<l.length:=by rw[<-h.1];exact hi
  rw[List.getElem?_eq_getElem hi,List.getElem?_eq_getElem b];have:=(h.2 i _ _ (List.getElem?_eq_getElem hi) (List.getElem?_eq_getElem b)).1;simp only[Option.map_some,this]
 ·rw[List.getElem?_eq_none (by rw[<-h.1];omega),List.getElem?_eq_none (by omega)];rfl
theorem rz_ {a:List i_} {l:List (Int×Value)} (h:bm_ ry_ a l) (i:Int):∃A b,ml_ l i = .agg (c_ (b8_ a i) (.slice A 0 b)):=by
 induction a generalizing l with
 | nil=>
  have j:l=[]:=List.length_eq_zero_iff.1 h.1.symm;subst j;exact⟨none,0,rfl⟩
 | cons n a k=>
  cases l with
  | nil=>exact absurd h.1 (by simp)
  | cons p l=>
   have h0:=h.2 0 n p rfl rfl;have ht:bm_ ry_ a l:=⟨by have:=h.1;simpa using this,λi x y g m=>h.2 (i+1) x y g m⟩;obtain⟨h1,_,A,b,f⟩:=h0;by_cases hi:n.id=i
   ·refine⟨A,b,?_⟩;unfold ml_ b8_;rw[List.find?_cons_of_pos (by simp[h1,hi]),List.find?_cons_of_pos (by simp[hi])];exact f
   ·obtain⟨d,c,e⟩:=k ht;refine⟨d,c,?_⟩;unfold ml_ b8_ at e ⊢;rw[List.find?_cons_of_neg (by simp[h1,hi]),List.find?_cons_of_neg (by simp[hi])];exact e
def r0_ (g:y_) (w:World) (e:Ending) (w':World):Prop:=Below w.heap.size w w' /\
 ((cw_ g=false/\e = .returned (.tuple #[.slice none 0 0,.int .i64 21])) \/
  (cw_ g=true/\∃G,jj_ g G/\((bx_ G=none/\e = .returned (.tuple #[.slice none 0 0,.int .i64 22])) \/
   ∃T s,bx_ G=some T/\e = .returned (.tuple #[s,.int .i64 0])/\B_ 41 18 TrR w' (λb=>w.heap.size<=b/\b<w'.heap.size) T s)))
def tq_ (v:h_):Prop:=-9223372036854775808<=v.num/\v.num<=9223372036854775807
def Ct_ (g:y_):Prop:=∀n,n∈g.nodes->∀p,p∈n.props->tq_ p.v
theorem zr_ {g a:y_} (h:Ct_ g) (d:g4_ g a):Ct_ a:=by obtain⟨⟨m,h1,h2,_⟩,_⟩:=d;intro n b p e;obtain⟨x,c,f⟩:=fa_ h1 h2 b;exact h x c p (f.2.2.1.mem_iff.1 e)
theorem ym_ {g G:y_} (a:Ct_ g) (h:jj_ g G):Ct_ G:=by obtain⟨_,h1,h2⟩:=jk_ h;exact zr_ (zr_ a h1) h2
theorem Cu_ {n:i_} (h:(bw_ n).2=true):(bw_ n).1=ko_ n/\(ko_ n).kind≠0/\(ko_ n).kind≠5/\I_ (ko_ n) 0=true:=by
 unfold bw_ at h ⊢;split at h
 ·split at h
  ·cases h
  ·rename_i h1 h2;rw[if_pos h1,if_neg h2];simp only[not_or]at h2;exact⟨rfl,h2.1,h2.2.1,by simpa using h2.2.2⟩
 ·cases h
theorem d7_ (k:Int) (t x:ByteArray):tq_ (.mk k false 0 t x []):=⟨by show (-9223372036854775808:Int)<=0;decide,by show (0:Int)<=9223372036854775807;decide⟩
theorem G5_ {s:ByteArray} {p:h_} {r:List C_} (h:tq_ p):tq_ (m8_ s p r):=by
 unfold m8_;split
 ·exact d7_ ..
 ·split
  ·exact d7_ ..
  ·split
   ·exact d7_ ..
   ·split
    ·exact h
    ·exact d7_ ..
theorem Jm_ {n:i_} (a:qi_ n) (b:∀p,p∈n.props->tq_ p.v):OkV (ko_ n):=by
 obtain⟨d,L,P⟩:=n;have hz:OkV hw_:=⟨by decide,by decide,by decide⟩;unfold ko_;simp only;match L,P,a,b with
 | [s],p::r,a,b=>
  have h1:=G5_ (s:=s) (r:=r) (b p List.mem_cons_self);have h2:=wf_ (s:=s) (a.2.2.2 p List.mem_cons_self).2 (λq c=>(a.2.2.2 q (List.mem_cons_of_mem _ c)).2);exact⟨Nat.le_trans h2 (by decide),h1.1,h1.2⟩
 | [],_,_,_=>exact hz
 | [s],[],_,_=>exact hz
 | _::_::_,_,_,_=>exact hz
theorem Jn_ {n:i_} (h:(bw_ n).2=true) (d:qi_ n) (c:∀p,p∈n.props->tq_ p.v):OkV (bw_ n).1/\Bs_ (bw_ n).1:=by obtain⟨e,h0,b,f⟩:=Cu_ h;have a:=Jm_ d c;rw[e];exact⟨a,⟨rq_ f b,a.fit,b⟩⟩
theorem G6_:OkV hw_/\Bs_ hw_:=⟨⟨by decide,by decide,by decide⟩,⟨rfl,⟨by decide,by decide,by decide⟩,by decide⟩⟩
theorem r1_ {a:List i_} (h:∀n,n∈a->(bw_ n).2=true/\qi_ n/\∀p,p∈n.props->tq_ p.v) (i:Int):OkV (b8_ a i)/\Bs_ (b8_ a i):=by
 unfold b8_;split
 ·rename_i n e;have:=h n (List.mem_of_find?_eq_some e);exact Jn_ this.1 this.2.1 this.2.2
 ·exact G6_
theorem Jo_ {t:ByteArray} (h:t.size<=2000000):OkV (m5_ t)/\Bs_ (m5_ t):=by have h0:(⟨#[]⟩:ByteArray).size=0:=rfl;have a:OkV (m5_ t):=⟨by unfold m5_;simp only[T_,ab_,h0];omega,by show (-9223372036854775808:Int)<=0;decide,by show (0:Int)<=9223372036854775807;decide⟩;exact⟨a,⟨rfl,a.fit,by show (8:Int)≠5;decide⟩⟩
theorem wh_ {a:List i_} (h:∀n,n∈a->(bw_ n).2=true/\qi_ n/\∀p,p∈n.props->tq_ p.v) {e:m_} (c:e.type.size<=2000000):OkT (d6_ a e)/\I7_ (d6_ a e):=by
 have h1:=r1_ h e.src;have h2:=r1_ h e.dst;have b:=Jo_ c;refine⟨⟨h1.1,b.1,h2.1⟩,λn=>?_⟩;unfold d_.get;split
 ·exact h1.2
 ·split
  ·exact b.2
  ·exact h2.2
end
end Go.Proofs.YtefhfadjajcmkaaGreatDoor
