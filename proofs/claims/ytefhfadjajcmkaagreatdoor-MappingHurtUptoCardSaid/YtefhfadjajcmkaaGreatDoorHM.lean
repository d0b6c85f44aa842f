/- Plain: the triples of a graph that is theirs, as the program tells them; values that nodes stand for. -/
import Derived.Test.YtefhfadjajcmkaaGreatDoorHL
set_option linter.unusedVariables false
set_option linter.unusedSimpArgs false
namespace Go.Proofs.YtefhfadjajcmkaaGreatDoor
open Go.Lib (cell_of_heap)
section
open Go Go.RowKit Go.Maps Go.WideMaps Go.MapKept
set_option maxRecDepth 100000 in
set_option maxHeartbeats 8000000 in
theorem wc_ (g:u_) (bg:f4_ g) (F:Nat->Prop) (u:Value) (w:World) (hF:∀b,F b->b<w.heap.size) (hg:GrR w F g u) (dz:M_ w) :
    Calls Tryz.prog 32 #[u] w (rm_ g w):=by
 have fq:=@run_makeMap Tryz.prog;obtain⟨NV,EV,rfl,⟨AN,cN,rfl,fb,ds⟩,AE,cE,rfl,fk,em⟩:=hg;have HF:=q_ hF;have HG:=q_ dz;have bf:=q_ bg;have ee:=q_ ds;have el:=q_ em;have e0:=bg.1;have ek:=bg.2.1;obtain⟨nN,au⟩:=a_ g.nodes.length;obtain⟨nE,am⟩:=a_ g.edges.length;rw[au.o]at ee e0 ⊢;rw[am.o]at el ek ⊢;clear hF dz bg ds em fb fk;obtain⟨z,HZ⟩:=a_ w.heap.size;have ci:=q_ (show ch_ g=(decide (nN<=131072/\nE<=65536)&&(ah_ okN i_.id [] g.nodes&&ah_ (okE (g.nodes.map i_.id)) l_.id [] g.edges)) from by rw[<-au.o,<-am.o];rfl);by_cases j:nN<=131072/\nE<=65536
 ·have e1:decide ((131072:Int)<nN)=false:=decide_eq_false (by omega);have e2:decide ((65536:Int)<nE)=false:=decide_eq_false (by omega);rw[decide_eq_true j]at ci;have e0:nN<=131072:=j.1;have ek:nE<=65536:=j.2;clear j;go_enter Tryz.func32,Tryz.ntmps32
  go_wp2_with fail;rw[HZ.o];simp only[Nat.add_assoc,Nat.reduceAdd];obtain⟨w6,dh⟩:=a_ ((((((w.alloc (.cells #[.slice AN nN cN,.slice AE nE cE] 54)).alloc (.map #[] 0)).alloc (.map #[] 0)).alloc (.map #[] 0)).alloc (.cells #[.slice none 0 0,.slice none 0 0,.map (some (z+1)),.map (some (z+2)),.map (some (z+3))] 143)).alloc (.map #[] 0))
  have f4:=q_ (show gl_ w z (.slice AN nN cN) (.slice AE nE cE) g.nodes [] 0 [] (.slice none 0 0) w6 from by
   have hz:=HZ.o;have hh:=Ir_ w (.cells #[.slice AN nN cN,.slice AE nE cE] 54) (.map #[] 0) (.map #[] 0) (.map #[] 0) (.cells #[.slice none 0 0,.slice none 0 0,.map (some (z+1)),.map (some (z+2)),.map (some (z+3))] 143) (.map #[] 0);rw[dh.o]at hh;refine⟨?_,?_,?_,?_,?_,?_,?_,x_.nil ..,bw_.nil _,rfl⟩
   ·rw[<-dh.o];exact ((((((Below.refl _ _).alloc (by omega) _).alloc (by simp;omega) _).alloc (by simp;omega) _).alloc (by simp;omega) _).alloc (by simp;omega) _).alloc (by simp;omega) _
   ·rw[hh];exact ht_ (i:=0) hz rfl
   ·rw[hh];exact ht_ (i:=1) hz rfl
   ·rw[hh];exact ht_ (i:=2) hz rfl
   ·rw[hh];exact ht_ (i:=3) hz rfl
   ·rw[hh];exact ht_ (i:=4) hz rfl
   ·exact⟨.map [],⟨#[],0,by rw[hh];exact ht_ (i:=5) hz rfl,⟨by simp,stamped_empty 0,by simp⟩,Nat.le_refl _,rfl⟩,λ_ _=>rfl⟩)
  rw[dh.o];go_loopw [36] (λd6 wr=>∃(k:Nat) (ns:List i_) (Ns:Value),k<=nN/\d6 = .int .i64 (k:Nat)/\Q_ (gl_ w z (.slice AN nN cN) (.slice AE nE cE) g.nodes ((g.nodes.take k).map i_.id) k ns Ns wr)) (λd6 _=>nN-(intOf d6).toNat)
  case atStart=>exact⟨0,[],_,by omega,rfl,f4⟩
  case round=>
   obtain⟨k,ns,Ns,hk,rfl,y⟩:=hrel;by_cases ao:k<nN
   ·obtain⟨x,m⟩:∃x,g.nodes[k]?=some x:=⟨g.nodes[k]'(by rw[au.o];exact ao),List.getElem?_eq_getElem _⟩;have HX:=q_ m;have G:=q_ (bf.o.2.2.1 x (List.mem_of_getElem? m));have av:=q_ (λ(h:okN ((g.nodes.take k).map i_.id) x=false)=>Ky_ (to_ (key:=i_.id) m h));have c8:=q_ (λ(h:okN ((g.nodes.take k).map i_.id) x=true)=>v4_ m h y.o.ok);have ab:=q_ (show z+5<wr.heap.size from y.o.set.lt);have T:=q_ (λ(b:Nat) (hb:F b)=>show b<z from by rw[<-HZ.o];exact HF.o b hb);obtain⟨ad,A1,c1,A2,c2,rfl,b5,cl,cm,a6,d0,d1,d2⟩:=ns_ (ee.o.under NoR.good y.o.below T.o) m;have L:=q_ cl;have dw:=q_ cm;have bt:=q_ a6;clear m b5 cl cm a6;obtain⟨id,f⟩:=a_ x.id;obtain⟨m1,b7⟩:=a_ x.labels.length;obtain⟨U,a5⟩:=a_ x.props.length;rw[b7.o]at dw d1 L;rw[a5.o]at bt d2 L;rw[f.o]at d0 L;have fp:m1<=2000000:=by rw[<-b7.o];exact G.o.1.1
    have ff:U<=2000000:=by rw[<-a5.o];exact G.o.1.2.1
    obtain⟨a,l⟩:=a_ wr.heap.size;rw[l.o]at ab;obtain⟨w2,J⟩:=a_ (((wr.alloc (.cells #[.int .i64 id,.slice A1 m1 c1,.slice A2 U c2] 72)).alloc (.map #[] 0)).alloc (.cells #[.map (some (a+1))] 147));have bb:=q_ (show Below wr.heap.size wr w2 from by rw[<-J.o];exact od_ wr _ _ _);have ba:=B3_ wr (.cells #[.int .i64 id,.slice A1 m1 c1,.slice A2 U c2] 72) (.map #[] 0) (.cells #[.map (some (a+1))] 147);rw[J.o]at ba;have b6:=q_ (show w2.heap[a]?=some (.cells #[.int .i64 id,.slice A1 m1 c1,.slice A2 U c2] 72 (0,0)) from by rw[ba];exact ht_ (i:=0) l.o rfl);have ex:=q_ (show w2.heap[a+1]?=some (.map #[] 0) from by rw[ba];exact ht_ (i:=1) l.o rfl);have br:=q_ (show w2.heap[a+2]?=some (.cells #[.map (some (a+1))] 147 (0,0)) from by rw[ba];exact ht_ (i:=2) l.o rfl);have cq:=q_ (show w2.heap.size=a+3 from by rw[ba,<-l.o];simp);clear ba;have d7:=q_ (Bw_ x.labels (λs hs=>by have:=G.o.1.2.2.1 s hs;unfold VS maxLen;omega) ⟨a+2,0,none⟩ (a+1) F A1 m1 c1 w2 (λb hb=>by have:=T.o b hb;have:=cq.o;have:=ab.o;omega) (dw.o.under TxR.good bb.o (λb hb=>by have:=T.o b hb;have:=l.o;have:=ab.o;omega)) (by omega) (cell_of_heap br.o 0) (by show a+2<_/\a+2≠_;rw[cq.o];omega) (Is_ ex.o));unfold x6_ at d7;obtain⟨lb,cx⟩:=a_ (a2_ [] x.labels);rw[cx.o]at d7;have b1:w2.cell? ⟨a,1,none⟩=some (.slice A1 m1 c1):=cell_of_heap b6.o 1;have e1:(0:Int)<=k:=by omega
    have e2:(k:Int)<nN:=by omega
    go_upto_region 9 with fail;rw[l.o];simp only[Nat.add_assoc,Nat.reduceAdd];rw[J.o];go_wp2_with fail;refine d7.o.mono ?_;rintro e w3 ⟨rfl,N⟩;have e9:=q_ (bb.o.trans (N.below (B:=wr.heap.size) (λi _ hi=>by rw[hi,l.o];omega) bb.o.size));have q:=q_ (y.o.on e9.o);have bz:=q_ ((N.block a (by rw[cq.o];omega) (by omega)).trans b6.o);have c0:w3.cell? ⟨a,0,none⟩=some (.int .i64 id):=cell_of_heap bz.o 0;have ch:=q_ (zf_ (z+5) ((g.nodes.take k).map i_.id) id (by rw[<-f.o];exact G.o.2) (by simp;omega) w3 q.o.set);obtain⟨ib,a8⟩:=a_ (inB ((g.nodes.take k).map i_.id) id);obtain⟨pb,ac⟩:=a_ (ak_ x.props);have HN:=q_ (show (decide (0<=id)&&(!ib&&(lb&&(decide (m1<=65536)&&pb))))=false->ch_ g=false from λh=>av.o (by unfold okN;rw[f.o,a8.o,cx.o,b7.o,ac.o];exact h));have HY:=q_ (show (decide (0<=id)&&(!ib&&(lb&&(decide (m1<=65536)&&pb))))=true->ah_ okN i_.id [] (g.nodes.take (k+1))=true from λh=>c8.o (by unfold okN;rw[f.o,a8.o,cx.o,b7.o,ac.o];exact h));clear N b1 d0 d1 d2;by_cases a1:id<0
    ·have q1:decide (id<0)=true:=decide_eq_true a1;have R:=q_ (HN.o (by rw[decide_eq_false (by omega)];rfl));clear a1;go_wp2_with fail;go_ret2;exact⟨by rw[HZ.o];exact q.o.below,.inl ⟨R.o,rfl⟩⟩
    ·have q1:decide (id<0)=false:=decide_eq_false a1;rw[decide_eq_true (show 0<=id by omega)]at HN HY;clear a1;go_wp2_with fail;refine ch.o.mono ?_;rintro e w4 ⟨rfl,ay,t⟩;rw[a8.o];have b3:=q_ t;have et:=q_ ay;have cp:=q_ (show Below z w w4 from q.o.below.trans (t.below (B:=z) (λi _ hi=>by omega) (by have:=q.o.set.lt;omega)));clear t ay
     cases ib with
     | true=>
      have R:=q_ (HN.o rfl);go_wp2_with fail;go_ret2;exact⟨by rw[HZ.o];exact cp.o,.inl ⟨R.o,rfl⟩⟩
     | false=>
      cases lb with
      | false=>
       have R:=q_ (HN.o rfl);go_wp2_with fail;go_ret2;exact⟨by rw[HZ.o];exact cp.o,.inl ⟨R.o,rfl⟩⟩
      | true=>
       have fl:w3.heap.size<=w4.heap.size:=b3.o.size;have a3:=q_ ((b3.o.block a (b_ bz.o) (by have:=ab.o;omega)).trans bz.o);have k1:w4.cell? ⟨a,1,none⟩=some (.slice A1 m1 c1):=cell_of_heap a3.o 1;have k2:w4.cell? ⟨a,2,none⟩=some (.slice A2 U c2):=cell_of_heap a3.o 2;by_cases bh:m1<=65536
       ·have q2:decide ((65536:Int)<m1)=false:=decide_eq_false (by omega);rw[decide_eq_true bh]at HN HY;have bl:=q_ (show Below z wr w4 from (e9.o.mono (by have:=l.o;have:=ab.o;omega)).trans (b3.o.below (B:=z) (λi _ hi=>by omega) (by have:=q.o.set.lt;omega)));have bs:=q_ (rj_ x.props G.o.1.2.2.2 G.o.1.2.1 F A2 U c2 w4 (λb hb=>by have:=T.o b hb;have:=q.o.set.lt;omega) (bt.o.under PaR.good bl.o (λb hb=>T.o b hb)) (Gc_ HG.o HZ.o cp.o));rw[ac.o]at bs;clear bh;go_wp2_with fail;refine bs.o.mono ?_;rintro e w5 ⟨rfl,P⟩;have d:=q_ ((q.o.put b3.o et.o).on P);have r:=q_ ((P.block a (b_ a3.o)).trans a3.o);have af:=q_ (bl.o.trans (P.mono (by have:=q.o.set.lt;omega)));clear P
        cases pb with
        | false=>
         have R:=q_ (HN.o rfl);go_wp2_with fail;go_ret2;exact⟨by rw[HZ.o];exact d.o.below,.inl ⟨R.o,rfl⟩⟩
        | true=>
         have dd:=q_ (HY.o rfl);have j:ns.length=k:=by rw[<-d.o.all.1,List.length_take,au.o];omega
         have ce:=q_ j;obtain⟨A3,c3,h3⟩:=d.o.own.form;rw[j]at h3;subst h3;have cv:=q_ (vy_ x G.o.1 (gm_ ac.o) F _ w5.drew (λb hb=>by have:=T.o b hb;have:=d.o.set.lt;show b<w5.heap.size;omega) (NoR.good.keep L.o (w':=w5.drew) (λp hp=>af.o.cell (T.o _ hp))));obtain⟨cs,a4,ar,aj,hr⟩:=d.o.own;rw[j]at a4 ar;have bx:=q_ a4;have ak:=q_ (show ∀b,(Value.slice A3 k c3).ownBlock=some b->z+6<=b/\b<w5.heap.size from aj);have aa:=q_ (And.intro ar hr);have g0:w5.drew.cell? ⟨z+4,0,none⟩=some (.slice A3 k c3):=cell_of_heap d.o.store 0;have n0:w5.drew.cell? ⟨a,0,none⟩=some (.int .i64 id):=cell_of_heap r.o 0;have n1:w5.drew.cell? ⟨a,1,none⟩=some (.slice A1 m1 c1):=cell_of_heap r.o 1;have n2:w5.drew.cell? ⟨a,2,none⟩=some (.slice A2 U c2):=cell_of_heap r.o 2;clear j a4 ar aj hr k1 k2 c0;obtain⟨i0,dl,c9,c4,cg⟩:=info_parts pk_;go_upto_region 12 with fail;go_region_law (first | (refine step_append_lies _ rfl _ _ 51 rfl 0 72 i0 (.agg #[.int .i64 0,.slice none 0 0,.slice none 0 0]) 3 56 Tryz.underlying51 dl c9 c4 cg rfl (by decide) (.slice A3 k c3) k (I_ cs k) rfl (by exact bk.o.alloc _) ⟨w6.heap.size,0,none⟩ 1 1 [.int .i64 id,.slice A6 q6 c6,.slice B6 r6 I] rfl rfl (World.news_of_block (cs:=#[.int .i64 id,.slice A6 q6 c6,.slice B6 r6 I]) (by exact NB.o)) cb.o (by omega) (by unfold maxLen;omega) (by omega) (Nat.zero_le _) (w6.heap.size+1) (by exact dg.o) (λg7 c7 w7 bo X bp _=>?_);have dm:=q_ bo;have bn:=q_ (show w6.grownBy w7 (Value.slice A3 k c3).ownBlock from aa_ (w:=w6) (o:=.cells #[.int .i64 id,.slice A6 q6 c6,.slice B6 r6 I] 72) ⟨X.os,X.tape,X.output,X.size,X.block⟩);have cu:=q_ (show (Value.slice A3 k c3).ownBlock=some g7\/g7=w6.heap.size+1 from bp);have bu:=q_ ((bn.o.block (z+4) (by have:=ap.o;omega) (λe=>by have:=ak.o (z+4) e.symm;omega)).trans aw.o);have f7:w7.frozen? ⟨z+4,0,none⟩=false:=Lib.frozen_of_heap bu.o 0;have f9:w7.cell? ⟨z+4,0,none⟩=some (.slice A3 k c3):=cell_of_heap bu.o 0;clear bo X bp) | (go_simp;go_at_call 91;(with_reducible refine cv.o.mono ?_);rintro e w6 ⟨cc,n',rfl,C,v,ah⟩;have b4:=q_ ah;obtain⟨L6,P6,rfl,⟨A6,c6,rfl,_,_⟩,B6,I,rfl,_,_⟩:=ah;obtain⟨q6,fi⟩:=a_ n'.labels.length;obtain⟨r6,df⟩:=a_ n'.props.length;rw[fi.o,df.o]at b4 ⊢;rw[v.1,f.o]at b4 ⊢;have dq:=q_ C;have b2:=q_ v;have ap:=q_ (show z+5<w6.heap.size from by have h1:w5.heap.size<=w6.heap.size:=C.size;have:=d.o.set.lt;omega);have bk:=q_ ((Turn.of_below C).owns bx.o (λg hg h=>by have:=ak.o g hg;have h2:w5.heap.size<=g:=h;omega));have aw:=q_ ((C.block (z+4) (by show z+4<w5.heap.size;have:=d.o.set.lt;omega)).trans d.o.store);have dn:w6.cell? ⟨z+4,0,none⟩=some (.slice A3 k c3):=cell_of_heap aw.o 0;have fh:(w6.alloc (.cells #[.int .i64 id,.slice A6 q6 c6,.slice B6 r6 I] 72)).cell? ⟨z+4,0,none⟩=some (.slice A3 k c3):=(World.cell?_alloc_lt w6 _ _ (by show z+4<_;have:=ap.o;omega)).trans dn;have cb:=q_ (show ∀u∈([.int .i64 id,.slice A6 q6 c6,.slice B6 r6 I]:List Value),u.oneCell'=true from λu hu=>by simp at hu;rcases hu with rfl | rfl | rfl<;>rfl);have NB:=q_ (heap_alloc_new w6 (.cells #[.int .i64 id,.slice A6 q6 c6,.slice B6 r6 I] 72));have dg:=q_ (show (w6.alloc (.cells #[.int .i64 id,.slice A6 q6 c6,.slice B6 r6 I] 72)).heap.size=w6.heap.size+1 by simp);clear C v))
         all_goals (
          have w1:IntKind.i64.wrap ((k:Int)+1)=(k:Int)+1:=IntWalk.i64_in _ (by omega);go_wp2_with fail;go_roundw)
         all_goals first
          | (case measure=>simp[intOf];omega)
          | (case rel=>
              refine⟨k+1,ns++[n'],.slice (some ⟨g7,0,none⟩) (k+1) c7,by omega,by go_num,q_ ?_⟩;have h:=gl_.more d.o ce.o ak.o aa.o.1 aa.o.2 HX.o (bd_ dq.o) b2.o b4.o rfl bn.o cu.o dm.o dd.o;have e1:f2_ ((g.nodes.take k).map i_.id) id=(g.nodes.take (k+1)).map i_.id:=by unfold f2_;rw[a8.o,if_neg (by decide),f_ HX.o,List.map_append,<-f.o];rfl
              rw[e1]at h;exact h)
       ·have q2:decide ((65536:Int)<m1)=true:=decide_eq_true (by omega);have R:=q_ (HN.o (by rw[decide_eq_false bh];rfl));clear bh;go_wp2_with fail;go_ret2;exact⟨by rw[HZ.o];exact cp.o,.inl ⟨R.o,rfl⟩⟩
   ·have a7:k=nN:=by omega
    have d5:=q_ (show g.nodes.take k=g.nodes from List.take_of_length_le (by rw[au.o,a7];exact Nat.le_refl _));have E:=y.o;have d9:=q_ (show ah_ okN i_.id [] g.nodes=true from by have h:=E.ok;rw[d5.o]at h;exact h);have bm:=q_ (show bw_ kc_ g.nodes ns from by have h:=E.all;rw[d5.o]at h;exact h);rw[d5.o]at E;have de:=q_ ((E.on ((Below.refl wr.heap.size wr).alloc (Nat.le_refl _) (.map #[] 0))).box);have cj:=q_ (E.next g.edges);have fj:=q_ E.set.lt;obtain⟨z2,dx⟩:=a_ wr.heap.size;obtain⟨wa,e7⟩:=a_ (wr.alloc (.map #[] 0));rw[dx.o]at cj fj;rw[e7.o]at cj de;have b1:wa.cell? ⟨z,1,none⟩=some (.slice AE nE cE):=cell_of_heap de.o 1;clear E;subst a7;go_upto_region 15 with fail;rw[dx.o,e7.o];go_wp2_with fail;clear b1;go_loopw [86] (λcy wx=>∃(k:Nat) (es:List l_) (Es:Value),k<=nE/\cy = .int .i64 (k:Nat)/\Q_ (gn_ w z z2 (g.nodes.map i_.id) ns Ns g.edges ((g.edges.take k).map l_.id) k es Es wx)) (λcy _=>nE-(intOf cy).toNat)
    case atStart=>exact⟨0,[],_,by omega,rfl,cj⟩
    case round=>
     clear cj de y;obtain⟨k,es,Es,hk,rfl,y⟩:=hrel;by_cases ao:k<nE
     ·obtain⟨x,m⟩:∃x,g.edges[k]?=some x:=⟨g.edges[k]'(by rw[am.o];exact ao),List.getElem?_eq_getElem _⟩;have HX:=q_ m;have G:=q_ (bf.o.2.2.2 x (List.mem_of_getElem? m));have av:=q_ (λ(h:okE (g.nodes.map i_.id) ((g.edges.take k).map l_.id) x=false)=>It_ (to_ (key:=l_.id) m h));have c8:=q_ (λ(h:okE (g.nodes.map i_.id) ((g.edges.take k).map l_.id) x=true)=>v4_ m h y.o.ok);have Z:=q_ y.o.far;have ab:=q_ (show z2<wr.heap.size from y.o.set.lt);have T:=q_ (λ(b:Nat) (hb:F b)=>show b<z from by rw[<-HZ.o];exact HF.o b hb);obtain⟨fn,A2,c2,rfl,b5,cn,a6,d0,d1,d2,d3,d4⟩:=nt_ (el.o.under EdR.good y.o.below T.o) m;have L:=q_ cn;have bt:=q_ a6;clear m b5 cn a6;obtain⟨id,f⟩:=a_ x.id;obtain⟨src,Y⟩:=a_ x.src;obtain⟨dst,a0⟩:=a_ x.dst;obtain⟨D,ae⟩:=a_ x.type;obtain⟨U,a5⟩:=a_ x.props.length;rw[a5.o]at bt d4 L;rw[f.o]at d0 L;rw[Y.o]at d1 L;rw[a0.o]at d2 L;rw[ae.o]at d3 L;have ff:U<=2000000:=by rw[<-a5.o];exact G.o.1.2.1
      obtain⟨a,l⟩:=a_ wr.heap.size;rw[l.o]at ab;obtain⟨w2,J⟩:=a_ (wr.alloc (.cells #[.int .i64 id,.int .i64 src,.int .i64 dst,.string D,.slice A2 U c2] 74));have bb:=q_ (show Below wr.heap.size wr w2 from by rw[<-J.o];exact (Below.refl _ _).alloc (Nat.le_refl _) _);have b6:=q_ (show w2.heap[a]?=some (.cells #[.int .i64 id,.int .i64 src,.int .i64 dst,.string D,.slice A2 U c2] 74 (0,0)) from by rw[<-J.o,<-l.o];exact heap_alloc_new wr _);have q:=q_ (y.o.on bb.o);have c0:w2.cell? ⟨a,0,none⟩=some (.int .i64 id):=cell_of_heap b6.o 0;have e1:(0:Int)<=k:=by omega
      have e2:(k:Int)<nE:=by omega
      have ch:=q_ (zf_ z2 ((g.edges.take k).map l_.id) id (by rw[<-f.o];exact G.o.2.1) (by simp;omega) w2 q.o.set);have f8:=q_ (λ(W:World) (h:a5_ 2 VI ix_ W (z+5) (g.nodes.map i_.id))=>ti_ (z+5) (g.nodes.map i_.id) src (by rw[<-Y.o];exact G.o.2.2.1) W h);have fg:=q_ (λ(W:World) (h:a5_ 2 VI ix_ W (z+5) (g.nodes.map i_.id))=>ti_ (z+5) (g.nodes.map i_.id) dst (by rw[<-a0.o];exact G.o.2.2.2) W h);have ea:=q_ (λW=>tf_ D W);obtain⟨ib,a8⟩:=a_ (inB ((g.edges.take k).map l_.id) id);obtain⟨sb,d8⟩:=a_ (inB (g.nodes.map i_.id) src);obtain⟨db,da⟩:=a_ (inB (g.nodes.map i_.id) dst);obtain⟨tb,dj⟩:=a_ (am_ D);obtain⟨pb,ac⟩:=a_ (ak_ x.props);rw[dj.o]at ea;have HN:=q_ (show (decide (0<=id)&&(!ib&&(sb&&(db&&(tb&&pb)))))=false->ch_ g=false from λh=>av.o (by unfold okE;rw[f.o,Y.o,a0.o,ae.o,a8.o,d8.o,da.o,dj.o,ac.o];exact h));have HY:=q_ (show (decide (0<=id)&&(!ib&&(sb&&(db&&(tb&&pb)))))=true->ah_ (okE (g.nodes.map i_.id)) l_.id [] (g.edges.take (k+1))=true from λh=>c8.o (by unfold okE;rw[f.o,Y.o,a0.o,ae.o,a8.o,d8.o,da.o,dj.o,ac.o];exact h));go_upto_region 18 with fail;rw[l.o,J.o];clear d0 d1 d2 d3 d4;by_cases a1:id<0
      ·have q1:decide (id<0)=true:=decide_eq_true a1;have R:=q_ (HN.o (by rw[decide_eq_false (by omega)];rfl));clear a1;go_wp2_with fail;go_ret2;exact⟨by rw[HZ.o];exact q.o.below,.inl ⟨R.o,rfl⟩⟩
      ·have q1:decide (id<0)=false:=decide_eq_false a1;rw[decide_eq_true (show 0<=id by omega)]at HN HY;clear a1;go_wp2_with fail;refine ch.o.mono ?_;rintro e w4 ⟨rfl,ay,t⟩;rw[a8.o];have a9:=q_ (q.o.put t ay);have a3:=q_ ((t.block a (b_ b6.o) (by have:=ab.o;omega)).trans b6.o);have bl:=q_ (show Below z wr w4 from (bb.o.mono (by have:=l.o;have:=ab.o;have:=Z.o;omega)).trans (t.below (B:=z) (λi _ hi=>by have:=Z.o;omega) (by have:=q.o.set.lt;have:=Z.o;omega)));clear t ay c0
       cases ib with
       | true=>
        have R:=q_ (HN.o rfl);go_wp2_with fail;go_ret2;exact⟨by rw[HZ.o];exact a9.o.below,.inl ⟨R.o,rfl⟩⟩
       | false=>
        have k1:w4.cell? ⟨a,1,none⟩=some (.int .i64 src):=cell_of_heap a3.o 1;go_wp2_with fail;refine (f8.o _ a9.o.nset).mono ?_;rintro e w5 ⟨rfl,P⟩;rw[d8.o];have d:=q_ (a9.o.on P);have r:=q_ ((P.block a (b_ a3.o)).trans a3.o);have af:=q_ (bl.o.trans (P.mono (by have:=a9.o.set.lt;have:=Z.o;omega)));clear P k1
        cases sb with
        | false=>
         have R:=q_ (HN.o rfl);go_wp2_with fail;go_ret2;exact⟨by rw[HZ.o];exact d.o.below,.inl ⟨R.o,rfl⟩⟩
        | true=>
         have k2:w5.cell? ⟨a,2,none⟩=some (.int .i64 dst):=cell_of_heap r.o 2;go_wp2_with fail;refine (fg.o _ d.o.nset).mono ?_;rintro e w6 ⟨rfl,C⟩;rw[da.o];have O:=q_ (d.o.on C);have bi:=q_ ((C.block a (b_ r.o)).trans r.o);have dc:=q_ (af.o.trans (C.mono (by have:=d.o.set.lt;have:=Z.o;omega)));clear C k2
         cases db with
         | false=>
          have R:=q_ (HN.o rfl);go_wp2_with fail;go_ret2;exact⟨by rw[HZ.o];exact O.o.below,.inl ⟨R.o,rfl⟩⟩
         | true=>
          have k3:w6.cell? ⟨a,3,none⟩=some (.string D):=cell_of_heap bi.o 3;have k4:w6.cell? ⟨a,4,none⟩=some (.slice A2 U c2):=cell_of_heap bi.o 4;go_wp2_with fail;refine (ea.o _).mono ?_;rintro e fc ⟨rfl,ez⟩;subst ez
          cases tb with
          | false=>
           have R:=q_ (HN.o rfl);go_wp2_with fail;go_ret2;exact⟨by rw[HZ.o];exact O.o.below,.inl ⟨R.o,rfl⟩⟩
          | true=>
           have bs:=q_ (rj_ x.props G.o.1.2.2 G.o.1.2.1 F A2 U c2 fc (λb hb=>by have:=T.o b hb;have:=O.o.set.lt;have:=Z.o;omega) (bt.o.under PaR.good dc.o (λb hb=>T.o b hb)) (Gc_ HG.o HZ.o O.o.below));rw[ac.o]at bs;go_wp2_with fail;refine bs.o.mono ?_;rintro e w5 ⟨rfl,P⟩;clear d r af;have d:=q_ (O.o.on P);have r:=q_ ((P.block a (b_ bi.o)).trans bi.o);have af:=q_ (dc.o.trans (P.mono (by have:=O.o.set.lt;have:=Z.o;omega)));clear P k3 k4
           cases pb with
           | false=>
            have R:=q_ (HN.o rfl);go_wp2_with fail;go_ret2;exact⟨by rw[HZ.o];exact d.o.below,.inl ⟨R.o,rfl⟩⟩
           | true=>
            have dd:=q_ (HY.o rfl);have j:es.length=k:=by rw[<-d.o.all.1,List.length_take,am.o];omega
            have ce:=q_ j;obtain⟨A3,c3,h3⟩:=d.o.own.form;rw[j]at h3;subst h3;have cv:=q_ (vz_ x G.o.1 (gm_ ac.o) F _ w5.drew (λb hb=>by have:=T.o b hb;have:=d.o.set.lt;have:=Z.o;show b<w5.heap.size;omega) (EdR.good.keep L.o (w':=w5.drew) (λp hp=>af.o.cell (T.o _ hp))));obtain⟨cs,a4,ar,aj,hr⟩:=d.o.own;rw[j]at a4 ar;have bx:=q_ a4;have ak:=q_ (show ∀b,(Value.slice A3 k c3).ownBlock=some b->z2+1<=b/\b<w5.heap.size from aj);have aa:=q_ (And.intro ar hr);have fm:z+6<=z2:=Z.o;have g0:w5.drew.cell? ⟨z+4,1,none⟩=some (.slice A3 k c3):=cell_of_heap d.o.store 1;have n0:w5.drew.cell? ⟨a,0,none⟩=some (.int .i64 id):=cell_of_heap r.o 0;have n1:w5.drew.cell? ⟨a,1,none⟩=some (.int .i64 src):=cell_of_heap r.o 1;have n2:w5.drew.cell? ⟨a,2,none⟩=some (.int .i64 dst):=cell_of_heap r.o 2;have n3:w5.drew.cell? ⟨a,3,none⟩=some (.string D):=cell_of_heap r.o 3;have n4:w5.drew.cell? ⟨a,4,none⟩=some (.slice A2 U c2):=cell_of_heap r.o 4;clear j a4 ar aj hr;obtain⟨i0,dl,c9,c4,cg⟩:=info_parts pl_;go_upto_region 20 with fail;go_region_law (first | (refine step_append_lies _ rfl _ _ 52 rfl 0 74 i0 (.agg #[.int .i64 0,.int .i64 0,.int .i64 0,.string ⟨#[]⟩,.slice none 0 0]) 5 64 Tryz.underlying52 dl c9 c4 cg rfl (by decide) (.slice A3 k c3) k (I_ cs k) rfl (by exact bk.o.alloc _) ⟨w6.heap.size,0,none⟩ 1 1 [.int .i64 id,.int .i64 src,.int .i64 dst,.string D,.slice B6 r6 I] rfl rfl (World.news_of_block (cs:=#[.int .i64 id,.int .i64 src,.int .i64 dst,.string D,.slice B6 r6 I]) (by exact NB.o)) cb.o (by omega) (by unfold maxLen;omega) (by omega) (Nat.zero_le _) (w6.heap.size+1) (by exact dg.o) (λg7 c7 w7 bo X bp _=>?_);have dm:=q_ bo;have bn:=q_ (show w6.grownBy w7 (Value.slice A3 k c3).ownBlock from aa_ (w:=w6) (o:=.cells #[.int .i64 id,.int .i64 src,.int .i64 dst,.string D,.slice B6 r6 I] 74) ⟨X.os,X.tape,X.output,X.size,X.block⟩);have cu:=q_ (show (Value.slice A3 k c3).ownBlock=some g7\/g7=w6.heap.size+1 from bp);have bu:=q_ ((bn.o.block (z+4) (by have:=ap.o;omega) (λe=>by have:=ak.o (z+4) e.symm;omega)).trans aw.o);have f7:w7.frozen? ⟨z+4,1,none⟩=false:=Lib.frozen_of_heap bu.o 1;have f9:w7.cell? ⟨z+4,1,none⟩=some (.slice A3 k c3):=cell_of_heap bu.o 1;clear bo X bp) | (go_simp;go_at_call 93;(with_reducible refine cv.o.mono ?_);rintro e w6 ⟨cc,n',rfl,C,v,ah⟩;have b4:=q_ ah;obtain⟨P6,rfl,B6,I,rfl,_,_⟩:=ah;obtain⟨r6,df⟩:=a_ n'.props.length;rw[df.o]at b4 ⊢;rw[v.1,v.2.1,v.2.2.1,v.2.2.2.1,f.o,Y.o,a0.o,ae.o]at b4 ⊢;have dq:=q_ C;have b2:=q_ v;have ap:=q_ (show z2<w6.heap.size from by have h1:w5.heap.size<=w6.heap.size:=C.size;have:=d.o.set.lt;omega);have bk:=q_ ((Turn.of_below C).owns bx.o (λg hg h=>by have:=ak.o g hg;have h2:w5.heap.size<=g:=h;omega));have aw:=q_ ((C.block (z+4) (by show z+4<w5.heap.size;have:=d.o.set.lt;omega)).trans d.o.store);have dn:w6.cell? ⟨z+4,1,none⟩=some (.slice A3 k c3):=cell_of_heap aw.o 1;have fh:(w6.alloc (.cells #[.int .i64 id,.int .i64 src,.int .i64 dst,.string D,.slice B6 r6 I] 74)).cell? ⟨z+4,1,none⟩=some (.slice A3 k c3):=(World.cell?_alloc_lt w6 _ _ (by show z+4<_;have:=ap.o;omega)).trans dn;have cb:=q_ (show ∀u∈([.int .i64 id,.int .i64 src,.int .i64 dst,.string D,.slice B6 r6 I]:List Value),u.oneCell'=true from λu hu=>by simp at hu;rcases hu with rfl | rfl | rfl | rfl | rfl<;>rfl);have NB:=q_ (heap_alloc_new w6 (.cells #[.int .i64 id,.int .i64 src,.int .i64 dst,.string D,.slice B6 r6 I] 74));have dg:=q_ (show (w6.alloc (.cells #[.int .i64 id,.int .i64 src,.int .i64 dst,.string D,.slice B6 r6 I] 74)).heap.size=w6.heap.size+1 by simp);clear C v))
            all_goals (
             have w1:IntKind.i64.wrap ((k:Int)+1)=(k:Int)+1:=IntWalk.i64_in _ (by omega);go_wp2_with fail;go_roundw)
            all_goals first
             | (case measure=>simp[intOf];omega)
             | (case rel=>
                 refine⟨k+1,es++[n'],.slice (some ⟨g7,0,none⟩) (k+1) c7,by omega,by go_num,q_ ?_⟩;have h:=gn_.more d.o ce.o ak.o aa.o.1 aa.o.2 HX.o (bd_ dq.o) b2.o b4.o rfl bn.o cu.o dm.o dd.o;have e1:f2_ ((g.edges.take k).map l_.id) id=(g.edges.take (k+1)).map l_.id:=by unfold f2_;rw[a8.o,if_neg (by decide),f_ HX.o,List.map_append,<-f.o];rfl
                 rw[e1]at h;exact h)
     ·have a7:k=nE:=by omega
      have cd:=q_ (show g.edges.take k=g.edges from List.take_of_length_le (by rw[am.o,a7];exact Nat.le_refl _));have E:=y.o;have ct:=q_ (show ah_ (okE (g.nodes.map i_.id)) l_.id [] g.edges=true from by have h:=E.ok;rw[cd.o]at h;exact h);have bd:=q_ (show bw_ kd_ g.edges es from by have h:=E.all;rw[cd.o]at h;exact h);rw[cd.o]at E;have aq:=q_ E;have ew:ns.length<=100000000:=by rw[<-bm.o.1,au.o];omega
      have eu:es.length<=100000000:=by rw[<-bd.o.1,am.o];omega
      have v:=q_ (tp_ E.nodes ew (λb hb=>by have:=E.set.lt;omega));have f2:wr.cell? ⟨z+4,0,none⟩=some Ns:=cell_of_heap E.store 0;clear E y;subst a7;go_upto_region 22 with fail;go_wp2_with fail;refine v.o.mono ?_;rintro e w4 ⟨rfl,S,ai,en,t⟩;have ck:=q_ ai;have dr:=q_ en;have b3:=q_ t;have av:=q_ (show ∀b,Ns.ownBlock=some b->z+6<=b/\b<z2 from λb hb=>by obtain⟨cs,_,_,aj,_⟩:=aq.o.nodes;exact aj b hb);have f6:w4.cell? ⟨z+4,1,none⟩=some Es:=cell_of_heap ((t.block (z+4) (by have:=aq.o.set.lt;have:=aq.o.far;omega) (λm=>by have:=(av.o _ m).1;omega)).trans aq.o.store) 1;have cw:=q_ (B6_ ((aq.o.own.turn EdR.good t (λb hb=>hb.2) (λb hb m=>by have:=(av.o _ m).2;omega)).mono EdR.good (F':=λb=>z2+1<=b/\b<w4.heap.size) (λb hb=>⟨hb.1,Nat.lt_of_lt_of_le hb.2 t.size⟩)) eu (λb hb=>hb.2));clear ai en t f2 v;go_wp2_with fail;refine cw.o.mono ?_;rintro e w5 ⟨rfl,M,ai,ei,b9⟩;have ed:=q_ ai;have bw:=q_ (aq.o.next dr.o b3.o ei b9);have e8:=q_ (B7_ bf.o d9.o bm.o ck.o.1);have eg:=q_ (B8_ bf.o ct.o bd.o ai.1);have fd:S.length<=131072:=by rw[ck.o.1.length_eq,<-bm.o.1,au.o];omega
      have fa:M.length<=65536:=by rw[ai.1.length_eq,<-bd.o.1,am.o];omega
      clear ai ei b9 f6 cw;obtain⟨n5,bq⟩:=a_ S.length;obtain⟨n6,ag⟩:=a_ M.length;rw[bq.o]at fd;rw[ag.o]at fa;obtain⟨a2,er⟩:=a_ w5.heap.size;rw[er.o]at bw;obtain⟨A5,c5,f0⟩:∃A5 c5,Ns = .slice A5 n5 c5:=by obtain⟨A,c,h,_⟩:=dr.o;exact⟨A,c,by rw[h,bq.o]⟩
      obtain⟨A6,c6,f3⟩:∃A6 c6,Es = .slice A6 n6 c6:=by obtain⟨A,c,h,_⟩:=bw.o.edges;exact⟨A,c,by rw[h,ag.o]⟩
      subst f0 f3;have f1:w5.cell? ⟨z+4,0,none⟩=some (.slice A5 n5 c5):=cell_of_heap bw.o.store 0;clear aq av b3 dr;go_wp2_with fail;clear f1;go_loopw [153] (λcf wx=>∃k:Nat,k<=n5/\cf = .int .i64 (k:Nat)/\Q_ (dz_ w z a2 S M (.slice A5 n5 c5) (.slice A6 n6 c6) ((S.take k).map i_.id) [] 0 (er_ []) wx)) (λcf _=>n5-(intOf cf).toNat)
      case atStart=>exact⟨0,by omega,rfl,bw⟩
      case round=>
       clear bw;obtain⟨k,hk,rfl,y⟩:=hrel;by_cases ao:k<n5
       ·obtain⟨x,m⟩:∃x,S[k]?=some x:=⟨S[k]'(by rw[bq.o];exact ao),List.getElem?_eq_getElem _⟩;have HX:=q_ m;obtain⟨ad,A1,d1,A2,d2,rfl,b5,cl,cm,a6,q0,q1,q2⟩:=ns_ y.o.nodes.rd m;clear b5 cl cm a6;obtain⟨id,f⟩:=a_ x.id;obtain⟨m1,b7⟩:=a_ x.labels.length;obtain⟨U,a5⟩:=a_ x.props.length;rw[f.o]at q0;rw[b7.o]at q1;rw[a5.o]at q2;obtain⟨a,l⟩:=a_ wr.heap.size;obtain⟨w2,J⟩:=a_ (wr.alloc (.cells #[.int .i64 id,.slice A1 m1 d1,.slice A2 U d2] 72));have V:=q_ (y.o.on (w2:=w2.drew) (by rw[<-J.o];exact ((Below.refl _ _).alloc (Nat.le_refl _) _).drew));have b0:w2.drew.cell? ⟨a,0,none⟩=some (.int .i64 id):=cell_of_heap (w:=w2.drew) (show w2.heap[a]?=some (.cells #[.int .i64 id,.slice A1 m1 d1,.slice A2 U d2] 72 (0,0)) from by rw[<-J.o,<-l.o];exact heap_alloc_new wr _) 0;have g4:w2.drew.cell? ⟨z+4,4,none⟩=some (.map (some (z+3))):=cell_of_heap V.o.store 4;obtain⟨w3,bc,az,N⟩:=V.o.at_.more (x:=id) (by rw[<-f.o];exact e8.o.2 x (List.mem_of_getElem? m)) (by rw[<-f.o];exact pm_ e8.o.1 m) (by simp;omega);rw[show ((S.take k).map i_.id).length=k by rw[List.length_map,List.length_take,bq.o];omega]at bc;have q:=q_ (V.o.upd (ids':=(S.take (k+1)).map i_.id) N (λb hb=>.inl ⟨by omega,by omega⟩) (by rw[f_ m,List.map_append];show as_ w3 (z+3) (_++[x.id]);rw[f.o];exact az) (V.o.types.turn N (λh=>by omega)) (V.o.hops.turn N (λh=>by omega) (λb hb h=>by have:=V.o.loc.1;omega)));clear az N m;have e1:(0:Int)<=k:=by omega
        have e2:(k:Int)<n5:=by omega
        have w1:IntKind.i64.wrap ((k:Int)+1)=(k:Int)+1:=IntWalk.i64_in _ (by omega);go_upto_region 27 with fail;rw[l.o,J.o];go_region
        all_goals (go_wp2_with fail;go_roundw)
        all_goals first
         | (case measure=>simp[intOf];omega)
         | (case rel=>exact⟨k+1,by omega,by go_num,q⟩)
       ·have a7:n5=k:=by omega
        have cr:=q_ (show dz_ w z a2 S M (.slice A5 n5 c5) (.slice A6 n6 c6) (S.map i_.id) [] 0 (er_ []) wr from by have h:=y.o;rw[List.take_of_length_le (by rw[bq.o];omega)]at h;exact h);clear y;subst a7;have ey:wr.cell? ⟨z+4,1,none⟩=some (.slice A6 n6 c6):=cell_of_heap cr.o.store 1;go_upto_region 29 with fail;go_wp2_with fail;clear ey;go_loopw [171] (λca wx=>∃(k n:Nat),k<=n6/\n<=4*k/\ca = .int .i64 (k:Nat)/\Q_ (dz_ w z a2 S M (.slice A5 n5 c5) (.slice A6 n6 c6) (S.map i_.id) ((M.take k).map l_.id) n (er_ (M.take k)) wx)) (λca _=>n6-(intOf ca).toNat)
        case atStart=>exact⟨0,0,by omega,by omega,rfl,cr⟩
        case round=>
         clear cr;obtain⟨k,n,hk,fo,rfl,y⟩:=hrel;by_cases ao:k<n6
         ·obtain⟨x,m⟩:∃x,M[k]?=some x:=⟨M[k]'(by rw[ag.o];exact ao),List.getElem?_eq_getElem _⟩;have HX:=q_ m;obtain⟨dp,co,di⟩:=eg.o.2 x (List.mem_of_getElem? m);obtain⟨ad,A2,d2,rfl,b5,cn,a6,q0,q1,q2,q3,q4⟩:=nt_ y.o.edges.rd m;clear b5 cn a6;obtain⟨id,f⟩:=a_ x.id;obtain⟨src,Y⟩:=a_ x.src;obtain⟨dst,a0⟩:=a_ x.dst;obtain⟨D,ae⟩:=a_ x.type;obtain⟨U,a5⟩:=a_ x.props.length;rw[f.o]at q0 dp;rw[Y.o]at q1 co;rw[a0.o]at q2 di;rw[ae.o]at q3;rw[a5.o]at q4;have fe:=q_ co;have dt:=q_ di;obtain⟨a,l⟩:=a_ wr.heap.size;obtain⟨w2,J⟩:=a_ (wr.alloc (.cells #[.int .i64 id,.int .i64 src,.int .i64 dst,.string D,.slice A2 U d2] 74));have V:=q_ (y.o.on (w2:=w2.drew) (by rw[<-J.o];exact ((Below.refl _ _).alloc (Nat.le_refl _) _).drew));have br:=q_ (show w2.drew.heap[a]?=some (.cells #[.int .i64 id,.int .i64 src,.int .i64 dst,.string D,.slice A2 U d2] 74 (0,0)) from by rw[<-J.o,<-l.o];exact heap_alloc_new wr _);have b0:w2.drew.cell? ⟨a,0,none⟩=some (.int .i64 id):=cell_of_heap br.o 0;have g3:w2.drew.cell? ⟨z+4,3,none⟩=some (.map (some (z+2))):=cell_of_heap V.o.store 3;have bj:=q_ (show z+6<=a2/\a2<=a from by rw[<-l.o];exact y.o.loc);obtain⟨w3,bc,az,N⟩:=V.o.types.more (x:=id) dp (by rw[<-f.o];exact pm_ eg.o.1 m) (by simp;omega);rw[show ((M.take k).map l_.id).length=k by rw[List.length_map,List.length_take,ag.o];omega]at bc;have q:=q_ (V.o.upd (eids':=(M.take (k+1)).map l_.id) N (λb hb=>.inl ⟨by omega,by omega⟩) (V.o.at_.turn N (λh=>by omega)) (by rw[f_ m,List.map_append];show as_ w3 (z+2) (_++[x.id]);rw[f.o];exact az) (V.o.hops.turn N (λh=>by omega) (λb hb h=>by have:=V.o.loc.1;omega)));have eo:=q_ ((N.block a (b_ br.o) (by have:=bj.o;omega)).trans br.o);have n1:w3.cell? ⟨a,1,none⟩=some (.int .i64 src):=cell_of_heap eo.o 1;have ep:=q_ (jf_ (z+4) a2 (z+1) n (er_ (M.take k)) src 1 k _ _ _ _ w3 q.o.store q.o.hops co vi1 (by omega) (by omega) q.o.loc.2);clear az N m dp co di;have e1:(0:Int)<=k:=by omega
          have e2:(k:Int)<n6:=by omega
          have w1:IntKind.i64.wrap ((k:Int)+1)=(k:Int)+1:=IntWalk.i64_in _ (by omega);go_upto_region 32 with fail;rw[l.o,J.o];clear q0 q1 q2 q3 q4;go_region
          all_goals go_wp2_with fail
          all_goals refine ep.o.mono ?_
          all_goals rintro e w4 ⟨rfl,e6,t⟩
          all_goals (
           have a9:=q_ (q.o.spoke e6 t);have ej:=q_ (pn_ eo.o (by have:=bj.o;omega) t);have n2:w4.cell? ⟨a,2,none⟩=some (.int .i64 dst):=cell_of_heap ej.o 2;have ec:=q_ (jf_ (z+4) a2 (z+1) (n+1) _ dst (-1) k _ _ _ _ w4 a9.o.store a9.o.hops dt.o vim (by omega) (by omega) a9.o.loc.2);clear e6 t n1 ep;go_wp2_with fail;refine ec.o.mono ?_;rintro e w5 ⟨rfl,dy,b9⟩;have d:=q_ (a9.o.spoke dy b9);have dv:=q_ (pn_ ej.o (by have:=bj.o;omega) b9);have n3:w5.cell? ⟨a,1,none⟩=some (.int .i64 src):=cell_of_heap dv.o 1;have du:=q_ (jf_ (z+4) a2 (z+1) (n+1+1) _ src 0 k _ _ _ _ w5 d.o.store d.o.hops fe.o vi0 (by omega) (by omega) d.o.loc.2);clear dy b9 n2 ec;go_wp2_with fail;refine du.o.mono ?_;rintro e w6 ⟨rfl,eq,dk⟩;have O:=q_ (d.o.spoke eq dk);have e3:=q_ (pn_ dv.o (by have:=bj.o;omega) dk);have n4:w6.cell? ⟨a,1,none⟩=some (.int .i64 src):=cell_of_heap e3.o 1;have f5:w6.cell? ⟨a,2,none⟩=some (.int .i64 dst):=cell_of_heap e3.o 2;clear eq dk n3 du;by_cases b8:dst=src
           ·have q5:(dst != src)=false:=by rw[b8];exact bne_self_eq_false src
            have cz:=q_ (show dz_ w z a2 S M (.slice A5 n5 c5) (.slice (some ad) n6 c6) (S.map i_.id) ((M.take (k+1)).map l_.id) (n+1+1+1) (er_ (M.take (k+1))) w6 from by rw[f_ HX.o,rn_,Y.o,a0.o,if_pos b8,List.length_take,ag.o,Nat.min_eq_left hk,<-f_ HX.o];exact O.o);clear b8 O;go_wp2_with fail;exact⟨⟨k+1,n+1+1+1,by omega,by omega,by go_num,cz⟩,by simp[intOf];omega⟩
           ·have q5:(dst != src)=true:=bne_iff_ne.2 b8;have e5:=q_ (jf_ (z+4) a2 (z+1) (n+1+1+1) _ dst 0 k _ _ _ _ w6 O.o.store O.o.hops dt.o vi0 (by omega) (by omega) O.o.loc.2);go_wp2_with fail;refine e5.o.mono ?_;rintro e w7 ⟨rfl,e4,ef⟩;have cz:=q_ (show dz_ w z a2 S M (.slice A5 n5 c5) (.slice (some ad) n6 c6) (S.map i_.id) ((M.take (k+1)).map l_.id) (n+1+1+1+1) (er_ (M.take (k+1))) w7 from by rw[f_ HX.o,rn_,Y.o,a0.o,if_neg b8,List.length_take,ag.o,Nat.min_eq_left hk,<-f_ HX.o];exact O.o.spoke e4 ef);clear b8 O e4 ef n4 f5 e5;go_wp2_with fail;exact⟨⟨k+1,n+1+1+1+1,by omega,by omega,by go_num,cz⟩,by simp[intOf];omega⟩)
         ·have a7:n6=k:=by omega
          have eh:=q_ (show dz_ w z a2 S M (.slice A5 n5 c5) (.slice A6 n6 c6) (S.map i_.id) (M.map l_.id) n (er_ M) wr from by have h:=y.o;rw[List.take_of_length_le (by rw[ag.o];omega)]at h;exact h);clear y;subst a7;have ev:=q_ (show ch_ g=true from by rw[ci.o,d9.o,ct.o];rfl);have b2:=q_ (show hs_ g ⟨S,M⟩ from ⟨⟨ns,bm.o,ck.o.1,ck.o.2⟩,⟨es,bd.o,ed.o.1,ed.o.2⟩⟩);go_upto_region 39 with fail;go_wp2_with fail;go_ret2;exact⟨by rw[HZ.o];exact eh.o.below,.inr ⟨ev.o,z+4,⟨S,M⟩,rfl,by rw[HZ.o];exact eh.o.done (by omega),b2.o⟩⟩
 ·have eb:=q_ (show ch_ g=false from by rw[ci.o,decide_eq_false j];rfl);have HB:=q_ (show Below w.heap.size w (w.alloc (.cells #[.slice AN nN cN,.slice AE nE cE] 54)) from (Below.refl _ _).alloc (Nat.le_refl _) _);by_cases h1:nN<=131072
  ·have e1:decide ((131072:Int)<nN)=false:=decide_eq_false (by omega);have e2:decide ((65536:Int)<nE)=true:=decide_eq_true (by omega);clear j h1;go_enter Tryz.func32,Tryz.ntmps32
   go_wp2_with fail;go_ret2;exact⟨HB.o,.inl ⟨eb.o,rfl⟩⟩
  ·have e1:decide ((131072:Int)<nN)=true:=decide_eq_true (by omega);clear j h1;go_enter Tryz.func32,Tryz.ntmps32
   go_wp2_with fail;go_ret2;exact⟨HB.o,.inl ⟨eb.o,rfl⟩⟩
end
section
open Go Go.RowKit Go.Maps Go.WideMaps
theorem Cf_ {K:Type} [DecidableEq K] {ks:List K} {k:K} (h:k∈ks):ks[place ks k]?=some k:=by unfold place;have a:=List.idxOf_lt_length_of_mem h;rw[List.getElem?_eq_getElem a,List.getElem_idxOf]
theorem as_.look {w:World} {m:Nat} {b:List Int} (h:as_ w m b) {x:Int} (e:VI x) :
    ∃q:Int,(Instr.lookup 141 (.map (some m)) (.int .i64 x) true).run Tryz.prog w = .ok (.tuple #[.int .i64 q,.bool (inB b x)]) w/\(x∈b->∃i:Nat,q=i/\b[i]?=some x):=by
 obtain⟨D,h1,_,j⟩:=h;obtain⟨v,o,c,k⟩:=h1.look_ok tg_ Tryz.underlying141 (z:=.int .i64 0) (by kernel_rfl) (zd:=.lit (.int .i64 0)) (zp:=[]) (plainElem_int Tryz.underlying3 (by decide)) (keyOf_int_mk Tryz.underlying2 e);obtain⟨a,rfl,hz,_⟩:=plainElem_int_inv Tryz.underlying3 k;injection hz with hz _;obtain⟨g,n⟩:=j x e;refine⟨a,?_,λd=>⟨place b x,?_,Cf_ d⟩⟩
 ·rw[c];show _=Result.ok (Value.tuple #[_,.bool (decide (x∈b))]) w;rw[<-g];rfl
 ·have l:=n d;have f:(DataW.lit (.int .i64 a):DataW Unit) = .lit (.int .i64 ((place b x:Nat):Int)):=hz.symm.trans l;exact (Lit.int.inj (DataW.lit.inj f)).2
end
section
open Go Go.RowKit
theorem yf_ {l:List C_}:∀{ks:List ByteArray},a1_ ks l=true->(∀p,p∈l->am_ p.key=true/\p.key∉ks)/\(∀p q,p∈l->q∈l->p.key=q.key->p=q):=by
 induction l with
 | nil=>intro ks _;exact⟨λp a=>(List.not_mem_nil a).elim,λp q a=>(List.not_mem_nil a).elim⟩
 | cons x r o=>
  intro ks h;simp only[a1_,Bool.and_eq_true]at h;obtain⟨⟨h1,i,t⟩,m⟩:=h;obtain⟨c,s⟩:=o m;have n:x.key∉ks:=λf=>by rw[gi_ f]at i;cases i
  constructor
  ·intro p a;rcases List.mem_cons.1 a with rfl | a
   ·exact⟨h1,n⟩
   ·exact⟨(c p a).1,λf=>(c p a).2 (List.mem_append_left _ f)⟩
  ·intro p q a k e;rcases List.mem_cons.1 a with j | d
   ·rcases List.mem_cons.1 k with g | b
    ·rw[j,g]
    ·exact absurd (List.mem_append_right ks (List.mem_singleton.2 (by rw[<-e,j]))) (c q b).2
   ·rcases List.mem_cons.1 k with g | b
    ·exact absurd (List.mem_append_right ks (List.mem_singleton.2 (by rw[e,g]))) (c p d).2
    ·exact s p q d b e
theorem hw_ {l:List C_} (h:ak_ l=true):(∀p,p∈l->am_ p.key=true)/\(∀p q,p∈l->q∈l->p.key=q.key->p=q):=by unfold ak_ at h;rw[Bool.and_eq_true]at h;have:=yf_ h.1;exact⟨λp a=>(this.1 p a).1,this.2⟩
theorem Cg_ {f : Type} {key:f -> Int} {l:List f} (c:(l.map key).Nodup) {x y:f} (h:x∈l) (j:y∈l) (e:key x=key y):x=y:=by
 induction l with
 | nil=>cases h
 | cons a r k=>
  rw[List.map_cons,List.nodup_cons]at c;rcases List.mem_cons.1 h with i | d
  ·rcases List.mem_cons.1 j with g | b
   ·rw[i,g]
   ·exact absurd (List.mem_map.2 ⟨y,b,by rw[<-e,i]⟩) c.1
  ·rcases List.mem_cons.1 j with g | b
   ·exact absurd (List.mem_map.2 ⟨x,d,by rw[e,g]⟩) c.1
   ·exact k c.2 d b
theorem hd_ {g:u_} (a:ch_ g=true):ah_ okN i_.id [] g.nodes=true/\ah_ (okE (g.nodes.map i_.id)) l_.id [] g.edges=true:=by unfold ch_ at a;rw[Bool.and_eq_true,Bool.and_eq_true]at a;exact a.2
theorem pr_ {g:u_} (a:ch_ g=true) {n:i_} (b:n∈g.nodes):ak_ n.props=true/\(a2_ [] n.labels=true/\n.labels.length<=65536):=by obtain⟨i,hi⟩:=List.mem_iff_getElem?.1 b;have h:=v5_ (hd_ a).1 hi;unfold okN at h;simp only[Bool.and_eq_true]at h;exact⟨h.2.2.2.2,h.2.2.1,of_decide_eq_true h.2.2.2.1⟩
theorem ps_ {g:u_} (a:ch_ g=true) {e:l_} (b:e∈g.edges):ak_ e.props=true:=by obtain⟨i,hi⟩:=List.mem_iff_getElem?.1 b;have h:=v5_ (hd_ a).2 hi;unfold okE at h;simp only[Bool.and_eq_true]at h;exact h.2.2.2.2.2
theorem pt_ {g:u_} (a:ch_ g=true):(g.nodes.map i_.id).Nodup:=hu_ (λ_ _ h=>zh_ h) List.nodup_nil (hd_ a).1
theorem yg_ {g:u_} (a:ch_ g=true):(g.edges.map l_.id).Nodup:=hu_ (λ_ _ h=>zi_ h) List.nodup_nil (hd_ a).2
theorem et_ {b a : Type} {R:b -> a -> Prop} {l:List b} {m c:List a} (h:bw_ R l m) (e:c.Perm m) {y:a} (d:y∈c):∃x,x∈l/\R x y:=h.mem (e.mem_iff.1 d)
theorem pu_ {a b : Type} {R:a -> b -> Prop} {l:List a} {m d:List b} (h:bw_ R l m) (g:d.Perm m) {x:a} (e:x∈l):∃y,y∈d/\R x y:=by
 obtain⟨i,hi⟩:=List.mem_iff_getElem?.1 e;have f:i<m.length:=by rw[<-h.1];exact b8_ hi
 have c:=List.getElem?_eq_getElem f;exact⟨_,g.mem_iff.2 (List.mem_of_getElem? c),h.2 i x _ hi c⟩
theorem I0_ {g b:u_} (a:f4_ g) (d:hs_ g b):b.nodes.length<=2000000/\b.edges.length<=2000000:=by obtain⟨⟨m,h1,e,_⟩,⟨h,f,c,_⟩⟩:=d;exact⟨by rw[e.length_eq,<-h1.1];exact a.1,by rw[c.length_eq,<-f.1];exact a.2.1⟩
theorem jh_ {a b:ByteArray} (h1:¬h8_ a b<0) (c:¬h8_ b a<0):a=b:=by rw[lc_]at h1 c;have d:a.data.toList=b.data.toList:=List.le_antisymm (List.not_lt.1 c) (List.not_lt.1 h1);exact ByteArray.ext (Array.toList_inj.1 d)
theorem Ch_ {l c:List ByteArray} (e:l.Pairwise (λa b=>¬h8_ b a<0)) (h:F2_ l c):c=l:=
 List.Perm.eq_of_pairwise (le:=λa b=>¬h8_ b a<0) (λ_ _ _ _ h1 d=>jh_ d h1) h.2 e h.1
theorem rs_ {l c:List C_} (g:∀p q,p∈l->q∈l->p.key=q.key->p=q) (d:l.Pairwise (λa b=>¬h8_ b.key a.key<0)) (h:yb_ l c):c=l:=
 List.Perm.eq_of_pairwise (le:=λa b=>¬h8_ b.key a.key<0) (λa b f hb h1 e=>g a b (h.1.mem_iff.1 f) hb (jh_ e h1)) h.2 d h.1
theorem Ci_ {a b:Int} (h1:¬dy_ a b<0) (c:¬dy_ b a<0):a=b:=by rw[le_]at h1 c;omega
theorem rt_ {d : Type} {key:d -> Int} {l c:List d} (j:(l.map key).Nodup) (f:l.Pairwise (λa b=>¬dy_ (key b) (key a)<0)) (e:c.Perm l) (h:c.Pairwise (λa b=>¬dy_ (key b) (key a)<0)):c=l:=
 List.Perm.eq_of_pairwise (le:=λa b=>¬dy_ (key b) (key a)<0) (λ_ _ i hb h1 g=>Cg_ j (e.mem_iff.1 i) hb (Ci_ g h1)) h f e
theorem zl_ {b : Type} {R:b -> b -> Prop} {l m:List b} (h:bw_ R l m) (d:∀x y,x∈l->R x y->y=x):m=l:=by
 apply List.ext_getElem?;intro i
 cases hx:l[i]? with
 | none=>
  have a:m[i]?=none:=by rw[List.getElem?_eq_none_iff]at hx ⊢;rw[<-h.1];exact hx
  exact a
 | some x=>
  have c:i<m.length:=by rw[<-h.1];exact b8_ hx
  have a:=List.getElem?_eq_getElem c;rw[a,d x _ (List.mem_of_getElem? hx) (h.2 i x _ hx a)]
theorem qk_ {g d:u_} (o:ch_ g=true) (s:hs_ g d) {n a:i_} (v:n∈d.nodes) (h:kc_ n a):a=n:=by obtain⟨⟨m,h1,u,_⟩,_⟩:=s;obtain⟨x,r,b⟩:=et_ h1 u v;have l:n.props.Perm x.props:=b.2.2.1;have f:=Ch_ b.2.1.2 h.2.1;have j:=rs_ (λp q c k e=>(hw_ (pr_ o r).1).2 p q (l.mem_iff.1 c) (l.mem_iff.1 k) e) b.2.2.2 h.2.2;obtain⟨i,L,P⟩:=n;obtain⟨y,z,A⟩:=a;have t:y=i:=h.1;subst t;simp only at f j;rw[f,j]
theorem ql_ {g k:u_} (z:ch_ g=true) (u:hs_ g k) {n a:l_} (r:n∈k.edges) (h:kd_ n a):a=n:=by obtain⟨_,⟨m,h1,F,_⟩⟩:=u;obtain⟨x,E,l⟩:=et_ h1 F r;have c:n.props.Perm x.props:=l.2.2.2.2.1;have b:=rs_ (λp q j f e=>(hw_ (ps_ z E)).2 p q (c.mem_iff.1 j) (c.mem_iff.1 f) e) l.2.2.2.2.2 h.2.2.2.2;obtain⟨i,s,d,t,P⟩:=n;obtain⟨y,A,C,B,I⟩:=a;have v:y=i:=h.1;have G:A=s:=h.2.1;have D:C=d:=h.2.2.1;have o:B=t:=h.2.2.2.1;subst v G D o;simp only at b;rw[b]
theorem yh_ {g a:u_} (d:ch_ g=true) (f:hs_ g a) {h:List i_} {e:List l_} (h1:bw_ kc_ a.nodes h) (i:bw_ kd_ a.edges e):(⟨h,e⟩:u_)=a:=by rw[zl_ h1 (λx y b c=>qk_ d f b c),zl_ i (λx y b c=>ql_ d f b c)]
theorem du_ {d K:Type} [DecidableEq K] {f:List K -> d -> Bool} {key:d -> K} {c:d -> Prop} (g:∀ks x,f ks x=true↔(key x∉ks/\c x)) {l:List d}:∀{ks:List K},ah_ f key ks l=true↔((∀x,x∈l->c x/\key x∉ks)/\(l.map key).Nodup):=by
 induction l with
 | nil=>intro ks;simp[ah_]
 | cons x r j=>
  intro ks;simp only[ah_,Bool.and_eq_true,g,j,List.map_cons,List.nodup_cons,List.mem_cons,List.mem_append,List.mem_map];constructor
  ·rintro⟨⟨h1,e⟩,b,i⟩;refine⟨λy a=>?_,fun⟨y,a,he⟩=>?_,i⟩
   ·rcases a with rfl | a
    ·exact⟨e,h1⟩
    ·exact⟨(b y a).1,λh=>(b y a).2 (.inl h)⟩
   ·exact (b y a).2 (.inr (.inl he))
  ·rintro⟨h1,e,b⟩;refine⟨⟨(h1 x (.inl rfl)).2,(h1 x (.inl rfl)).1⟩,λy a=>⟨(h1 y (.inr a)).1,λh=>?_⟩,b⟩;rcases h with h | h
   ·exact (h1 y (.inr a)).2 h
   ·rcases h with h | h
    ·exact e ⟨y,a,h⟩
    ·cases h
theorem ru_ {a K:Type} [DecidableEq K] {b:List K -> a -> Bool} {key:a -> K} {c:a -> Prop} (e:∀ks x,b ks x=true↔(key x∉ks/\c x)) {l m:List a} (d:m.Perm l) (h:ah_ b key [] l=true):ah_ b key [] m=true:=by rw[du_ e]at h ⊢;exact⟨λx f=>h.1 x (d.mem_iff.1 f),((d.map key).nodup_iff).2 h.2⟩
theorem Cj_ (l:List ByteArray):∀ks,a2_ ks l=ah_ (λks s=>am_ s && !inB ks s) (λs=>s) ks l:=by
 induction l with
 | nil=>intro ks;rfl
 | cons x r a=>intro ks;simp only[a2_,ah_,a]
theorem pv_ (l:List C_):∀ks,a1_ ks l=ah_ (λks p=>am_ p.key&&(!inB ks p.key&&a0_ p.v)) C_.key ks l:=by
 induction l with
 | nil=>intro ks;rfl
 | cons x r a=>intro ks;simp only[a1_,ah_,a]
theorem nv_ {K:Type} [DecidableEq K] {ks:List K} {x:K}:(!inB ks x)=true↔x∉ks:=by unfold inB;simp
theorem Ck_ {l m:List ByteArray} (a:m.Perm l) (h:a2_ [] l=true):a2_ [] m=true:=by rw[Cj_]at h ⊢;refine ru_ (c:=λs=>am_ s=true) (λks s=>?_) a h;rw[Bool.and_eq_true,nv_];exact⟨λh=>⟨h.2,h.1⟩,λh=>⟨h.2,h.1⟩⟩
theorem pw_ {l m:List C_} (a:m.Perm l) (h:ak_ l=true):ak_ m=true:=by unfold ak_ at h ⊢;rw[Bool.and_eq_true]at h ⊢;refine⟨?_,by rw[a.length_eq];exact h.2⟩;rw[pv_]at ⊢;have h1:=h.1;rw[pv_]at h1;refine ru_ (c:=λp=>am_ p.key=true/\a0_ p.v=true) (λks p=>?_) a h1;rw[Bool.and_eq_true,Bool.and_eq_true,nv_];exact⟨λh=>⟨h.2.1,h.1,h.2.2⟩,λh=>⟨h.2.1,h.1,h.2.2⟩⟩
theorem nw_ (ks:List Int) (n:i_):okN ks n=true↔(n.id∉ks/\(0<=n.id/\a2_ [] n.labels=true/\n.labels.length<=65536/\ak_ n.props=true)):=by unfold okN;rw[Bool.and_eq_true,Bool.and_eq_true,Bool.and_eq_true,Bool.and_eq_true,nv_,decide_eq_true_iff,decide_eq_true_iff];exact⟨λh=>⟨h.2.1,h.1,h.2.2.1,h.2.2.2.1,h.2.2.2.2⟩,λh=>⟨h.2.1,h.1,h.2.2.1,h.2.2.2.1,h.2.2.2.2⟩⟩
theorem nx_ (a ks:List Int) (e:l_):okE a ks e=true↔(e.id∉ks/\(0<=e.id/\e.src∈a/\e.dst∈a/\am_ e.type=true/\ak_ e.props=true)):=by
 unfold okE;rw[Bool.and_eq_true,Bool.and_eq_true,Bool.and_eq_true,Bool.and_eq_true,Bool.and_eq_true,nv_,decide_eq_true_iff];have h1:inB a e.src=true↔e.src∈a:=by unfold inB;simp
 have b:inB a e.dst=true↔e.dst∈a:=by unfold inB;simp
 rw[h1,b];exact⟨λh=>⟨h.2.1,h.1,h.2.2.1,h.2.2.2.1,h.2.2.2.2.1,h.2.2.2.2.2⟩,λh=>⟨h.2.1,h.1,h.2.2.1,h.2.2.2.1,h.2.2.2.2.1,h.2.2.2.2.2⟩⟩
theorem ny_ {g o:u_} (e:ch_ g=true) (u:hs_ g o):ch_ o=true:=by
 obtain⟨q,l⟩:=hd_ e;have b:g.nodes.length<=131072/\g.edges.length<=65536:=by unfold ch_ at e;rw[Bool.and_eq_true]at e;exact of_decide_eq_true e.1
 obtain⟨⟨m,h1,j,_⟩,⟨z,t,n,_⟩⟩:=u;rw[du_ nw_]at q;rw[du_ (nx_ _)]at l
 have k:∀i,i∈g.nodes.map i_.id->i∈o.nodes.map i_.id:=λi hi=>by
  obtain⟨x,c,rfl⟩:=List.mem_map.1 hi;obtain⟨y,d,a⟩:=pu_ h1 j c;exact List.mem_map.2 ⟨y,d,a.1⟩
 unfold ch_;rw[Bool.and_eq_true,Bool.and_eq_true,du_ nw_,du_ (nx_ _),decide_eq_true_iff];refine⟨⟨by rw[j.length_eq,<-h1.1];exact b.1,by rw[n.length_eq,<-t.1];exact b.2⟩,⟨λy d=>?_,?_⟩,λy d=>?_,?_⟩
 ·obtain⟨x,c,a⟩:=et_ h1 j d;obtain⟨p,s,r,c4⟩:=(q.1 x c).1;exact⟨⟨by rw[a.1];exact p,Ck_ a.2.1.1 s,by rw[a.2.1.1.length_eq];exact r,pw_ a.2.2.1 c4⟩,List.not_mem_nil⟩
 ·refine lg_ j ?_;rw[lf_ (R:=kc_) (f:=i_.id) (g:=i_.id) (λx y h=>h.1) h1];exact q.2
 ·obtain⟨x,c,a⟩:=et_ t n d;obtain⟨p,s,r,c4,v⟩:=(l.1 x c).1;exact⟨⟨by rw[a.1];exact p,by rw[a.2.1];exact k _ s,by rw[a.2.2.1];exact k _ r,by rw[a.2.2.2.1];exact c4,pw_ a.2.2.2.2.1 v⟩,List.not_mem_nil⟩
 ·refine lg_ n ?_;rw[lf_ (R:=kd_) (f:=l_.id) (g:=l_.id) (λx y h=>h.1) t];exact l.2
theorem Gi_ {l a b:List ByteArray} (h1:F2_ l a) (c:F2_ l b):a=b:=
 List.Perm.eq_of_pairwise (le:=λa b=>¬h8_ b a<0) (λ_ _ _ _ h1 c=>jh_ c h1) h1.2 c.2 (h1.1.trans c.1.symm)
theorem wd_ {l a b:List C_} (h:∀p q,p∈l->q∈l->p.key=q.key->p=q) (h1:yb_ l a) (c:yb_ l b):a=b:=
 List.Perm.eq_of_pairwise (le:=λa b=>¬h8_ b.key a.key<0) (λx y d g e f=>h x y (h1.1.mem_iff.1 d) (c.1.mem_iff.1 g) (jh_ f e)) h1.2 c.2 (h1.1.trans c.1.symm)
theorem rv_ {e f : Type} {R:e -> f -> Prop} {l:List e} {a b:List f} (h1:bw_ R l a) (d:bw_ R l b) (h:∀x y z,x∈l->R x y->R x z->y=z):a=b:=by
 apply List.ext_getElem?;intro i;rcases Nat.lt_or_ge i l.length with hi | hi
 ·have c:=List.getElem?_eq_getElem hi;have g:=List.getElem?_eq_getElem (show i<a.length by rw[<-h1.1];exact hi);have hb:=List.getElem?_eq_getElem (show i<b.length by rw[<-d.1];exact hi);rw[g,hb,h _ _ _ (List.mem_of_getElem? c) (h1.2 i _ _ c g) (d.2 i _ _ c hb)]
 ·rw[List.getElem?_eq_none (by rw[<-h1.1];exact hi),List.getElem?_eq_none (by rw[<-d.1];exact hi)]
theorem Gj_ {g a b:u_} (n:ch_ g=true) (h1:hs_ g a) (Z:hs_ g b):a=b:=by
 have j:=ny_ n h1;obtain⟨⟨m1,B,J,X⟩,⟨k1,A,a5,a6⟩⟩:=h1;obtain⟨⟨m2,E,S,r⟩,⟨D,O,M,b6⟩⟩:=Z
 have C:m1=m2:=rv_ B E λx y z o c hz=>by
  have h:=Gi_ c.2.1 hz.2.1;have f:=wd_ (λp q m k e=>(hw_ (pr_ n o).1).2 p q m k e) c.2.2 hz.2.2;obtain⟨i,L,P⟩:=y;obtain⟨l,L',T⟩:=z;have e0:i=l:=c.1.trans hz.1.symm;simp only at h f;rw[e0,h,f]
 have h:k1=D:=rv_ A O λx y z o c hz=>by
  have f:=wd_ (λp q m k e=>(hw_ (ps_ n o)).2 p q m k e) c.2.2.2.2 hz.2.2.2.2;obtain⟨i,s,d,t,P⟩:=y;obtain⟨l,G,V,N,T⟩:=z;have f0:i=l:=c.1.trans hz.1.symm;have f1:s=G:=c.2.1.trans hz.2.1.symm;have W:d=V:=c.2.2.1.trans hz.2.2.1.symm;have u:t=N:=c.2.2.2.1.trans hz.2.2.2.1.symm;simp only at f;rw[f0,f1,W,u,f]
 subst C h;obtain⟨v,F⟩:=a;obtain⟨Y,R⟩:=b;have I:v=Y:=(rt_ (key:=i_.id) (pt_ j) X (S.trans J.symm) r).symm;have U:F=R:=(rt_ (key:=l_.id) (yg_ j) a6 (M.trans a5.symm) b6).symm;rw[I,U]
theorem tt_ {g t:u_} (b:f4_ g) (d:hs_ g t):f4_ t:=by
 have q:=I0_ b d;obtain⟨⟨m,h1,B,_⟩,⟨C,y,u,_⟩⟩:=d;refine⟨q.1,q.2,λn v=>?_,λe A=>?_⟩
 ·obtain⟨x,l,a⟩:=et_ h1 B v;obtain⟨⟨o,k,h,f⟩,i⟩:=b.2.2.1 x l;have r:n.labels.Perm x.labels:=a.2.1.1;have c:n.props.Perm x.props:=a.2.2.1;exact⟨⟨by rw[r.length_eq];exact o,by rw[c.length_eq];exact k,λs d=>h s (r.mem_iff.1 d),λp j=>f p (c.mem_iff.1 j)⟩,by rw[a.1];exact i⟩
 ·obtain⟨x,l,a⟩:=et_ y u A;obtain⟨⟨o,k,h⟩,f,i,z⟩:=b.2.2.2 x l;have c:e.props.Perm x.props:=a.2.2.2.2.1;exact⟨⟨by rw[a.2.2.2.1];exact o,by rw[c.length_eq];exact k,λp j=>h p (c.mem_iff.1 j)⟩,by rw[a.1];exact f,by rw[a.2.1];exact i,by rw[a.2.2.1];exact z⟩
theorem we_ {g:u_} (a:ch_ g=true):(∀n,n∈g.nodes->F3_ n)/\∀e,e∈g.edges->F4_ e:=
 ⟨λ_ c=>gm_ (pr_ a c).1,λ_ b=>gm_ (ps_ a b)⟩
theorem px_ {g a:u_} (c:hs_ g a):a.nodes.length=g.nodes.length/\a.edges.length=g.edges.length:=by obtain⟨⟨m,h1,d,_⟩,⟨f,e,b,_⟩⟩:=c;exact⟨by rw[d.length_eq,<-h1.1],by rw[b.length_eq,<-e.1]⟩
end
section
open Go Go.RowKit Go.Maps
abbrev CT:d_->Array Value->Prop:=λt c=>fz_ c t
noncomputable def cf_ (a:List i_) (i:Int):h_:=match a.find? (λn=>decide (n.id=i)) with | some n=>(b7_ n).1 | none=>iz_
noncomputable def d0_ (a:List i_) (e:l_):d_:=⟨cf_ a e.src,nk_ e.type,cf_ a e.dst⟩
noncomputable def aw_ (G:u_):Option (List d_):=open Classical in
 if (∀n,n∈G.nodes->(b7_ n).2=true)/\(G.edges.map (d0_ G.nodes)).length<=65536/\(G.edges.map (d0_ G.nodes)).all dh_=true/\aj_ (bb_ (A_ (av_ 0)) (G.edges.map (d0_ G.nodes)))=G then some (G.edges.map (d0_ G.nodes)) else none
def ec_ (g G:u_):Prop:=∃a,hs_ g a/\bw_ kc_ a.nodes G.nodes/\bw_ kd_ a.edges G.edges
theorem rw_ {c : Type} {R:c -> c -> Prop} {key:c -> Int} {l f:List c} (h:bw_ R l f) (g:∀x y,R x y->key y=key x) (d:l.Pairwise (λa b=>¬dy_ (key b) (key a)<0)):f.Pairwise (λa b=>¬dy_ (key b) (key a)<0):=by rw[List.pairwise_iff_getElem]at d ⊢;intro i j hi k e;have n:=h.1;have h1:=g _ _ (h.2 i _ _ (List.getElem?_eq_getElem (by omega)) (List.getElem?_eq_getElem hi));have m:=g _ _ (h.2 j _ _ (List.getElem?_eq_getElem (by omega)) (List.getElem?_eq_getElem k));rw[h1,m];exact d i j (by omega) (by omega) e
theorem dc_ {g G:u_} (h:ec_ g G):∃a,hs_ g a/\hs_ a G:=by obtain⟨a,h1,b,c⟩:=h;obtain⟨⟨_,_,_,e⟩,⟨_,_,_,d⟩⟩:=id h1;exact⟨a,h1,⟨_,b,List.Perm.refl _,rw_ (key:=i_.id) b (λ_ _ h=>h.1) e⟩,⟨_,c,List.Perm.refl _,rw_ (key:=l_.id) c (λ_ _ h=>h.1) d⟩⟩
theorem f5_ {g G:u_} (b:f4_ g) (h:ec_ g G):f4_ G:=by obtain⟨_,h1,a⟩:=dc_ h;exact tt_ (tt_ b h1) a
theorem yi_ {g G:u_} (a:ch_ g=true) (h:ec_ g G):ch_ G=true:=by obtain⟨_,h1,b⟩:=dc_ h;exact ny_ (ny_ a h1) b
def rx_ (n:i_) (p:Int×Value):Prop:=p.1=n.id/\(b7_ n).2=true/\∃A a,p.2 = .agg (c_ (b7_ n).1 (.slice A 0 a))
theorem Gk_ {a:List i_} {l:List (Int×Value)} (h:bw_ rx_ a l):l.map (·.1)=a.map i_.id:=by
 refine List.ext_getElem? λi=>?_;rw[List.getElem?_map,List.getElem?_map];by_cases hi:i<a.length
 ·have b:i<l.length:=by rw[<-h.1];exact hi
  rw[List.getElem?_eq_getElem hi,List.getElem?_eq_getElem b];have:=(h.2 i _ _ (List.getElem?_eq_getElem hi) (List.getElem?_eq_getElem b)).1;simp only[Option.map_some,this]
 ·rw[List.getElem?_eq_none (by rw[<-h.1];omega),List.getElem?_eq_none (by omega)];rfl
theorem ry_ {b:List i_} {l:List (Int×Value)} (h:bw_ rx_ b l) (i:Int):∃A a,mx_ l i = .agg (c_ (cf_ b i) (.slice A 0 a)):=by
 induction b generalizing l with
 | nil=>
  have j:l=[]:=List.length_eq_zero_iff.1 h.1.symm;subst j;exact⟨none,0,rfl⟩
 | cons n b g=>
  cases l with
  | nil=>exact absurd h.1 (by simp)
  | cons p l=>
   have h0:=h.2 0 n p rfl rfl;have f:bw_ rx_ b l:=⟨by have:=h.1;simpa using this,λi x y d m=>h.2 (i+1) x y d m⟩;obtain⟨h1,_,A,a,k⟩:=h0;by_cases hi:n.id=i
   ·refine⟨A,a,?_⟩;unfold mx_ cf_;rw[List.find?_cons_of_pos (by simp[h1,hi]),List.find?_cons_of_pos (by simp[hi])];exact k
   ·obtain⟨o,c,e⟩:=g f;refine⟨o,c,?_⟩;unfold mx_ cf_ at e ⊢;rw[List.find?_cons_of_neg (by simp[h1,hi]),List.find?_cons_of_neg (by simp[hi])];exact e
def mk_ (g:u_) (w:World) (e:Ending) (w':World):Prop:=Below w.heap.size w w' /\
 ((ch_ g=false/\e = .returned (.tuple #[.slice none 0 0,.int .i64 21])) \/
  (ch_ g=true/\∃G,ec_ g G/\((aw_ G=none/\e = .returned (.tuple #[.slice none 0 0,.int .i64 22])) \/
   ∃T s,aw_ G=some T/\e = .returned (.tuple #[s,.int .i64 0])/\x_ 41 18 TrR w' (λb=>w.heap.size<=b/\b<w'.heap.size) T s)))
def qm_ (v:h_):Prop:=-9223372036854775808<=v.num/\v.num<=9223372036854775807
def kf_ (g:u_):Prop:=∀n,n∈g.nodes->∀p,p∈n.props->qm_ p.v
theorem zm_ {g a:u_} (h:kf_ g) (c:hs_ g a):kf_ a:=by obtain⟨⟨m,h1,d,_⟩,_⟩:=c;intro n f p i;obtain⟨x,b,e⟩:=et_ h1 d f;exact h x b p (e.2.2.1.mem_iff.1 i)
theorem py_ {g G:u_} (b:kf_ g) (h:ec_ g G):kf_ G:=by obtain⟨_,h1,a⟩:=dc_ h;exact zm_ (zm_ b h1) a
theorem Cl_ {n:i_} (h:(b7_ n).2=true):(b7_ n).1=lh_ n/\(lh_ n).kind≠0/\(lh_ n).kind≠5/\K_ (lh_ n) 0=true:=by
 unfold b7_ at h ⊢;split at h
 ·split at h
  ·cases h
  ·rename_i h1 a;rw[if_pos h1,if_neg a];simp only[not_or]at a;exact⟨rfl,a.1,a.2.1,by simpa using a.2.2⟩
 ·cases h
theorem c5_ (k:Int) (t x:ByteArray):qm_ (.mk k false 0 t x []):=⟨by show (-9223372036854775808:Int)<=0;decide,by show (0:Int)<=9223372036854775807;decide⟩
theorem Gl_ {s:ByteArray} {p:h_} {r:List C_} (h:qm_ p):qm_ (nl_ s p r):=by
 unfold nl_;split
 ·exact c5_ ..
 ·split
  ·exact c5_ ..
  ·split
   ·exact c5_ ..
   ·split
    ·exact h
    ·exact c5_ ..
theorem I1_ {n:i_} (a:tn_ n) (b:∀p,p∈n.props->qm_ p.v):OkV (lh_ n):=by
 obtain⟨e,L,P⟩:=n;have hz:OkV iz_:=⟨by decide,by decide,by decide⟩;unfold lh_;simp only;match L,P,a,b with
 | [s],p::r,a,b=>
  have h1:=Gl_ (s:=s) (r:=r) (b p List.mem_cons_self);have c:=wb_ (s:=s) (a.2.2.2 p List.mem_cons_self).2 (λq d=>(a.2.2.2 q (List.mem_cons_of_mem _ d)).2);exact⟨Nat.le_trans c (by decide),h1.1,h1.2⟩
 | [],_,_,_=>exact hz
 | [s],[],_,_=>exact hz
 | _::_::_,_,_,_=>exact hz
theorem I2_ {n:i_} (h:(b7_ n).2=true) (d:tn_ n) (f:∀p,p∈n.props->qm_ p.v):OkV (b7_ n).1/\Bk_ (b7_ n).1:=by obtain⟨e,h0,a,c⟩:=Cl_ h;have b:=I1_ d f;rw[e];exact⟨b,⟨rq_ c a,b.fit,a⟩⟩
theorem Gm_:OkV iz_/\Bk_ iz_:=⟨⟨by decide,by decide,by decide⟩,⟨rfl,⟨by decide,by decide,by decide⟩,by decide⟩⟩
theorem rz_ {a:List i_} (h:∀n,n∈a->(b7_ n).2=true/\tn_ n/\∀p,p∈n.props->qm_ p.v) (i:Int):OkV (cf_ a i)/\Bk_ (cf_ a i):=by
 unfold cf_;split
 ·rename_i n e;have:=h n (List.mem_of_find?_eq_some e);exact I2_ this.1 this.2.1 this.2.2
 ·exact Gm_
theorem I3_ {t:ByteArray} (h:t.size<=2000000):OkV (nk_ t)/\Bk_ (nk_ t):=by have h0:(⟨#[]⟩:ByteArray).size=0:=rfl;have a:OkV (nk_ t):=⟨by unfold nk_;simp only[U_,af_,h0];omega,by show (-9223372036854775808:Int)<=0;decide,by show (0:Int)<=9223372036854775807;decide⟩;exact⟨a,⟨rfl,a.fit,by show (8:Int)≠5;decide⟩⟩
theorem pz_ {a:List i_} (h:∀n,n∈a->(b7_ n).2=true/\tn_ n/\∀p,p∈n.props->qm_ p.v) {e:l_} (d:e.type.size<=2000000):OkT (d0_ a e)/\Ii_ (d0_ a e):=by
 have h1:=rz_ h e.src;have b:=rz_ h e.dst;have c:=I3_ d;refine⟨⟨h1.1,c.1,b.1⟩,λn=>?_⟩;unfold d_.get;split
 ·exact h1.2
 ·split
  ·exact c.2
  ·exact b.2
end
end Go.Proofs.YtefhfadjajcmkaaGreatDoor
