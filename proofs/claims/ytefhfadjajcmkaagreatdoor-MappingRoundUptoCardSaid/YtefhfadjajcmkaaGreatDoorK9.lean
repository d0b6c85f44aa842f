/- The document's word, Index, plain. -/
import Derived.Test.YtefhfadjajcmkaaGreatDoorK8
set_option linter.unusedVariables false
set_option linter.unusedSimpArgs false
set_option maxRecDepth 100000
set_option maxHeartbeats 64000000
namespace Go.Proofs.YtefhfadjajcmkaaGreatDoor
open Bool renaming and_eq_true→YJ
open Go.Ending renaming returned→XW
open Go.RowKit.Below renaming refl→XV
open Go.RowKit renaming Below→XU
open Nat renaming le_refl→XJ,lt_of_lt_of_le→XY,le_trans→YK
open Go.Obj renaming cells→XX
open List renaming getElem?_eq_getElem→XQ,mem_of_getElem?→YQ
open Tryz renaming prog→QW,underlying39→YZ
open Go renaming World→QV,Value→XZ
open Go.IntKind renaming i64→QU
open Option renaming some→QJ,none→QY
open Go.Lib renaming cell_of_heap→QX
open Go.Value renaming slice→QQ,string→QZ,int→QK,bool→XK,pointer→YX,tuple→YY
open Go.Lib (cell_of_heap)
section
open Go Go.RowKit Go.Maps Go.WideMaps Go.MapKept
theorem im_ (g:w_) (bm:me_ g) (F:Nat->Prop) (u:XZ) (w:QV) (hF:∀b,F b->b<w.heap.size) (hg:GrR w F g u) (ed:aa_ w) :
    Calls QW 32 #[u] w (i9_ g w):=by
 have fr:=@run_makeMap QW;obtain⟨NV,EV,rfl,⟨AN,cN,rfl,f9,ej⟩,AE,cE,rfl,f8,ei⟩:=hg;have HF:=q_ hF;have HG:=q_ ed;have bg:=q_ bm;have e6:=q_ ej;have e5:=q_ ei;have ek:=bm.1;have el:=bm.2.1;obtain⟨nN,av⟩:=a_ g.nodes.length;obtain⟨nE,au⟩:=a_ g.edges.length;rw[av.o]at e6 ek ⊢;rw[au.o]at e5 el ⊢;clear hF ed bm ej ei f9 f8;obtain⟨z,Z⟩:=a_ w.heap.size;have cd:=q_ (show c8_ g=(decide (nN<=131072/\nE<=65536)&&(Y_ okN h_.id [] g.nodes&&Y_ (okE (g.nodes.map h_.id)) l_.id [] g.edges)) from by rw[<-av.o,<-au.o];rfl);by_cases j:nN<=131072/\nE<=65536
 ·have e1:decide ((131072:Int)<nN)=false:=decide_eq_false (by omega);have e2:decide ((65536:Int)<nE)=false:=decide_eq_false (by omega);rw[decide_eq_true j]at cd;have ek:nN<=131072:=j.1;have el:nE<=65536:=j.2;clear j;go_enter Tryz.func32,Tryz.ntmps32
  go_wp2_with fail;rw[Z.o];simp only[Nat.add_assoc,Nat.reduceAdd];obtain⟨w6,dc⟩:=a_ ((((((w.alloc (XX #[QQ AN nN cN,QQ AE nE cE] 54)).alloc (.map #[] 0)).alloc (.map #[] 0)).alloc (.map #[] 0)).alloc (XX #[QQ QY 0 0,QQ QY 0 0,.map (QJ (z+1)),.map (QJ (z+2)),.map (QJ (z+3))] 143)).alloc (.map #[] 0))
  have f0:=q_ (show fx_ w z (QQ AN nN cN) (QQ AE nE cE) g.nodes [] 0 [] (QQ QY 0 0) w6 from by
   have hz:=Z.o;have hh:=Lu_ w (XX #[QQ AN nN cN,QQ AE nE cE] 54) (.map #[] 0) (.map #[] 0) (.map #[] 0) (XX #[QQ QY 0 0,QQ QY 0 0,.map (QJ (z+1)),.map (QJ (z+2)),.map (QJ (z+3))] 143) (.map #[] 0);rw[dc.o]at hh;refine⟨?_,?_,?_,?_,?_,?_,?_,D_.nil ..,bz_.nil _,rfl⟩
   ·rw[<-dc.o];exact ((((((XV _ _).alloc (by omega) _).alloc (by simp;omega) _).alloc (by simp;omega) _).alloc (by simp;omega) _).alloc (by simp;omega) _).alloc (by simp;omega) _
   ·rw[hh];exact g3_ (i:=0) hz rfl
   ·rw[hh];exact g3_ (i:=1) hz rfl
   ·rw[hh];exact g3_ (i:=2) hz rfl
   ·rw[hh];exact g3_ (i:=3) hz rfl
   ·rw[hh];exact g3_ (i:=4) hz rfl
   ·exact⟨.map [],⟨#[],0,by rw[hh];exact g3_ (i:=5) hz rfl,⟨by simp,stamped_empty 0,by simp⟩,XJ _,rfl⟩,λ_ _=>rfl⟩)
  rw[dc.o];go_loopw [36] (λds wr=>∃(k:Nat) (ns:List h_) (Ns:XZ),k<=nN/\ds = QK QU (k:Nat)/\Q_ (fx_ w z (QQ AN nN cN) (QQ AE nE cE) g.nodes ((g.nodes.take k).map h_.id) k ns Ns wr)) (λds _=>nN-(intOf ds).toNat)
  case atStart=>exact⟨0,[],_,by omega,rfl,f0⟩
  case round=>
   obtain⟨k,ns,Ns,hk,rfl,y⟩:=hrel;by_cases b4:k<nN
   ·obtain⟨x,m⟩:∃x,g.nodes[k]?=QJ x:=⟨g.nodes[k]'(by rw[av.o];exact b4),XQ _⟩;have HX:=q_ m;have M:=q_ (bg.o.2.2.1 x (YQ m));have ak:=q_ (λ(h:okN ((g.nodes.take k).map h_.id) x=false)=>Nh_ (l6_ (key:=h_.id) m h));have cb:=q_ (λ(h:okN ((g.nodes.take k).map h_.id) x=true)=>l7_ m h y.o.ok);have af:=q_ (show z+5<wr.heap.size from y.o.set.lt);have S:=q_ (λ(b:Nat) (hb:F b)=>show b<z from by rw[<-Z.o];exact HF.o b hb);obtain⟨ad,A1,c1,A2,c2,rfl,ay,cp,cq,ae,d0,d1,d2⟩:=ls_ (e6.o.under NoR.good y.o.below S.o) m;have I:=q_ cp;have e3:=q_ cq;have bs:=q_ ae;clear m ay cp cq ae;obtain⟨id,f⟩:=a_ x.id;obtain⟨m1,ba⟩:=a_ x.labels.length;obtain⟨Y,ab⟩:=a_ x.props.length;rw[ba.o]at e3 d1 I;rw[ab.o]at bs d2 I;rw[f.o]at d0 I;have fq:m1<=2000000:=by rw[<-ba.o];exact M.o.1.1
    have fc:Y<=2000000:=by rw[<-ab.o];exact M.o.1.2.1
    obtain⟨a,l⟩:=a_ wr.heap.size;rw[l.o]at af;obtain⟨w2,J⟩:=a_ (((wr.alloc (XX #[QK QU id,QQ A1 m1 c1,QQ A2 Y c2] 72)).alloc (.map #[] 0)).alloc (XX #[.map (QJ (a+1))] 147));have b8:=q_ (show XU wr.heap.size wr w2 from by rw[<-J.o];exact pq_ wr _ _ _);have bc:=Eu_ wr (XX #[QK QU id,QQ A1 m1 c1,QQ A2 Y c2] 72) (.map #[] 0) (XX #[.map (QJ (a+1))] 147);rw[J.o]at bc;have b9:=q_ (show w2.heap[a]?=QJ (XX #[QK QU id,QQ A1 m1 c1,QQ A2 Y c2] 72 (0,0)) from by rw[bc];exact g3_ (i:=0) l.o rfl);have ez:=q_ (show w2.heap[a+1]?=QJ (.map #[] 0) from by rw[bc];exact g3_ (i:=1) l.o rfl);have br:=q_ (show w2.heap[a+2]?=QJ (XX #[.map (QJ (a+1))] 147 (0,0)) from by rw[bc];exact g3_ (i:=2) l.o rfl);have d7:=q_ (show w2.heap.size=a+3 from by rw[bc,<-l.o];simp);clear bc;have dh:=q_ (Cq_ x.labels (λs hs=>by have:=M.o.1.2.2.1 s hs;unfold VS maxLen;omega) ⟨a+2,0,QY⟩ (a+1) F A1 m1 c1 w2 (λb hb=>by have:=S.o b hb;have:=d7.o;have:=af.o;omega) (e3.o.under TxR.good b8.o (λb hb=>by have:=S.o b hb;have:=l.o;have:=af.o;omega)) (by omega) (QX br.o 0) (by show a+2<_/\a+2≠_;rw[d7.o];omega) (Lq_ ez.o));unfold ys_ at dh;obtain⟨lb,cy⟩:=a_ (a7_ [] x.labels);rw[cy.o]at dh;have b1:w2.cell? ⟨a,1,QY⟩=QJ (QQ A1 m1 c1):=QX b9.o 1;have e1:(0:Int)<=k:=by omega
    have e2:(k:Int)<nN:=by omega
    go_upto_region 9 with fail;rw[l.o];simp only[Nat.add_assoc,Nat.reduceAdd];rw[J.o];go_wp2_with fail;refine dh.o.mono ?_;rintro e w3 ⟨rfl,P⟩;have du:=q_ (b8.o.trans (P.below (B:=wr.heap.size) (λi _ hi=>by rw[hi,l.o];omega) b8.o.size));have q:=q_ (y.o.on du.o);have c4:=q_ ((P.block a (by rw[d7.o];omega) (by omega)).trans b9.o);have c0:w3.cell? ⟨a,0,none⟩=some (QK QU id):=QX c4.o 0;have ce:=q_ (Bv_ (z+5) ((g.nodes.take k).map h_.id) id (by rw[<-f.o];exact M.o.2) (by simp;omega) w3 q.o.set);obtain⟨ib,a7⟩:=a_ (inB ((g.nodes.take k).map h_.id) id);obtain⟨pb,a9⟩:=a_ (as_ x.props);have HN:=q_ (show (decide (0<=id)&&(!ib&&(lb&&(decide (m1<=65536)&&pb))))=false->c8_ g=false from λh=>ak.o (by unfold okN;rw[f.o,a7.o,cy.o,ba.o,a9.o];exact h));have HY:=q_ (show (decide (0<=id)&&(!ib&&(lb&&(decide (m1<=65536)&&pb))))=true->Y_ okN h_.id [] (g.nodes.take (k+1))=true from λh=>cb.o (by unfold okN;rw[f.o,a7.o,cy.o,ba.o,a9.o];exact h));clear P b1 d0 d1 d2;by_cases a3:id<0
    ·have q1:decide (id<0)=true:=decide_eq_true a3;have R:=q_ (HN.o (by rw[decide_eq_false (by omega)];rfl));clear a3;go_wp2_with fail;go_ret2;exact⟨by rw[Z.o];exact q.o.below,.inl ⟨R.o,rfl⟩⟩
    ·have q1:decide (id<0)=false:=decide_eq_false a3;rw[decide_eq_true (show 0<=id by omega)]at HN HY;clear a3;go_wp2_with fail;refine ce.o.mono ?_;rintro e w4 ⟨rfl,b7,t⟩;rw[a7.o];have aq:=q_ t;have ev:=q_ b7;have cl:=q_ (show XU z w w4 from q.o.below.trans (t.below (B:=z) (λi _ hi=>by omega) (by have:=q.o.set.lt;omega)));clear t b7
     cases ib with
     | true=>
      have R:=q_ (HN.o rfl);go_wp2_with fail;go_ret2;exact⟨by rw[Z.o];exact cl.o,.inl ⟨R.o,rfl⟩⟩
     | false=>
      cases lb with
      | false=>
       have R:=q_ (HN.o rfl);go_wp2_with fail;go_ret2;exact⟨by rw[Z.o];exact cl.o,.inl ⟨R.o,rfl⟩⟩
      | true=>
       have fo:w3.heap.size<=w4.heap.size:=aq.o.size;have a5:=q_ ((aq.o.block a (b_ c4.o) (by have:=af.o;omega)).trans c4.o);have k1:w4.cell? ⟨a,1,none⟩=some (QQ A1 m1 c1):=QX a5.o 1;have k2:w4.cell? ⟨a,2,none⟩=some (QQ A2 Y c2):=QX a5.o 2;by_cases bn:m1<=65536
       ·have q2:decide ((65536:Int)<m1)=false:=decide_eq_false (by omega);rw[decide_eq_true bn]at HN HY;have bf:=q_ (show XU z wr w4 from (du.o.mono (by have:=l.o;have:=af.o;omega)).trans (aq.o.below (B:=z) (λi _ hi=>by omega) (by have:=q.o.set.lt;omega)));have bz:=q_ (s5_ x.props M.o.1.2.2.2 M.o.1.2.1 F A2 Y c2 w4 (λb hb=>by have:=S.o b hb;have:=q.o.set.lt;omega) (bs.o.under PaR.good bf.o (λb hb=>S.o b hb)) (Ha_ HG.o Z.o cl.o));rw[a9.o]at bz;clear bn;go_wp2_with fail;refine bz.o.mono ?_;rintro e w5 ⟨rfl,O⟩;have d:=q_ ((q.o.put aq.o ev.o).on O);have r:=q_ ((O.block a (b_ a5.o)).trans a5.o);have ag:=q_ (bf.o.trans (O.mono (by have:=q.o.set.lt;omega)));clear O
        cases pb with
        | false=>
         have R:=q_ (HN.o rfl);go_wp2_with fail;go_ret2;exact⟨by rw[Z.o];exact d.o.below,.inl ⟨R.o,rfl⟩⟩
        | true=>
         have dd:=q_ (HY.o rfl);have j:ns.length=k:=by rw[<-d.o.all.1,List.length_take,av.o];omega
         have c8:=q_ j;obtain⟨A3,c3,h3⟩:=d.o.own.form;rw[j]at h3;subst h3;have dj:=q_ (qp_ x M.o.1 (f7_ a9.o) F _ w5.drew (λb hb=>by have:=S.o b hb;have:=d.o.set.lt;show b<w5.heap.size;omega) (NoR.good.keep I.o (w':=w5.drew) (λp hp=>ag.o.cell (S.o _ hp))));obtain⟨cs,a6,aw,az,hr⟩:=d.o.own;rw[j]at a6 aw;have ca:=q_ a6;have ai:=q_ (show ∀b,(Value.slice A3 k c3).ownBlock=some b->z+6<=b/\b<w5.heap.size from az);have aa:=q_ (And.intro aw hr);have g0:w5.drew.cell? ⟨z+4,0,none⟩=some (QQ A3 k c3):=QX d.o.store 0;have n0:w5.drew.cell? ⟨a,0,none⟩=some (QK QU id):=QX r.o 0;have n1:w5.drew.cell? ⟨a,1,none⟩=some (QQ A1 m1 c1):=QX r.o 1;have n2:w5.drew.cell? ⟨a,2,none⟩=some (QQ A2 Y c2):=QX r.o 2;clear j a6 aw az hr k1 k2 c0;obtain⟨i0,di,cg,ch,ci⟩:=info_parts wm_;go_upto_region 12 with fail;go_region_law (first | (refine step_append_lies _ rfl _ _ 51 rfl 0 72 i0 (.agg #[QK QU 0,QQ none 0 0,QQ none 0 0]) 3 56 Tryz.underlying51 di cg ch ci rfl (by decide) (QQ A3 k c3) k (T_ cs k) rfl (by exact bj.o.alloc _) ⟨w6.heap.size,0,none⟩ 1 1 [QK QU id,QQ A6 q6 c6,QQ B6 r6 L] rfl rfl (World.news_of_block (cs:=#[QK QU id,QQ A6 q6 c6,QQ B6 r6 L]) (by exact NB.o)) c9.o (by omega) (by unfold maxLen;omega) (by omega) (Nat.zero_le _) (w6.heap.size+1) (by exact d8.o) (λg7 c7 w7 bx X bw _=>?_);have d6:=q_ bx;have bq:=q_ (show w6.grownBy w7 (Value.slice A3 k c3).ownBlock from az_ (w:=w6) (o:=XX #[QK QU id,QQ A6 q6 c6,QQ B6 r6 L] 72) ⟨X.os,X.tape,X.output,X.size,X.block⟩);have cx:=q_ (show (Value.slice A3 k c3).ownBlock=some g7\/g7=w6.heap.size+1 from bw);have bp:=q_ ((bq.o.block (z+4) (by have:=ap.o;omega) (λe=>by have:=ai.o (z+4) e.symm;omega)).trans ao.o);have f7:w7.frozen? ⟨z+4,0,none⟩=false:=Lib.frozen_of_heap bp.o 0;have f4:w7.cell? ⟨z+4,0,none⟩=some (QQ A3 k c3):=QX bp.o 0;clear bx X bw) | (go_simp;go_at_call 91;(with_reducible refine dj.o.mono ?_);rintro e w6 ⟨cc,n',rfl,D,v,b5⟩;have aj:=q_ b5;obtain⟨L6,P6,rfl,⟨A6,c6,rfl,_,_⟩,B6,L,rfl,_,_⟩:=b5;obtain⟨q6,f2⟩:=a_ n'.labels.length;obtain⟨r6,de⟩:=a_ n'.props.length;rw[f2.o,de.o]at aj ⊢;rw[v.1,f.o]at aj ⊢;have ct:=q_ D;have am:=q_ v;have ap:=q_ (show z+5<w6.heap.size from by have h1:w5.heap.size<=w6.heap.size:=D.size;have:=d.o.set.lt;omega);have bj:=q_ ((Turn.of_below D).owns ca.o (λg hg h=>by have:=ai.o g hg;have h2:w5.heap.size<=g:=h;omega));have ao:=q_ ((D.block (z+4) (by show z+4<w5.heap.size;have:=d.o.set.lt;omega)).trans d.o.store);have df:w6.cell? ⟨z+4,0,none⟩=some (QQ A3 k c3):=QX ao.o 0;have f3:(w6.alloc (XX #[QK QU id,QQ A6 q6 c6,QQ B6 r6 L] 72)).cell? ⟨z+4,0,none⟩=some (QQ A3 k c3):=(World.cell?_alloc_lt w6 _ _ (by show z+4<_;have:=ap.o;omega)).trans df;have c9:=q_ (show ∀u∈([QK QU id,QQ A6 q6 c6,QQ B6 r6 L]:List XZ),u.oneCell'=true from λu hu=>by simp at hu;rcases hu with rfl | rfl | rfl<;>rfl);have NB:=q_ (heap_alloc_new w6 (XX #[QK QU id,QQ A6 q6 c6,QQ B6 r6 L] 72));have d8:=q_ (show (w6.alloc (XX #[QK QU id,QQ A6 q6 c6,QQ B6 r6 L] 72)).heap.size=w6.heap.size+1 by simp);clear D v))
         all_goals (
          have w1:IntKind.i64.wrap ((k:Int)+1)=(k:Int)+1:=IntWalk.i64_in _ (by omega);go_wp2_with fail;go_roundw)
         all_goals first
          | (case measure=>simp[intOf];omega)
          | (case rel=>
              refine⟨k+1,ns++[n'],QQ (QJ ⟨g7,0,QY⟩) (k+1) c7,by omega,by go_num,q_ ?_⟩;have h:=fx_.more d.o c8.o ai.o aa.o.1 aa.o.2 HX.o (de_ ct.o) am.o aj.o rfl bq.o cx.o d6.o dd.o;have e1:fs_ ((g.nodes.take k).map h_.id) id=(g.nodes.take (k+1)).map h_.id:=by unfold fs_;rw[a7.o,if_neg (by decide),f_ HX.o,List.map_append,<-f.o];rfl
              rw[e1]at h;exact h)
       ·have q2:decide ((65536:Int)<m1)=true:=decide_eq_true (by omega);have R:=q_ (HN.o (by rw[decide_eq_false bn];rfl));clear bn;go_wp2_with fail;go_ret2;exact⟨by rw[Z.o];exact cl.o,.inl ⟨R.o,rfl⟩⟩
   ·have ac:k=nN:=by omega
    have dp:=q_ (show g.nodes.take k=g.nodes from List.take_of_length_le (by rw[av.o,ac];exact XJ _));have C:=y.o;have dl:=q_ (show Y_ okN h_.id [] g.nodes=true from by have h:=C.ok;rw[dp.o]at h;exact h);have bl:=q_ (show bz_ jt_ g.nodes ns from by have h:=C.all;rw[dp.o]at h;exact h);rw[dp.o]at C;have dg:=q_ ((C.on ((XV wr.heap.size wr).alloc (XJ _) (.map #[] 0))).box);have cm:=q_ (C.next g.edges);have fg:=q_ C.set.lt;obtain⟨z2,ea⟩:=a_ wr.heap.size;obtain⟨wa,e9⟩:=a_ (wr.alloc (.map #[] 0));rw[ea.o]at cm fg;rw[e9.o]at cm dg;have b1:wa.cell? ⟨z,1,QY⟩=QJ (QQ AE nE cE):=QX dg.o 1;clear C;subst ac;go_upto_region 15 with fail;rw[ea.o,e9.o];go_wp2_with fail;clear b1;go_loopw [86] (λdt wx=>∃(k:Nat) (es:List l_) (Es:XZ),k<=nE/\dt = QK QU (k:Nat)/\Q_ (fy_ w z z2 (g.nodes.map h_.id) ns Ns g.edges ((g.edges.take k).map l_.id) k es Es wx)) (λdt _=>nE-(intOf dt).toNat)
    case atStart=>exact⟨0,[],_,by omega,rfl,cm⟩
    case round=>
     clear cm dg y;obtain⟨k,es,Es,hk,rfl,y⟩:=hrel;by_cases b4:k<nE
     ·obtain⟨x,m⟩:∃x,g.edges[k]?=QJ x:=⟨g.edges[k]'(by rw[au.o];exact b4),XQ _⟩;have HX:=q_ m;have M:=q_ (bg.o.2.2.2 x (YQ m));have ak:=q_ (λ(h:okE (g.nodes.map h_.id) ((g.edges.take k).map l_.id) x=false)=>Lf_ (l6_ (key:=l_.id) m h));have cb:=q_ (λ(h:okE (g.nodes.map h_.id) ((g.edges.take k).map l_.id) x=true)=>l7_ m h y.o.ok);have a2:=q_ y.o.far;have af:=q_ (show z2<wr.heap.size from y.o.set.lt);have S:=q_ (λ(b:Nat) (hb:F b)=>show b<z from by rw[<-Z.o];exact HF.o b hb);obtain⟨fp,A2,c2,rfl,ay,co,ae,d0,d1,d2,d3,d4⟩:=i8_ (e5.o.under EdR.good y.o.below S.o) m;have I:=q_ co;have bs:=q_ ae;clear m ay co ae;obtain⟨id,f⟩:=a_ x.id;obtain⟨src,a1⟩:=a_ x.src;obtain⟨dst,a0⟩:=a_ x.dst;obtain⟨E,ah⟩:=a_ x.type;obtain⟨Y,ab⟩:=a_ x.props.length;rw[ab.o]at bs d4 I;rw[f.o]at d0 I;rw[a1.o]at d1 I;rw[a0.o]at d2 I;rw[ah.o]at d3 I;have fc:Y<=2000000:=by rw[<-ab.o];exact M.o.1.2.1
      obtain⟨a,l⟩:=a_ wr.heap.size;rw[l.o]at af;obtain⟨w2,J⟩:=a_ (wr.alloc (XX #[QK QU id,QK QU src,QK QU dst,QZ E,QQ A2 Y c2] 74));have b8:=q_ (show XU wr.heap.size wr w2 from by rw[<-J.o];exact (XV _ _).alloc (XJ _) _);have b9:=q_ (show w2.heap[a]?=QJ (XX #[QK QU id,QK QU src,QK QU dst,QZ E,QQ A2 Y c2] 74 (0,0)) from by rw[<-J.o,<-l.o];exact heap_alloc_new wr _);have q:=q_ (y.o.on b8.o);have c0:w2.cell? ⟨a,0,QY⟩=QJ (QK QU id):=QX b9.o 0;have e1:(0:Int)<=k:=by omega
      have e2:(k:Int)<nE:=by omega
      have ce:=q_ (Bv_ z2 ((g.edges.take k).map l_.id) id (by rw[<-f.o];exact M.o.2.1) (by simp;omega) w2 q.o.set);have fb:=q_ (λ(W:QV) (h:a9_ 2 VI iq_ W (z+5) (g.nodes.map h_.id))=>um_ (z+5) (g.nodes.map h_.id) src (by rw[<-a1.o];exact M.o.2.2.1) W h);have fa:=q_ (λ(W:QV) (h:a9_ 2 VI iq_ W (z+5) (g.nodes.map h_.id))=>um_ (z+5) (g.nodes.map h_.id) dst (by rw[<-a0.o];exact M.o.2.2.2) W h);have et:=q_ (λW=>u9_ E W);obtain⟨ib,a7⟩:=a_ (inB ((g.edges.take k).map l_.id) id);obtain⟨sb,d9⟩:=a_ (inB (g.nodes.map h_.id) src);obtain⟨db,cv⟩:=a_ (inB (g.nodes.map h_.id) dst);obtain⟨tb,da⟩:=a_ (al_ E);obtain⟨pb,a9⟩:=a_ (as_ x.props);rw[da.o]at et;have HN:=q_ (show (decide (0<=id)&&(!ib&&(sb&&(db&&(tb&&pb)))))=false->c8_ g=false from λh=>ak.o (by unfold okE;rw[f.o,a1.o,a0.o,ah.o,a7.o,d9.o,cv.o,da.o,a9.o];exact h));have HY:=q_ (show (decide (0<=id)&&(!ib&&(sb&&(db&&(tb&&pb)))))=true->Y_ (okE (g.nodes.map h_.id)) l_.id [] (g.edges.take (k+1))=true from λh=>cb.o (by unfold okE;rw[f.o,a1.o,a0.o,ah.o,a7.o,d9.o,cv.o,da.o,a9.o];exact h));go_upto_region 18 with fail;rw[l.o,J.o];clear d0 d1 d2 d3 d4;by_cases a3:id<0
      ·have q1:decide (id<0)=true:=decide_eq_true a3;have R:=q_ (HN.o (by rw[decide_eq_false (by omega)];rfl));clear a3;go_wp2_with fail;go_ret2;exact⟨by rw[Z.o];exact q.o.below,.inl ⟨R.o,rfl⟩⟩
      ·have q1:decide (id<0)=false:=decide_eq_false a3;rw[decide_eq_true (show 0<=id by omega)]at HN HY;clear a3;go_wp2_with fail;refine ce.o.mono ?_;rintro e w4 ⟨rfl,b7,t⟩;rw[a7.o];have a8:=q_ (q.o.put t b7);have a5:=q_ ((t.block a (b_ b9.o) (by have:=af.o;omega)).trans b9.o);have bf:=q_ (show XU z wr w4 from (b8.o.mono (by have:=l.o;have:=af.o;have:=a2.o;omega)).trans (t.below (B:=z) (λi _ hi=>by have:=a2.o;omega) (by have:=q.o.set.lt;have:=a2.o;omega)));clear t b7 c0
       cases ib with
       | true=>
        have R:=q_ (HN.o rfl);go_wp2_with fail;go_ret2;exact⟨by rw[Z.o];exact a8.o.below,.inl ⟨R.o,rfl⟩⟩
       | false=>
        have k1:w4.cell? ⟨a,1,QY⟩=QJ (QK QU src):=QX a5.o 1;go_wp2_with fail;refine (fb.o _ a8.o.nset).mono ?_;rintro e w5 ⟨rfl,O⟩;rw[d9.o];have d:=q_ (a8.o.on O);have r:=q_ ((O.block a (b_ a5.o)).trans a5.o);have ag:=q_ (bf.o.trans (O.mono (by have:=a8.o.set.lt;have:=a2.o;omega)));clear O k1
        cases sb with
        | false=>
         have R:=q_ (HN.o rfl);go_wp2_with fail;go_ret2;exact⟨by rw[Z.o];exact d.o.below,.inl ⟨R.o,rfl⟩⟩
        | true=>
         have k2:w5.cell? ⟨a,2,QY⟩=QJ (QK QU dst):=QX r.o 2;go_wp2_with fail;refine (fa.o _ d.o.nset).mono ?_;rintro e w6 ⟨rfl,D⟩;rw[cv.o];have N:=q_ (d.o.on D);have bh:=q_ ((D.block a (b_ r.o)).trans r.o);have cu:=q_ (ag.o.trans (D.mono (by have:=d.o.set.lt;have:=a2.o;omega)));clear D k2
         cases db with
         | false=>
          have R:=q_ (HN.o rfl);go_wp2_with fail;go_ret2;exact⟨by rw[Z.o];exact N.o.below,.inl ⟨R.o,rfl⟩⟩
         | true=>
          have k3:w6.cell? ⟨a,3,QY⟩=QJ (QZ E):=QX bh.o 3;have k4:w6.cell? ⟨a,4,QY⟩=QJ (QQ A2 Y c2):=QX bh.o 4;go_wp2_with fail;refine (et.o _).mono ?_;rintro e fm ⟨rfl,ff⟩;subst ff
          cases tb with
          | false=>
           have R:=q_ (HN.o rfl);go_wp2_with fail;go_ret2;exact⟨by rw[Z.o];exact N.o.below,.inl ⟨R.o,rfl⟩⟩
          | true=>
           have bz:=q_ (s5_ x.props M.o.1.2.2 M.o.1.2.1 F A2 Y c2 fm (λb hb=>by have:=S.o b hb;have:=N.o.set.lt;have:=a2.o;omega) (bs.o.under PaR.good cu.o (λb hb=>S.o b hb)) (Ha_ HG.o Z.o N.o.below));rw[a9.o]at bz;go_wp2_with fail;refine bz.o.mono ?_;rintro e w5 ⟨rfl,O⟩;clear d r ag;have d:=q_ (N.o.on O);have r:=q_ ((O.block a (b_ bh.o)).trans bh.o);have ag:=q_ (cu.o.trans (O.mono (by have:=N.o.set.lt;have:=a2.o;omega)));clear O k3 k4
           cases pb with
           | false=>
            have R:=q_ (HN.o rfl);go_wp2_with fail;go_ret2;exact⟨by rw[Z.o];exact d.o.below,.inl ⟨R.o,rfl⟩⟩
           | true=>
            have dd:=q_ (HY.o rfl);have j:es.length=k:=by rw[<-d.o.all.1,List.length_take,au.o];omega
            have c8:=q_ j;obtain⟨A3,c3,h3⟩:=d.o.own.form;rw[j]at h3;subst h3;have dj:=q_ (p6_ x M.o.1 (f7_ a9.o) F _ w5.drew (λb hb=>by have:=S.o b hb;have:=d.o.set.lt;have:=a2.o;show b<w5.heap.size;omega) (EdR.good.keep I.o (w':=w5.drew) (λp hp=>ag.o.cell (S.o _ hp))));obtain⟨cs,a6,aw,az,hr⟩:=d.o.own;rw[j]at a6 aw;have ca:=q_ a6;have ai:=q_ (show ∀b,(Value.slice A3 k c3).ownBlock=some b->z2+1<=b/\b<w5.heap.size from az);have aa:=q_ (And.intro aw hr);have fn:z+6<=z2:=a2.o;have g0:w5.drew.cell? ⟨z+4,1,none⟩=some (QQ A3 k c3):=QX d.o.store 1;have n0:w5.drew.cell? ⟨a,0,none⟩=some (QK QU id):=QX r.o 0;have n1:w5.drew.cell? ⟨a,1,none⟩=some (QK QU src):=QX r.o 1;have n2:w5.drew.cell? ⟨a,2,none⟩=some (QK QU dst):=QX r.o 2;have n3:w5.drew.cell? ⟨a,3,none⟩=some (QZ E):=QX r.o 3;have n4:w5.drew.cell? ⟨a,4,none⟩=some (QQ A2 Y c2):=QX r.o 4;clear j a6 aw az hr;obtain⟨i0,di,cg,ch,ci⟩:=info_parts wl_;go_upto_region 20 with fail;go_region_law (first | (refine step_append_lies _ rfl _ _ 52 rfl 0 74 i0 (.agg #[QK QU 0,QK QU 0,QK QU 0,QZ ⟨#[]⟩,QQ none 0 0]) 5 64 Tryz.underlying52 di cg ch ci rfl (by decide) (QQ A3 k c3) k (T_ cs k) rfl (by exact bj.o.alloc _) ⟨w6.heap.size,0,none⟩ 1 1 [QK QU id,QK QU src,QK QU dst,QZ E,QQ B6 r6 L] rfl rfl (World.news_of_block (cs:=#[QK QU id,QK QU src,QK QU dst,QZ E,QQ B6 r6 L]) (by exact NB.o)) c9.o (by omega) (by unfold maxLen;omega) (by omega) (Nat.zero_le _) (w6.heap.size+1) (by exact d8.o) (λg7 c7 w7 bx X bw _=>?_);have d6:=q_ bx;have bq:=q_ (show w6.grownBy w7 (Value.slice A3 k c3).ownBlock from az_ (w:=w6) (o:=XX #[QK QU id,QK QU src,QK QU dst,QZ E,QQ B6 r6 L] 74) ⟨X.os,X.tape,X.output,X.size,X.block⟩);have cx:=q_ (show (Value.slice A3 k c3).ownBlock=some g7\/g7=w6.heap.size+1 from bw);have bp:=q_ ((bq.o.block (z+4) (by have:=ap.o;omega) (λe=>by have:=ai.o (z+4) e.symm;omega)).trans ao.o);have f7:w7.frozen? ⟨z+4,1,none⟩=false:=Lib.frozen_of_heap bp.o 1;have f4:w7.cell? ⟨z+4,1,none⟩=some (QQ A3 k c3):=QX bp.o 1;clear bx X bw) | (go_simp;go_at_call 93;(with_reducible refine dj.o.mono ?_);rintro e w6 ⟨cc,n',rfl,D,v,b5⟩;have aj:=q_ b5;obtain⟨P6,rfl,B6,L,rfl,_,_⟩:=b5;obtain⟨r6,de⟩:=a_ n'.props.length;rw[de.o]at aj ⊢;rw[v.1,v.2.1,v.2.2.1,v.2.2.2.1,f.o,a1.o,a0.o,ah.o]at aj ⊢;have ct:=q_ D;have am:=q_ v;have ap:=q_ (show z2<w6.heap.size from by have h1:w5.heap.size<=w6.heap.size:=D.size;have:=d.o.set.lt;omega);have bj:=q_ ((Turn.of_below D).owns ca.o (λg hg h=>by have:=ai.o g hg;have h2:w5.heap.size<=g:=h;omega));have ao:=q_ ((D.block (z+4) (by show z+4<w5.heap.size;have:=d.o.set.lt;omega)).trans d.o.store);have df:w6.cell? ⟨z+4,1,none⟩=some (QQ A3 k c3):=QX ao.o 1;have f3:(w6.alloc (XX #[QK QU id,QK QU src,QK QU dst,QZ E,QQ B6 r6 L] 74)).cell? ⟨z+4,1,none⟩=some (QQ A3 k c3):=(World.cell?_alloc_lt w6 _ _ (by show z+4<_;have:=ap.o;omega)).trans df;have c9:=q_ (show ∀u∈([QK QU id,QK QU src,QK QU dst,QZ E,QQ B6 r6 L]:List XZ),u.oneCell'=true from λu hu=>by simp at hu;rcases hu with rfl | rfl | rfl | rfl | rfl<;>rfl);have NB:=q_ (heap_alloc_new w6 (XX #[QK QU id,QK QU src,QK QU dst,QZ E,QQ B6 r6 L] 74));have d8:=q_ (show (w6.alloc (XX #[QK QU id,QK QU src,QK QU dst,QZ E,QQ B6 r6 L] 74)).heap.size=w6.heap.size+1 by simp);clear D v))
            all_goals (
             have w1:IntKind.i64.wrap ((k:Int)+1)=(k:Int)+1:=IntWalk.i64_in _ (by omega);go_wp2_with fail;go_roundw)
            all_goals first
             | (case measure=>simp[intOf];omega)
             | (case rel=>
                 refine⟨k+1,es++[n'],QQ (QJ ⟨g7,0,QY⟩) (k+1) c7,by omega,by go_num,q_ ?_⟩;have h:=fy_.more d.o c8.o ai.o aa.o.1 aa.o.2 HX.o (de_ ct.o) am.o aj.o rfl bq.o cx.o d6.o dd.o;have e1:fs_ ((g.edges.take k).map l_.id) id=(g.edges.take (k+1)).map l_.id:=by unfold fs_;rw[a7.o,if_neg (by decide),f_ HX.o,List.map_append,<-f.o];rfl
                 rw[e1]at h;exact h)
     ·have ac:k=nE:=by omega
      have cf:=q_ (show g.edges.take k=g.edges from List.take_of_length_le (by rw[au.o,ac];exact XJ _));have C:=y.o;have dk:=q_ (show Y_ (okE (g.nodes.map h_.id)) l_.id [] g.edges=true from by have h:=C.ok;rw[cf.o]at h;exact h);have bk:=q_ (show bz_ j6_ g.edges es from by have h:=C.all;rw[cf.o]at h;exact h);rw[cf.o]at C;have b2:=q_ C;have ey:ns.length<=100000000:=by rw[<-bl.o.1,av.o];omega
      have ex:es.length<=100000000:=by rw[<-bk.o.1,au.o];omega
      have v:=q_ (uk_ C.nodes ey (λb hb=>by have:=C.set.lt;omega));have fi:wr.cell? ⟨z+4,0,QY⟩=QJ Ns:=QX C.store 0;clear C y;subst ac;go_upto_region 22 with fail;go_wp2_with fail;refine v.o.mono ?_;rintro e w4 ⟨rfl,V,b6,ec,t⟩;have cn:=q_ b6;have d5:=q_ ec;have aq:=q_ t;have ak:=q_ (show ∀b,Ns.ownBlock=QJ b->z+6<=b/\b<z2 from λb hb=>by obtain⟨cs,_,_,az,_⟩:=b2.o.nodes;exact az b hb);have fj:w4.cell? ⟨z+4,1,QY⟩=QJ Es:=QX ((t.block (z+4) (by have:=b2.o.set.lt;have:=b2.o.far;omega) (λm=>by have:=(ak.o _ m).1;omega)).trans b2.o.store) 1;have dm:=q_ (Eh_ ((b2.o.own.turn EdR.good t (λb hb=>hb.2) (λb hb m=>by have:=(ak.o _ m).2;omega)).mono EdR.good (F':=λb=>z2+1<=b/\b<w4.heap.size) (λb hb=>⟨hb.1,XY hb.2 t.size⟩)) ex (λb hb=>hb.2));clear b6 ec t fi v;go_wp2_with fail;refine dm.o.mono ?_;rintro e w5 ⟨rfl,G,b6,eb,bd⟩;have e7:=q_ b6;have bt:=q_ (b2.o.next d5.o aq.o eb bd);have dw:=q_ (Es_ bg.o dl.o bl.o cn.o.1);have dv:=q_ (Er_ bg.o dk.o bk.o b6.1);have fd:V.length<=131072:=by rw[cn.o.1.length_eq,<-bl.o.1,av.o];omega
      have fe:G.length<=65536:=by rw[b6.1.length_eq,<-bk.o.1,au.o];omega
      clear b6 eb bd fj dm;obtain⟨n5,bu⟩:=a_ V.length;obtain⟨n6,ar⟩:=a_ G.length;rw[bu.o]at fd;rw[ar.o]at fe;obtain⟨a4,ew⟩:=a_ w5.heap.size;rw[ew.o]at bt;obtain⟨A5,c5,f5⟩:∃A5 c5,Ns = QQ A5 n5 c5:=by obtain⟨A,c,h,_⟩:=d5.o;exact⟨A,c,by rw[h,bu.o]⟩
      obtain⟨A6,c6,f6⟩:∃A6 c6,Es = QQ A6 n6 c6:=by obtain⟨A,c,h,_⟩:=bt.o.edges;exact⟨A,c,by rw[h,ar.o]⟩
      subst f5 f6;have fk:w5.cell? ⟨z+4,0,QY⟩=QJ (QQ A5 n5 c5):=QX bt.o.store 0;clear b2 ak aq d5;go_wp2_with fail;clear fk;go_loopw [153] (λcj wx=>∃k:Nat,k<=n5/\cj = QK QU (k:Nat)/\Q_ (d2_ w z a4 V G (QQ A5 n5 c5) (QQ A6 n6 c6) ((V.take k).map h_.id) [] 0 (em_ []) wx)) (λcj _=>n5-(intOf cj).toNat)
      case atStart=>exact⟨0,by omega,rfl,bt⟩
      case round=>
       clear bt;obtain⟨k,hk,rfl,y⟩:=hrel;by_cases b4:k<n5
       ·obtain⟨x,m⟩:∃x,V[k]?=QJ x:=⟨V[k]'(by rw[bu.o];exact b4),XQ _⟩;have HX:=q_ m;obtain⟨ad,A1,d1,A2,d2,rfl,ay,cp,cq,ae,q0,q1,q2⟩:=ls_ y.o.nodes.rd m;clear ay cp cq ae;obtain⟨id,f⟩:=a_ x.id;obtain⟨m1,ba⟩:=a_ x.labels.length;obtain⟨Y,ab⟩:=a_ x.props.length;rw[f.o]at q0;rw[ba.o]at q1;rw[ab.o]at q2;obtain⟨a,l⟩:=a_ wr.heap.size;obtain⟨w2,J⟩:=a_ (wr.alloc (XX #[QK QU id,QQ A1 m1 d1,QQ A2 Y d2] 72));have U:=q_ (y.o.on (w2:=w2.drew) (by rw[<-J.o];exact ((XV _ _).alloc (XJ _) _).drew));have b0:w2.drew.cell? ⟨a,0,QY⟩=QJ (QK QU id):=QX (w:=w2.drew) (show w2.heap[a]?=QJ (XX #[QK QU id,QQ A1 m1 d1,QQ A2 Y d2] 72 (0,0)) from by rw[<-J.o,<-l.o];exact heap_alloc_new wr _) 0;have g4:w2.drew.cell? ⟨z+4,4,QY⟩=QJ (.map (QJ (z+3))):=QX U.o.store 4;obtain⟨w3,bo,b3,P⟩:=U.o.at_.more (x:=id) (by rw[<-f.o];exact dw.o.2 x (YQ m)) (by rw[<-f.o];exact rg_ dw.o.1 m) (by simp;omega);rw[show ((V.take k).map h_.id).length=k by rw[List.length_map,List.length_take,bu.o];omega]at bo;have q:=q_ (U.o.upd (ids':=(V.take (k+1)).map h_.id) P (λb hb=>.inl ⟨by omega,by omega⟩) (by rw[f_ m,List.map_append];show a2_ w3 (z+3) (_++[x.id]);rw[f.o];exact b3) (U.o.types.turn P (λh=>by omega)) (U.o.hops.turn P (λh=>by omega) (λb hb h=>by have:=U.o.loc.1;omega)));clear b3 P m;have e1:(0:Int)<=k:=by omega
        have e2:(k:Int)<n5:=by omega
        have w1:IntKind.i64.wrap ((k:Int)+1)=(k:Int)+1:=IntWalk.i64_in _ (by omega);go_upto_region 27 with fail;rw[l.o,J.o];go_region
        all_goals (go_wp2_with fail;go_roundw)
        all_goals first
         | (case measure=>simp[intOf];omega)
         | (case rel=>exact⟨k+1,by omega,by go_num,q⟩)
       ·have ac:n5=k:=by omega
        have cw:=q_ (show d2_ w z a4 V G (QQ A5 n5 c5) (QQ A6 n6 c6) (V.map h_.id) [] 0 (em_ []) wr from by have h:=y.o;rw[List.take_of_length_le (by rw[bu.o];omega)]at h;exact h);clear y;subst ac;have fl:wr.cell? ⟨z+4,1,QY⟩=QJ (QQ A6 n6 c6):=QX cw.o.store 1;go_upto_region 29 with fail;go_wp2_with fail;clear fl;go_loopw [171] (λck wx=>∃(k n:Nat),k<=n6/\n<=4*k/\ck = QK QU (k:Nat)/\Q_ (d2_ w z a4 V G (QQ A5 n5 c5) (QQ A6 n6 c6) (V.map h_.id) ((G.take k).map l_.id) n (em_ (G.take k)) wx)) (λck _=>n6-(intOf ck).toNat)
        case atStart=>exact⟨0,0,by omega,by omega,rfl,cw⟩
        case round=>
         clear cw;obtain⟨k,n,hk,fs,rfl,y⟩:=hrel;by_cases b4:k<n6
         ·obtain⟨x,m⟩:∃x,G[k]?=QJ x:=⟨G[k]'(by rw[ar.o];exact b4),XQ _⟩;have HX:=q_ m;obtain⟨dr,cr,dq⟩:=dv.o.2 x (YQ m);obtain⟨ad,A2,d2,rfl,ay,co,ae,q0,q1,q2,q3,q4⟩:=i8_ y.o.edges.rd m;clear ay co ae;obtain⟨id,f⟩:=a_ x.id;obtain⟨src,a1⟩:=a_ x.src;obtain⟨dst,a0⟩:=a_ x.dst;obtain⟨E,ah⟩:=a_ x.type;obtain⟨Y,ab⟩:=a_ x.props.length;rw[f.o]at q0 dr;rw[a1.o]at q1 cr;rw[a0.o]at q2 dq;rw[ah.o]at q3;rw[ab.o]at q4;have f1:=q_ cr;have e8:=q_ dq;obtain⟨a,l⟩:=a_ wr.heap.size;obtain⟨w2,J⟩:=a_ (wr.alloc (XX #[QK QU id,QK QU src,QK QU dst,QZ E,QQ A2 Y d2] 74));have U:=q_ (y.o.on (w2:=w2.drew) (by rw[<-J.o];exact ((XV _ _).alloc (XJ _) _).drew));have br:=q_ (show w2.drew.heap[a]?=QJ (XX #[QK QU id,QK QU src,QK QU dst,QZ E,QQ A2 Y d2] 74 (0,0)) from by rw[<-J.o,<-l.o];exact heap_alloc_new wr _);have b0:w2.drew.cell? ⟨a,0,QY⟩=QJ (QK QU id):=QX br.o 0;have g3:w2.drew.cell? ⟨z+4,3,QY⟩=QJ (.map (QJ (z+2))):=QX U.o.store 3;have bi:=q_ (show z+6<=a4/\a4<=a from by rw[<-l.o];exact y.o.loc);obtain⟨w3,bo,b3,P⟩:=U.o.types.more (x:=id) dr (by rw[<-f.o];exact rg_ dv.o.1 m) (by simp;omega);rw[show ((G.take k).map l_.id).length=k by rw[List.length_map,List.length_take,ar.o];omega]at bo;have q:=q_ (U.o.upd (eids':=(G.take (k+1)).map l_.id) P (λb hb=>.inl ⟨by omega,by omega⟩) (U.o.at_.turn P (λh=>by omega)) (by rw[f_ m,List.map_append];show a2_ w3 (z+2) (_++[x.id]);rw[f.o];exact b3) (U.o.hops.turn P (λh=>by omega) (λb hb h=>by have:=U.o.loc.1;omega)));have dx:=q_ ((P.block a (b_ br.o) (by have:=bi.o;omega)).trans br.o);have n1:w3.cell? ⟨a,1,QY⟩=QJ (QK QU src):=QX dx.o 1;have en:=q_ (jn_ (z+4) a4 (z+1) n (em_ (G.take k)) src 1 k _ _ _ _ w3 q.o.store q.o.hops cr vi1 (by omega) (by omega) q.o.loc.2);clear b3 P m dr cr dq;have e1:(0:Int)<=k:=by omega
          have e2:(k:Int)<n6:=by omega
          have w1:IntKind.i64.wrap ((k:Int)+1)=(k:Int)+1:=IntWalk.i64_in _ (by omega);go_upto_region 32 with fail;rw[l.o,J.o];clear q0 q1 q2 q3 q4;go_region
          all_goals go_wp2_with fail
          all_goals refine en.o.mono ?_
          all_goals rintro e w4 ⟨rfl,ee,t⟩
          all_goals (
           have a8:=q_ (q.o.spoke ee t);have dy:=q_ (pt_ dx.o (by have:=bi.o;omega) t);have n2:w4.cell? ⟨a,2,none⟩=some (QK QU dst):=QX dy.o 2;have eo:=q_ (jn_ (z+4) a4 (z+1) (n+1) _ dst (-1) k _ _ _ _ w4 a8.o.store a8.o.hops e8.o vim (by omega) (by omega) a8.o.loc.2);clear ee t n1 en;go_wp2_with fail;refine eo.o.mono ?_;rintro e w5 ⟨rfl,ef,bd⟩;have d:=q_ (a8.o.spoke ef bd);have dz:=q_ (pt_ dy.o (by have:=bi.o;omega) bd);have n3:w5.cell? ⟨a,1,none⟩=some (QK QU src):=QX dz.o 1;have ep:=q_ (jn_ (z+4) a4 (z+1) (n+1+1) _ src 0 k _ _ _ _ w5 d.o.store d.o.hops f1.o vi0 (by omega) (by omega) d.o.loc.2);clear ef bd n2 eo;go_wp2_with fail;refine ep.o.mono ?_;rintro e w6 ⟨rfl,eg,dn⟩;have N:=q_ (d.o.spoke eg dn);have e0:=q_ (pt_ dz.o (by have:=bi.o;omega) dn);have n4:w6.cell? ⟨a,1,none⟩=some (QK QU src):=QX e0.o 1;have fh:w6.cell? ⟨a,2,none⟩=some (QK QU dst):=QX e0.o 2;clear eg dn n3 ep;by_cases bb:dst=src
           ·have q5:(dst != src)=false:=by rw[bb];exact bne_self_eq_false src
            have cz:=q_ (show d2_ w z a4 V G (QQ A5 n5 c5) (QQ (QJ ad) n6 c6) (V.map h_.id) ((G.take (k+1)).map l_.id) (n+1+1+1) (em_ (G.take (k+1))) w6 from by rw[f_ HX.o,sn_,a1.o,a0.o,if_pos bb,List.length_take,ar.o,Nat.min_eq_left hk,<-f_ HX.o];exact N.o);clear bb N;go_wp2_with fail;exact⟨⟨k+1,n+1+1+1,by omega,by omega,by go_num,cz⟩,by simp[intOf];omega⟩
           ·have q5:(dst != src)=true:=bne_iff_ne.2 bb;have eq:=q_ (jn_ (z+4) a4 (z+1) (n+1+1+1) _ dst 0 k _ _ _ _ w6 N.o.store N.o.hops e8.o vi0 (by omega) (by omega) N.o.loc.2);go_wp2_with fail;refine eq.o.mono ?_;rintro e w7 ⟨rfl,eh,er⟩;have cz:=q_ (show d2_ w z a4 V G (QQ A5 n5 c5) (QQ (QJ ad) n6 c6) (V.map h_.id) ((G.take (k+1)).map l_.id) (n+1+1+1+1) (em_ (G.take (k+1))) w7 from by rw[f_ HX.o,sn_,a1.o,a0.o,if_neg bb,List.length_take,ar.o,Nat.min_eq_left hk,<-f_ HX.o];exact N.o.spoke eh er);clear bb N eh er n4 fh eq;go_wp2_with fail;exact⟨⟨k+1,n+1+1+1+1,by omega,by omega,by go_num,cz⟩,by simp[intOf];omega⟩)
         ·have ac:n6=k:=by omega
          have e4:=q_ (show d2_ w z a4 V G (QQ A5 n5 c5) (QQ A6 n6 c6) (V.map h_.id) (G.map l_.id) n (em_ G) wr from by have h:=y.o;rw[List.take_of_length_le (by rw[ar.o];omega)]at h;exact h);clear y;subst ac;have eu:=q_ (show c8_ g=true from by rw[cd.o,dl.o,dk.o];rfl);have am:=q_ (show hx_ g ⟨V,G⟩ from ⟨⟨ns,bl.o,cn.o.1,cn.o.2⟩,⟨es,bk.o,e7.o.1,e7.o.2⟩⟩);go_upto_region 39 with fail;go_wp2_with fail;go_ret2;exact⟨by rw[Z.o];exact e4.o.below,.inr ⟨eu.o,z+4,⟨V,G⟩,rfl,by rw[Z.o];exact e4.o.done (by omega),am.o⟩⟩
 ·have em:=q_ (show c8_ g=false from by rw[cd.o,decide_eq_false j];rfl);have HB:=q_ (show XU w.heap.size w (w.alloc (XX #[QQ AN nN cN,QQ AE nE cE] 54)) from (XV _ _).alloc (XJ _) _);by_cases h1:nN<=131072
  ·have e1:decide ((131072:Int)<nN)=false:=decide_eq_false (by omega);have e2:decide ((65536:Int)<nE)=true:=decide_eq_true (by omega);clear j h1;go_enter Tryz.func32,Tryz.ntmps32
   go_wp2_with fail;go_ret2;exact⟨HB.o,.inl ⟨em.o,rfl⟩⟩
  ·have e1:decide ((131072:Int)<nN)=true:=decide_eq_true (by omega);clear j h1;go_enter Tryz.func32,Tryz.ntmps32
   go_wp2_with fail;go_ret2;exact⟨HB.o,.inl ⟨em.o,rfl⟩⟩
end
section
open Go Go.RowKit Go.Maps Go.WideMaps
theorem s3_ {K:Type} [DecidableEq K] {ks:List K} {k:K} (h:k∈ks):ks[place ks k]?=QJ k:=by unfold place;have a:=List.idxOf_lt_length_of_mem h;rw[XQ a,List.getElem_idxOf]
theorem a2_.look {w:QV} {m:Nat} {b:List Int} (h:a2_ w m b) {x:Int} (e:VI x) :
    ∃q:Int,(Instr.lookup 141 (.map (QJ m)) (QK QU x) true).run QW w = .ok (YY #[QK QU q,XK (inB b x)]) w/\(x∈b->∃i:Nat,q=i/\b[i]?=QJ x):=by
 obtain⟨D,h1,_,h2⟩:=h;obtain⟨v,n,c,l⟩:=h1.look_ok uq_ Tryz.underlying141 (z:=.int .i64 0) (by kernel_rfl) (zd:=.lit (.int .i64 0)) (zp:=[]) (plainElem_int Tryz.underlying3 (by decide)) (keyOf_int_mk Tryz.underlying2 e);obtain⟨a,rfl,hz,_⟩:=plainElem_int_inv Tryz.underlying3 l;injection hz with hz _;obtain⟨f,g⟩:=h2 x e;refine⟨a,?_,λd=>⟨place b x,?_,s3_ d⟩⟩
 ·rw[c];show _=Result.ok (Value.tuple #[_,XK (decide (x∈b))]) w;rw[<-f];rfl
 ·have j:=g d;have k:(DataW.lit (.int .i64 a):DataW Unit) = .lit (.int .i64 ((place b x:Nat):Int)):=hz.symm.trans j;exact (Lit.int.inj (DataW.lit.inj k)).2
end
section
open Go Go.RowKit
theorem Ac_ {l:List G_}:∀{ks:List ByteArray},a1_ ks l=true->(∀p,p∈l->al_ p.key=true/\p.key∉ks)/\(∀p q,p∈l->q∈l->p.key=q.key->p=q):=by
 induction l with
 | nil=>intro ks _;exact⟨λp a=>(List.not_mem_nil a).elim,λp q a=>(List.not_mem_nil a).elim⟩
 | cons x r o=>
  intro ks h;simp only[a1_,YJ]at h;obtain⟨⟨h1,h2,s⟩,k⟩:=h;obtain⟨c,n⟩:=o k;have m:x.key∉ks:=λg=>by rw[ci_ g]at h2;cases h2
  constructor
  ·intro p a;rcases List.mem_cons.1 a with rfl | a
   ·exact⟨h1,m⟩
   ·exact⟨(c p a).1,λg=>(c p a).2 (List.mem_append_left _ g)⟩
  ·intro p q a j e;rcases List.mem_cons.1 a with i | d
   ·rcases List.mem_cons.1 j with f | b
    ·rw[i,f]
    ·exact absurd (List.mem_append_right ks (List.mem_singleton.2 (by rw[<-e,i]))) (c q b).2
   ·rcases List.mem_cons.1 j with f | b
    ·exact absurd (List.mem_append_right ks (List.mem_singleton.2 (by rw[e,f]))) (c p d).2
    ·exact n p q d b e
theorem hg_ {l:List G_} (h:as_ l=true):(∀p,p∈l->al_ p.key=true)/\(∀p q,p∈l->q∈l->p.key=q.key->p=q):=by unfold as_ at h;rw[YJ]at h;have:=Ac_ h.1;exact⟨λp a=>(this.1 p a).1,this.2⟩
theorem Dq_ {g : Type} {key:g -> Int} {l:List g} (c:(l.map key).Nodup) {x y:g} (i:x∈l) (j:y∈l) (e:key x=key y):x=y:=by
 induction l with
 | nil=>cases i
 | cons a r k=>
  rw[List.map_cons,List.nodup_cons]at c;rcases List.mem_cons.1 i with h | d
  ·rcases List.mem_cons.1 j with f | b
   ·rw[h,f]
   ·exact absurd (List.mem_map.2 ⟨y,b,by rw[<-e,h]⟩) c.1
  ·rcases List.mem_cons.1 j with f | b
   ·exact absurd (List.mem_map.2 ⟨x,d,by rw[e,f]⟩) c.1
   ·exact k c.2 d b
theorem gw_ {g:w_} (a:c8_ g=true):Y_ okN h_.id [] g.nodes=true/\Y_ (okE (g.nodes.map h_.id)) l_.id [] g.edges=true:=by unfold c8_ at a;rw[YJ,YJ]at a;exact a.2
theorem qk_ {g:w_} (a:c8_ g=true) {n:h_} (b:n∈g.nodes):as_ n.props=true/\(a7_ [] n.labels=true/\n.labels.length<=65536):=by obtain⟨i,hi⟩:=List.mem_iff_getElem?.1 b;have h:=x2_ (gw_ a).1 hi;unfold okN at h;simp only[YJ]at h;exact⟨h.2.2.2.2,h.2.2.1,of_decide_eq_true h.2.2.2.1⟩
theorem qi_ {g:w_} (b:c8_ g=true) {e:l_} (a:e∈g.edges):as_ e.props=true:=by obtain⟨i,hi⟩:=List.mem_iff_getElem?.1 a;have h:=x2_ (gw_ b).2 hi;unfold okE at h;simp only[YJ]at h;exact h.2.2.2.2.2
theorem ql_ {g:w_} (a:c8_ g=true):(g.nodes.map h_.id).Nodup:=hp_ (λ_ _ h=>Br_ h) List.nodup_nil (gw_ a).1
theorem zx_ {g:w_} (a:c8_ g=true):(g.edges.map l_.id).Nodup:=hp_ (λ_ _ h=>Bq_ h) List.nodup_nil (gw_ a).2
theorem fp_ {c a : Type} {R:c -> a -> Prop} {l:List c} {m b:List a} (h:bz_ R l m) (d:b.Perm m) {y:a} (e:y∈b):∃x,x∈l/\R x y:=h.mem (d.mem_iff.1 e)
theorem Fo_ {a d : Type} {R:a -> d -> Prop} {l:List a} {m c:List d} (h:bz_ R l m) (f:c.Perm m) {x:a} (g:x∈l):∃y,y∈c/\R x y:=by
 obtain⟨i,hi⟩:=List.mem_iff_getElem?.1 g;have e:i<m.length:=by rw[<-h.1];exact b7_ hi
 have b:=XQ e;exact⟨_,f.mem_iff.2 (YQ b),h.2 i x _ hi b⟩
theorem Lv_ {g b:w_} (a:me_ g) (e:hx_ g b):b.nodes.length<=2000000/\b.edges.length<=2000000:=by obtain⟨⟨m,h1,h2,_⟩,⟨f,c,d,_⟩⟩:=e;exact⟨by rw[h2.length_eq,<-h1.1];exact a.1,by rw[d.length_eq,<-c.1];exact a.2.1⟩
theorem jf_ {a b:ByteArray} (h1:¬h0_ a b<0) (h2:¬h0_ b a<0):a=b:=by rw[lw_]at h1 h2;have c:a.data.toList=b.data.toList:=List.le_antisymm (List.not_lt.1 h2) (List.not_lt.1 h1);exact ByteArray.ext (Array.toList_inj.1 c)
theorem Eq_ {l c:List ByteArray} (d:l.Pairwise (λa b=>¬h0_ b a<0)) (h:Fm_ l c):c=l:=
 List.Perm.eq_of_pairwise (le:=λa b=>¬h0_ b a<0) (λ_ _ _ _ h1 h2=>jf_ h2 h1) h.2 d h.1
theorem tj_ {l c:List G_} (e:∀p q,p∈l->q∈l->p.key=q.key->p=q) (f:l.Pairwise (λa b=>¬h0_ b.key a.key<0)) (h:yw_ l c):c=l:=
 List.Perm.eq_of_pairwise (le:=λa b=>¬h0_ b.key a.key<0) (λa b d hb h1 h2=>e a b (h.1.mem_iff.1 d) hb (jf_ h2 h1)) h.2 f h.1
theorem Du_ {a b:Int} (h1:¬d1_ a b<0) (h2:¬d1_ b a<0):a=b:=by rw[lv_]at h1 h2;omega
theorem s1_ {e : Type} {key:e -> Int} {l c:List e} (g:(l.map key).Nodup) (i:l.Pairwise (λa b=>¬d1_ (key b) (key a)<0)) (d:c.Perm l) (h:c.Pairwise (λa b=>¬d1_ (key b) (key a)<0)):c=l:=
 List.Perm.eq_of_pairwise (le:=λa b=>¬d1_ (key b) (key a)<0) (λ_ _ f hb h1 h2=>Dq_ g (d.mem_iff.1 f) hb (Du_ h2 h1)) h i d
theorem A3_ {a : Type} {R:a -> a -> Prop} {l m:List a} (h:bz_ R l m) (b:∀x y,x∈l->R x y->y=x):m=l:=by
 apply List.ext_getElem?;intro i
 cases hx:l[i]? with
 | none=>
  have h2:m[i]?=QY:=by rw[List.getElem?_eq_none_iff]at hx ⊢;rw[<-h.1];exact hx
  exact h2
 | some x=>
  have c:i<m.length:=by rw[<-h.1];exact b7_ hx
  have h2:=XQ c;rw[h2,b x _ (YQ hx) (h.2 i x _ hx h2)]
theorem j0_ {g f:w_} (r:c8_ g=true) (t:hx_ g f) {n b:h_} (s:n∈f.nodes) (h:jt_ n b):b=n:=by obtain⟨⟨m,h1,h2,_⟩,_⟩:=t;obtain⟨x,u,a⟩:=fp_ h1 h2 s;have j:n.props.Perm x.props:=a.2.2.1;have c:=Eq_ a.2.1.2 h.2.1;have d:=tj_ (λp q k l e=>(hg_ (qk_ r u).1).2 p q (j.mem_iff.1 k) (j.mem_iff.1 l) e) a.2.2.2 h.2.2;obtain⟨i,L,P⟩:=n;obtain⟨v,y,z⟩:=b;have o:v=i:=h.1;subst o;simp only at c d;rw[c,d]
theorem sa_ {g c:w_} (z:c8_ g=true) (B:hx_ g c) {n a:l_} (A:n∈c.edges) (h:j6_ n a):a=n:=by obtain⟨_,⟨m,h1,h2,_⟩⟩:=B;obtain⟨x,C,l⟩:=fp_ h1 h2 A;have f:n.props.Perm x.props:=l.2.2.2.2.1;have b:=tj_ (λp q j k e=>(hg_ (qi_ z C)).2 p q (f.mem_iff.1 j) (f.mem_iff.1 k) e) l.2.2.2.2.2 h.2.2.2.2;obtain⟨i,s,d,t,P⟩:=n;obtain⟨D,E,o,F,G⟩:=a;have r:D=i:=h.1;have u:E=s:=h.2.1;have v:o=d:=h.2.2.1;have y:F=t:=h.2.2.2.1;subst r u v y;simp only at b;rw[b]
theorem z9_ {g a:w_} (e:c8_ g=true) (f:hx_ g a) {h:List h_} {d:List l_} (h1:bz_ jt_ a.nodes h) (h2:bz_ j6_ a.edges d):(⟨h,d⟩:w_)=a:=by rw[A3_ h1 (λx y c b=>j0_ e f c b),A3_ h2 (λx y c b=>sa_ e f c b)]
theorem fr_ {d K:Type} [DecidableEq K] {f:List K -> d -> Bool} {key:d -> K} {c:d -> Prop} (e:∀ks x,f ks x=true↔(key x∉ks/\c x)) {l:List d}:∀{ks:List K},Y_ f key ks l=true↔((∀x,x∈l->c x/\key x∉ks)/\(l.map key).Nodup):=by
 induction l with
 | nil=>intro ks;simp[Y_]
 | cons x r i=>
  intro ks;simp only[Y_,YJ,e,i,List.map_cons,List.nodup_cons,List.mem_cons,List.mem_append,List.mem_map];constructor
  ·rintro⟨⟨h1,h2⟩,b,g⟩;refine⟨λy a=>?_,fun⟨y,a,he⟩=>?_,g⟩
   ·rcases a with rfl | a
    ·exact⟨h2,h1⟩
    ·exact⟨(b y a).1,λh=>(b y a).2 (.inl h)⟩
   ·exact (b y a).2 (.inr (.inl he))
  ·rintro⟨h1,h2,b⟩;refine⟨⟨(h1 x (.inl rfl)).2,(h1 x (.inl rfl)).1⟩,λy a=>⟨(h1 y (.inr a)).1,λh=>?_⟩,b⟩;rcases h with h | h
   ·exact (h1 y (.inr a)).2 h
   ·rcases h with h | h
    ·exact h2 ⟨y,a,h⟩
    ·cases h
theorem te_ {a K:Type} [DecidableEq K] {b:List K -> a -> Bool} {key:a -> K} {c:a -> Prop} (d:∀ks x,b ks x=true↔(key x∉ks/\c x)) {l m:List a} (e:m.Perm l) (h:Y_ b key [] l=true):Y_ b key [] m=true:=by rw[fr_ d]at h ⊢;exact⟨λx f=>h.1 x (e.mem_iff.1 f),((e.map key).nodup_iff).2 h.2⟩
theorem Di_ (l:List ByteArray):∀ks,a7_ ks l=Y_ (λks s=>al_ s && !inB ks s) (λs=>s) ks l:=by
 induction l with
 | nil=>intro ks;rfl
 | cons x r a=>intro ks;simp only[a7_,Y_,a]
theorem q0_ (l:List G_):∀ks,a1_ ks l=Y_ (λks p=>al_ p.key&&(!inB ks p.key&&a8_ p.v)) G_.key ks l:=by
 induction l with
 | nil=>intro ks;rfl
 | cons x r a=>intro ks;simp only[a1_,Y_,a]
theorem ou_ {K:Type} [DecidableEq K] {ks:List K} {x:K}:(!inB ks x)=true↔x∉ks:=by unfold inB;simp
theorem Dh_ {l m:List ByteArray} (a:m.Perm l) (h:a7_ [] l=true):a7_ [] m=true:=by rw[Di_]at h ⊢;refine te_ (c:=λs=>al_ s=true) (λks s=>?_) a h;rw[YJ,ou_];exact⟨λh=>⟨h.2,h.1⟩,λh=>⟨h.2,h.1⟩⟩
theorem qz_ {l m:List G_} (a:m.Perm l) (h:as_ l=true):as_ m=true:=by unfold as_ at h ⊢;rw[YJ]at h ⊢;refine⟨?_,by rw[a.length_eq];exact h.2⟩;rw[q0_]at ⊢;have h1:=h.1;rw[q0_]at h1;refine te_ (c:=λp=>al_ p.key=true/\a8_ p.v=true) (λks p=>?_) a h1;rw[YJ,YJ,ou_];exact⟨λh=>⟨h.2.1,h.1,h.2.2⟩,λh=>⟨h.2.1,h.1,h.2.2⟩⟩
theorem uw_ (ks:List Int) (n:h_):okN ks n=true↔(n.id∉ks/\(0<=n.id/\a7_ [] n.labels=true/\n.labels.length<=65536/\as_ n.props=true)):=by unfold okN;rw[YJ,YJ,YJ,YJ,ou_,decide_eq_true_iff,decide_eq_true_iff];exact⟨λh=>⟨h.2.1,h.1,h.2.2.1,h.2.2.2.1,h.2.2.2.2⟩,λh=>⟨h.2.1,h.1,h.2.2.1,h.2.2.2.1,h.2.2.2.2⟩⟩
theorem uv_ (a ks:List Int) (e:l_):okE a ks e=true↔(e.id∉ks/\(0<=e.id/\e.src∈a/\e.dst∈a/\al_ e.type=true/\as_ e.props=true)):=by
 unfold okE;rw[YJ,YJ,YJ,YJ,YJ,ou_,decide_eq_true_iff];have h1:inB a e.src=true↔e.src∈a:=by unfold inB;simp
 have h2:inB a e.dst=true↔e.dst∈a:=by unfold inB;simp
 rw[h1,h2];exact⟨λh=>⟨h.2.1,h.1,h.2.2.1,h.2.2.2.1,h.2.2.2.2.1,h.2.2.2.2.2⟩,λh=>⟨h.2.1,h.1,h.2.2.1,h.2.2.2.1,h.2.2.2.2.1,h.2.2.2.2.2⟩⟩
theorem oy_ {g o:w_} (e:c8_ g=true) (u:hx_ g o):c8_ o=true:=by
 obtain⟨s,r⟩:=gw_ e;have b:g.nodes.length<=131072/\g.edges.length<=65536:=by unfold c8_ at e;rw[YJ]at e;exact of_decide_eq_true e.1
 obtain⟨⟨m,h1,h2,_⟩,⟨v,p,q,_⟩⟩:=u;rw[fr_ uw_]at s;rw[fr_ (uv_ _)]at r
 have j:∀i,i∈g.nodes.map h_.id->i∈o.nodes.map h_.id:=λi hi=>by
  obtain⟨x,c,rfl⟩:=List.mem_map.1 hi;obtain⟨y,d,a⟩:=Fo_ h1 h2 c;exact List.mem_map.2 ⟨y,d,a.1⟩
 unfold c8_;rw[YJ,YJ,fr_ uw_,fr_ (uv_ _),decide_eq_true_iff];refine⟨⟨by rw[h2.length_eq,<-h1.1];exact b.1,by rw[q.length_eq,<-p.1];exact b.2⟩,⟨λy d=>?_,?_⟩,λy d=>?_,?_⟩
 ·obtain⟨x,c,a⟩:=fp_ h1 h2 d;obtain⟨k,l,n,c4⟩:=(s.1 x c).1;exact⟨⟨by rw[a.1];exact k,Dh_ a.2.1.1 l,by rw[a.2.1.1.length_eq];exact n,qz_ a.2.2.1 c4⟩,List.not_mem_nil⟩
 ·refine l0_ h2 ?_;rw[k4_ (R:=jt_) (f:=h_.id) (g:=h_.id) (λx y h=>h.1) h1];exact s.2
 ·obtain⟨x,c,a⟩:=fp_ p q d;obtain⟨k,l,n,c4,t⟩:=(r.1 x c).1;exact⟨⟨by rw[a.1];exact k,by rw[a.2.1];exact j _ l,by rw[a.2.2.1];exact j _ n,by rw[a.2.2.2.1];exact c4,qz_ a.2.2.2.2.1 t⟩,List.not_mem_nil⟩
 ·refine l0_ q ?_;rw[k4_ (R:=j6_) (f:=l_.id) (g:=l_.id) (λx y h=>h.1) p];exact r.2
theorem Jf_ {l a b:List ByteArray} (h1:Fm_ l a) (h2:Fm_ l b):a=b:=
 List.Perm.eq_of_pairwise (le:=λa b=>¬h0_ b a<0) (λ_ _ _ _ h1 h2=>jf_ h2 h1) h1.2 h2.2 (h1.1.trans h2.1.symm)
theorem ya_ {l a b:List G_} (e:∀p q,p∈l->q∈l->p.key=q.key->p=q) (h1:yw_ l a) (h2:yw_ l b):a=b:=
 List.Perm.eq_of_pairwise (le:=λa b=>¬h0_ b.key a.key<0) (λx y f g c d=>e x y (h1.1.mem_iff.1 f) (h2.1.mem_iff.1 g) (jf_ d c)) h1.2 h2.2 (h1.1.trans h2.1.symm)
theorem sf_ {e f : Type} {R:e -> f -> Prop} {l:List e} {a b:List f} (h1:bz_ R l a) (h2:bz_ R l b) (h:∀x y z,x∈l->R x y->R x z->y=z):a=b:=by
 apply List.ext_getElem?;intro i;rcases Nat.lt_or_ge i l.length with hi | hi
 ·have c:=XQ hi;have d:=XQ (show i<a.length by rw[<-h1.1];exact hi);have hb:=XQ (show i<b.length by rw[<-h2.1];exact hi);rw[d,hb,h _ _ _ (YQ c) (h1.2 i _ _ c d) (h2.2 i _ _ c hb)]
 ·rw[List.getElem?_eq_none (by rw[<-h1.1];exact hi),List.getElem?_eq_none (by rw[<-h2.1];exact hi)]
theorem re_ {g a b:w_} (k:c8_ g=true) (h1:hx_ g a) (h2:hx_ g b):a=b:=by
 have j:=oy_ k h1;obtain⟨⟨m1,u,v,A⟩,⟨Z,B,a5,C⟩⟩:=h1;obtain⟨⟨m2,D,E,F⟩,⟨k2,G,I,J⟩⟩:=h2
 have N:m1=m2:=sf_ u D λx y z n c hz=>by
  have h:=Jf_ c.2.1 hz.2.1;have f:=ya_ (λp q l m e=>(hg_ (qk_ k n).1).2 p q l m e) c.2.2 hz.2.2;obtain⟨i,L,P⟩:=y;obtain⟨o,L',r⟩:=z;have e0:i=o:=c.1.trans hz.1.symm;simp only at h f;rw[e0,h,f]
 have h:Z=k2:=sf_ B G λx y z n c hz=>by
  have f:=ya_ (λp q l m e=>(hg_ (qi_ k n)).2 p q l m e) c.2.2.2.2 hz.2.2.2.2;obtain⟨i,s,d,t,P⟩:=y;obtain⟨o,s',M,t',r⟩:=z;have S:i=o:=c.1.trans hz.1.symm;have U:s=s':=c.2.1.trans hz.2.1.symm;have V:d=M:=c.2.2.1.trans hz.2.2.1.symm;have W:t=t':=c.2.2.2.1.trans hz.2.2.2.1.symm;simp only at f;rw[S,U,V,W,f]
 subst N h;obtain⟨na,O⟩:=a;obtain⟨nb,R⟩:=b;have X:na=nb:=(s1_ (key:=h_.id) (ql_ j) A (E.trans v.symm) F).symm;have Y:O=R:=(s1_ (key:=l_.id) (zx_ j) C (I.trans a5.symm) J).symm;rw[X,Y]
theorem uf_ {g q:w_} (b:me_ g) (d:hx_ g q):me_ q:=by
 have r:=Lv_ b d;obtain⟨⟨m,h1,h2,_⟩,⟨B,v,y,_⟩⟩:=d;refine⟨r.1,r.2,λn A=>?_,λe z=>?_⟩
 ·obtain⟨x,o,a⟩:=fp_ h1 h2 A;obtain⟨⟨f,h,i,j⟩,k⟩:=b.2.2.1 x o;have t:n.labels.Perm x.labels:=a.2.1.1;have c:n.props.Perm x.props:=a.2.2.1;exact⟨⟨by rw[t.length_eq];exact f,by rw[c.length_eq];exact h,λs d=>i s (t.mem_iff.1 d),λp l=>j p (c.mem_iff.1 l)⟩,by rw[a.1];exact k⟩
 ·obtain⟨x,o,a⟩:=fp_ v y z;obtain⟨⟨f,h,i⟩,j,k,u⟩:=b.2.2.2 x o;have c:e.props.Perm x.props:=a.2.2.2.2.1;exact⟨⟨by rw[a.2.2.2.1];exact f,by rw[c.length_eq];exact h,λp l=>i p (c.mem_iff.1 l)⟩,by rw[a.1];exact j,by rw[a.2.1];exact k,by rw[a.2.2.1];exact u⟩
theorem lj_ {g:w_} (a:c8_ g=true):(∀n,n∈g.nodes->Ax_ n)/\∀e,e∈g.edges->Aw_ e:=
 ⟨λ_ c=>f7_ (qk_ a c).1,λ_ b=>f7_ (qi_ a b)⟩
theorem Jg_ {g a:w_} (d:hx_ g a):a.nodes.length=g.nodes.length/\a.edges.length=g.edges.length:=by obtain⟨⟨m,h1,h2,_⟩,⟨e,b,c,_⟩⟩:=d;exact⟨by rw[h2.length_eq,<-h1.1],by rw[c.length_eq,<-b.1]⟩
end
section
open Go Go.RowKit Go.Maps
abbrev CT:e_->Array XZ->Prop:=λt c=>dm_ c t
def h3_ (L:List e_) (w:QV) (e:Ending) (w':QV):Prop:=
 (¬(L.length<=65536/\L.all cx_=true)/\e = XW (YY #[QQ QY 0 0,QK QU 20])/\XU w.heap.size w w') \/
 (L.length<=65536/\L.all cx_=true/\∃v,e = XW (YY #[v,QK QU 0])/\D_ 41 18 TrR w' (λb=>w.heap.size<=b/\b<w'.heap.size) (au_ (s_ (ae_ 0)) L) v/\XU w.heap.size w w')
theorem Dm_ {a : Type} {o:a -> a -> Int} {L:List a} {i:Nat} {y:a} (h:L[i]?=QJ y):au_ o (L.take (i+1))=gs_ o (au_ o (L.take i)) y:=by rw[f_ h,qg_]
theorem xo_ {F:Nat->Prop} {w:QV} (L:List e_) (c8:∀t,t∈L->OkT t) {A:Option Addr} {n cp:Nat} (h:SRd 18 TrR w F L A n) (hF:∀b,F b->b<w.heap.size) (hn:n<=1000000000) :
    Calls QW 13 #[QQ A n cp] w (h3_ L w):=by
 have H1:=q_ h;have HF:=q_ hF;have L1:=q_ h.1;have af:=q_ c8;clear h hF c8;go_enter Tryz.func13,Tryz.ntmps13
 by_cases ck:65536<n
 ·have e1:(65536:Int)<n:=by omega
  have HE:=q_ (show ∀w',XU w.heap.size w w'->h3_ L w (XW (YY #[QQ QY 0 0,QK QU 20])) w' from λw' hb=>.inl ⟨λh=>by have:=h.1;have:=L1.o;omega,rfl,hb⟩);go_wp2_with fail;go_ret2;exact HE.o _ (XV _ _)
 ·have e1:¬(65536:Int)<n:=by omega
  have HN:=q_ (show n<=65536 from by omega);go_wp2_with fail;clear hn ck e1;go_loopw [4] (λs4 wx=>∃i:Nat,i<=n/\s4 = QK QU (i:Nat)/\Q_ (XU w.heap.size w wx/\∀m t,m<i->L[m]?=QJ t->cx_ t=true)) (λs4 _=>n-(intOf s4).toNat)
  case atStart=>exact⟨0,by omega,rfl,q_ ⟨XV _ _,λm t hm=>absurd hm (by omega)⟩⟩
  case round=>
   obtain⟨i,hi,rfl,hM⟩:=hrel;by_cases cw:i<n
   ·have a1:(0:Int)<=i:=by omega
    have a2:(i:Int)<n:=by omega
    have w1:IntKind.i64.wrap ((i:Int)+1)=(i:Int)+1:=IntWalk.i64_in _ (by have:=HN.o;omega);obtain⟨t,ht⟩:∃t,L[i]?=QJ t:=⟨_,XQ (by rw[<-L1.o];exact cw)⟩;obtain⟨ad,ss,rfl,aj,U,hr⟩:=TrR.cells H1.o ht;have HT:=q_ ht;have a0:=λ(W:QV) (hb:XU w.heap.size w W)=>xp_ t (af.o t (YQ ht)) F ss W (λg h=>XY (HF.o g h) hb.size) (λq U=>(hr q U).under hb HF.o);unfold p_ at a0;obtain⟨ct,c3⟩:=be_ t ss;rw[c3.o]at U a0;obtain⟨b,Hb⟩:=a_ (cx_ t);rw[Hb.o]at a0;have cg:=q_ (a0 wr hM.o.1);have I1:=q_ (ey_.trans (congrArg QJ c3.size.symm));have co:=q_ (λ(W:QV) (hb:XU w.heap.size w W) (j:Nat) (hj:j<ct.size)=>(hb.cell (p:=(ad.add (i*18)).add j) (by rw[N_,N_];exact HF.o _ aj)).trans (U j hj));clear ht aj U hr a0;go_wp2_with ((with_reducible refine d_ (some 21) ?_);refine E_ (by rfl) 41 _ rfl rfl ct _ (co.o _ hM.o.1) Tryz.underlying41 rfl I1.o ?_)
    refine cg.o.mono ?_;rintro e x ⟨rfl,hb⟩;have HX:=q_ (hM.o.1.trans (hb.mono hM.o.1.size));clear hb
    cases b with
    | false=>
     have HE:=q_ (show h3_ L w (XW (YY #[QQ QY 0 0,QK QU 20])) x from .inl ⟨(λh=>by
      have h2:=List.all_eq_true.1 h.2 t (YQ HT.o);rw[Hb.o]at h2
      cases h2),rfl,HX.o⟩)
     go_wp2_with fail;go_ret2;exact HE.o
    | true=>
     go_wp2_with fail;go_roundw
     case rel=>exact⟨i+1,by omega,by go_num,q_ ⟨HX.o,λm u hm hu=>by
      by_cases e:m=i
      ·subst e;rw[HT.o]at hu;injection hu with hu;subst hu;exact Hb.o
      ·exact hM.o.2 m u (by omega) hu⟩⟩
     case measure=>simp[intOf];omega
   ·have a2:¬(i:Int)<n:=by omega
    have cu:i=n:=by omega
    subst cu;have a8:=q_ (show L.all cx_=true from by rw[List.all_eq_true];intro t ht;obtain⟨m,hm⟩:=List.getElem?_of_mem ht;exact hM.o.2 m t (by have:=(List.getElem?_eq_some_iff.1 hm).1;have:=L1.o;omega) hm);have bz:=q_ (λt (ht:t∈L)=>(show yu_ t from ow_ (bv_ (List.all_eq_true.1 a8.o t ht) (af.o t ht)) (λn=>((af.o t ht).get n).fit)));have cs:=q_ (LdP.startOn (E:=41) (sz:=18) (R:=CT) hM.o.1);obtain⟨i0,c6,cb,cc,cd⟩:=info_parts ov_;have a4:=q_ c6;have a6:=q_ cb;have a5:=q_ cc;have a3:=q_ cd;clear c6 cb cc cd a2 hi;obtain⟨w0,d0⟩:∃w0,w0=wr:=⟨_,rfl⟩;go_wp2_with fail;go_loopw [5,6] (λs5 s6 wx=>∃(j:Nat) (S:XZ),j<=i/\s6 = QK QU (j:Nat)/\S=s5/\Q_ (LdP 41 18 CT w (au_ (s_ (ae_ 0)) (L.take j)) S wx)) (λ_ s6 _=>i-(intOf s6).toNat)
    case atStart=>exact⟨0,_,by omega,rfl,rfl,q_ cs.o⟩
    case round=>
     obtain⟨j,S,hj,rfl,rfl,hN⟩:=hrel;by_cases bu:j<i
     ·have a1:(0:Int)<=j:=by omega
      have a2:(j:Int)<i:=by omega
      have w1:IntKind.i64.wrap ((j:Int)+1)=(j:Int)+1:=IntWalk.i64_in _ (by have:=HN.o;omega);obtain⟨y,hy⟩:∃y,L[j]?=QJ y:=⟨_,XQ (by rw[<-L1.o];exact bu)⟩;obtain⟨ad,N,e,aj,ba,U,hr⟩:=H1.o.at_ hy;subst e;have HY:=q_ hy;have bj:=q_ (hr.cellT (bz.o y (YQ hy)));have ZY:=q_ ba;have IY:=q_ (ey_.trans (congrArg QJ ba.symm));have bc:=q_ (λ(W:QV) (hb:XU w.heap.size w W) (q:Nat) (c9:q<N.size)=>(show W.cell? ((ad.add (j*18)).add q)=N[q]? from by rw[add_of_add,hb.cell (p:=ad.add (j*18+q)) (by rw[N_];exact HF.o _ aj)];exact U q (by omega)));have P:=q_ bu;obtain⟨l,Hl⟩:=a_ (au_ (s_ (ae_ 0)) (L.take j));have B:=hN.o;rw[Hl.o]at B;obtain⟨m,M⟩:=a_ l.length;have C:=q_ (show m<=65536 from by have h1:=gu_ (s_ (ae_ 0)) (L.take j);rw[Hl.o,M.o,List.length_take]at h1;have:=HN.o;omega);obtain⟨A5,s,rfl,bd,ac⟩:∃A c,S = QQ A m c/\m<=c/\(A=QY->c=0):=by obtain⟨A,c,e,h1,h2⟩:=B.own.form;rw[M.o]at e h1;exact⟨A,c,e,h1,h2⟩
      have bb:=q_ bd;have a9:=q_ ac;have c0:=q_ B;have aa:=q_ (show au_ (s_ (ae_ 0)) (L.take (j+1))=gs_ (s_ (ae_ 0)) l y from by rw[Dm_ hy,Hl.o]);clear hy aj ba U hr bu hN B bd ac;go_wp2_with fail;obtain⟨ce,d1⟩:∃ce,ce=wr:=⟨_,rfl⟩;go_loopw [7] (λs7 wx=>∃k:Nat,k<=m/\s7 = QK QU (k:Nat)/\Q_ (LdP 41 18 CT w l (QQ A5 m s) wx/\bi_ (s_ (ae_ 0)) y l m=bi_ (s_ (ae_ 0)) y l k)) (λs7 _=>(intOf s7).toNat)
      case atStart=>exact⟨m,by omega,rfl,q_ ⟨c0.o,rfl⟩⟩
      case round=>
       obtain⟨k,hk,rfl,hQ⟩:=hrel;clear c0;by_cases bw:k=0
       ·have HM:=q_ hQ.o.1;have b4:=q_ (show gs_ (s_ (ae_ 0)) l y=l.take k++([y]++l.drop k) from by rw[bw];exact Hq_ (by rw[M.o,hQ.o.2,bw];exact Ep_));have D:=q_ hk;have g0:¬(0:Int)<k:=by omega
        have g1:¬0<k:=by omega
        clear hQ bw;go_upto_region 13 with fail;refine wp_region_held_drew (S:=λW'=>LdP 41 18 CT w l (QQ A5 m s) W') (by kernel_rfl) HM.o.drew λd=>?_;refine P_.o ?_;refine C_ 0 32 (QK QU (k:Nat)) d λd=>?_;refine C_ 1 33 (XK false) d λd=>?_;refine C_ 2 34 (XK false) d λd=>?_;refine V_ 3 35 (by kernel_rfl) (by rfl) (by kernel_rfl) (by kernel_rfl) (by kernel_rfl) (λ_ _ _ h=>h) d λd=>?_;(try simp only[Act.put,aT,aZ,aS]);refine V_ 4 36 (by kernel_rfl) (by rfl) (by kernel_rfl) (by kernel_rfl) (by kernel_rfl) (λ_ _ _ h=>h) d λd=>?_;(try simp only[Act.put,aT,aZ,aS]);refine V_ 5 37 (by kernel_rfl) (by rfl) (by kernel_rfl) (by kernel_rfl) (by kernel_rfl) (λ_ _ _ h=>h) d λd=>?_;(try simp only[Act.put,aT,aZ,aS]);refine V_ 6 38 (by kernel_rfl) (by rfl) (by kernel_rfl) (by kernel_rfl) (by kernel_rfl) (λ_ _ _ h=>h) d λd=>?_;(try simp only[Act.put,aT,aZ,aS]);refine V_ 7 39 (by kernel_rfl) (by rfl) (by kernel_rfl) (by kernel_rfl) (by kernel_rfl) (λ_ _ _ h=>h) d λd=>?_;(try simp only[Act.put,aT,aZ,aS]);refine V_ 8 40 (by kernel_rfl) (by rfl) (by kernel_rfl) (by kernel_rfl) (by kernel_rfl) (λ_ _ _ h=>h) d λd=>?_;(try simp only[Act.put,aT,aZ,aS]);refine V_ 9 41 (by kernel_rfl) (by rfl) (by kernel_rfl) (by kernel_rfl) (by kernel_rfl) (λ_ _ _ h=>h) d λd=>?_;(try simp only[Act.put,aT,aZ,aS]);refine V_ 10 42 (by kernel_rfl) (by rfl) (by kernel_rfl) (by kernel_rfl) (by kernel_rfl) (λ_ _ _ h=>h) d λd=>?_;(try simp only[Act.put,aT,aZ,aS]);refine V_ 11 43 (by kernel_rfl) (by rfl) (by kernel_rfl) (by kernel_rfl) (by kernel_rfl) (λ_ _ _ h=>h) d λd=>?_;(try simp only[Act.put,aT,aZ,aS]);refine V_ 12 44 (by kernel_rfl) (by rfl) (by kernel_rfl) (by kernel_rfl) (by kernel_rfl) (λ_ _ _ h=>h) d λd=>?_;(try simp only[Act.put,aT,aZ,aS]);refine V_ 13 45 (by kernel_rfl) (by rfl) (by kernel_rfl) (by kernel_rfl) (by kernel_rfl) (λ_ _ _ h=>h) d λd=>?_;(try simp only[Act.put,aT,aZ,aS]);refine C_ 14 46 (XK false) d λd=>?_;refine⟨wpAnyH_done (by kernel_rfl) ?_ _⟩;go_upto_region 15 with fail;refine wp_region_held_drew (S:=λW'=>LdP 41 18 CT w l (QQ A5 m s) W') (by kernel_rfl) d.drew λd=>?_;refine P_.o ?_;refine C_ 0 49 (QK QU (k:Nat)) d λd=>?_;refine C_ 1 50 (XK false) d λd=>?_;refine C_ 2 51 (XK false) d λd=>?_;refine V_ 3 52 (by kernel_rfl) (by rfl) (by kernel_rfl) (by kernel_rfl) (by kernel_rfl) (λ_ _ _ h=>h) d λd=>?_;(try simp only[Act.put,aT,aZ,aS]);refine V_ 4 53 (by kernel_rfl) (by rfl) (by kernel_rfl) (by kernel_rfl) (by kernel_rfl) (λ_ _ _ h=>h) d λd=>?_;(try simp only[Act.put,aT,aZ,aS]);refine V_ 5 54 (by kernel_rfl) (by rfl) (by kernel_rfl) (by kernel_rfl) (by kernel_rfl) (λ_ _ _ h=>h) d λd=>?_;(try simp only[Act.put,aT,aZ,aS]);refine V_ 6 55 (by kernel_rfl) (by rfl) (by kernel_rfl) (by kernel_rfl) (by kernel_rfl) (λ_ _ _ h=>h) d λd=>?_;(try simp only[Act.put,aT,aZ,aS]);refine V_ 7 56 (by kernel_rfl) (by rfl) (by kernel_rfl) (by kernel_rfl) (by kernel_rfl) (λ_ _ _ h=>h) d λd=>?_;(try simp only[Act.put,aT,aZ,aS]);refine V_ 8 57 (by kernel_rfl) (by rfl) (by kernel_rfl) (by kernel_rfl) (by kernel_rfl) (λ_ _ _ h=>h) d λd=>?_;(try simp only[Act.put,aT,aZ,aS]);refine V_ 9 58 (by kernel_rfl) (by rfl) (by kernel_rfl) (by kernel_rfl) (by kernel_rfl) (λ_ _ _ h=>h) d λd=>?_;(try simp only[Act.put,aT,aZ,aS]);refine V_ 10 59 (by kernel_rfl) (by rfl) (by kernel_rfl) (by kernel_rfl) (by kernel_rfl) (λ_ _ _ h=>h) d λd=>?_;(try simp only[Act.put,aT,aZ,aS]);refine V_ 11 60 (by kernel_rfl) (by rfl) (by kernel_rfl) (by kernel_rfl) (by kernel_rfl) (λ_ _ _ h=>h) d λd=>?_;(try simp only[Act.put,aT,aZ,aS]);refine V_ 12 61 (by kernel_rfl) (by rfl) (by kernel_rfl) (by kernel_rfl) (by kernel_rfl) (λ_ _ _ h=>h) d λd=>?_;(try simp only[Act.put,aT,aZ,aS]);refine V_ 13 62 (by kernel_rfl) (by rfl) (by kernel_rfl) (by kernel_rfl) (by kernel_rfl) (λ_ _ _ h=>h) d λd=>?_;(try simp only[Act.put,aT,aZ,aS]);refine C_ 14 63 (XK false) d λd=>?_;refine⟨wpAnyH_done (by kernel_rfl) ?_ _⟩;have ae:=q_ d;clear d HM;go_upto_region 17 with fail;obtain⟨bg,br,aw,ap,ah⟩:=x7_ (k:=k) vb_ jm_ (A:=A5) (n:=m) (c:=s) D.o bb.o a9.o;obtain⟨bh,bs,ay,aq,ai⟩:=rc_ (k:=k) vb_ jm_ (A:=A5) (n:=m) (c:=s) D.o bb.o a9.o;have b7:=q_ aw;have b8:=q_ ay;have b5:=q_ ap;have b6:=q_ aq;have b2:=q_ ah;have b3:=q_ ai;clear aw ay ap aq ah ai;have I:=q_ (InP.start ae.o);have Y:=q_ ((I.o.l.own.rd R_ (F:=λb=>(Value.slice A5 m s).ownBlock=QJ b) (λ_ h=>h) M.o).part_to D.o b2.o)
        go_upto_region 18 with (first
         | ((with_reducible refine d_ (some 67) ?_);refine o2_ rfl (QQ bg k br) (n_ (b7.o _)) ?_)
         | ((with_reducible refine d_ (some 68) ?_);refine by_ R_ rfl (.tmp 64) (.tmp 67) 22 rfl i0 _ Tryz.underlying22 a4.o a6.o a5.o a3.o rfl (by decide) rfl I.o.n.own rfl rfl Y.o b5.o (by have:=C.o;have:=D.o;simp;omega) (by decide) ?_;intro v1 y1 ar ak az))
        have V:=q_ (I.o.app ar ak az);clear ar ak az;have X:=q_ (V.o.on ((XV _ _).alloc (XJ _) (XX N 41)));have bq:=q_ (ux_ R_ bj.o y1 41)
        go_upto_region 19 with (first
         | ((with_reducible refine d_ (some 73) ?_);refine E_ (by rfl) 41 _ rfl rfl N _ (bc.o _ V.o.l.hb) Tryz.underlying41 rfl IY.o ?_)
         | ((with_reducible refine d_ (some 74) ?_);refine t7_ rfl 22 1 _ rfl #[(0,.agg N)] (by kernel_rfl) (QQ (QJ ⟨y1.heap.size,0,QY⟩) 1 1) _ (i5_ N ZY.o y1) ?_)
         | ((with_reducible refine d_ (some 75) ?_);refine by_ R_ rfl (.tmp 69) (.tmp 74) 22 rfl i0 _ Tryz.underlying22 a4.o a6.o a5.o a3.o rfl (by decide) rfl X.o.n.own rfl rfl bq.o (λh=>by cases h) (by have:=C.o;have:=D.o;simp;omega) (by decide) ?_;intro v2 y2 au am b0))
        have J:=q_ (X.o.app au am b0);clear au am b0 X V I Y;have Z:=q_ ((J.o.l.own.rd R_ (F:=λb=>(Value.slice A5 m s).ownBlock=QJ b) (λ_ h=>h) M.o).part_from D.o b3.o)
        go_wp2_with (first
         | ((with_reducible refine d_ (some 79) ?_);refine o2_ rfl (QQ bh (m-k) bs) (n_ (b8.o _)) ?_)
         | ((with_reducible refine d_ (some 80) ?_);refine by_ R_ rfl (.tmp 76) (.tmp 79) 22 rfl i0 _ Tryz.underlying22 a4.o a6.o a5.o a3.o rfl (by decide) rfl J.o.n.own rfl rfl Z.o b6.o (by have:=C.o;have:=D.o;simp;omega) (by decide) ?_;intro v3 y3 av ao b1))
        have bl:=q_ (J.o.app av ao b1);clear av ao b1 J Z;go_wp2_with fail;go_roundw
        case rel=>exact⟨j+1,_,by have:=P.o;omega,by go_num,rfl,q_ (by have h:=bl.o.done;rw[List.nil_append,List.append_assoc]at h;rw[aa.o,b4.o];exact h)⟩
        case measure=>have:=P.o;simp[intOf];omega
       ·obtain⟨r,c7⟩:∃r,k=r+1:=⟨k-1,by omega⟩;have g0:(0:Int)<k:=by omega
        have g1:0<k:=by omega
        have c2:=q_ (show IntKind.i64.wrap ((k:Int)-1)=(r:Int) from by rw[IntWalk.i64_in _ (by have:=C.o;omega)];omega);have a7:=q_ c7;have D:=q_ hk;have bm:=q_ (show r<m from by omega);obtain⟨x,hx⟩:∃x,l[r]?=QJ x:=⟨_,XQ (by rw[M.o];omega)⟩;obtain⟨f,O,rfl,G,bt,ca⟩:=hQ.o.1.own.cell R_ M.o hx;have HX:=q_ hx;have bn:=q_ G;have IX:=q_ (ey_.trans (congrArg QJ (dm_.size bt).symm));have cq:=q_ (λ(W:QV) (hb:XU wr.heap.size wr W) (q:Nat) (c9:q<O.size)=>(hb.cell (p:=(f.add (r*18)).add q) (by rw[N_,N_];exact G)).trans (ca q c9));have ab:=λW=>xn_ (a:=x) (b:=y) bt bj.o W;unfold rl_ at ab;obtain⟨om,ag⟩:=a_ (s_ (ae_ 0) x y);rw[ag.o]at ab;have bi:=q_ ab;have HM:=q_ hQ.o.1;have c1:=q_ hQ.o.2;clear hx G bt ca ab hQ c7;go_upto_region 13 with fail;refine wp_region_held_drew (S:=λW'=>LdP 41 18 CT w l (QQ (QJ f) m s) W'/\∀q,q<O.size->W'.cell? ((f.add (r*18)).add q)=O[q]?) (by kernel_rfl) ⟨HM.o.drew,cq.o _ (XV _ _).drew⟩ λd=>?_;refine P_.o ?_;refine C_ 0 32 (QK QU (k:Nat)) d λd=>?_;refine C_ 1 33 (XK true) d λd=>?_;refine C_ 2 34 (XK true) d λd=>?_;refine C_ 3 35 (QQ (QJ f) m s) d λd=>?_;refine C_ 4 36 (QK QU (k:Nat)) d λd=>?_;refine tlW 5 37 (QK QU (r:Nat)) d (λw z=>?_) λd=>?_
        ·have p:=c2.o;unfold H_;go_simp
        refine tlW 6 38 (YX (QJ (f.add (r*18)))) d (λw z=>?_) λd=>?_
        ·exact n_ (g8_ f m s r bm.o w)
        refine tlW 7 39 (.agg O) d (λw z=>?_) λd=>?_
        ·have p:=S_ w (f.add (r*18)) 41 O _ z.2 Tryz.underlying41 rfl IX.o;exact n_ (by simp only[Instr.loadAt,Instr.sureAddr,Sem.run_bind];exact p)
        refine C_ 8 40 (QQ (QJ ad) i cp) d λd=>?_;refine C_ 9 41 (QK QU (j:Nat)) d λd=>?_;refine tlW 10 42 (YX (QJ (ad.add (j*18)))) d (λw z=>?_) λd=>?_
        ·exact n_ (g8_ ad i cp j P.o w)
        refine tlW 11 43 (.agg N) d (λw z=>?_) λd=>?_
        ·have p:=S_ w (ad.add (j*18)) 41 N _ (bc.o _ z.1.hb) Tryz.underlying41 rfl IY.o;exact n_ (by simp only[Instr.loadAt,Instr.sureAddr,Sem.run_bind];exact p)
        refine tlC 12 λK hK=>?_;go_simp;refine (bi.o _).mono ?_;rintro e x1 ⟨rfl,hb⟩;have ci:=q_ (show wr.heap.size<=x1.heap.size from hb.size)
        have bk:=q_ (show LdP 41 18 CT w l (QQ (QJ f) m s) x1/\∀q,q<O.size->x1.cell? ((f.add (r*18)).add q)=O[q]? from ⟨d.1.on hb,λq U=>by
         have G:f.block<wr.drew.heap.size:=bn.o;exact (hb.cell (p:=(f.add (r*18)).add q) (by rw[N_,N_];exact G)).trans (d.2 q U)⟩)
        clear hb;dsimp only;refine tlB hK bk.o λd=>?_;clear hK K;by_cases bf:0<om
        ·have cl:(0:Int)<om:=bf;refine C_ 13 45 (XK true) d λd=>?_;refine C_ 14 46 (XK true) d λd=>?_;refine⟨wpAnyH_done (by kernel_rfl) ?_ _⟩;have bo:=q_ d.1;clear d;have wk:wrap64 ((k:Int)-1)=(r:Int):=(IntWalk.wrap64_in _ (by have h2:k=r+1:=a7.o;have:=C.o;have:=D.o;omega)).trans (by have h2:k=r+1:=a7.o;omega);go_wp2_with fail;go_roundw
         case rel=>exact⟨r,by have:=bm.o;omega,by go_num,q_ ⟨bo.o,by have h1:=c1.o;have h2:k=r+1:=a7.o;rw[h1,h2];exact En_ HX.o (by rw[ag.o];exact bf)⟩⟩
         case measure=>have h2:k=r+1:=a7.o;simp[intOf];omega
        ·have cl:¬(0:Int)<om:=bf;refine C_ 13 45 (XK false) d λd=>?_;refine C_ 14 46 (XK false) d λd=>?_;refine⟨wpAnyH_done (by kernel_rfl) ?_ _⟩;have bp:=q_ (show bi_ (s_ (ae_ 0)) y l l.length=r+1 from by have h1:=c1.o;have h2:k=r+1:=a7.o;rw[M.o,h1,h2];exact Eo_ HX.o (by rw[ag.o];exact bf));have bo:=q_ d.1;have cj:=q_ (show wr.heap.size<=x1.drew.heap.size from ci.o);have ch:=q_ d.2;clear d;go_upto_region 15 with fail;refine wp_region_held_drew (S:=λW'=>LdP 41 18 CT w l (QQ (QJ f) m s) W'/\∀q,q<O.size->W'.cell? ((f.add (r*18)).add q)=O[q]?) (by kernel_rfl) ⟨bo.o.drew,ch.o⟩ λd=>?_;refine P_.o ?_;refine C_ 0 49 (QK QU (k:Nat)) d λd=>?_;refine C_ 1 50 (XK true) d λd=>?_;refine C_ 2 51 (XK true) d λd=>?_;refine C_ 3 52 (QQ (QJ f) m s) d λd=>?_;refine C_ 4 53 (QK QU (k:Nat)) d λd=>?_;refine tlW 5 54 (QK QU (r:Nat)) d (λw z=>?_) λd=>?_
         ·have p:=c2.o;unfold H_;go_simp
         refine tlW 6 55 (YX (QJ (f.add (r*18)))) d (λw z=>?_) λd=>?_
         ·exact n_ (g8_ f m s r bm.o w)
         refine tlW 7 56 (.agg O) d (λw z=>?_) λd=>?_
         ·have p:=S_ w (f.add (r*18)) 41 O _ z.2 Tryz.underlying41 rfl IX.o;exact n_ (by simp only[Instr.loadAt,Instr.sureAddr,Sem.run_bind];exact p)
         refine C_ 8 57 (QQ (QJ ad) i cp) d λd=>?_;refine C_ 9 58 (QK QU (j:Nat)) d λd=>?_;refine tlW 10 59 (YX (QJ (ad.add (j*18)))) d (λw z=>?_) λd=>?_
         ·exact n_ (g8_ ad i cp j P.o w)
         refine tlW 11 60 (.agg N) d (λw z=>?_) λd=>?_
         ·have p:=S_ w (ad.add (j*18)) 41 N _ (bc.o _ z.1.hb) Tryz.underlying41 rfl IY.o;exact n_ (by simp only[Instr.loadAt,Instr.sureAddr,Sem.run_bind];exact p)
         refine tlC 12 λK hK=>?_;go_simp;refine (bi.o _).mono ?_;rintro e x2 ⟨rfl,hb⟩
         have bk:=q_ (show LdP 41 18 CT w l (QQ (QJ f) m s) x2/\∀q,q<O.size->x2.cell? ((f.add (r*18)).add q)=O[q]? from ⟨d.1.on hb,λq U=>by
          have G:f.block<x1.drew.heap.size:=XY bn.o cj.o;exact (hb.cell (p:=(f.add (r*18)).add q) (by rw[N_,N_];exact G)).trans (d.2 q U)⟩)
         clear hb;dsimp only;refine tlB hK bk.o λd=>?_;clear hK K;by_cases b9:om=0
         ·subst b9;refine C_ 13 62 (XK true) d λd=>?_;refine C_ 14 63 (XK true) d λd=>?_;refine⟨wpAnyH_done (by kernel_rfl) ?_ _⟩;have ae:=q_ d.1;clear d;go_wp2_with fail;go_roundw
          case rel=>exact⟨j+1,_,by have:=P.o;omega,by go_num,rfl,q_ (by rw[aa.o,Hr_ HX.o bp.o ag.o];exact ae.o)⟩
          case measure=>have:=P.o;simp[intOf];omega
         ·have cz:¬om=0:=b9;have b4:=q_ (show gs_ (s_ (ae_ 0)) l y=l.take k++([y]++l.drop k) from by have h2:k=r+1:=a7.o;rw[h2];exact Hp_ HX.o bp.o (by rw[ag.o];exact b9));refine C_ 13 62 (XK false) d λd=>?_;refine C_ 14 63 (XK false) d λd=>?_;refine⟨wpAnyH_done (by kernel_rfl) ?_ _⟩;have ae:=q_ d.1;clear d;go_upto_region 17 with fail;obtain⟨bg,br,aw,ap,ah⟩:=x7_ (k:=k) vb_ jm_ (A:=(QJ f)) (n:=m) (c:=s) D.o bb.o a9.o;obtain⟨bh,bs,ay,aq,ai⟩:=rc_ (k:=k) vb_ jm_ (A:=(QJ f)) (n:=m) (c:=s) D.o bb.o a9.o;have b7:=q_ aw;have b8:=q_ ay;have b5:=q_ ap;have b6:=q_ aq;have b2:=q_ ah;have b3:=q_ ai;clear aw ay ap aq ah ai;have I:=q_ (InP.start ae.o);have Y:=q_ ((I.o.l.own.rd R_ (F:=λb=>(Value.slice (QJ f) m s).ownBlock=QJ b) (λ_ h=>h) M.o).part_to D.o b2.o)
          go_upto_region 18 with (first
           | ((with_reducible refine d_ (some 67) ?_);refine o2_ rfl (QQ bg k br) (n_ (b7.o _)) ?_)
           | ((with_reducible refine d_ (some 68) ?_);refine by_ R_ rfl (.tmp 64) (.tmp 67) 22 rfl i0 _ Tryz.underlying22 a4.o a6.o a5.o a3.o rfl (by decide) rfl I.o.n.own rfl rfl Y.o b5.o (by have:=C.o;have:=D.o;simp;omega) (by decide) ?_;intro v1 y1 ar ak az))
          have V:=q_ (I.o.app ar ak az);clear ar ak az;have X:=q_ (V.o.on ((XV _ _).alloc (XJ _) (XX N 41)));have bq:=q_ (ux_ R_ bj.o y1 41)
          go_upto_region 19 with (first
           | ((with_reducible refine d_ (some 73) ?_);refine E_ (by rfl) 41 _ rfl rfl N _ (bc.o _ V.o.l.hb) Tryz.underlying41 rfl IY.o ?_)
           | ((with_reducible refine d_ (some 74) ?_);refine t7_ rfl 22 1 _ rfl #[(0,.agg N)] (by kernel_rfl) (QQ (QJ ⟨y1.heap.size,0,QY⟩) 1 1) _ (i5_ N ZY.o y1) ?_)
           | ((with_reducible refine d_ (some 75) ?_);refine by_ R_ rfl (.tmp 69) (.tmp 74) 22 rfl i0 _ Tryz.underlying22 a4.o a6.o a5.o a3.o rfl (by decide) rfl X.o.n.own rfl rfl bq.o (λh=>by cases h) (by have:=C.o;have:=D.o;simp;omega) (by decide) ?_;intro v2 y2 au am b0))
          have J:=q_ (X.o.app au am b0);clear au am b0 X V I Y;have Z:=q_ ((J.o.l.own.rd R_ (F:=λb=>(Value.slice (QJ f) m s).ownBlock=QJ b) (λ_ h=>h) M.o).part_from D.o b3.o)
          go_wp2_with (first
           | ((with_reducible refine d_ (some 79) ?_);refine o2_ rfl (QQ bh (m-k) bs) (n_ (b8.o _)) ?_)
           | ((with_reducible refine d_ (some 80) ?_);refine by_ R_ rfl (.tmp 76) (.tmp 79) 22 rfl i0 _ Tryz.underlying22 a4.o a6.o a5.o a3.o rfl (by decide) rfl J.o.n.own rfl rfl Z.o b6.o (by have:=C.o;have:=D.o;simp;omega) (by decide) ?_;intro v3 y3 av ao b1))
          have bl:=q_ (J.o.app av ao b1);clear av ao b1 J Z;go_wp2_with fail;go_roundw
          case rel=>exact⟨j+1,_,by have:=P.o;omega,by go_num,rfl,q_ (by have h:=bl.o.done;rw[List.nil_append,List.append_assoc]at h;rw[aa.o,b4.o];exact h)⟩
          case measure=>have:=P.o;simp[intOf];omega
     ·have cv:j=i:=by omega
      subst cv;have a2:¬(j:Int)<j:=by omega
      have cf:=q_ (show L.take j=L from List.take_of_length_le (by have:=L1.o;omega));have B:=hN.o;rw[cf.o]at B;obtain⟨T,HT⟩:=a_ (au_ (s_ (ae_ 0)) L);rw[HT.o]at B;obtain⟨m,M⟩:=a_ T.length;obtain⟨A5,s,rfl,bd,ac⟩:∃A c,S = QQ A m c/\m<=c/\(A=QY->c=0):=by obtain⟨A,c,e,h1,h2⟩:=B.own.form;rw[M.o]at e h1;exact⟨A,c,e,h1,h2⟩
      have cn:=q_ (show ∀t,t∈T->yu_ t from λt ht=>by
       have hl:=dg_ (a4_ (ae_ 0)) (l:=L) (λa ha b hb h0=>fe_ (dz_ 0) (bv_ (List.all_eq_true.1 a8.o a ha) (af.o a ha)) (bv_ (List.all_eq_true.1 a8.o b hb) (af.o b hb)) h0);rw[HT.o]at hl;exact bz.o t ((hl.2 t).1 ht))
      have cm:=q_ (show m<=65536 from by have h1:=gu_ (s_ (ae_ 0)) L;rw[HT.o,M.o]at h1;have:=HN.o;have:=L1.o;omega);have cr:=q_ ((B.own.rd R_ (F:=λb=>b<wr.heap.size) (λb hb=>B.own.lt hb) M.o).imp (R':=TrR) (λ_ h=>h) (λt c h=>dm_.trR h wr _));have HB:=q_ B.hb;clear hN B bd ac;go_wp2_with fail;refine (y9_ cr.o (λb hb=>hb) (by have:=cm.o;omega) (λt ht q=>by rw[(cn.o t ht q).list];decide)).mono ?_;unfold o4_;rintro e x ⟨v,rfl,bx,hb⟩;have HE:=q_ (show h3_ L w (XW (YY #[v,QK QU 0])) x from .inr ⟨by have:=HN.o;have:=L1.o;omega,a8.o,v,rfl,by rw[HT.o];exact bx.mono TrR.good (λb c4=>⟨YK HB.o.size c4.1,c4.2⟩),HB.o.trans (hb.mono HB.o.size)⟩);clear bx hb;go_wp2_with fail;go_ret2;exact HE.o
noncomputable def cz_ (a:List h_) (i:Int):g_:=match a.find? (λn=>decide (n.id=i)) with | some n=>(cc_ n).1 | none=>i0_
noncomputable def ek_ (a:List h_) (e:l_):e_:=⟨cz_ a e.src,oi_ e.type,cz_ a e.dst⟩
noncomputable def cd_ (G:w_):Option (List e_):=open Classical in
 if (∀n,n∈G.nodes->(cc_ n).2=true)/\(G.edges.map (ek_ G.nodes)).length<=65536/\(G.edges.map (ek_ G.nodes)).all cx_=true/\a3_ (au_ (s_ (ae_ 0)) (G.edges.map (ek_ G.nodes)))=G then QJ (G.edges.map (ek_ G.nodes)) else QY
def j4_ (g G:w_):Prop:=∃a,hx_ g a/\bz_ jt_ a.nodes G.nodes/\bz_ j6_ a.edges G.edges
theorem s9_ {c : Type} {R:c -> c -> Prop} {key:c -> Int} {l g:List c} (h:bz_ R l g) (e:∀x y,R x y->key y=key x) (f:l.Pairwise (λa b=>¬d1_ (key b) (key a)<0)):g.Pairwise (λa b=>¬d1_ (key b) (key a)<0):=by rw[List.pairwise_iff_getElem]at f ⊢;intro i j hi k d;have m:=h.1;have h1:=e _ _ (h.2 i _ _ (XQ (by omega)) (XQ hi));have h2:=e _ _ (h.2 j _ _ (XQ (by omega)) (XQ k));rw[h1,h2];exact f i j (by omega) (by omega) d
theorem kp_ {g G:w_} (h:j4_ g G):∃a,hx_ g a/\hx_ a G:=by obtain⟨a,h1,h2,b⟩:=h;obtain⟨⟨_,_,_,d⟩,⟨_,_,_,c⟩⟩:=id h1;exact⟨a,h1,⟨_,h2,List.Perm.refl _,s9_ (key:=h_.id) h2 (λ_ _ h=>h.1) d⟩,⟨_,b,List.Perm.refl _,s9_ (key:=l_.id) b (λ_ _ h=>h.1) c⟩⟩
theorem he_ {g G:w_} (a:me_ g) (h:j4_ g G):me_ G:=by obtain⟨_,h1,h2⟩:=kp_ h;exact uf_ (uf_ a h1) h2
theorem z5_ {g G:w_} (a:c8_ g=true) (h:j4_ g G):c8_ G=true:=by obtain⟨_,h1,h2⟩:=kp_ h;exact oy_ (oy_ a h1) h2
def sd_ (n:h_) (p:Int×XZ):Prop:=p.1=n.id/\(cc_ n).2=true/\∃A a,p.2 = .agg (c_ (cc_ n).1 (QQ A 0 a))
theorem Jk_ {a:List h_} {l:List (Int×XZ)} (h:bz_ sd_ a l):l.map (·.1)=a.map h_.id:=by
 refine List.ext_getElem? λi=>?_;rw[List.getElem?_map,List.getElem?_map];by_cases hi:i<a.length
 ·have b:i<l.length:=by rw[<-h.1];exact hi
  rw[XQ hi,XQ b];have:=(h.2 i _ _ (XQ hi) (XQ b)).1;simp only[Option.map_some,this]
 ·rw[List.getElem?_eq_none (by rw[<-h.1];omega),List.getElem?_eq_none (by omega)];rfl
theorem sr_ {b:List h_} {l:List (Int×XZ)} (h:bz_ sd_ b l) (i:Int):∃A a,nu_ l i = .agg (c_ (cz_ b i) (QQ A 0 a)):=by
 induction b generalizing l with
 | nil=>
  have f:l=[]:=List.length_eq_zero_iff.1 h.1.symm;subst f;exact⟨QY,0,rfl⟩
 | cons n b k=>
  cases l with
  | nil=>exact absurd h.1 (by simp)
  | cons p l=>
   have h0:=h.2 0 n p rfl rfl;have ht:bz_ sd_ b l:=⟨by have:=h.1;simpa using this,λi x y g j=>h.2 (i+1) x y g j⟩;obtain⟨h1,_,A,a,d⟩:=h0;by_cases hi:n.id=i
   ·refine⟨A,a,?_⟩;unfold nu_ cz_;rw[List.find?_cons_of_pos (by simp[h1,hi]),List.find?_cons_of_pos (by simp[hi])];exact d
   ·obtain⟨A',c,e⟩:=k ht;refine⟨A',c,?_⟩;unfold nu_ cz_ at e ⊢;rw[List.find?_cons_of_neg (by simp[h1,hi]),List.find?_cons_of_neg (by simp[hi])];exact e
def mh_ (g:w_) (w:QV) (e:Ending) (w':QV):Prop:=XU w.heap.size w w' /\
 ((c8_ g=false/\e = XW (YY #[QQ QY 0 0,QK QU 21])) \/
  (c8_ g=true/\∃G,j4_ g G/\((cd_ G=QY/\e = XW (YY #[QQ QY 0 0,QK QU 22])) \/
   ∃T s,cd_ G=QJ T/\e = XW (YY #[s,QK QU 0])/\D_ 41 18 TrR w' (λb=>w.heap.size<=b/\b<w'.heap.size) T s)))
def tz_ (v:g_):Prop:=-9223372036854775808<=v.num/\v.num<=9223372036854775807
def B8_ (g:w_):Prop:=∀n,n∈g.nodes->∀p,p∈n.props->tz_ p.v
theorem Bp_ {g a:w_} (h:B8_ g) (e:hx_ g a):B8_ a:=by obtain⟨⟨m,h1,h2,_⟩,_⟩:=e;intro n b p c;obtain⟨x,f,d⟩:=fp_ h1 h2 b;exact h x f p (d.2.2.1.mem_iff.1 c)
theorem z6_ {g G:w_} (a:B8_ g) (h:j4_ g G):B8_ G:=by obtain⟨_,h1,h2⟩:=kp_ h;exact Bp_ (Bp_ a h1) h2
theorem Ex_ {n:h_} (h:(cc_ n).2=true):(cc_ n).1=ly_ n/\(ly_ n).kind≠0/\(ly_ n).kind≠5/\z_ (ly_ n) 0=true:=by
 unfold cc_ at h ⊢;split at h
 ·split at h
  ·cases h
  ·rename_i h1 h2;rw[if_pos h1,if_neg h2];simp only[not_or]at h2;exact⟨rfl,h2.1,h2.2.1,by simpa using h2.2.2⟩
 ·cases h
theorem en_ (k:Int) (t x:ByteArray):tz_ (.mk k false 0 t x []):=⟨by show (-9223372036854775808:Int)<=0;decide,by show (0:Int)<=9223372036854775807;decide⟩
theorem Io_ {s:ByteArray} {p:g_} {r:List G_} (h:tz_ p):tz_ (oj_ s p r):=by
 unfold oj_;split
 ·exact en_ ..
 ·split
  ·exact en_ ..
  ·split
   ·exact en_ ..
   ·split
    ·exact h
    ·exact en_ ..
theorem Lm_ {n:h_} (a:rm_ n) (b:∀p,p∈n.props->tz_ p.v):OkV (ly_ n):=by
 obtain⟨d,L,P⟩:=n;have hz:OkV i0_:=⟨by decide,by decide,by decide⟩;unfold ly_;simp only;match L,P,a,b with
 | [s],p::r,a,b=>
  have h1:=Io_ (s:=s) (r:=r) (b p List.mem_cons_self);have h2:=xc_ (s:=s) (a.2.2.2 p List.mem_cons_self).2 (λq c=>(a.2.2.2 q (List.mem_cons_of_mem _ c)).2);exact⟨YK h2 (by decide),h1.1,h1.2⟩
 | [],_,_,_=>exact hz
 | [s],[],_,_=>exact hz
 | _::_::_,_,_,_=>exact hz
theorem Lz_ {n:h_} (h:(cc_ n).2=true) (c:rm_ n) (f:∀p,p∈n.props->tz_ p.v):OkV (cc_ n).1/\o6_ (cc_ n).1:=by obtain⟨e,h0,a,d⟩:=Ex_ h;have b:=Lm_ c f;rw[e];exact⟨b,⟨ss_ d a,b.fit,a⟩⟩
theorem Jy_:OkV i0_/\o6_ i0_:=⟨⟨by decide,by decide,by decide⟩,⟨rfl,⟨by decide,by decide,by decide⟩,by decide⟩⟩
theorem tl_ {a:List h_} (h:∀n,n∈a->(cc_ n).2=true/\rm_ n/\∀p,p∈n.props->tz_ p.v) (i:Int):OkV (cz_ a i)/\o6_ (cz_ a i):=by
 unfold cz_;split
 ·rename_i n e;have:=h n (List.mem_of_find?_eq_some e);exact Lz_ this.1 this.2.1 this.2.2
 ·exact Jy_
theorem K5_ {t:ByteArray} (h:t.size<=2000000):OkV (oi_ t)/\o6_ (oi_ t):=by have h0:(⟨#[]⟩:ByteArray).size=0:=rfl;have a:OkV (oi_ t):=⟨by unfold oi_;simp only[M_,Z_,h0];omega,by show (-9223372036854775808:Int)<=0;decide,by show (0:Int)<=9223372036854775807;decide⟩;exact⟨a,⟨rfl,a.fit,by show (8:Int)≠5;decide⟩⟩
theorem vz_ {a:List h_} (h:∀n,n∈a->(cc_ n).2=true/\rm_ n/\∀p,p∈n.props->tz_ p.v) {e:l_} (c:e.type.size<=2000000):OkT (ek_ a e)/\yu_ (ek_ a e):=by
 have h1:=tl_ h e.src;have h2:=tl_ h e.dst;have b:=K5_ c;refine⟨⟨h1.1,b.1,h2.1⟩,λn=>?_⟩;unfold e_.get;split
 ·exact h1.2
 ·split
  ·exact b.2
  ·exact h2.2
end
section
open Go
theorem wi_ {d e : Type} (l:List d) (f:Nat -> d -> e) (key:e -> Int) (c:∀i a,key (f i a)=((i:Nat):Int)):(l.mapIdx f).Pairwise (λa b=>key a<key b):=by rw[List.pairwise_iff_getElem];intro i j hi h g;rw[List.getElem_mapIdx,List.getElem_mapIdx,c,c];omega
theorem so_ {b c : Type} (l:List b) (f:Nat -> b -> c) (key:c -> Int) (d:∀i a,key (f i a)=((i:Nat):Int)):((l.mapIdx f).map key).Nodup:=by unfold List.Nodup;rw[List.pairwise_map];exact (wi_ l f key d).imp λh=>Int.ne_of_lt h
theorem qc_ {c d : Type} (l:List c) (f:Nat -> c -> d) (key:d -> Int) (e:∀i a,key (f i a)=((i:Nat):Int)):(l.mapIdx f).Pairwise (λa b=>¬d1_ (key b) (key a)<0):=
 (wi_ l f key e).imp (λh=>by rw[lv_];omega)
theorem se_ {b : Type} {R:b -> b -> Prop} {l:List b} (h:∀x,x∈l->R x x):bz_ R l l:=⟨rfl,λi x y c a=>by
 rw[c]at a;injection a with a;subst a;exact h x (YQ c)⟩
theorem l1_ {s:ByteArray} (h:s.size<=1048576):a8_ (txV s)=true:=by
 have h1:z_ (txV s) 0=true:=by unfold txV z_;simp[aw_,h]
 unfold a8_;rw[if_neg (show ¬(txV s).kind=5 from (by decide:¬(4:Int)=5))];unfold O_;rw[h1];rfl
theorem D4_ {v:g_} (h:ah_ v) (a:¬(v.kind=8\/v.kind=9\/v.kind=10)):a8_ v=true:=by have h2:=h.2.1;unfold a8_;rw[if_neg (by omega)];unfold O_;rw[h.1,Bool.true_and];simp only[Bool.or_eq_true,beq_iff_eq];omega
theorem kq_ {k:ByteArray} {v:g_} (a:al_ k=true) (b:a8_ v=true):as_ [⟨k,v⟩]=true:=by simp[as_,a1_,inB,a,b]
theorem Ab_ {k m:ByteArray} {v u:g_} (b:al_ k=true) (c:al_ m=true) (a:m≠k) (e:a8_ v=true) (d:a8_ u=true):as_ [⟨k,v⟩,⟨m,u⟩]=true:=by simp[as_,a1_,inB,b,c,e,d,a]
theorem jc_ {s:ByteArray} (a:al_ s=true):a7_ [] [s]=true:=by simp[a7_,inB,a]
theorem Lx_:al_ sV=true:=by decide
theorem O6_:al_ sX=true:=by decide
theorem Or_:sX≠sV:=by decide
theorem Li_ (a:Int) {v:g_} (h:ah_ v):a7_ [] (L_ a v).labels=true/\(L_ a v).labels.length<=65536/\as_ (L_ a v).props=true:=by
 obtain⟨ht,c⟩:=kt_ h;unfold L_;split
 ·exact⟨jc_ (by decide),by simp,kq_ Lx_ (l1_ ht)⟩
 ·split
  ·exact⟨jc_ (by decide),by simp,kq_ Lx_ (l1_ ht)⟩
  ·split
   ·exact⟨jc_ (by decide),by simp,Ab_ Lx_ O6_ Or_ (l1_ ht) (l1_ c)⟩
   ·rename_i h1 h2 b;exact⟨jc_ (by decide),by simp,kq_ Lx_ (D4_ h (λe=>e.elim h1 (λe=>e.elim h2 b)))⟩
theorem Il_ (a:Int) (v:g_):jt_ (L_ a v) (L_ a v):=by
 refine⟨rfl,⟨List.Perm.refl _,?_⟩,⟨List.Perm.refl _,?_⟩⟩
 ·unfold L_
  (repeat' split)<;>exact List.pairwise_singleton _ _
 ·unfold L_;split
  ·exact List.pairwise_singleton _ _
  ·split
   ·exact List.pairwise_singleton _ _
   ·split
    ·refine List.pairwise_cons.2 ⟨λp b=>?_,List.pairwise_singleton _ _⟩;rw[List.mem_singleton.1 b];show ¬h0_ sX sV<0;decide
    ·exact List.pairwise_singleton _ _
theorem Gr_ {e:l_} (h:e.props=[]):j6_ e e:=⟨rfl,rfl,rfl,rfl,List.Perm.refl _,by rw[h];exact List.Pairwise.nil⟩
theorem zz_ (a:Int) (v:g_):kv_ (L_ a v)=true:=by
 unfold L_
 (repeat' split)<;>rfl
theorem Ik_ (c:Int) {v:g_} (h:ah_ v):ly_ (L_ c v)=v:=by
 have b:=h.1;rcases ca_ h with⟨a,e⟩ | ⟨a,e⟩ | ⟨a,_,e⟩ | ⟨a,e⟩
 ·rw[e];rfl
 ·rw[e];rfl
 ·rw[e];rfl
 ·generalize v.kind=k at a e;generalize v.text=t at e;generalize v.extra=x at e;subst e;rcases a with rfl | rfl | rfl | rfl
  ·rfl
  ·obtain⟨_,_,rfl,_⟩:=m8_ b;rfl
  ·obtain⟨_,_,rfl,_⟩:=qa_ b;rfl
  ·rfl
theorem nn_ (a:Int) {v:g_} (h:ah_ v):cc_ (L_ a v)=(v,true):=by
 have b:=h.2.1;unfold cc_
 rw[if_pos (zz_ a v),Ik_ a h,if_neg (by
  rintro (e | e | e)
  ·omega
  ·omega
  ·rw[h.1]at e;cases e),bn_,q8_.2 rfl]
theorem stands_place {D:List g_} (f:∀v,v∈D->ah_ v) {v:g_} (c:v∈D):cz_ (D.mapIdx λi v=>L_ (i:Nat) v) (b2_ D v)=v:=by
 classical
 have b:=qv_ c;have a:D[place D v]=v:=List.getElem_idxOf b;have e0:b2_ D v=((place D v:Nat):Int):=by unfold b2_;congr
 rw[e0];unfold cz_;split
 ·rename_i n e;have h1:=List.find?_some e;obtain⟨j,g,d⟩:=List.mem_mapIdx.1 (List.mem_of_find?_eq_some e);rw[<-d]at h1 ⊢;rw[bn_]at h1;have h1:((j:Nat):Int)=((place D v:Nat):Int):=by simpa using h1
  have h2:j=place D v:=by omega
  subst h2;rw[a,nn_ _ (f v c)]
 ·rename_i e;have:=List.find?_eq_none.1 e (L_ ((place D v:Nat):Int) v) (List.mem_mapIdx.2 ⟨place D v,b,by rw[a]⟩);rw[bn_]at this;simp at this
theorem zg_ {D:List g_} (d:∀v,v∈D->ah_ v) {T:List e_} (e:∀t,t∈T->t.s∈D/\t.o∈D/\oi_ t.p.text=t.p) :
    (T.mapIdx λi t=>(⟨((i:Nat):Int),b2_ D t.s,b2_ D t.o,t.p.text,[]⟩:l_)).map (ek_ (D.mapIdx λi v=>L_ (i:Nat) v))=T:=by
 refine List.ext_getElem (by simp) λi h1 h2=>?_;obtain⟨a,b,c⟩:=e _ (List.getElem_mem h2);rw[List.getElem_map,List.getElem_mapIdx];unfold ek_;simp only;rw[stands_place d a,stands_place d b,c]
theorem wp_ {t:e_} (h:cx_ t=true) (d:ah_ t.p):oi_ t.p.text=t.p/\al_ t.p.text=true:=by
 unfold cx_ at h;simp only[YJ,decide_eq_true_eq]at h;have c:=h.2.2.2.1;have a:=h.2.1;rcases ca_ d with⟨b,_⟩ | ⟨b,_⟩ | ⟨b,_,_⟩ | ⟨_,e⟩
 ·omega
 ·omega
 ·omega
 ·rw[c]at e;generalize t.p = v at *;generalize v.text=s at e ⊢;generalize v.extra=x at e;subst e;obtain⟨_,_,rfl,_⟩:=m8_ a;refine⟨rfl,?_⟩;rw[Bk_]at a;have:=(Bool.and_eq_true_iff.1 a).1;unfold dw_ at this;rw[YJ]at this;exact this.1
structure ay_ (T:List e_):Prop where
 len:T.length<=65536
 may:∀t,t∈T->cx_ t=true
 scal:∀t,t∈T->cn_ t
 rise:j5_ (s_ (ae_ 0)) T
theorem Ht_ {L:List e_} (h1:L.length<=65536) (h2:L.all cx_=true) (f:∀t,t∈L->OkT t):ay_ (au_ (s_ (ae_ 0)) L):=by have e:=List.all_eq_true.1 h2;have d:∀t,t∈L->cn_ t:=λt ht=>bv_ (e t ht) (f t ht);have c:=dg_ (a4_ (ae_ 0)) (l:=L) (λa g b hb h0=>fe_ (dz_ 0) (d a g) (d b hb) h0);exact⟨YK (gu_ _ L) h1,λt ht=>e t ((c.2 t).1 ht),λt ht=>d t ((c.2 t).1 ht),c.1⟩
theorem Hu_ {L:List e_} (h2:L.all cx_=true) (c:∀t,t∈L->OkT t) {t:e_} (ht:t∈au_ (s_ (ae_ 0)) L):t∈L:=by have g:=List.all_eq_true.1 h2;have d:∀t,t∈L->cn_ t:=λt ht=>bv_ (g t ht) (c t ht);have f:=dg_ (a4_ (ae_ 0)) (l:=L) (λa e b hb h0=>fe_ (dz_ 0) (d a e) (d b hb) h0);exact (f.2 t).1 ht
section
variable {T:List e_}
theorem ay_.all (h:ay_ T):T.all cx_=true:=List.all_eq_true.2 h.may
theorem ay_.again (h:ay_ T):au_ (s_ (ae_ 0)) T=T:=by have c:=dg_ (a4_ (ae_ 0)) (l:=T) (λa d b hb h0=>fe_ (dz_ 0) (h.scal a d) (h.scal b hb) h0);exact ix_ (a4_ _) c.1 h.rise c.2
theorem ay_.ends (h:ay_ T):∀v,v∈d3_ T->ah_ v:=λv a=>by
 obtain⟨t,ht,e | e⟩:=p8_ a
 ·rw[e];exact (h.scal t ht).s
 ·rw[e];exact (h.scal t ht).o
theorem ay_.vals (h:ay_ T):j5_ F_ (U_ T)/\∀v,v∈U_ T↔v∈d3_ T:=
 dg_ eo_ (l:=d3_ T) λa c b hb h0=>e3_ (h.ends a c) (h.ends b hb) h0
theorem ay_.val (h:ay_ T):∀v,v∈U_ T->ah_ v:=λv a=>h.ends v ((h.vals.2 v).1 a)
theorem ay_.vlen (h:ay_ T):(U_ T).length<=131072:=by have h1:=gu_ F_ (d3_ T);have h2:=m7_ T;have a:=h.len;unfold U_;omega
theorem ay_.mem (h:ay_ T):∀t,t∈T->t.s∈U_ T/\t.o∈U_ T:=λt ht=>
 ⟨(h.vals.2 _).2 (List.mem_flatMap.2 ⟨t,ht,by simp⟩),(h.vals.2 _).2 (List.mem_flatMap.2 ⟨t,ht,by simp⟩)⟩
theorem ay_.fit (h:ay_ T):me_ (a3_ T):=Kw_ (YK h.vlen (by omega)) h.len h.val h.mem (λt ht=>(h.scal t ht).p)
theorem ay_.num (h:ay_ T):B8_ (a3_ T):=λn c p a=>by
 obtain⟨i,hi,e⟩:=List.mem_mapIdx.1 c;have b:=h.val _ (List.getElem_mem hi);rw[<-e]at a;generalize (U_ T)[i]=v at b a;unfold L_ at a;split at a
 ·rw[List.mem_singleton.1 a];exact en_ ..
 ·split at a
  ·rw[List.mem_singleton.1 a];exact en_ ..
  ·split at a
   ·rcases List.mem_cons.1 a with e | e
    ·rw[e];exact en_ ..
    ·rw[List.mem_singleton.1 e];exact en_ ..
   ·rw[List.mem_singleton.1 a];exact⟨b.2.2.1,b.2.2.2⟩
theorem ay_.graph (h:ay_ T):c8_ (a3_ T)=true:=by
 unfold c8_;rw[YJ,YJ,decide_eq_true_eq];have c:(a3_ T).nodes.map h_.id=(List.range (U_ T).length).map (λi=>((i:Nat):Int)):=by refine List.ext_getElem (by unfold a3_;simp) λi h1 h2=>?_;simp only[List.getElem_map,a3_,List.getElem_mapIdx,bn_,List.getElem_range]
 refine⟨⟨?_,?_⟩,?_,?_⟩
 ·show ((U_ T).mapIdx _).length<=_;rw[List.length_mapIdx];exact h.vlen
 ·show (T.mapIdx _).length<=_;rw[List.length_mapIdx];exact h.len
 ·refine (fr_ uw_).2 ⟨λn g=>⟨?_,by simp⟩,so_ _ _ h_.id (λi v=>bn_ _ _)⟩;obtain⟨i,hi,e⟩:=List.mem_mapIdx.1 g;rw[<-e];exact⟨by rw[bn_];omega,Li_ _ (h.val _ (List.getElem_mem hi))⟩
 ·refine (fr_ (uv_ _)).2 ⟨λe f=>⟨?_,by simp⟩,so_ _ _ l_.id (λi t=>rfl)⟩;obtain⟨i,hi,d⟩:=List.mem_mapIdx.1 f;have ht:=List.getElem_mem hi;have b:=h.mem _ ht
  have a:∀v,v∈U_ T->b2_ (U_ T) v∈(a3_ T).nodes.map h_.id:=λv j=>by
   rw[c];unfold b2_;classical
   exact List.mem_map.2 ⟨_,List.mem_range.2 (qv_ j),rfl⟩
  rw[<-d];exact⟨by show (0:Int)<=((i:Nat):Int);omega,a _ b.1,a _ b.2,(wp_ (h.may _ ht) (h.scal _ ht).p).2,by rfl⟩
theorem ay_.srt (b:ay_ T):hx_ (a3_ T) (a3_ T):=
 ⟨⟨_,se_ (λn a=>by
     obtain⟨i,hi,e⟩:=List.mem_mapIdx.1 a;rw[<-e];exact Il_ _ _),List.Perm.refl _,qc_ _ _ h_.id (λi v=>bn_ _ _)⟩,
  ⟨_,se_ (λn a=>by
     obtain⟨i,hi,e⟩:=List.mem_mapIdx.1 a;rw[<-e];exact Gr_ rfl),List.Perm.refl _,qc_ _ _ l_.id (λi t=>rfl)⟩⟩
theorem ay_.plain (h:ay_ T) {G:w_} (b:j4_ (a3_ T) G):G=a3_ T:=by obtain⟨c,h1,h2,a⟩:=b;have e:=re_ h.graph h1 h.srt;subst e;exact z9_ h.graph h1 h2 a
theorem ay_.stands (h:ay_ T):∀n,n∈(a3_ T).nodes->(cc_ n).2=true:=λn a=>by
 obtain⟨i,hi,e⟩:=List.mem_mapIdx.1 a;rw[<-e,nn_ _ (h.val _ (List.getElem_mem hi))]
theorem ay_.edges (h:ay_ T):(a3_ T).edges.map (ek_ (a3_ T).nodes)=T:=
 zg_ h.val λt ht=>⟨(h.mem t ht).1,(h.mem t ht).2,(wp_ (h.may t ht) (h.scal t ht).p).1⟩
theorem ay_.back (h:ay_ T):cd_ (a3_ T)=QJ T:=by unfold cd_;rw[if_pos ⟨h.stands,by rw[h.edges];exact h.len,by rw[h.edges];exact h.all,by rw[h.edges,h.again]⟩,h.edges]
end
end
section
open Go Go.RowKit Go.Maps
theorem cw_.sownT {w:QV} {F:Nat->Prop} {l:List e_} {s:XZ} (h:cw_ 41 18 CT w l s) (c:∀g,s.ownBlock=QJ g->F g):D_ 41 18 TrR w F l s:=by obtain⟨cs,a,b⟩:=h;exact⟨cs,a,λi hi=>dm_.size (b i _ (XQ hi)),c,λi x d=>dm_.trR (b i x d) w _⟩
def ssE (A:Option Addr) (c:Nat) (B:Option Addr) (d:Nat):Nat->XZ:=λn=>if n=0 then QQ A 0 c else if n=1 then QQ QY 0 0 else QQ B 0 d
theorem Jh_ (A:Option Addr) (c:Nat) (B:Option Addr) (d:Nat) (i:Nat):∃X q,ssE A c B d i = QQ X 0 q:=by
 unfold ssE;split
 ·exact⟨_,_,rfl⟩
 ·split
  ·exact⟨_,_,rfl⟩
  ·exact⟨_,_,rfl⟩
theorem Ft_ (a:List h_) (e:l_) (A:Option Addr) (c:Nat) (B:Option Addr) (d:Nat) (W:QV):(Instr.build 41 #[(0,.agg (c_ (cz_ a e.src) (QQ A 0 c))),(1,.agg (c_ (oi_ e.type) (QQ QY 0 0))),(2,.agg (c_ (cz_ a e.dst) (QQ B 0 d)))]).run QW W = .ok (.agg (K_ (ek_ a e) (ssE A c B d))) W:=
 m1_ (ek_ a e) (ssE A c B d) W
theorem sp_ {T:List e_} (h:ay_ T):((a3_ T).nodes.length<=1000000000/\(a3_ T).edges.length<=1000000000)/\∀n,n∈(a3_ T).nodes->n.labels.length<=1000000000/\n.props.length<=1000000000/\∀p,p∈n.props->p.v.list=[]:=by
 refine⟨⟨?_,?_⟩,λn a=>?_⟩
 ·show ((U_ T).mapIdx _).length<=_;rw[List.length_mapIdx];have:=h.vlen;omega
 ·show (T.mapIdx _).length<=_;rw[List.length_mapIdx];have:=h.len;omega
 ·obtain⟨i,hi,e⟩:=List.mem_mapIdx.1 a;rw[<-e];exact⟨(nc_ _ _).1,(nc_ _ _).2,qo_ _ (ec_ (h.val _ (List.getElem_mem hi)))⟩
theorem wk_ {T:List e_}:∀e,e∈(a3_ T).edges->e.props=[]:=λe a=>by
 obtain⟨i,hi,e⟩:=List.mem_mapIdx.1 a;rw[<-e]
theorem M4_ (t:ByteArray) (W:QV):(Instr.build 39 #[(0,QK QU 8),(3,QZ t)]).run QW W = .ok (.agg (c_ (oi_ t) (QQ QY 0 0))) W:=oq_ 8 t W
theorem ma_ (g:w_) (bb:me_ g) (F:Nat->Prop) (u:XZ) (w:QV) (hF:∀b,F b->b<w.heap.size) (hg:GrR w F g u) (co:B8_ g) (cl:aa_ w) (dx:b4_ w) :
    Calls QW 29 #[u] w (mh_ g w):=by
 have c7:=q_ (λ(W:QV) (hb:XU w.heap.size w W)=>im_ g bb F u W (λb k=>XY (hF b k) hb.size) (hg.under hb hF) (k_ cl hb));unfold i9_ at c7;have HG:=q_ cl;have f3:=q_ dx;have eo:=q_ co;have V:=q_ bb;obtain⟨NV,EV,rfl,⟨AN,cN,rfl,_,_⟩,AE,cE,rfl,_,_⟩:=hg;obtain⟨n1,fv⟩:=a_ g.nodes.length;obtain⟨n2,fw⟩:=a_ g.edges.length;rw[fv.o,fw.o]at c7 ⊢;obtain⟨z,Hz⟩:=a_ w.heap.size;obtain⟨w1,bj⟩:=a_ (w.alloc (XX #[QQ AN n1 cN,QQ AE n2 cE] 54));have bs:=q_ (show XU w.heap.size w w1 from by rw[<-bj.o];exact (XV _ _).alloc (XJ _) _);have fu:=q_ (show w1.heap[z]?=QJ (XX #[QQ AN n1 cN,QQ AE n2 cE] 54 (0,0)) from by rw[<-bj.o,<-Hz.o];exact heap_alloc_new w _);clear bb cl dx co hF;go_enter Tryz.func29,Tryz.ntmps29
 go_upto_region 1 with fail;rw[bj.o,Hz.o];clear bj;go_wp2_with ((with_reducible refine d_ (some 17) ?_);refine x_ rfl 54 _ rfl z 0 rfl (#[QQ AN n1 cN,QQ AE n2 cE]) _ (m_ fu.o) Tryz.underlying54 rfl (J_ _ _) ?_)
 refine (c7.o w1 bs.o).mono ?_;rintro e w2 ⟨hb,g3⟩;have bc:=q_ (bs.o.trans (hb.mono bs.o.size));rcases g3 with⟨hm,rfl⟩ | ⟨hm,p,g',rfl,a9,bo⟩
 ·have HM:=q_ hm;clear hm hb;go_wp2_with fail;go_ret2;exact⟨bc.o,.inl ⟨HM.o,rfl⟩⟩
 ·have HM:=q_ hm;have fn:=q_ bo;obtain⟨Ns,Es,mh,mt,ma,g4,n0,a9⟩:=a9;have cu:=q_ (uf_ V.o bo);have da:=q_ (oy_ hm bo);have cp:=q_ (D2_ g' _ p Ns Es mh mt ma g4 n0 w2 a9 cu.o (lj_ da.o).1 (lj_ da.o).2);unfold A0_ at cp;clear hm bo a9 hb;go_wp2_with fail;refine cp.o.mono ?_;rintro e r ⟨A,c,B,d,s,y,rfl,dt,a7,dq,dr⟩;have M:=q_ (show j4_ g ⟨s,y⟩ from ⟨g',fn.o,dq,dr⟩);have d4:=q_ a7;have bt:=q_ (bc.o.trans (dt.mono bc.o.size));obtain⟨m1,ap⟩:=a_ s.length;obtain⟨N,ae⟩:=a_ y.length;rw[ap.o,ae.o]at d4 ⊢;have fs:=q_ (show w.heap.size<=w2.heap.size from bc.o.size)
  have fi:=q_ (show SRd 3 NoR r (λb=>w2.heap.size<=b/\b<r.heap.size) s A m1 from by
   obtain⟨_,_,e,h1,h2⟩:=a7
   cases e;rw[<-ap.o];exact h1.rd)
  have fh:=q_ (show SRd 5 EdR r (λb=>w2.heap.size<=b/\b<r.heap.size) y B N from by
   obtain⟨_,_,e,h1,h2⟩:=a7
   cases e;rw[<-ae.o];exact h2.rd)
  clear dt a7 dq dr cp;obtain⟨z6,aq⟩:=a_ r.heap.size;obtain⟨wa,f⟩:=a_ (r.alloc (XX #[QQ QY 0 0,QQ QY 0 0] 54));have G:=q_ (show XU r.heap.size r wa from by rw[<-f.o];exact (XV _ _).alloc (XJ _) _);have C:=q_ (show wa.heap[z6]?=QJ (XX #[QQ QY 0 0,QQ QY 0 0] 54 (0,0)) from by rw[<-f.o,<-aq.o];exact heap_alloc_new r _);go_upto_region 5 with ((with_reducible refine y_ 6 ?_);rw[f.o,aq.o];refine r_ rfl 54 _ _ rfl z6 (#[QQ QY 0 0,QQ QY 0 0]) (#[QQ A m1 c,QQ B N d]) 54 rfl rfl C.o rfl (J_ _ _) (do_ _ _ _ _ _ _) ?_;intro w4 bp e6)
  have bu:=q_ (show XU r.heap.size r w4 from i_ G.o e6 (λb e=>by have e:b=z6:=e;have h2:r.heap.size=z6:=aq.o;omega));obtain⟨m,Hm⟩:=a_ w4.heap.size;obtain⟨w5,bk⟩:=a_ (w4.alloc (.map #[] 0));have fe:=q_ (show (Instr.makeMap 134 QY).run QW w4 = .ok (.map (QJ m)) w5 from by rw[<-bk.o,<-Hm.o];exact Lg_ w4);have bz:=q_ (show XU w4.heap.size w4 w5 from by rw[<-bk.o];exact (XV _ _).alloc (XJ _) _);have cc:=q_ ((bz.o.block z6 (b_ bp)).trans bp);have cb:=q_ (show StM w5 m [] from StM.fresh (by rw[<-bk.o,<-Hm.o];exact heap_alloc_new w4 _));have J:=q_ (show XU r.heap.size r w5 from bu.o.trans (bz.o.mono bu.o.size));have cz:=q_ (show XU w.heap.size w w5 from bt.o.trans (J.o.mono bt.o.size));have ai:=q_ (show r.heap.size=z6/\z6<m/\m<w5.heap.size/\w.heap.size<=w2.heap.size/\w.heap.size<=r.heap.size from ⟨aq.o,by have:=b_ bp;have h2:w4.heap.size=m:=Hm.o;omega,cb.o.lt,fs.o,bt.o.size⟩);have aj:=q_ (show m1<=2000000/\N<=2000000 from by obtain⟨g7,h1,h2,h3⟩:=M.o;have hl:=Jg_ h1;have h4:=h2.1;have h5:=h3.1;have h6:=V.o.1;have h7:=V.o.2.1;have h8:s.length=m1:=ap.o;have h9:y.length=N:=ae.o;simp only at h4 h5;omega);clear bp e6 f C G bk aq Hm;go_upto_region 6 with ((with_reducible refine d_ (some 25) ?_);refine If_ rfl 134 rfl m _ fe.o ?_)
  have x0:w5.cell? ⟨z6,0,QY⟩=QJ (QQ A m1 c):=QX cc.o 0;go_wp2_with fail;clear x0;go_loopw [29] (λcr x=>∃k:Nat,k<=m1/\cr = QK QU (k:Nat)/\Q_ (∃l,Turn (λb=>b=m\/w5.heap.size<=b) w5 x/\StM x m l/\bz_ sd_ (s.take k) l)) (λcr _=>m1-(intOf cr).toNat)
  case atStart=>exact⟨0,by omega,rfl,q_ ⟨[],Turn.refl _ _,cb.o,bz_.nil _⟩⟩
  case round=>
   rename QV=>x
   obtain⟨k,hk,rfl,hR⟩:=hrel;obtain⟨l,ht,a9,ds⟩:=hR.o;have X:=q_ ht;have fr:=q_ ht;have dc:=q_ a9;have br:=q_ ds;have a5:=q_ (show XU w.heap.size w x from i_ cz.o ht (λb h=>by have h1:=ai.o;have h2:=cz.o.size;rcases h with h | h<;>omega))
   have c4:=q_ (show ∀p:Addr,p.block<r.heap.size->x.cell? p=r.cell? p from λp hp=>(X.o.cell (XY hp J.o.size) (λh=>by have h1:=ai.o;have h2:=J.o.size;rcases h with h | h<;>omega)).trans (J.o.cell hp))
   have b6:=q_ ((X.o.block z6 (b_ cc.o) (λh=>by have h1:=ai.o;rcases h with h | h<;>omega)).trans cc.o)
   clear hR ht a9 ds;by_cases Z:k<m1
   ·have a1:(0:Int)<=k:=by omega
    have a2:(k:Int)<m1:=by omega
    have cm:=aj.o;have g6:IntKind.i64.wrap ((k:Int)+1)=(k:Int)+1:=IntWalk.i64_in _ (by omega);clear cm;have d9:=q_ Z;obtain⟨nd,bn⟩:∃nd,s[k]?=QJ nd:=⟨_,XQ (by rw[ap.o];exact Z)⟩;have c9:=q_ bn;have d3:=q_ ((he_ V.o M.o).2.2.1 nd (YQ bn));obtain⟨ad,cn,rfl,ar,a0,dv,a8⟩:=fi.o.at_ bn;have fg:=q_ (λ(W:QV) (hW:∀p:Addr,p.block<r.heap.size->W.cell? p=r.cell? p)=>(show NoR W (λb=>w2.heap.size<=b/\b<r.heap.size) nd cn from NoR.good.keep a8 (λp hp=>hW p hp.2)));have LN:=q_ (λj (hj:j<cn.size)=>(show x.cell? ((ad.add (k*3)).add j)=cn[j]? from by rw[add_of_add,c4.o _ (by rw[N_];exact ar.2)];exact dv j (by rw[a0]at hj;exact hj)));have IN:=q_ (show (Tryz.prog.info? 72).map (·.size)=QJ cn.size from qd_.trans (congrArg QJ a0.symm));have ON:=q_ (ut_ a8);have SN:=q_ (show cn.size=(#[QK QU 0,QQ QY 0 0,QQ QY 0 0]:Array XZ).size from a0);have ev:=q_ (show cn[0]?=QJ (QK QU nd.id) from by obtain⟨_,_,e,_⟩:=a8;rw[e];rfl);clear Z bn ar a0 dv a8;obtain⟨z9,ci⟩:=a_ x.heap.size;obtain⟨wa,f⟩:=a_ (x.alloc (XX #[QK QU 0,QQ QY 0 0,QQ QY 0 0] 72));have G:=q_ (show XU x.heap.size x wa from by rw[<-f.o];exact (XV _ _).alloc (XJ _) _);have C:=q_ (show wa.heap[z9]?=QJ (XX #[QK QU 0,QQ QY 0 0,QQ QY 0 0] 72 (0,0)) from by rw[<-f.o,<-ci.o];exact heap_alloc_new x _)
    go_upto_region 9 with (first
     | ((with_reducible refine d_ (some 32) ?_);refine E_ (by rfl) 72 _ rfl rfl cn _ LN.o Tryz.underlying72 rfl IN.o ?_)
     | ((with_reducible refine y_ 9 ?_);rw[f.o,ci.o];refine r_ rfl 72 _ _ rfl z9 (#[QK QU 0,QQ QY 0 0,QQ QY 0 0]) cn 72 rfl rfl C.o SN.o IN.o ON.o ?_;intro O aw au))
    have a6:=q_ aw;have a4:=q_ (show XU x.heap.size x O from i_ G.o au (λb e=>by have e:b=z9:=e;have h2:x.heap.size=z9:=ci.o;omega));have ez:=q_ (a5.o.trans (a4.o.mono a5.o.size));have de:=q_ (show r.heap.size<=x.heap.size from YK J.o.size X.o.size);have ei:=q_ (show ∀p:Addr,p.block<r.heap.size->O.cell? p=r.cell? p from λp hp=>(a4.o.cell (XY hp de.o)).trans (c4.o p hp));clear aw au f C LN;obtain⟨id,L,P⟩:=nd;have bi:=q_ (tq_ id L P (λb=>w2.heap.size<=b/\b<r.heap.size) cn O (λb h=>XY h.2 (YK de.o a4.o.size)) (fg.o O ei.o) (k_ HG.o ez.o) d3.o.1);unfold oo_ at bi;obtain⟨tv,dg⟩:=a_ (cc_ ⟨id,L,P⟩).1;obtain⟨tb,ch⟩:=a_ (cc_ ⟨id,L,P⟩).2;rw[dg.o,ch.o]at bi;go_wp2_with ((with_reducible refine d_ (some 34) ?_);refine x_ rfl 72 _ rfl z9 0 rfl cn _ (m_ a6.o) Tryz.underlying72 rfl IN.o ?_)
    refine bi.o.mono ?_;rintro e wc ⟨At,ct,rfl,cj⟩;obtain⟨cv,ao⟩:=v_ tv (QQ At 0 ct);rw[ao.o];have dl:=q_ (ad_.trans (congrArg QJ ao.size.symm));have g0:=q_ (show cv.all (·.oneCell')=true from by rw[<-ao.o];kernel_rfl);have d0:=q_ cj;have b4:=q_ ((cj.block z9 (b_ a6.o)).trans a6.o);clear cj bi;obtain⟨ay,b9⟩:=a_ wc.heap.size;obtain⟨wd,bl⟩:=a_ (wc.alloc (XX #[QK QU 0,XK false,QK QU 0,QZ ⟨#[]⟩,QZ ⟨#[]⟩,QQ QY 0 0] 39));have ew:=q_ (show XU wc.heap.size wc wd from by rw[<-bl.o];exact (XV _ _).alloc (XJ _) _);have d5:=q_ (show wd.heap[ay]?=QJ (XX #[QK QU 0,XK false,QK QU 0,QZ ⟨#[]⟩,QZ ⟨#[]⟩,QQ QY 0 0] 39 (0,0)) from by rw[<-bl.o,<-b9.o];exact heap_alloc_new wc _);go_upto_region 10 with ((with_reducible refine y_ 10 ?_);rw[bl.o,b9.o];refine r_ rfl 39 _ _ rfl ay (#[QK QU 0,XK false,QK QU 0,QZ ⟨#[]⟩,QZ ⟨#[]⟩,QQ QY 0 0]) cv 39 rfl rfl d5.o ao.size dl.o g0.o ?_;intro we ea e7)
    have fb:=q_ ea;have d1:=q_ (show XU wc.heap.size wc we from i_ ew.o e7 (λb e=>by have e:b=ay:=e;have h2:wc.heap.size=ay:=b9.o;omega));have ej:=q_ ((d1.o.block z9 (b_ b4.o)).trans b4.o);have az:=q_ (show XU x.heap.size x we from a4.o.trans ((d0.o.trans (d1.o.mono d0.o.size)).mono a4.o.size));have ef:=q_ (show XU w.heap.size w we from a5.o.trans (az.o.mono a5.o.size));clear ea e7 bl d5 b4
    cases tb with
    | false=>
     have ak:=q_ (show cd_ ⟨s,y⟩=QY from by
      unfold cd_;rw[if_neg];rintro⟨h,_⟩;have:=h _ (YQ c9.o);rw[ch.o]at this
      cases this)
     go_wp2_with fail;go_ret2;exact⟨ef.o,.inr ⟨HM.o,_,M.o,.inl ⟨ak.o,rfl⟩⟩⟩
    | true=>
     have ft:=q_ (show VI id from d3.o.2);have em:=q_ (show id∉l.map (·.1) from by rw[Jk_ br.o];exact rg_ (ql_ (z5_ HM.o M.o)) c9.o);have e0:we.cell? ⟨z9,0,QY⟩=QJ (QK QU id):=(QX ej.o 0).trans ev.o;obtain⟨wf,cq,e5,e8⟩:=Et_ (dc.o.on az.o) ft.o em.o (.agg cv);have ep:=q_ cq;have fk:=q_ e5;have fo:=q_ e8;have fm:=q_ (show sd_ ⟨id,L,P⟩ (id,.agg cv) from ⟨rfl,ch.o,At,ct,by rw[dg.o,ao.o]⟩);clear cq e5 e8
     go_wp2_with (first
      | ((with_reducible refine d_ (some 43) ?_);refine x_ rfl 39 _ rfl ay 0 rfl cv _ (m_ fb.o) YZ rfl dl.o ?_)
      | (at_mapUpdate;refine Nl_ rfl 134 _ _ _ rfl _ _ _ rfl rfl rfl wf ep.o ?_))
     go_roundw
     case rel=>exact⟨k+1,by have:=d9.o;omega,by go_num,q_ ⟨l++[(id,.agg cv)],(X.o.trans (Turn.ofB az.o)).trans (fo.o.mono (λi _ e=>.inl e)),fk.o,by rw[f_ c9.o];exact br.o.snoc fm.o⟩⟩
     case measure=>have:=d9.o;simp[intOf];omega
   ·have a2:¬(k:Int)<m1:=by omega
    have ag:=q_ (show bz_ sd_ s l from by have h:=br.o;rwa [List.take_of_length_le (by have h2:s.length=m1:=ap.o;omega)]at h);have b5:=q_ (show ∀n,n∈s->(cc_ n).2=true/\rm_ n/\∀p,p∈n.props->tz_ p.v from λn hn=>⟨by obtain⟨i,hi,e⟩:=List.mem_iff_getElem.1 hn;have hl:=ag.o.1;exact (ag.o.2 i n _ (by rw[<-e];exact XQ hi) (XQ (by omega))).2.1,((he_ V.o M.o).2.2.1 n hn).1,z6_ eo.o M.o n hn⟩);obtain⟨i0,dy,eb,ec,ee⟩:=info_parts ov_;have f6:=q_ dy;have f8:=q_ eb;have f7:=q_ ec;have f5:=q_ ee;clear dy eb ec ee;have x1:x.cell? ⟨z6,1,QY⟩=QJ (QQ B N d):=QX b6.o 1;clear Z;have f1:=q_ (show LdP 41 18 CT x ((y.take 0).map (ek_ s)) (QQ QY 0 0) x from LdP.start x);go_wp2_with fail;clear a2 x1;go_loopw [12,48] (λg5 cs D=>∃(j:Nat) (S:XZ),j<=N/\cs = QK QU (j:Nat)/\S=g5/\Q_ (LdP 41 18 CT x ((y.take j).map (ek_ s)) S D)) (λ_ cs _=>N-(intOf cs).toNat)
    case atStart=>exact⟨0,_,by omega,rfl,rfl,q_ f1.o⟩
    case round=>
     rename QV=>D
     obtain⟨j,S,hj,rfl,rfl,bm⟩:=hrel;have E:=q_ bm.o;have ab:=q_ (show XU x.heap.size x D from bm.o.hb);have fd:=q_ (show ∀p:Addr,p.block<r.heap.size->D.cell? p=r.cell? p from λp hp=>(bm.o.hb.cell (XY hp (YK J.o.size X.o.size))).trans (c4.o p hp));clear bm;by_cases Z:j<N
     ·have a1:(0:Int)<=j:=by omega
      have a2:(j:Int)<N:=by omega
      have cm:=aj.o;have g6:IntKind.i64.wrap ((j:Int)+1)=(j:Int)+1:=IntWalk.i64_in _ (by omega);clear cm;have c8:=q_ Z;obtain⟨I,af⟩:∃I,y[j]?=QJ I:=⟨_,XQ (by rw[ae.o];exact Z)⟩;have f2:=q_ af;have c2:=q_ ((he_ V.o M.o).2.2.2 I (YQ af));obtain⟨bd,ce,rfl,ar,a0,du,ck⟩:=fh.o.at_ af;have LE:=q_ (λi (hi:i<ce.size)=>(show D.cell? ((bd.add (j*5)).add i)=ce[i]? from by rw[add_of_add,fd.o _ (by rw[N_];exact ar.2)];exact du i (by rw[a0]at hi;exact hi)));have IE:=q_ (show (Tryz.prog.info? 74).map (·.size)=QJ ce.size from zq_.trans (congrArg QJ a0.symm));have OE:=q_ (ud_ ck);have SE:=q_ (show ce.size=(#[QK QU 0,QK QU 0,QK QU 0,QZ ⟨#[]⟩,QQ QY 0 0]:Array XZ).size from a0);obtain⟨Pe,qe,dp⟩:=p5_ ck;have c0:=q_ dp;clear Z af ar a0 du ck dp;obtain⟨aa,ba⟩:=a_ D.heap.size;obtain⟨wa,f⟩:=a_ (D.alloc (XX #[QK QU 0,QK QU 0,QK QU 0,QZ ⟨#[]⟩,QQ QY 0 0] 74));have G:=q_ (show XU D.heap.size D wa from by rw[<-f.o];exact (XV _ _).alloc (XJ _) _);have C:=q_ (show wa.heap[aa]?=QJ (XX #[QK QU 0,QK QU 0,QK QU 0,QZ ⟨#[]⟩,QQ QY 0 0] 74 (0,0)) from by rw[<-f.o,<-ba.o];exact heap_alloc_new D _)
      go_upto_region 18 with (first
       | ((with_reducible refine d_ (some 51) ?_);refine E_ (by rfl) 74 _ rfl rfl ce _ LE.o Tryz.underlying74 rfl IE.o ?_)
       | ((with_reducible refine y_ 14 ?_);rw[f.o,ba.o];refine r_ rfl 74 _ _ rfl aa (#[QK QU 0,QK QU 0,QK QU 0,QZ ⟨#[]⟩,QQ QY 0 0]) ce 74 rfl rfl C.o SE.o IE.o OE.o ?_;intro O aw au))
      have a6:=q_ aw;have a4:=q_ (show XU D.heap.size D O from i_ G.o au (λb e=>by have e:b=aa:=e;have h2:D.heap.size=aa:=ba.o;omega));have db:=q_ (show StM O m l from dc.o.on (ab.o.trans (a4.o.mono ab.o.size)));obtain⟨src,b8⟩:=a_ I.src;obtain⟨dst,b7⟩:=a_ I.dst;obtain⟨ty,dh⟩:=a_ I.type;have b1:O.cell? ⟨aa,1,QY⟩=QJ (QK QU src):=(QX a6.o 1).trans (by rw[c0.o,<-b8.o];rfl);have b2:O.cell? ⟨aa,2,QY⟩=QJ (QK QU dst):=(QX a6.o 2).trans (by rw[c0.o,<-b7.o];rfl);have b3:O.cell? ⟨aa,3,QY⟩=QJ (QZ ty):=(QX a6.o 3).trans (by rw[c0.o,<-dh.o];rfl);have d6:=q_ (tk_ db.o (show VI src from by rw[<-b8.o];exact c2.o.2.2.1));have d7:=q_ (tk_ db.o (show VI dst from by rw[<-b7.o];exact c2.o.2.2.2));clear aw au f C LE;obtain⟨B1,q1,e1⟩:=sr_ ag.o I.src;obtain⟨B2,q2,e2⟩:=sr_ ag.o I.dst;obtain⟨u0,di⟩:=v_ (cz_ s I.src) (QQ B1 0 q1);obtain⟨u1,dj⟩:=v_ (oi_ I.type) (QQ QY 0 0);obtain⟨u2,dk⟩:=v_ (cz_ s I.dst) (QQ B2 0 q2);obtain⟨ct,cg⟩:=be_ (ek_ s I) (ssE B1 q1 B2 q2);have ex:=q_ (λW:QV=>(show (Instr.build 41 #[(0,.agg u0),(1,.agg u1),(2,.agg u2)]).run QW W = .ok (.agg ct) W from by rw[<-di.o,<-dj.o,<-dk.o,<-cg.o];exact Ft_ s I B1 q1 B2 q2 W));have ey:=q_ (λW:QV=>(show (Instr.build 39 #[(0,QK QU 8),(3,QZ ty)]).run QW W = .ok (.agg u1) W from by rw[<-dj.o,<-dh.o];exact M4_ I.type W));have f9:=q_ (show (Instr.lookup 134 (.map (QJ m)) (QK QU src) false).run QW O = .ok (.agg u0) O from by rw[d6.o,<-b8.o,e1,di.o]);have fa:=q_ (show (Instr.lookup 134 (.map (QJ m)) (QK QU dst) false).run QW O = .ok (.agg u2) O from by rw[d7.o,<-b7.o,e2,dk.o]);have f0:=q_ (show dm_ ct (ek_ s I) from ⟨(vz_ b5.o (show I.type.size<=2000000 from c2.o.1.1)).2,_,λi _=>Jh_ B1 q1 B2 q2 i,cg.o.symm⟩);have g1:=q_ cg.size;have d8:=q_ (E.o.on a4.o);have c6:=q_ (d8.o.on ((XV _ _).alloc (XJ _) (XX ct 41)));have df:=q_ (ux_ R_ f0.o O 41);have ek:=q_ (show ((y.take j).map (ek_ s)).length<=2000000 from by rw[List.length_map,List.length_take];have:=aj.o;have:=c8.o;omega);clear e1 e2 d6 d7
      go_upto_region 19 with (first
       | ((with_reducible refine d_ (some 56) ?_);refine H3_ rfl 134 _ _ rfl (.map (QJ m)) (QK QU src) rfl rfl _ f9.o ?_)
       | ((with_reducible refine d_ (some 59) ?_);refine af_ rfl 39 _ rfl #[(0,QK QU 8),(3,QZ ty)] (by kernel_rfl) (.agg u1) (ey.o _) ?_)
       | ((with_reducible refine d_ (some 63) ?_);refine H3_ rfl 134 _ _ rfl (.map (QJ m)) (QK QU dst) rfl rfl _ fa.o ?_)
       | ((with_reducible refine d_ (some 64) ?_);refine af_ rfl 41 _ rfl #[(0,.agg u0),(1,.agg u1),(2,.agg u2)] (by kernel_rfl) (.agg ct) (ex.o _) ?_)
       | ((with_reducible refine d_ (some 65) ?_);refine g4_ rfl 22 1 _ rfl #[(0,.agg ct)] (by kernel_rfl) (QQ (QJ ⟨O.heap.size,0,QY⟩) 1 1) _ (i5_ ct g1.o O) ?_)
       | ((with_reducible refine d_ (some 66) ?_);refine by_ R_ rfl (.tmp 52) (.tmp 65) 22 rfl i0 _ Tryz.underlying22 f6.o f8.o f7.o f5.o rfl (by decide) rfl c6.o.own rfl rfl df.o (λh=>by cases h) (by have:=ek.o;omega) (by decide) ?_;intro v1 y1 dz dw e9))
      have f4:=q_ (c6.o.app dz dw e9);clear dz dw e9 c6 d8 df;go_wp2_with fail;go_roundw
      case rel=>exact⟨j+1,_,by have:=c8.o;omega,by go_num,rfl,q_ (by rw[f_ f2.o,List.map_append];exact f4.o)⟩
      case measure=>have:=c8.o;simp[intOf];omega
     ·have a2:¬(j:Int)<N:=by omega
      have fq:=q_ (show y.take j=y from List.take_of_length_le (by have h2:y.length=N:=ae.o;omega));rw[fq.o]at E;clear Z;obtain⟨T,X⟩:=a_ (y.map (ek_ s));rw[X.o]at E;have dd:=q_ (show T.length=N from by rw[<-X.o,List.length_map];exact ae.o);obtain⟨A5,c5,rfl,g2,eu⟩:∃A c,S = QQ A N c/\N<=c/\(A=QY->c=0):=by obtain⟨A,c,e,h1,h2⟩:=E.o.own.form;rw[dd.o]at e h1;exact⟨A,c,e,h1,h2⟩
      have ca:=q_ (show ∀t,t∈T->OkT t from λt ht=>by
       rw[<-X.o]at ht;obtain⟨I,af,rfl⟩:=List.mem_map.1 ht;exact (vz_ b5.o ((he_ V.o M.o).2.2.2 I af).1.1).1)
      have eq:=q_ ((E.o.own.rd R_ (F:=λb=>b<D.heap.size) (λb hb=>E.o.own.lt hb) dd.o).imp (R':=TrR) (λ_ h=>h) (λt c h=>dm_.trR h D _));have ac:=q_ (show XU w.heap.size w D from a5.o.trans (ab.o.mono a5.o.size));have c3:=q_ (m9_ T ca.o (λb=>b<D.heap.size) A5 N c5 D (λ_ h=>h) eq.o (by have:=aj.o;omega) (k_ HG.o ac.o) (I_ f3.o ac.o));have cf:=q_ ((ab.o.block z6 (b_ b6.o)).trans b6.o);have fj:=q_ (show ∀wz:QV,XU D.heap.size D wz->D_ 41 18 TrR wz (λb=>w.heap.size<=b/\b<wz.heap.size) T (QQ A5 N c5) from λwz hz=>cw_.sownT (E.o.own.on hz) (λg hg=>⟨YK a5.o.size (E.o.ow g hg),XY (E.o.own.lt hg) hz.size⟩))
      have fp:=q_ (show cd_ ⟨s,y⟩=QY\/(T.length<=65536/\T.all cx_=true) from by
       by_cases h:T.length<=65536/\T.all cx_=true
       ·exact .inr h
       ·refine .inl ?_;unfold cd_;rw[if_neg];rintro⟨_,h1,h2,_⟩;rw[X.o]at h1 h2;exact h ⟨h1,h2⟩)
      have el:=q_ (show ∀n,n∈s->(cc_ n).2=true from λn hn=>(b5.o n hn).1);unfold kz_ at c3;clear hj g2 eu;go_wp2_with fail;clear a2;refine c3.o.mono ?_;rintro e R (⟨a8,rfl,hb⟩ | ⟨h1,h2,GN,GE,rfl,a7,hb⟩)
      ·have ak:=q_ (show cd_ ⟨s,y⟩=QY from fp.o.elim id (λh=>absurd h a8));have am:=q_ (ac.o.trans (hb.mono ac.o.size));clear a8 hb;obtain⟨a3,Y⟩:=a_ R.heap.size;obtain⟨wa,f⟩:=a_ (R.alloc (XX #[QQ QY 0 0,QQ QY 0 0] 54));have G:=q_ (show XU R.heap.size R wa from by rw[<-f.o];exact (XV _ _).alloc (XJ _) _);have C:=q_ (show wa.heap[a3]?=QJ (XX #[QQ QY 0 0,QQ QY 0 0] 54 (0,0)) from by rw[<-f.o,<-Y.o];exact heap_alloc_new R _);go_upto_region 21 with ((with_reducible refine y_ 15 ?_);rw[f.o,Y.o];refine r_ rfl 54 _ _ rfl a3 (#[QQ QY 0 0,QQ QY 0 0]) (#[QQ QY 0 0,QQ QY 0 0]) 54 rfl rfl C.o rfl (J_ _ _) (do_ _ _ _ _ _ _) ?_;intro wh bq av)
       have bf:=q_ (show XU w.heap.size w wh from am.o.trans ((show XU R.heap.size R wh from i_ G.o av (λb e=>by have e:b=a3:=e;have h2:R.heap.size=a3:=Y.o;omega)).mono am.o.size));clear bq av f C G;go_wp2_with fail;go_ret2;exact⟨bf.o,.inr ⟨HM.o,_,M.o,.inl ⟨ak.o,rfl⟩⟩⟩
      ·have bh:=q_ (And.intro h1 h2);have eh:=q_ a7;obtain⟨N',E',e,⟨cy,dn,eN,_,_⟩,⟨cx,dm,eE,_,_⟩⟩:=a7;obtain⟨nN,fy⟩:=a_ (a3_ (au_ (s_ (ae_ 0)) T)).nodes.length;obtain⟨nE,fx⟩:=a_ (a3_ (au_ (s_ (ae_ 0)) T)).edges.length;rw[fy.o]at eN;rw[fx.o]at eE;subst eN;subst eE;injection e with e;have e3:=congrArg (λa:Array XZ=>a[0]?) e;have e4:=congrArg (λa:Array XZ=>a[1]?) e;simp at e3 e4;subst e3;subst e4;have ah:=q_ hb;have am:=q_ (ac.o.trans (hb.mono ac.o.size));have cd:=q_ ((hb.block z6 (b_ cf.o)).trans cf.o);clear hb h1 h2 e;obtain⟨a3,Y⟩:=a_ R.heap.size;obtain⟨wa,f⟩:=a_ (R.alloc (XX #[QQ QY 0 0,QQ QY 0 0] 54));have G:=q_ (show XU R.heap.size R wa from by rw[<-f.o];exact (XV _ _).alloc (XJ _) _);have C:=q_ (show wa.heap[a3]?=QJ (XX #[QQ QY 0 0,QQ QY 0 0] 54 (0,0)) from by rw[<-f.o,<-Y.o];exact heap_alloc_new R _);go_upto_region 21 with ((with_reducible refine y_ 15 ?_);rw[f.o,Y.o];refine r_ rfl 54 _ _ rfl a3 (#[QQ QY 0 0,QQ QY 0 0]) (#[QQ cy nN dn,QQ cx nE dm]) 54 rfl rfl C.o rfl (J_ _ _) (do_ _ _ _ _ _ _) ?_;intro wh bq av)
       have U:=q_ (show XU R.heap.size R wh from i_ G.o av (λb e=>by have e:b=a3:=e;have h2:R.heap.size=a3:=Y.o;omega));have bf:=q_ (am.o.trans (U.o.mono am.o.size));have fc:=q_ bq;have er:=q_ ((U.o.block z6 (b_ cd.o)).trans cd.o);have bx:=q_ (show XU r.heap.size r x from i_ J.o fr.o (λb h=>by have h1:=ai.o;have h2:=J.o.size;rcases h with h | h<;>omega))
       have bw:=q_ (show XU r.heap.size r wh from bx.o.trans ((ab.o.trans ((ah.o.trans (U.o.mono ah.o.size)).mono ab.o.size)).mono bx.o.size));have bg:=q_ (Ht_ bh.o.1 bh.o.2 ca.o);have c1:=q_ (zk_ (a3_ (au_ (s_ (ae_ 0)) T)) ⟨s,y⟩ _ _ _ _ wh (λb h=>XY h.2 U.o.size) (λb h=>XY h.2 bw.o.size) (eh.o.under U.o (λb h=>h.2)) (d4.o.under bw.o (λb h=>h.2)) (sp_ bg.o).1 (sp_ bg.o).2);unfold p_ at c1;have b0:=q_ (show ni_ (a3_ (au_ (s_ (ae_ 0)) T)) ⟨s,y⟩=true↔a3_ (au_ (s_ (ae_ 0)) T)=⟨s,y⟩ from Aj_ wk_)
       have cw:=q_ (show a3_ (au_ (s_ (ae_ 0)) T)=⟨s,y⟩->cd_ ⟨s,y⟩=QJ T from λh=>by
        unfold cd_;rw[if_pos ⟨el.o,by rw[X.o];exact bh.o.1,by rw[X.o];exact bh.o.2,by rw[X.o];exact h⟩,X.o])
       have en:=q_ (show a3_ (au_ (s_ (ae_ 0)) T)≠⟨s,y⟩->cd_ ⟨s,y⟩=QY from λh=>by
        unfold cd_;rw[if_neg];rintro⟨_,_,_,h1⟩;rw[X.o]at h1;exact h h1)
       have et:=q_ (Ah_ fc.o);have fz:=q_ (Ah_ er.o);obtain⟨q,Hq⟩:=a_ (ni_ (a3_ (au_ (s_ (ae_ 0)) T)) ⟨s,y⟩);rw[Hq.o]at c1 b0;clear bq av f C G
       go_wp2_with (first
        | ((with_reducible refine d_ (some 76) ?_);refine E_ (by rfl) 54 _ rfl rfl (#[QQ cy nN dn,QQ cx nE dm]) _ et.o Tryz.underlying54 rfl (J_ _ _) ?_)
        | ((with_reducible refine d_ (some 77) ?_);refine E_ (by rfl) 54 _ rfl rfl (#[QQ A m1 c,QQ B N d]) _ fz.o Tryz.underlying54 rfl (J_ _ _) ?_))
       refine c1.o.mono ?_;rintro e wi ⟨rfl,hb⟩;have d2:=q_ (bf.o.trans (hb.mono bf.o.size));have eg:=q_ (ah.o.trans ((U.o.trans (hb.mono U.o.size)).mono ah.o.size));clear hb
       cases q with
       | true=>
        have fl:=q_ (cw.o (b0.o.1 rfl));go_wp2_with fail;go_ret2;exact⟨d2.o,.inr ⟨HM.o,_,M.o,.inr ⟨T,_,fl.o,rfl,fj.o wi eg.o⟩⟩⟩
       | false=>
        have ff:=q_ (en.o (λh=>by have h2:=b0.o.2 h;cases h2));go_wp2_with fail;go_ret2;exact⟨d2.o,.inr ⟨HM.o,_,M.o,.inl ⟨ff.o,rfl⟩⟩⟩
end
section
open Go Go.RowKit Go.Maps Go.WideMaps
def Ay_ (G:w_) (id:Int) (w:QV) (e:Ending) (w':QV):Prop:=
 ∃(x y:h_) (A:Option Addr) (n c:Nat) (B:Option Addr) (m d:Nat),x∈G.nodes/\x.id=id/\jt_ x y/\e = XW (YY #[.agg #[QK QU id,QQ A n c,QQ B m d],XK true]) /\
  NoR w' (λb=>w.heap.size<=b/\b<w'.heap.size) y #[QK QU id,QQ A n c,QQ B m d]/\XU w.heap.size w w'
theorem Ij_ (G:w_) (lo p:Nat) (Ns Es:XZ) (mh mt ma Y n0:Nat) (id:Int) (w:QV) (W:ch_ w lo p G Ns Es mh mt ma Y n0) (X:VI id) (C:id∈G.nodes.map h_.id)
    (A:∀x,x∈G.nodes->rm_ x/\Ax_ x) :
    Calls QW 105 #[YX (QJ ⟨p,0,QY⟩),QK QU id] w (Ay_ G id w):=by
 have n:=q_ W;have a0:=q_ A;obtain⟨z,s⟩:=a_ w.heap.size;obtain⟨w2,r⟩:=a_ (w.alloc (XX #[QK QU 0,QQ QY 0 0,QQ QY 0 0] 72));have a:=q_ (show XU w.heap.size w w2 from by rw[<-r.o];exact (XV _ _).alloc (XJ _) _);have h:=q_ (show ch_ w2 lo p G Ns Es mh mt ma Y n0 from n.o.turn (Turn.of_below a.o) (λb _ h1 h2=>by omega));have HK:=q_ (show w2.heap[z]?=QJ (XX #[QK QU 0,QQ QY 0 0,QQ QY 0 0] 72 (0,0)) from by rw[<-r.o,<-s.o];exact heap_alloc_new w _);obtain⟨AN,cN,R,_,t⟩:=h.o.nodes;obtain⟨nN,O⟩:=a_ G.nodes.length;rw[O.o]at R t;subst R;obtain⟨q7,V,S⟩:=h.o.at_.look X;rw[ci_ C]at V;obtain⟨i,rfl,m⟩:=S C;rw[List.getElem?_map]at m
 obtain⟨x,f,I⟩:∃x,G.nodes[i]?=QJ x/\x.id=id:=by
  cases f:G.nodes[i]? with
  | none=>rw[f]at m;cases m
  | some x=>rw[f]at m;exact⟨x,rfl,by injection m⟩
 have k:=q_ (And.intro (YQ f) I);have a9:i<nN:=by rw[<-O.o];exact b7_ f
 have u:=t.mono NoR.good (F':=λb=>b<z) (λb hb=>by have:=n.o.loc;have:=s.o;omega);obtain⟨ad,c,rfl,a8,E,hc,U⟩:=u.at_ f;have B:=a0.o x k.o.1;have M:=q_ (qp_ x B.1 B.2 (λb=>b<z) c w2 (λb hb=>by have:=a.o.size;have:=s.o;omega) U);have a4:=q_ (λj (hj:j<c.size)=>(show w2.cell? ((ad.add (i*3)).add j)=c[j]? from by rw[add_of_add];exact hc j (by rw[E]at hj;exact hj)));have I3:=q_ (show (Tryz.prog.info? 72).map (·.size)=QJ c.size from qd_.trans (congrArg QJ E.symm));have x4:w2.cell? ⟨p,4,QY⟩=QJ (.map (QJ ma)):=QX h.o.blk 4;have x0:w2.cell? ⟨p,0,QY⟩=QJ (QQ (QJ ad) nN cN):=QX h.o.blk 0;have e1:(0:Int)<=i:=by omega
 have e2:(i:Int)<nN:=by omega
 unfold Ff_ at M;clear W X C A t u m f a8 B I S a9 E hc U;go_enter Tryz.func105,Tryz.ntmps105
 go_upto_region 1 with fail;rw[r.o,s.o];go_wp2_with ((with_reducible refine d_ (some 26) ?_);refine E_ (by rfl) 72 _ rfl rfl c _ a4.o Tryz.underlying72 rfl I3.o ?_)
 refine M.o.mono ?_;rintro e w6 ⟨c6,y,rfl,l,d,D⟩;have N:=q_ D;have a5:=q_ d;obtain⟨L,P,rfl,⟨Z,c1,rfl,-,-⟩,⟨A2,c2,rfl,-,-⟩⟩:=D;obtain⟨l1,a6⟩:=a_ y.labels.length;obtain⟨l2,a7⟩:=a_ y.props.length;have J:y.id=id:=d.1.trans k.o.2;rw[a6.o,a7.o,J]at N ⊢;have a3:=q_ ((l.block z (b_ HK.o)).trans HK.o);have ab:=q_ l;have a1:=q_ (a.o.trans (l.mono a.o.size));clear l d x0 x4 V J;go_wp2_with ((with_reducible refine y_ 4 ?_);refine r_ rfl 72 _ _ rfl z (#[QK QU 0,QQ QY 0 0,QQ QY 0 0]) (#[QK QU id,QQ Z l1 c1,QQ A2 l2 c2]) 72 rfl rfl a3.o rfl (ao_ _ _ _) (fo_ _ _ _ _ _ _ _) ?_;intro w7 aa F)
 have a2:=q_ (show XU w.heap.size w w7 from i_ a1.o F (λb e=>by have e:b=z:=e;have:=s.o;omega));refine bodyPost_ret (v:=YY #[.agg #[QK QU id,QQ Z l1 c1,QQ A2 l2 c2],XK true]) (ck_ Tryz.results105 (g:=z) rfl aa _ Tryz.underlying72 rfl (ao_ _ _ _) rfl) rfl ⟨x,y,Z,l1,c1,A2,l2,c2,k.o.1,k.o.2,a5.o,rfl,?_,a2.o⟩;refine NoR.good.mono (NoR.good.keep N.o (λq hq=>F.cell hq.2 (λe=>?_))) (λb hb=>⟨YK a.o.size hb.1,XY hb.2 F.size⟩);have e:q.block=z:=e;have h1:=hq.1;have h2:=b_ HK.o;omega
end
section
open Go Go.RowKit Go.Maps
def wkO:g_:=.mk 2 false 5 ⟨#[]⟩ ⟨#[]⟩ []
def wkM:e_:=⟨oi_ ⟨#[97]⟩,oi_ ⟨#[112]⟩,wkO⟩
theorem vd_:∀t,t∈[wkM]->OkT t:=λt ht=>by
 rw[List.mem_singleton.1 ht];exact⟨⟨by decide,by decide,by decide⟩,⟨by decide,by decide,by decide⟩,⟨by decide,by decide,by decide⟩⟩
theorem vc_:[wkM].all cx_=true:=by decide
theorem yk_:cn_ wkM:=bv_ (List.all_eq_true.1 vc_ wkM (List.mem_singleton.2 rfl)) (vd_ wkM (List.mem_singleton.2 rfl))
theorem yj_:au_ (s_ (ae_ 0)) [wkM]=[wkM]:=by have h:=dg_ (a4_ (ae_ 0)) (l:=[wkM]) (λa c b hb _=>by rw[List.mem_singleton.1 c,List.mem_singleton.1 hb]);exact ix_ (a4_ _) h.1 (List.pairwise_singleton _ _) h.2
theorem fu_:ay_ [wkM]:=by have h:=Ht_ (L:=[wkM]) (by decide) vc_ vd_;rwa [yj_]at h
theorem Jr_:(U_ [wkM]).length=2:=by
 have h1:(U_ [wkM]).length<=2:=gu_ F_ (d3_ [wkM]);have b:=fu_.mem wkM (List.mem_singleton.2 rfl)
 have c:wkM.s≠wkM.o:=by
  intro e;have:=congrArg g_.kind e;revert this
  decide
 have h2:2<=(U_ [wkM]).length:=by
  match hv:U_ [wkM],b with
  | [],b=>exact absurd b.1 (by simp)
  | [a],b=>exact absurd ((List.mem_singleton.1 b.1).trans (List.mem_singleton.1 b.2).symm) c
  | _::_::_,_=>simp
 omega
theorem E8_:(a3_ [wkM]).nodes.length=2:=by show ((U_ [wkM]).mapIdx (λi v=>L_ ((i:Nat):Int) v)).length=2;rw[List.length_mapIdx,Jr_]
theorem E7_:∃a b,(a3_ [wkM]).edges=[⟨0,a,b,⟨#[112]⟩,[]⟩]:=⟨_,_,rfl⟩
theorem M6_ (W:QV):(Instr.build 39 #[(0,QK QU 2),(2,QK QU 5)]).run QW W = .ok (.agg (c_ wkO (QQ QY 0 0))) W:=by kernel_rfl
theorem M5_ (W:QV):(Instr.build 41 #[(0,.agg (c_ (irV ⟨#[97]⟩) (QQ QY 0 0))),(1,.agg (c_ (irV ⟨#[112]⟩) (QQ QY 0 0))),(2,.agg (c_ wkO (QQ QY 0 0)))]).run QW W = .ok (.agg (K_ wkM us_)) W:=F0_ wkM W
theorem Au_ (w:QV) (ab:aa_ w) (ac:b4_ w):Calls QW 24 #[] w (p_ true w):=by
 have R:=q_ (And.intro ab ac);clear ab ac;obtain⟨ua,Ha⟩:=v_ (irV ⟨#[97]⟩) (QQ QY 0 0);obtain⟨up,Hp⟩:=v_ (irV ⟨#[112]⟩) (QQ QY 0 0);obtain⟨U,Ho⟩:=v_ wkO (QQ QY 0 0);obtain⟨q,z⟩:=be_ wkM us_;have aq:=q_ (λW:QV=>(show (Instr.build 41 #[(0,.agg ua),(1,.agg up),(2,.agg U)]).run QW W = .ok (.agg q) W from by rw[<-Ha.o,<-Hp.o,<-Ho.o,<-z.o];exact M5_ W));have ao:=q_ (λW:QV=>(show (Instr.build 39 #[(0,QK QU 2),(2,QK QU 5)]).run QW W = .ok (.agg U) W from by rw[<-Ho.o];exact M6_ W));have ZR:=q_ z.size;have ak:=q_ (show dm_ q wkM from ⟨ow_ yk_ (λn=>((vd_ wkM (List.mem_singleton.2 rfl)).get n).fit),us_,λi _=>⟨QY,0,rfl⟩,z.o.symm⟩);clear z;go_enter Tryz.func24,Tryz.ntmps24
 go_wp2_with fail;refine (wo_ _ _).mono ?_;unfold tx_;rintro e w1 ⟨rfl,hb⟩;have X:=q_ hb;clear hb;rw[Ha.o];go_wp2_with fail;refine (wo_ _ _).mono ?_;unfold tx_;rintro e w2 ⟨rfl,hb⟩;have D:=q_ (X.o.trans (hb.mono X.o.size));clear hb;rw[Hp.o];obtain⟨d,m⟩:=a_ w2.heap.size;obtain⟨k,l⟩:=a_ (w2.alloc (XX q 41));have y:=q_ (show XU w.heap.size w k from by rw[<-l.o];exact D.o.alloc D.o.size _);have ai:=q_ (show (Instr.buildSlice 22 1 #[(0,.agg q)]).run QW w2 = .ok (QQ (QJ ⟨d,0,QY⟩) 1 1) k from by rw[<-m.o,<-l.o];exact i5_ q ZR.o w2)
 have I:=q_ (show d<k.heap.size/\w.heap.size<=d from ⟨by
  have h:k.heap[d]?=QJ (XX q 41 (0,0)):=by rw[<-l.o,<-m.o];exact heap_alloc_new w2 _
  exact b_ h,by rw[<-m.o];exact D.o.size⟩)
 have a7:=q_ (show SRd 18 TrR k (λb=>b=d) [wkM] (QJ ⟨d,0,QY⟩) 1 from by have h:=(ux_ R_ ak.o w2 41).imp (R':=TrR) (λ_ h=>h) (λt c h=>dm_.trR h _ _);rw[<-l.o,<-m.o];exact h);clear l m
 go_wp2_with (first
  | ((with_reducible refine d_ (some 8) ?_);refine af_ rfl 39 _ rfl #[(0,QK QU 2),(2,QK QU 5)] (by kernel_rfl) (.agg U) (ao.o _) ?_)
  | ((with_reducible refine d_ (some 9) ?_);refine af_ rfl 41 _ rfl #[(0,.agg ua),(1,.agg up),(2,.agg U)] (by kernel_rfl) (.agg q) (aq.o _) ?_)
  | ((with_reducible refine d_ (some 10) ?_);refine t7_ rfl 22 1 _ rfl #[(0,.agg q)] (by kernel_rfl) (QQ (QJ ⟨d,0,QY⟩) 1 1) k ai.o ?_))
 refine (m9_ [wkM] vd_ (λb=>b=d) (QJ ⟨d,0,QY⟩) 1 1 k (λg hg=>by have hg:g=d:=hg;rw[hg];exact I.o.1) a7.o (by omega) (k_ R.o.1 y.o) (I_ R.o.2 y.o)).mono ?_;unfold kz_;rintro e j (⟨au,_⟩ | ⟨_,_,GN,GE,rfl,O,hb⟩)
 ·exact absurd ⟨by decide,vc_⟩ au
 rw[yj_]at O;have a2:=q_ O;obtain⟨N',E',e,⟨AN,cN,eN,_,_⟩,⟨AE,cE,eE,_,hE⟩⟩:=O;rw[E8_]at eN;subst eN;subst eE;injection e with e;have e3:=congrArg (λa:Array XZ=>a[0]?) e;have e4:=congrArg (λa:Array XZ=>a[1]?) e;simp at e3 e4;subst e3;subst e4;have a5:=q_ hb;have Z:=q_ (y.o.trans (hb.mono y.o.size));clear hb e;obtain⟨u,L⟩:=a_ j.heap.size;obtain⟨wa,A⟩:=a_ (j.alloc (XX #[QQ QY 0 0,QQ QY 0 0] 54));have Y:=q_ (show XU j.heap.size j wa from by rw[<-A.o];exact (XV _ _).alloc (XJ _) _);have a3:=q_ (show wa.heap[u]?=QJ (XX #[QQ QY 0 0,QQ QY 0 0] 54 (0,0)) from by rw[<-A.o,<-L.o];exact heap_alloc_new j _);obtain⟨a,b,M⟩:=E7_;obtain⟨nE,B⟩:=a_ (a3_ [wkM]).edges.length;have J:=q_ (show nE=1 from by rw[<-B.o,M];rfl);have ar:=hE.at_ (i:=0) (x:=⟨0,a,b,⟨#[112]⟩,[]⟩) (by rw[M];rfl);rw[B.o,J.o]at a2;rw[B.o,J.o];obtain⟨ad,ce,rfl,aa,av,a8,a9⟩:=ar;have am:=q_ aa;have aj:=q_ (show j.cell? (ad.add (0*5+3))=QJ (QZ ⟨#[112]⟩) from by rw[a8 3 (by omega)];obtain⟨_,e,_⟩:=a9;rw[e];rfl);clear hE M aa av a8 a9 B J;go_upto_region 3 with ((with_reducible refine y_ 2 ?_);rw[A.o,L.o];refine r_ rfl 54 _ _ rfl u (#[QQ QY 0 0,QQ QY 0 0]) (#[QQ AN 2 cN,QQ (QJ ad) 1 cE]) 54 rfl rfl a3.o rfl (J_ _ _) (do_ _ _ _ _ _ _) ?_;intro V ag af)
 have f:=q_ (show XU j.heap.size j V from i_ Y.o af (λb e=>by have e:b=u:=e;have h2:j.heap.size=u:=L.o;omega));have v:=q_ (Z.o.trans (f.o.mono Z.o.size));have F:=q_ ag;clear ag af A a3 Y;go_wp2_with ((with_reducible refine d_ (some 17) ?_);refine x_ rfl 54 _ rfl u 0 rfl (#[QQ AN 2 cN,QQ (QJ ad) 1 cE]) _ (m_ F.o) Tryz.underlying54 rfl (J_ _ _) ?_)
 refine (ma_ (a3_ [wkM]) fu_.fit (λb=>k.heap.size<=b/\b<j.heap.size) _ V (λb h=>XY h.2 f.o.size) (a2.o.under f.o (λb h=>h.2)) fu_.num (k_ R.o.1 v.o) (I_ R.o.2 v.o)).mono ?_;unfold mh_;rintro e r ⟨hb,C⟩
 obtain⟨s,rfl,P⟩:∃s,e = XW (YY #[s,QK QU 0])/\D_ 41 18 TrR r (λb=>V.heap.size<=b/\b<r.heap.size) [wkM] s:=by
  rcases C with⟨h,_⟩ | ⟨_,G,hp,C⟩
  ·rw[fu_.graph]at h
   cases h
  ·have he:=fu_.plain hp;subst he;rcases C with⟨h,_⟩ | ⟨T,s,S,e,ho⟩
   ·rw[fu_.back]at h
    cases h
   ·rw[fu_.back]at S;injection S with S;subst S;exact⟨s,e,ho⟩
 obtain⟨As,cs,es,_,ae⟩:=P.rd TrR.good;have es:s = QQ As 1 cs:=es;subst es;have a0:=q_ (v.o.trans (hb.mono v.o.size));have E:=q_ (f.o.trans (hb.mono f.o.size));have ap:=q_ (show SRd 18 TrR r (λb=>V.heap.size<=b/\b<r.heap.size) [wkM] As 1 from ae);have a4:=q_ ((hb.block u (b_ F.o)).trans F.o);have x0:r.cell? ⟨u,0,QY⟩=QJ (QQ AN 2 cN):=QX a4.o 0;have x1:r.cell? ⟨u,1,QY⟩=QJ (QQ (QJ ad) 1 cE):=QX a4.o 1;have x3:r.cell? ⟨ad.block,ad.off+3,QY⟩=QJ (QZ ⟨#[112]⟩):=by have h:=(E.o.cell (p:=ad.add (0*5+3)) (by rw[N_];exact am.o.2)).trans aj.o;exact h
 have a6:=q_ (show XU k.heap.size k r from a5.o.trans (E.o.mono a5.o.size));have N:=v6_ (ca:=cs) (cb:=1) ap.o (a7.o.under TrR.good a6.o (λb h=>by have h:b=d:=h;rw[h];exact I.o.1)) (λb h=>h.2) (λb h=>by have h:b=d:=h;rw[h];exact XY I.o.1 a6.o.size) (by omega) (λt ht i=>by rw[List.mem_singleton.1 ht,ec_ (yk_.get i)];decide);rw[ho_.2 rfl]at N;have a1:=q_ N;unfold p_ at a1;clear N hb C P ae;go_wp2_with fail;refine a1.o.mono ?_;rintro e w8 ⟨rfl,hb⟩;have ah:=q_ (a0.o.trans (hb.mono a0.o.size));clear hb;go_wp2_with fail;go_ret;exact⟨rfl,ah.o⟩
def Bh_ (i:Nat):Array XZ:=#[QK QU 6,XK false,QK QU (i:Nat),QZ ⟨#[]⟩,QZ ⟨#[]⟩,QQ QY 0 0]
structure EqK (c:Array XZ) (i:Nat):Prop where
 o :Bh_ i=c
theorem w1_ (i:Nat):∃c,EqK c i:=⟨_,⟨rfl⟩⟩
def o3_ (v:g_) (w:QV) (e:Ending) (w':QV):Prop:=∃A a,e = XW (YY #[.agg (c_ v (QQ A 0 a)),XK true])/\XU w.heap.size w w'
theorem Ne_ {T:List e_} {i:Nat} {v:g_} (a:(U_ T)[i]?=QJ v) {x:h_} (d:x∈(a3_ T).nodes) (b:x.id=((i:Nat):Int)):x=L_ ((i:Nat):Int) v:=by
 obtain⟨j,c,e⟩:=List.mem_mapIdx.1 d;rw[<-e,bn_]at b;have h:j=i:=by omega
 subst h;rw[XQ c]at a;injection a with a;rw[<-e,a]
theorem Nf_ {T:List e_} {i:Nat} {v:g_} (a:(U_ T)[i]?=QJ v):((i:Nat):Int)∈(a3_ T).nodes.map h_.id:=by obtain⟨h,e⟩:=List.getElem?_eq_some_iff.1 a;exact List.mem_map.2 ⟨L_ ((i:Nat):Int) v,List.mem_mapIdx.2 ⟨i,h,by rw[e]⟩,bn_ _ _⟩
theorem Cd_ (i:Nat) (W:QV) (z:Nat) (c:Array XZ) (a:EqK c i) (h:W.heap[z]?=QJ (XX c 39 (0,0))):W.cell? ⟨z,0,QY⟩=QJ (QK QU 6)/\W.cell? ⟨z,2,QY⟩=QJ (QK QU (i:Nat)):=by rw[QX h 0,QX h 2,<-a.o];exact⟨rfl,rfl⟩
theorem Cc_ {T:List e_} (hk:ay_ T) (i:Nat) {v:g_} (hv:(U_ T)[i]?=QJ v) (F:Nat->Prop) (u:XZ) (w:QV) (hF:∀b,F b->b<w.heap.size) (hg:GrR w F (a3_ T) u) (V:aa_ w) :
    Calls QW 35 #[u,.agg (Bh_ i)] w (o3_ v w):=by
 have N:=q_ (λ(W:QV) (hb:XU w.heap.size w W)=>im_ (a3_ T) hk.fit F u W (λb k=>XY (hF b k) hb.size) (hg.under hb hF) (k_ V hb));unfold i9_ at N;have HG:=q_ V;have a:=q_ hk;have HV:=q_ hv;have aq:=q_ (show i<=131072 from by have h:=(List.getElem?_eq_some_iff.1 hv).1;have:=hk.vlen;omega);obtain⟨NV,EV,rfl,⟨AN,cN,rfl,-,-⟩,AE,cE,rfl,-,-⟩:=hg;obtain⟨n1,az⟩:=a_ (a3_ T).nodes.length;obtain⟨n2,b0⟩:=a_ (a3_ T).edges.length;rw[az.o,b0.o]at N ⊢;obtain⟨kn,ab⟩:=w1_ i;rw[ab.o];obtain⟨z,Hz⟩:=a_ w.heap.size;obtain⟨t,j⟩:=a_ (((w.alloc (XX #[QQ AN n1 cN,QQ AE n2 cE] 54)).alloc (XX kn 39)).alloc (XX #[QK QU 0,XK false,QK QU 0,QZ ⟨#[]⟩,QZ ⟨#[]⟩,QQ QY 0 0] 39));have I:=q_ (show XU w.heap.size w t from by rw[<-j.o];exact (B_ w _ _).alloc (by simp;omega) _);obtain⟨X,P⟩:=a_ (w.heap.size+1);obtain⟨f,R⟩:=a_ (w.heap.size+1+1);have aw:=q_ (show t.heap[z]?=QJ (XX #[QQ AN n1 cN,QQ AE n2 cE] 54 (0,0)) from by rw[<-j.o,<-Hz.o];exact gj_ w _ _ _);have aa:=q_ (show t.heap[X]?=QJ (XX kn 39 (0,0)) from by rw[<-j.o,<-P.o];exact gk_ w _ _ _);have O:=q_ (show t.heap[f]?=QJ (XX #[QK QU 0,XK false,QK QU 0,QZ ⟨#[]⟩,QZ ⟨#[]⟩,QQ QY 0 0] 39 (0,0)) from by rw[<-j.o,<-R.o];exact gl_ w _ _ _);have ay:=q_ (show w.heap.size<=z/\X=z+1/\f=z+2/\f<t.heap.size from by have h0:w.heap.size=z:=Hz.o;have h1:w.heap.size+1=X:=P.o;have h2:w.heap.size+1+1=f:=R.o;have:=b_ O.o;omega);clear hk hv V hF;go_enter Tryz.func35,Tryz.ntmps35
 go_upto_region 1 with fail;rw[j.o,R.o,P.o,Hz.o];clear j;go_wp2_with ((with_reducible refine d_ (some 11) ?_);refine x_ rfl 54 _ rfl z 0 rfl (#[QQ AN n1 cN,QQ AE n2 cE]) _ (m_ aw.o) Tryz.underlying54 rfl (J_ _ _) ?_)
 refine (N.o t I.o).mono ?_;rintro e w2 ⟨hb,ag⟩
 obtain⟨p,U,rfl,D,ah⟩:∃p U,e = XW (YY #[YX (QJ ⟨p,0,QY⟩),QK QU 0])/\ee_ w2 t.heap.size p U/\hx_ (a3_ T) U:=by
  rcases ag with⟨hm,_⟩ | ⟨_,p,U,e1,e2,e3⟩
  ·rw[a.o.graph]at hm
   cases hm
  ·exact⟨p,U,e1,e2,e3⟩
 have b2:=re_ a.o.graph ah a.o.srt;subst b2;obtain⟨Ns,Es,mh,mt,ma,b5,n0,D⟩:=D;have a6:=q_ (Ij_ (a3_ T) t.heap.size p Ns Es mh mt ma b5 n0 ((i:Nat):Int) w2 D (rj_ (by have:=aq.o;omega)) (Nf_ HV.o) (λx G=>⟨(a.o.fit.2.2.1 x G).1,(lj_ a.o.graph).1 x G⟩));unfold Ay_ at a6;have a0:=q_ (I.o.trans (hb.mono I.o.size));have ar:=q_ ((hb.block X (b_ aa.o)).trans aa.o);have a4:=q_ ((hb.block f (b_ O.o)).trans O.o);obtain⟨q0,q2⟩:=Cd_ i w2 X kn ab ar.o;clear hb ag D ah;go_wp2_with fail;refine a6.o.mono ?_;rintro e r ⟨x,y,A,n,c,B,m,d,G,ak,am,rfl,af,hb⟩;obtain rfl:y=L_ ((i:Nat):Int) v:=by have h:=j0_ a.o.graph a.o.srt G am;rw[h];exact Ne_ HV.o G ak
 have a7:=q_ af;have b7:=q_ hb;have a1:=q_ (a0.o.trans (hb.mono a0.o.size));have L:=q_ ((hb.block f (b_ a4.o)).trans a4.o);clear G ak am af hb q0 q2;obtain⟨Y,S⟩:=a_ r.heap.size;obtain⟨wa,C⟩:=a_ (r.alloc (XX #[QK QU 0,QQ QY 0 0,QQ QY 0 0] 72));have a2:=q_ (show XU r.heap.size r wa from by rw[<-C.o];exact (XV _ _).alloc (XJ _) _);have a5:=q_ (show wa.heap[Y]?=QJ (XX #[QK QU 0,QQ QY 0 0,QQ QY 0 0] 72 (0,0)) from by rw[<-C.o,<-S.o];exact heap_alloc_new r _);go_upto_region 8 with ((with_reducible refine y_ 8 ?_);rw[C.o,S.o];refine r_ rfl 72 _ _ rfl Y (#[QK QU 0,QQ QY 0 0,QQ QY 0 0]) (#[QK QU ((i:Nat):Int),QQ A n c,QQ B m d]) 72 rfl rfl a5.o rfl (ao_ _ _ _) (fo_ _ _ _ _ _ _ _) ?_;intro w4 aj ai)
 have l:=q_ (show XU r.heap.size r w4 from i_ a2.o ai (λb e=>by have e:b=Y:=e;have h2:r.heap.size=Y:=S.o;omega));have J:=q_ (a1.o.trans (l.o.mono a1.o.size));have au:=q_ aj;have M:=q_ ((l.o.block f (b_ L.o)).trans L.o);have a8:=q_ (a.o.val v (YQ HV.o));have ae:=bn_ ((i:Nat):Int) v;obtain⟨nd,ac⟩:∃nd,L_ ((i:Nat):Int) v=nd:=⟨_,rfl⟩;have a9:=q_ (nn_ ((i:Nat):Int) a8.o);have a3:=q_ (wa_ ((i:Nat):Int) a8.o);rw[ac]at a7 a9 a3 ae;obtain⟨b6,nL,nP⟩:=nd;have E:=tq_ b6 nL nP (λb=>w2.heap.size<=b/\b<r.heap.size) (#[QK QU ((i:Nat):Int),QQ A n c,QQ B m d]) w4 (λb h=>XY h.2 l.o.size) (NoR.good.keep a7.o (λq hq=>l.o.cell hq.2)) (k_ HG.o J.o) a3.o;unfold oo_ at E;rw[a9.o]at E;have av:=q_ E;clear aj ai C a5 a2 E ae ac;go_wp2_with ((with_reducible refine d_ (some 38) ?_);refine x_ rfl 72 _ rfl Y 0 rfl (#[QK QU ((i:Nat):Int),QQ A n c,QQ B m d]) _ (m_ au.o) Tryz.underlying72 rfl (ao_ _ _ _) ?_)
 refine av.o.mono ?_;rintro e w5 ⟨At,ct,rfl,hb⟩;obtain⟨Z,s⟩:=v_ v (QQ At 0 ct);rw[show c_ (v,true).1 (QQ At 0 ct)=Z from s.o];have ad:=q_ (cr_.trans (congrArg QJ s.size.symm));have b1:=q_ (show Z.all (·.oneCell')=true from by rw[<-s.o];kernel_rfl);have ao:=q_ ((hb.block f (b_ M.o)).trans M.o);have ap:=q_ (J.o.trans (hb.mono J.o.size));clear hb;go_wp2_with ((with_reducible refine y_ 4 ?_);refine r_ rfl 39 _ _ rfl f (#[QK QU 0,XK false,QK QU 0,QZ ⟨#[]⟩,QZ ⟨#[]⟩,QQ QY 0 0]) Z 39 rfl rfl ao.o s.size ad.o b1.o ?_;intro w6 b4 b3)
 refine bodyPost_ret (v:=YY #[.agg Z,XK true]) (ck_ Tryz.results35 (g:=f) rfl b4 _ YZ rfl ad.o rfl) rfl ⟨At,ct,by rw[s.o],?_⟩;exact i_ ap.o b3 (λb e=>by have e:b=f:=e;have:=ay.o;omega)
end
section
open Go Go.RowKit Go.Maps Go.WideMaps
theorem G1_ {w:QV} {b:Nat} {T:TypeId} {g h i j c4:XZ} (hb:w.heap[b]?=QJ (XX #[g,h,i,j,c4] T (0,0))) (a c d e f:XZ) :
    (((((w.setCell ⟨b,0,QY⟩ a).setCell ⟨b,1,QY⟩ c).setCell ⟨b,2,QY⟩ d).setCell ⟨b,3,QY⟩ e).setCell ⟨b,4,QY⟩ f).heap[b]?=QJ (XX #[a,c,d,e,f] T (0,0)) /\
     Turn (λq=>q=b) w (((((w.setCell ⟨b,0,QY⟩ a).setCell ⟨b,1,QY⟩ c).setCell ⟨b,2,QY⟩ d).setCell ⟨b,3,QY⟩ e).setCell ⟨b,4,QY⟩ f):=by
 refine⟨heap_setCell_same _ b 4 _ T _ (heap_setCell_same _ b 3 _ T _ (heap_setCell_same _ b 2 _ T _ (heap_setCell_same _ b 1 _ T _ (heap_setCell_same _ b 0 _ T _ hb)))),?_⟩;exact ((((((Turn.refl (λq=>q=b) w).setCell (p:=⟨b,0,QY⟩) (.inr rfl) _).setCell (p:=⟨b,1,QY⟩) (.inr rfl) _).setCell (p:=⟨b,2,QY⟩) (.inr rfl) _).setCell (p:=⟨b,3,QY⟩) (.inr rfl) _).setCell (p:=⟨b,4,QY⟩) (.inr rfl) _)
def tv_ (G:w_) (id:Int) (w:QV) (e:Ending) (w':QV):Prop:=
 ∃(x:l_) (B:Option Addr) (r c:Nat),x∈G.edges/\x.id=id/\e = XW (YY #[.agg #[QK QU x.id,QK QU x.src,QK QU x.dst,QZ x.type,QQ B r c],XK true])/\XU w.heap.size w w'
theorem Go_ (G:w_) (lo p:Nat) (Ns Es:XZ) (mh mt ma a2 n0:Nat) (id:Int) (w:QV) (Z:ch_ w lo p G Ns Es mh mt ma a2 n0) (a1:VI id) (M:id∈G.edges.map l_.id)
    (J:∀x,x∈G.edges->Mp_ x/\Aw_ x) :
    Calls QW 34 #[YX (QJ ⟨p,0,QY⟩),QK QU id] w (tv_ G id w):=by
 have A:=q_ Z;have a3:=q_ J;obtain⟨z,t⟩:=a_ w.heap.size;obtain⟨w2,B⟩:=a_ (w.alloc (XX #[QK QU 0,QK QU 0,QK QU 0,QZ ⟨#[]⟩,QQ QY 0 0] 74));have m:=q_ (show XU w.heap.size w w2 from by rw[<-B.o];exact (XV _ _).alloc (XJ _) _);have r:=q_ (show ch_ w2 lo p G Ns Es mh mt ma a2 n0 from A.o.turn (Turn.of_below m.o) (λb _ h1 h2=>by omega));have HK:=q_ (show w2.heap[z]?=QJ (XX #[QK QU 0,QK QU 0,QK QU 0,QZ ⟨#[]⟩,QQ QY 0 0] 74 (0,0)) from by rw[<-B.o,<-t.o];exact heap_alloc_new w _);obtain⟨AE,cE,W,_,E⟩:=r.o.edges;obtain⟨nE,U⟩:=a_ G.edges.length;rw[U.o]at W E;subst W;obtain⟨q7,Y,X⟩:=r.o.types.look a1;rw[ci_ M]at Y;obtain⟨i,rfl,u⟩:=X M;rw[List.getElem?_map]at u
 obtain⟨x,q,f⟩:∃x,G.edges[i]?=QJ x/\x.id=id:=by
  cases q:G.edges[i]? with
  | none=>rw[q]at u;cases u
  | some x=>rw[q]at u;exact⟨x,rfl,by injection u⟩
 have C:=q_ (And.intro (YQ q) f);have aa:i<nE:=by rw[<-U.o];exact b7_ q
 have F:=E.mono EdR.good (F':=λb=>b<z) (λb hb=>by have:=A.o.loc;have:=t.o;omega);obtain⟨ad,A2,d2,rfl,a8,V,a9,q0,q1,q2,q3,q4⟩:=i8_ F q;have L:=a3.o x C.o.1;have N:=p6_ x L.1 L.2 (λb=>b<z) _ w2 (λb hb=>by have:=m.o.size;have:=t.o;omega) V;obtain⟨src,k⟩:=a_ x.src;obtain⟨dst,j⟩:=a_ x.dst;obtain⟨s,l⟩:=a_ x.type;obtain⟨m2,S⟩:=a_ x.props.length;rw[f,k.o,j.o,l.o,S.o]at N;rw[f]at q0;rw[k.o]at q1;rw[j.o]at q2;rw[l.o]at q3;rw[S.o]at q4;have a5:=q_ N;have R:=q_ f;have x3:w2.cell? ⟨p,3,QY⟩=QJ (.map (QJ mt)):=QX r.o.blk 3;have x1:w2.cell? ⟨p,1,QY⟩=QJ (QQ (QJ ad) nE cE):=QX r.o.blk 1;have e1:(0:Int)<=i:=by omega
 have e2:(i:Int)<nE:=by omega
 clear Z a1 M J E F u q a8 V a9 N L f X;go_enter Tryz.func34,Tryz.ntmps34
 go_upto_region 1 with fail;rw[B.o,t.o];go_wp2_with fail;refine a5.o.mono ?_;rintro e w6 ⟨c,x',rfl,I,d,P6,rfl,y,n,rfl,_,_⟩;obtain⟨O,a7⟩:=a_ x'.props.length;rw[a7.o,d.1,d.2.1,d.2.2.1,d.2.2.2.1,R.o,k.o,j.o,l.o];have a:=(I.block z (b_ HK.o)).trans HK.o;have a4:=q_ a;have P:=q_ I;have r0:w6.cell? ⟨z,0,QY⟩=QJ (QK QU 0):=QX a 0;have y0:w6.frozen? ⟨z,0,QY⟩=false:=Lib.frozen_of_heap a 0;have r1:w6.cell? ⟨z,1,QY⟩=QJ (QK QU 0):=QX a 1;have y1:w6.frozen? ⟨z,1,QY⟩=false:=Lib.frozen_of_heap a 1;have r2:w6.cell? ⟨z,2,QY⟩=QJ (QK QU 0):=QX a 2;have y2:w6.frozen? ⟨z,2,QY⟩=false:=Lib.frozen_of_heap a 2;have r3:w6.cell? ⟨z,3,QY⟩=QJ (QZ ⟨#[]⟩):=QX a 3;have y3:w6.frozen? ⟨z,3,QY⟩=false:=Lib.frozen_of_heap a 3;have r4:w6.cell? ⟨z,4,QY⟩=QJ (QQ QY 0 0):=QX a 4;have y4:w6.frozen? ⟨z,4,QY⟩=false:=Lib.frozen_of_heap a 4;clear a I d x1 x3 q0 q1 q2 q3 q4 Y;go_wp2_with fail;obtain⟨g,a0⟩:=G1_ a4.o (QK QU id) (QK QU src) (QK QU dst) (QZ s) (QQ y O n);obtain⟨D,a6⟩:=a_ (((((w6.setCell ⟨z,0,QY⟩ (QK QU id)).setCell ⟨z,1,QY⟩ (QK QU src)).setCell ⟨z,2,QY⟩ (QK QU dst)).setCell ⟨z,3,QY⟩ (QZ s)).setCell ⟨z,4,QY⟩ (QQ y O n));rw[a6.o]at g a0 ⊢;have g0:D.cell? ⟨z,0,QY⟩=QJ (QK QU id):=QX g 0;have g1:D.cell? ⟨z,1,QY⟩=QJ (QK QU src):=QX g 1;have g2:D.cell? ⟨z,2,QY⟩=QJ (QK QU dst):=QX g 2;have g3:D.cell? ⟨z,3,QY⟩=QJ (QZ s):=QX g 3;have g4:D.cell? ⟨z,4,QY⟩=QJ (QQ y O n):=QX g 4;refine bodyPost_ret (v:=YY #[.agg #[QK QU id,QK QU src,QK QU dst,QZ s,QQ y O n],XK true]) (by simp[results,Tryz.results34,go_sem,g0,g1,g2,g3,g4]) rfl ⟨x,y,O,n,C.o.1,C.o.2,by rw[R.o,k.o,j.o,l.o],?_⟩;exact (m.o.trans (P.o.mono m.o.size)).trans (a0.below (λi _ h=>by have:=t.o;omega) (by have:=t.o;have:=m.o.size;have:=P.o.size;omega))
end
section
open Go Go.RowKit
theorem ve_ (s:ByteArray) (w:QV):Calls QW 103 #[QZ s] w λe w'=>e = XW (XK (al_ s))/\w'=w:=by
 have c:al_ s=decide (1<=s.size/\s.size<=1048576):=rfl;generalize al_ s=r at c ⊢;have b:=q_ c;clear c;by_cases h1:1<=s.size
 ·by_cases h2:s.size<=1048576
  ·have d:decide ((1:Int)<=s.size)=true:=decide_eq_true (by omega);have f:decide ((s.size:Int)<=1048576)=true:=decide_eq_true (by omega);have a:r=true:=by rw[b.o];exact decide_eq_true ⟨h1,h2⟩
   clear h1 h2;go_enter Tryz.func103,Tryz.ntmps103
   go_wp2
   go_ret;exact⟨by rw[a];rfl,rfl⟩
  ·have d:decide ((1:Int)<=s.size)=true:=decide_eq_true (by omega);have f:decide ((s.size:Int)<=1048576)=false:=decide_eq_false (by omega);have a:r=false:=by rw[b.o];exact decide_eq_false λh=>h2 h.2
   clear h1 h2;go_enter Tryz.func103,Tryz.ntmps103
   go_wp2
   go_ret;exact⟨by rw[a];rfl,rfl⟩
 ·have d:decide ((1:Int)<=s.size)=false:=decide_eq_false (by omega);have a:r=false:=by rw[b.o];exact decide_eq_false λh=>h1 h.1
  clear h1;go_enter Tryz.func103,Tryz.ntmps103
  go_wp2
  go_ret;exact⟨by rw[a];rfl,rfl⟩
theorem Hh_ (l:List ByteArray) (x:ByteArray) (F:Nat->Prop) (A:Option Addr) (n c:Nat) (w:QV) (h:SRd 1 TxR w F l A n) (E:n<=1000000000) :
    Calls QW 157 #[QQ A n c,QZ x] w (Kx_ (inB l x) w):=by
 have v:=q_ h;have s:=q_ h.1;clear h;obtain⟨r,g⟩:=a_ (inB l x);rw[g.o];go_enter Tryz.func157,Tryz.ntmps157
 go_wp2_with fail;go_loopw [5] (λj z=>∃k:Nat,k<=n/\j = QK QU (k:Nat)/\Q_ (z=w/\x∉l.take k)) (λj _=>n-(intOf j).toNat)
 case atStart=>exact⟨0,by omega,rfl,q_ ⟨rfl,by simp⟩⟩
 case round=>
  obtain⟨k,D,rfl,b⟩:=hrel;by_cases u:k<n
  ·obtain⟨y,i⟩:∃y,l[k]?=QJ y:=⟨l[k]'(by rw[<-s.o];exact u),XQ _⟩;have q:=q_ i;obtain⟨ad,rfl,_,G⟩:=Ar_ (v.o.keep TxR.good (w':=wr) (λp _=>by rw[b.o.1])) i;clear i;have B:(0:Int)<=k:=by omega
   have C:(k:Int)<n:=by omega
   have J:IntKind.i64.wrap ((k:Int)+1)=(k:Int)+1:=IntWalk.i64_in _ (by omega);by_cases a:x=y
   ·subst a;have f:=q_ (show r=true from by rw[<-g.o];exact ci_ (YQ q.o));go_wp2_with fail;go_ret;exact⟨(k:Int),rfl,by rw[f.o];simp,b.o.1⟩
   ·have I:=ba_ (λe=>a e.symm);have m:=q_ a;clear a;go_wp2_with fail;go_roundw
    case rel=>
     refine⟨k+1,by omega,by go_num,q_ ⟨b.o.1,λd=>?_⟩⟩;rw[f_ q.o]at d;rcases List.mem_append.1 d with d | d
     ·exact b.o.2 d
     ·exact m.o (List.mem_singleton.1 d)
    case measure=>simp[intOf];omega
  ·have t:n=k:=by omega
   subst t;have f:=q_ (show r=false from by rw[<-g.o];refine g9_ ?_;have h:=b.o.2;rw[List.take_of_length_le (by rw[<-s.o];exact XJ _)]at h;exact h);go_wp2_with fail;go_ret;exact⟨-1,rfl,by rw[f.o];simp,b.o.1⟩
def ez_ (v:g_) (b:Bool):Bool:=if v.kind=5 then b&&(z_ v 0&&v.list.all O_) else O_ v
theorem xh_ (v:g_):ez_ v true=a8_ v:=by unfold ez_ a8_;simp
theorem uz_ (v:g_):ez_ v false=O_ v:=by
 unfold ez_ O_;split
 ·rename_i h;rw[h];simp
 ·rfl
theorem hf_ {v:g_} {b:Bool} {k:Int} (a:v.kind=k) (h:k=1\/k=2\/k=3\/k=4):ez_ v b=z_ v 0:=by unfold ez_ O_;rw[a];rcases h with h | h | h | h<;>subst h<;>simp
theorem xg_ {v:g_} {b:Bool} (h:v.kind=5):ez_ v b=(b&&(z_ v 0&&v.list.all O_)):=by unfold ez_;rw[if_pos h]
theorem D1_ {v:g_} {b:Bool} {k:Int} (e:v.kind=k) (h1:k≠1) (h2:k≠2) (a:k≠3) (c:k≠4) (d:k≠5):ez_ v b=false:=by unfold ez_ O_;rw[e,if_neg d];simp[h1,h2,a,c]
theorem z7_ (N:Nat):∀(v:g_) (_:M_ v<N) (_:M_ v<=10000000000) (b:Bool) (F:Nat->Prop) (u:XZ) (w:QV) (_:∀g,F g->g<w.heap.size) (_:VRd w F v u),
    Calls QW 158 #[u,XK b] w (p_ (ez_ v b) w):=by
 induction N with
 | zero=>exact λ_ h=>absurd h (Nat.not_lt_zero _)
 | succ N ih=>
  intro v hN hs b F u w hF hv;have l:=q_ (λ(W:QV) (hW:XU w.heap.size w W)=>hj_ v hs F u W (λg hg=>XY (hF g hg) hW.size) (hv.under hW hF));obtain⟨A,E,rfl,a2,hl⟩:=hv.inv;have IH:=q_ ih;have HL:=q_ hl;have HF:=q_ hF;clear ih hl hF hv a2;obtain⟨z,n⟩:=a_ (ez_ v b);obtain⟨O,t⟩:=a_ (z_ v 0);rw[n.o];rw[t.o]at l;obtain⟨p,D⟩:=a_ v.list.length;have X:=q_ (show p<=10000000000/\Z_ v.list<N/\Z_ v.list<=10000000000 from by have h1:=ft_ v;have h2:=ce_ v.list;rw[D.o]at h2;omega);have ag:=X.o.1;clear hN hs;obtain⟨k,C⟩:=a_ v.kind;obtain⟨tr,a6⟩:=a_ v.truth;obtain⟨nu,a5⟩:=a_ v.num;obtain⟨tx,a7⟩:=a_ v.text;obtain⟨Y,a4⟩:=a_ v.extra;unfold c_ at l ⊢;rw[D.o]at HL l ⊢;rw[C.o,a6.o,a5.o,a7.o,a4.o]at l ⊢;obtain⟨h,Hh⟩:=a_ w.heap.size;obtain⟨m,R⟩:=a_ (w.alloc (XX #[QK QU k,XK tr,QK QU nu,QZ tx,QZ Y,QQ A p E] 39));have a:=q_ (show XU w.heap.size w m from by rw[<-R.o];exact (XV _ _).alloc (XJ _) _);have f:=q_ (show m.heap[h]?=QJ (XX #[QK QU k,XK tr,QK QU nu,QZ tx,QZ Y,QQ A p E] 39 (0,0)) from by rw[<-R.o,<-Hh.o];exact heap_alloc_new w _);have a9:=q_ (b_ f.o);have r0:m.cell? ⟨h,0,QY⟩=QJ (QK QU k):=QX f.o 0;have r1:m.cell? ⟨h,1,QY⟩=QJ (XK tr):=QX f.o 1;have r2:m.cell? ⟨h,2,QY⟩=QJ (QK QU nu):=QX f.o 2;have r3:m.cell? ⟨h,3,QY⟩=QJ (QZ tx):=QX f.o 3;have r4:m.cell? ⟨h,4,QY⟩=QJ (QZ Y):=QX f.o 4;have r5:m.cell? ⟨h,5,QY⟩=QJ (QQ A p E):=QX f.o 5;go_enter Tryz.func158,Tryz.ntmps158
  go_upto_region 1 with fail;rw[R.o,Hh.o];by_cases h1:k=1
  ·have j:=q_ (show O=z from by rw[<-n.o,<-t.o];exact (hf_ C.o (.inl h1)).symm);subst h1;go_wp2_with fail;refine (l.o m a.o).mono ?_;rintro e w2 ⟨rfl,c⟩;have d:=q_ (a.o.trans (c.mono a.o.size));clear c;go_wp2_with fail;go_ret;exact⟨j_ j.o,d.o⟩
  ·have n1:((k:Int)==1)=false:=beq_eq_false_iff_ne.2 h1;by_cases h2:k=2
   ·have j:=q_ (show O=z from by rw[<-n.o,<-t.o];exact (hf_ C.o (.inr (.inl h2))).symm);subst h2;go_wp2_with fail;refine (l.o m a.o).mono ?_;rintro e w2 ⟨rfl,c⟩;have d:=q_ (a.o.trans (c.mono a.o.size));clear c;go_wp2_with fail;go_ret;exact⟨j_ j.o,d.o⟩
   ·have n2:((k:Int)==2)=false:=beq_eq_false_iff_ne.2 h2;by_cases L:k=3
    ·have j:=q_ (show O=z from by rw[<-n.o,<-t.o];exact (hf_ C.o (.inr (.inr (.inl L)))).symm);subst L;go_wp2_with fail;refine (l.o m a.o).mono ?_;rintro e w2 ⟨rfl,c⟩;have d:=q_ (a.o.trans (c.mono a.o.size));clear c;go_wp2_with fail;go_ret;exact⟨j_ j.o,d.o⟩
    ·have n3:((k:Int)==3)=false:=beq_eq_false_iff_ne.2 L;by_cases M:k=4
     ·have j:=q_ (show O=z from by rw[<-n.o,<-t.o];exact (hf_ C.o (.inr (.inr (.inr M)))).symm);subst M;go_wp2_with fail;refine (l.o m a.o).mono ?_;rintro e w2 ⟨rfl,c⟩;have d:=q_ (a.o.trans (c.mono a.o.size));clear c;go_wp2_with fail;go_ret;exact⟨j_ j.o,d.o⟩
     ·have n4:((k:Int)==4)=false:=beq_eq_false_iff_ne.2 M;by_cases S:k=5
      ·have P:=q_ (show z=(b&&(O&&v.list.all O_)) from by rw[<-n.o,<-t.o];exact xg_ (C.o.trans S));subst S;clear n1 n2 n3 n4 h1 h2 L M;go_wp2_with fail;go_loopw [5] (λs5 wr=>∃i:Nat,i<=p/\s5 = QK QU (i:Nat)/\Q_ (((v.list.take i).all O_)=true)/\Q_ (XU m.heap.size m wr)) (λs5 _=>p-(intOf s5).toNat)
       case atStart=>exact⟨0,by omega,rfl,q_ (by simp),q_ (XV _ _)⟩
       case round=>
        clear r0 r1 r2 r3 r4 r5;obtain⟨i,hi,rfl,U,Z⟩:=hrel;have q:=q_ (a.o.trans (Z.o.mono a.o.size));have x:=q_ ((Z.o.block h a9.o).trans f.o);have r5:wr.cell? ⟨h,5,none⟩=some (QQ A p E):=QX x.o 5;by_cases aa:i<p
        ·obtain⟨y,hy⟩:∃y,v.list[i]?=QJ y:=⟨v.list[i]'(by rw[D.o];exact aa),XQ _⟩;have HR:=q_ (HL.o.under q.o HF.o);obtain⟨ad,s,rfl,a8,⟨B,af,rfl,ae,ab⟩,a1,e0,e1,e2,e3,e4,e5⟩:=HR.o.cellsAt hy;have HY:=q_ hy;have V:=q_ (YQ hy);have ac:=dr_ V.o;have G:=q_ (IH.o y (by have:=X.o;omega) (by have:=X.o;omega) false F _ wr (λg hg=>XY (HF.o g hg) q.o.size) a1);rw[uz_]at G;unfold c_ at G;have I:=q_ (λ(h:O_ y=true)=>show ((v.list.take (i+1)).all O_)=true from by rw[f_ HY.o,List.all_append,U.o];simp[h]);have J:=q_ (λ(h:O_ y=false)=>show v.list.all O_=false from by rw[List.all_eq_false];exact⟨y,V.o,by simp[h]⟩);obtain⟨r,Hr⟩:=a_ (O_ y);rw[Hr.o]at G I J;have q1:(0:Int)<=i:=by omega
         have q2:(i:Int)<p:=by omega
         clear hy ab a1 a8 ac;go_wp2_with fail;refine G.o.mono ?_;rintro e w2 ⟨rfl,c⟩;have d:=q_ (Z.o.trans (c.mono Z.o.size));clear c
         cases r with
         | true=>
          have HM:=q_ (I.o rfl);have w3:IntKind.i64.wrap ((i:Int)+1)=(i:Int)+1:=IntWalk.i64_in _ (by omega);go_wp2_with fail;go_roundw
          case rel=>exact⟨i+1,by omega,by go_num,HM,d⟩
          case measure=>simp[intOf];omega
         | false=>
          have j:=q_ (show false=z from by rw[P.o,J.o rfl];simp);have a3:=q_ (a.o.trans (d.o.mono a.o.size));go_wp2_with fail;go_ret;exact⟨j_ j.o,a3.o⟩
        ·have a0:i=p:=by omega
         have HA:=q_ (show v.list.all O_=true from by have:=U.o;rw[List.take_of_length_le (by rw[a0,D.o];exact XJ _)]at this;exact this);clear a0
         cases b with
         | false=>
          have j:=q_ (show false=z from by rw[P.o];simp);go_wp2_with fail;go_ret;exact⟨j_ j.o,q.o⟩
         | true=>
          have j:=q_ (show O=z from by rw[P.o,HA.o];simp);have r0:wr.cell? ⟨h,0,QY⟩=QJ (QK QU 5):=QX x.o 0;have r1:wr.cell? ⟨h,1,QY⟩=QJ (XK tr):=QX x.o 1;have r2:wr.cell? ⟨h,2,QY⟩=QJ (QK QU nu):=QX x.o 2;have r3:wr.cell? ⟨h,3,QY⟩=QJ (QZ tx):=QX x.o 3;have r4:wr.cell? ⟨h,4,QY⟩=QJ (QZ Y):=QX x.o 4;go_wp2_with fail;refine (l.o wr q.o).mono ?_;rintro e w2 ⟨rfl,c⟩;have d:=q_ (q.o.trans (c.mono q.o.size));clear c;go_wp2_with fail;go_ret;exact⟨j_ j.o,d.o⟩
      ·have n5:((k:Int)==5)=false:=beq_eq_false_iff_ne.2 S;have j:=q_ (show false=z from by rw[<-n.o];exact (D1_ C.o h1 h2 L M S).symm);clear h1 h2 L M S;go_wp2_with fail;go_ret;exact⟨j_ j.o,a.o⟩
end
end Go.Proofs.YtefhfadjajcmkaaGreatDoor
