/- The opener of what MappingRound's kin read: triples, values. -/
import Derived.Test.YtefhfadjajcmkaaGreatDoorHE
import Derived.Test.YtefhfadjajcmkaaGreatDoorBulk
import Derived.Deep.Slices
import Derived.Lib.SmallJoins
set_option linter.unusedVariables false
set_option linter.unusedSimpArgs false
set_option maxRecDepth 100000
set_option maxHeartbeats 64000000
namespace Go.Proofs.YtefhfadjajcmkaaGreatDoor
open Go Go.ChangeShapes Go.WideShapes Go.ChangeAt Go.RowKit Go.Joins
open Go.Lib (cell_of_heap)
theorem zr_ (a:Addr) (i j:Nat):(a.add i).add j=a.add (i+j):=Go.Deep.add_add a i j
theorem Gx_ {H:Type} {enc:TypeId×Value->H} {P:Program} {w:World} {b:Nat} {a:Nat->Bool} {held:Bool} {t:TypeId} {l j i f e g:Field} {fuel:Nat} {cs:List Value} {x:DataW H×List MemPlace} (L:P.underlying t=some (.struct #[l,j,i,f,e,g])) (E:P.cellsOf t=6)
    (G:l.offset=0) (T:j.offset=1) (R:i.offset=2) (D:f.offset=3) (M:e.offset=4) (I:g.offset=5) (O:P.cellsOf l.type=1) (J:P.cellsOf j.type=1) (F:P.cellsOf i.type=1) (N:P.cellsOf f.type=1) (c4:P.cellsOf e.type=1) (S:P.cellsOf g.type=1)
    (h:DataW.trod enc P w b a held fuel t cs=some x) :
    ∃(o q n m r v5:Value) (y0 y1 y2 y3 y4 y5:DataW H×List MemPlace) (k:Nat),cs=[o,q,n,m,r,v5]/\x.1 = .agg [y0.1,y1.1,y2.1,y3.1,y4.1,y5.1]/\DataW.trod enc P w b a held k l.type [o]=some y0/\DataW.trod enc P w b a held k j.type [q]=some y1/\DataW.trod enc P w b a held k i.type [n]=some y2/\DataW.trod enc P w b a held k f.type [m]=some y3/\DataW.trod enc P w b a held k e.type [r]=some y4/\DataW.trod enc P w b a held k g.type [v5]=some y5:=by
 obtain⟨xs,k,U,A,s,z,c⟩:=DataW.trod_struct L h;rw[E]at s;match xs,z,cs,s with
 | [y0,y1,y2,y3,y4,y5],_,[o,q,n,m,r,v5],_=>
  have v:=c 0 l rfl;have B:=c 1 j rfl;have C:=c 2 i rfl;have u:=c 3 f rfl;have g4:=c 4 e rfl;have y:=c 5 g rfl;simp[G,T,R,D,M,I,O,J,F,N,c4,S]at v B C u g4 y;exact⟨o,q,n,m,r,v5,y0,y1,y2,y3,y4,y5,k,rfl,by rw[A];rfl,v,B,C,u,g4,y⟩
theorem sa_ {H:Type} {enc:TypeId×Value->H} {W:World} {N:Nat} {held:Bool} {n:Nat} {cs:List Value} {d:DataW H} {p:List MemPlace}
    (I:∀{fuel:Nat} {v:Value} {d:DataW H} {p:List MemPlace},Rows.uptoBulk d<=N->DataW.trod enc Tryz.prog W 0 (λ_=>true) held fuel 37 [v]=some (d,p) ->
     ∃A n e l,v = .slice A n e/\n<=e/\LRd W (λg=>g<W.heap.size) l A n/\sr_ l/\af_ l<Rows.uptoBulk d)
    (hN:Rows.uptoBulk d<=N+1) (h:DataW.trod enc Tryz.prog W 0 (λ_=>true) held n 39 cs=some (d,p)) :
    ∃x,cs.toArray.size=6/\VRd W (λg=>g<W.heap.size) x (.agg cs.toArray)/\kn_ x/\U_ x<=Rows.uptoBulk d:=by
 obtain⟨v0,v1,Y,X,v4,v5,y0,y1,y2,V,y4,f,k,rfl,i,G,M,O,D,g4,J⟩:=Gx_ Tryz.underlying39 (by kernel_rfl) rfl rfl rfl rfl rfl rfl (by kernel_rfl) (by kernel_rfl) (by kernel_rfl) (by kernel_rfl) (by kernel_rfl) (by kernel_rfl) h;obtain⟨q,e0,T,w0⟩:=DataW.trod_int (by kernel_rfl:Tryz.prog.underlying 3=some (.int .i64)) G;obtain⟨u,r,S⟩:=DataW.trod_bool (by kernel_rfl:Tryz.prog.underlying 4=some .bool) M;obtain⟨c,s,F,w2⟩:=DataW.trod_int (by kernel_rfl:Tryz.prog.underlying 2=some (.int .i64)) O;obtain⟨a,j,P,w3⟩:=DataW.trod_string (by kernel_rfl:Tryz.prog.underlying 9=some .string) D;obtain⟨b,t,C,w4⟩:=DataW.trod_string (by kernel_rfl:Tryz.prog.underlying 9=some .string) g4;injection e0 with e0 _;injection r with r _;injection s with s _;injection j with j _;injection t with t _;subst e0 r s j t T S F P C;obtain⟨f,Z⟩:=f;simp only at i;subst i
 have B:6+a.size+b.size+Rows.uptoBulk f<=Rows.uptoBulk (DataW.agg [.lit (.int .i64 q),.lit (.bool u),.lit (.int .i64 c),.lit (.string a.data.toList),.lit (.string b.data.toList),f]):=by
  have z3:a.data.toList.length=a.size:=by rw[Array.length_toList];rfl
  have z4:b.data.toList.length=b.size:=by rw[Array.length_toList];rfl
  simp only[Rows.uptoBulk,Rows.uptoBulkAll];omega
 obtain⟨A,m,e,l,E,o,z,y,U⟩:=I (by omega) J;subst E;have L:m=l.length:=z.1;subst L;have R:-9223372036854775808<=c/\c<=9223372036854775807:=by simpa [Lit.wf,IntKind.min,IntKind.max,IntKind.signed,IntKind.bits] using w2
 refine⟨.mk q u c a b l,rfl,VRd.of_list (v:=.mk q u c a b l) o z,⟨R,y⟩,?_⟩;simp only[U_];omega
theorem Cr_ {H:Type} {enc:TypeId×Value->H} {W:World} {held:Bool} (N:Nat):∀{fuel:Nat} {v:Value} {d:DataW H} {p:List MemPlace},Rows.uptoBulk d<=N->DataW.trod enc Tryz.prog W 0 (λ_=>true) held fuel 37 [v]=some (d,p) ->
      ∃A n k l,v = .slice A n k/\n<=k/\LRd W (λg=>g<W.heap.size) l A n/\sr_ l/\af_ l<Rows.uptoBulk d:=by
 induction N with
 | zero=>intro fuel v d p I;have:=bulks.one_le d;omega
 | succ N R=>
  intro fuel v d p I h;rcases Go.Deep.open_slice Tryz.underlying37 h with⟨e,y⟩ | ⟨a,b,k,m,n,D,Pl,e,_,J,a1,X,y,z⟩
  ·injection e with e _;subst e;exact⟨none,0,0,[],rfl,Nat.le_refl _,LRd.nil 0 rfl,trivial,by simp only[af_];exact bulks.one_le d⟩
  ·injection e with e _;subst e;have a0:b<=m:=by rw[X];split<;>omega
   injection y with y _;subst y;have hb:=bulks.slice_elems ((List.range b).map D) ((List.range (m-b)).map λj=>D (b+j))
   have O:∀i,i<b->Rows.uptoBulk (D i)<=N:=λi hi=>by
    have:=bulks.part_le (List.mem_map.2 ⟨i,List.mem_range.2 hi,rfl⟩:D i∈(List.range b).map D);omega
   have u:∀i,i<b->∃q:h_×Array Value,q.2.size=6/\(∀j,j<6->W.cell? (a.add (i*6+j))=q.2[j]?)/\VRd W (λg=>g<W.heap.size) q.1 (.agg q.2)/\kn_ q.1/\U_ q.1<=Rows.uptoBulk (D i):=λi hi=>by
    obtain⟨C,t,V⟩:=z i (by omega);rw[show Tryz.prog.cellsOf 39=6 by kernel_rfl]at t;obtain⟨_,G,c⟩:=World.cells?_some t;obtain⟨x,S,Z,T,Y⟩:=sa_ (λI h=>R I h) (Nat.le_succ_of_le (O i hi)) V;exact⟨(x,C.toArray),S,λj U=>by rw[<-zr_,c j U];simp,Z,T,Y⟩
   have M:∃q:Nat->h_×Array Value,∀i,i<b->(q i).2.size=6/\(∀j,j<6->W.cell? (a.add (i*6+j))=(q i).2[j]?)/\VRd W (λg=>g<W.heap.size) (q i).1 (.agg (q i).2)/\kn_ (q i).1/\U_ (q i).1<=Rows.uptoBulk (D i):=by
    classical
    exact⟨λi=>if hi:i<b then Classical.choose (u i hi) else (.mk 0 false 0 ⟨#[]⟩ ⟨#[]⟩ [],#[]),λi hi=>by simp only[dif_pos hi];exact Classical.choose_spec (u i hi)⟩
   obtain⟨q,E⟩:=M;refine⟨some a,b,k,(List.range b).map λi=>(q i).1,rfl,J,⟨by simp,λhn=>⟨a,rfl,?_,λi x f=>?_⟩⟩,?_,?_⟩
   ·obtain⟨C,t,_⟩:=z 0 (by omega);rw[show Tryz.prog.cellsOf 39=6 by kernel_rfl]at t;obtain⟨_,G,c⟩:=World.cells?_some t;have h0:=c 0 (by omega);rw[List.getElem?_eq_getElem (by omega)]at h0;have:=World.block_lt_of_cell? W _ h0;simpa [Addr.add] using this
   ·rw[List.getElem?_map]at f
    have B:i<b:=by
     rcases Nat.lt_or_ge i b with F | F
     ·exact F
     ·rw[List.getElem?_eq_none (by simpa using F)]at f;cases f
    rw[List.getElem?_range B]at f;injection f with f;subst f;obtain⟨q1,P,q3,_⟩:=E i B;exact⟨_,q1,P,q3⟩
   ·have:∀L:List Nat,(∀i,i∈L->i<b)->sr_ (L.map λi=>(q i).1):=λL=>by
      induction L with
      | nil=>intro _;trivial
      | cons x r o=>intro s;exact⟨(E x (s x (List.mem_cons_self ..))).2.2.2.1,o λi hi=>s i (List.mem_cons_of_mem _ hi)⟩
    exact this _ λi hi=>List.mem_range.1 hi
   ·have:∀L:List Nat,(∀i,i∈L->i<b)->af_ (L.map λi=>(q i).1)<=Rows.uptoBulkAll (L.map D):=λL=>by
      induction L with
      | nil=>intro _;simp[af_]
      | cons x r o=>
       intro s;have h1:=(E x (s x (List.mem_cons_self ..))).2.2.2.2;have h2:=o λi hi=>s i (List.mem_cons_of_mem _ hi);simp only[List.map_cons,af_,Rows.uptoBulkAll];omega
    have:=this (List.range b) λi hi=>List.mem_range.1 hi;omega
theorem Ja_ {H:Type} {enc:TypeId×Value->H} {P:Program} {w:World} {b:Nat} {a:Nat->Bool} {held:Bool} {t:TypeId} {q o n:Field} {fuel:Nat} {cs:List Value} {x:DataW H×List MemPlace} (S:P.underlying t=some (.struct #[q,o,n])) (M:P.cellsOf t=18)
    (O:q.offset=0) (V:o.offset=6) (U:n.offset=12) (T:P.cellsOf q.type=6) (R:P.cellsOf o.type=6) (N:P.cellsOf n.type=6)
    (h:DataW.trod enc P w b a held fuel t cs=some x) :
    ∃(v z s r A v5 y B C u g j c m e i f l:Value) (y0 y1 y2:DataW H×List MemPlace) (k:Nat),cs=[v,z,s,r,A,v5,y,B,C,u,g,j,c,m,e,i,f,l]/\x.1 = .agg [y0.1,y1.1,y2.1]/\DataW.trod enc P w b a held k q.type [v,z,s,r,A,v5]=some y0/\DataW.trod enc P w b a held k o.type [y,B,C,u,g,j]=some y1/\DataW.trod enc P w b a held k n.type [c,m,e,i,f,l]=some y2:=by
 obtain⟨xs,k,X,I,D,G,E⟩:=DataW.trod_struct S h;rw[M]at D;match xs,G,cs,D with
 | [y0,y1,y2],_,[v,z,s,r,A,v5,y,B,C,u,g,j,c,m,e,i,f,l],_=>
  have F:=E 0 q rfl;have J:=E 1 o rfl;have L:=E 2 n rfl;simp[O,V,U,T,R,N]at F J L;exact⟨v,z,s,r,A,v5,y,B,C,u,g,j,c,m,e,i,f,l,y0,y1,y2,k,rfl,by rw[I];rfl,F,J,L⟩
def wo_ {a : Type} (f:a -> Nat) (l:List a):Nat:=(l.map f).sum
theorem Gy_ {f : Type} [Inhabited f] {H:Type} {enc:TypeId×Value->H} {W:World} {held:Bool} {R:bi_ f} {sz N:Nat} {T E:TypeId} {Q:f -> Prop} {s:f -> Nat} (Y:Tryz.prog.underlying T=some (.slice E)) (P:Tryz.prog.cellsOf E=sz) (M:0<sz)
    (G:∀{fuel:Nat} {cs:List Value} {d:DataW H} {p:List MemPlace},Rows.uptoBulk d<=N->DataW.trod enc Tryz.prog W 0 (λ_=>true) held fuel E cs=some (d,p)->∃x:f,cs.toArray.size=sz/\R W (λg=>g<W.heap.size) x cs.toArray/\Q x/\s x<=Rows.uptoBulk d)
    {fuel:Nat} {v:Value} {d:DataW H} {p:List MemPlace} (hN:Rows.uptoBulk d<=N) (h:DataW.trod enc Tryz.prog W 0 (λ_=>true) held fuel T [v]=some (d,p)) :
    ∃l:List f,SlR sz R W (λg=>g<W.heap.size) l v/\(∀x,x∈l->Q x)/\wo_ s l<Rows.uptoBulk d/\l.length<Rows.uptoBulk d:=by
 rcases Go.Deep.open_slice Y h with⟨k,u⟩ | ⟨a,b,U,m,n,D,Pl,k,_,J,a2,hm,u,y⟩
 ·injection k with k _;subst k;have h1:=bulks.one_le d;exact⟨[],SlR.nil ..,λx c=>(List.not_mem_nil c).elim,by show 0<_;omega,by show 0<_;omega⟩
 ·injection k with k _;subst k;have a1:b<=m:=by rw[hm];split<;>omega
  injection u with u _;subst u;have hb:=bulks.slice_elems ((List.range b).map D) ((List.range (m-b)).map λj=>D (b+j));have a0:=bulks.slice_le ((List.range b).map D) ((List.range (m-b)).map λj=>D (b+j))
  have X:∀i,i<b->Rows.uptoBulk (D i)<=N:=λi hi=>by
   have:=bulks.part_le (List.mem_map.2 ⟨i,List.mem_range.2 hi,rfl⟩:D i∈(List.range b).map D);omega
  have I:∀i,i<b->∃q:f × Array Value,q.2.size=sz/\(∀j,j<sz->W.cell? (a.add (i*sz+j))=q.2[j]?)/\R W (λg=>g<W.heap.size) q.1 q.2/\Q q.1/\s q.1<=Rows.uptoBulk (D i):=λi hi=>by
   obtain⟨A,t,c2⟩:=y i (by omega);rw[P]at t;obtain⟨_,F,e⟩:=World.cells?_some t;obtain⟨x,x1,x2,x3,x4⟩:=G (X i hi) c2;exact⟨(x,A.toArray),x1,λj hj=>by rw[<-zr_,e j hj];simp,x2,x3,x4⟩
  have V:∃q:Nat -> f × Array Value,∀i,i<b->(q i).2.size=sz/\(∀j,j<sz->W.cell? (a.add (i*sz+j))=(q i).2[j]?)/\R W (λg=>g<W.heap.size) (q i).1 (q i).2/\Q (q i).1/\s (q i).1<=Rows.uptoBulk (D i):=by
   classical
   exact⟨λi=>if hi:i<b then Classical.choose (I i hi) else (default,#[]),λi hi=>by simp only[dif_pos hi];exact Classical.choose_spec (I i hi)⟩
  obtain⟨q,B⟩:=V;have o:((List.range b).map λi=>(q i).1).length=b:=by simp
  refine⟨(List.range b).map λi=>(q i).1,⟨some a,U,by rw[o],by rw[o];exact J,rfl,λhn=>⟨a,rfl,?_,λi x c=>?_⟩⟩,?_,?_,?_⟩
  ·obtain⟨A,t,_⟩:=y 0 (by rw[o]at hn;omega);rw[P]at t;obtain⟨_,F,e⟩:=World.cells?_some t;have h0:=e 0 M;rw[List.getElem?_eq_getElem (by omega)]at h0;have:=World.block_lt_of_cell? W _ h0;simpa [Addr.add] using this
  ·rw[List.getElem?_map]at c
   have z:i<b:=by
    rcases Nat.lt_or_ge i b with C | C
    ·exact C
    ·rw[List.getElem?_eq_none (by simpa using C)]at c;cases c
   rw[List.getElem?_range z]at c;injection c with c;subst c;obtain⟨q1,Z,q3,_⟩:=B i z;exact⟨_,q1,Z,q3⟩
  ·intro x c;obtain⟨i,hi,rfl⟩:=List.mem_map.1 c;exact (B i (List.mem_range.1 hi)).2.2.2.1
  ·have:∀L:List Nat,(∀i,i∈L->i<b)->wo_ s (L.map λi=>(q i).1)<=Rows.uptoBulkAll (L.map D):=λL=>by
     induction L with
     | nil=>intro _;simp[wo_]
     | cons x r O=>
      intro S;have h1:=(B x (S x (List.mem_cons_self ..))).2.2.2.2;have h2:=O λi hi=>S i (List.mem_cons_of_mem _ hi);simp only[wo_,List.map_cons,List.sum_cons,Rows.uptoBulkAll]at h2 ⊢;omega
   have:=this (List.range b) λi hi=>List.mem_range.1 hi;omega
  ·rw[o];have hh:((List.range b).map D).length=b:=by simp
   omega
instance:Inhabited h_:=⟨.mk 0 false 0 ⟨#[]⟩ ⟨#[]⟩ []⟩
instance:Inhabited d_:=⟨⟨default,default,default⟩⟩
section
variable {H:Type} {enc:TypeId×Value->H} {W:World} {held:Bool} {fuel:Nat} {d:DataW H} {p:List MemPlace}
theorem hy_ {cs:List Value} (e:Rows.uptoBulk d<=1048576) (h:DataW.trod enc Tryz.prog W 0 (λ_=>true) held fuel 39 cs=some (d,p)) :
    ∃x:h_,OkV x/\∃s,cs.toArray=c_ x s/\VRd W (λg=>g<W.heap.size) x (.agg (c_ x s)):=by
 obtain⟨x,m,c,f,j⟩:=sa_ (N:=1048576) (λe h=>Cr_ 1048576 e h) (by omega) h;obtain⟨A,i,a,_,_⟩:=c.inv;injection a with a
 have hi:-9223372036854775808<=x.num/\x.num<=9223372036854775807:=by
  cases x with
  | mk k b n t y l=>
   simp only[kn_]at f;exact f.1
 exact⟨x,⟨by omega,hi.1,hi.2⟩,_,a,by rw[<-a];exact c⟩
theorem L4_ {cs:List Value} (X:Rows.uptoBulk d<=1048576) (h:DataW.trod enc Tryz.prog W 0 (λ_=>true) held fuel 41 cs=some (d,p)) :
    ∃x:d_,cs.toArray.size=18/\TrR W (λg=>g<W.heap.size) x cs.toArray/\OkT x/\(λ_:d_=>0) x<=Rows.uptoBulk d:=by
 obtain⟨R,V,N,M,Y,v5,S,Z,v8,O,F,I,C,L,D,G,E,J,b,a,c,k,rfl,e,n,s,t⟩:=Ja_ Tryz.underlying41 (by kernel_rfl) rfl rfl rfl (by kernel_rfl) (by kernel_rfl) (by kernel_rfl) h;obtain⟨b,T⟩:=b;obtain⟨a,U⟩:=a;obtain⟨c,P⟩:=c;simp only at e;subst e;have hb:Rows.uptoBulk b+Rows.uptoBulk a+Rows.uptoBulk c<=Rows.uptoBulk (DataW.agg [b,a,c]):=by simp only[Rows.uptoBulk,Rows.uptoBulkAll];omega
 obtain⟨x,r,f,e0,m⟩:=hy_ (by omega) n;obtain⟨y,A,l,q,B⟩:=hy_ (by omega) s;obtain⟨z,u,j,v,o⟩:=hy_ (by omega) t;refine⟨⟨x,y,z⟩,rfl,⟨λi=>if i=0 then f else if i=1 then l else j,?_,λi hi=>?_⟩,⟨r,A,u⟩,Nat.zero_le _⟩
 ·show _=c_ x f++c_ y l++c_ z j;rw[<-e0,<-q,<-v];rfl
 ·rcases (show i=0\/i=1\/i=2 by omega) with rfl | rfl | rfl
  ·exact m
  ·exact B
  ·exact o
theorem yo_ {v:Value} (a:Rows.uptoBulk d<=1048576) (h:DataW.trod enc Tryz.prog W 0 (λ_=>true) held fuel 22 [v]=some (d,p)) :
    ∃l:List d_,SlR 18 TrR W (λg=>g<W.heap.size) l v/\(∀x,x∈l->OkT x)/\wo_ (λ_=>0) l<Rows.uptoBulk d/\l.length<Rows.uptoBulk d:=
 Gy_ (Q:=OkT) Tryz.underlying22 (by kernel_rfl) (by decide) (λa h=>L4_ a h) a h
end
theorem Cs_ {H:Type} {enc:TypeId×Value->H} {W:World} {g:Nat} {v:Value} {d:DataW H} {p:List MemPlace} (s:Rows.uptoBulk d<=1048576) (y:Value.okWide Tryz.prog W .any g 66 v)
    (h:DataW.Trod enc Tryz.prog W 0 (λ_=>true) true 66 v d p) :
    ∃(f i:Option Addr) (nL k nV j:Nat) (L:List d_),v = .agg #[.slice f nL k,.slice i nV j]/\(∀t,t∈L->OkT t)/\SRd 18 TrR W (λb=>b<W.heap.size) L f nL/\nL<=100000000:=by
 obtain⟨E,u,o,l,m,rfl,rfl,rfl,h0,h1⟩:=open_agg2 Tryz.underlying66 (by kernel_rfl) (by kernel_rfl) y h;obtain⟨o,I⟩:=o;obtain⟨l,J⟩:=l;simp only[Rows.uptoBulk,Rows.uptoBulkAll]at s;obtain⟨L,⟨f,k,rfl,_,r⟩,x,_,G⟩:=yo_ (by omega) h0
 have q:∃A n c,u = .slice A n c:=by
  rcases Go.Deep.open_slice (by kernel_rfl:Tryz.prog.underlying 37=some (.slice (Tryz.prog.elem 37))) h1 with⟨e,_⟩ | ⟨a,B,C,m,n,D,F,e,_⟩
  ·injection e with e _;exact⟨none,0,0,e⟩
  ·injection e with e _;exact⟨_,_,_,e⟩
 obtain⟨i,z,j,rfl⟩:=q;exact⟨f,i,L.length,k,z,j,L,rfl,x,r,by omega⟩
end Go.Proofs.YtefhfadjajcmkaaGreatDoor
