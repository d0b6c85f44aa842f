/- slices.SortFunc on a row of one's own: the same elements, sorted. -/
import Derived.Test.YtefhfadjajcmkaaGreatDoorO2
import Derived.Shelf.SlSortCmp.NoneTotal
set_option linter.unusedVariables false
set_option linter.unusedSimpArgs false
namespace Go.Proofs.YtefhfadjajcmkaaGreatDoor
open Nat renaming lt_or_ge→VZ
open Go.Ending renaming returned→YQ
open List renaming getElem?_eq_getElem→XQ,getElem?_eq_none→ZK,eq_nil_of_length_eq_zero→UK
open Go renaming World→QV,Value→XJ
open Go.IntKind renaming i64→QU
open Go.Value renaming int→QY,tuple→ZJ
open Option renaming some→QJ,none→QK
open Go.Lib renaming cell_of_heap→QX
open Go Go.RowKit Go.Shelf Go.Lib Go.Sort Go.Proofs
open Go.Lib (cell_of_heap)
theorem e0_ {I:Type} [Inhabited I] {enc:I->List XJ} {k:Nat} {w:QV} {g n:Nat} {d:Array I} {os:Array Obj}:Turn (λb=>b=g) w (sortWorldK enc k w g 0 n d os):=by refine⟨rfl,rfl,rfl,by unfold sortWorldK;rw[Go.Sort.size_grow,size_putRowK];show w.heap.size<=w.heap.size+_;omega,λi hi a=>?_⟩;unfold sortWorldK;rw[Go.Sort.heap_grow_old _ _ (by rw[size_putRowK];exact hi)];unfold putRowK;have:g≠i:=λe=>a e.symm;simp[putRow,mapBlock,Sort.ahead,Array.getElem?_modify,this]
section
variable {P:Program} {ρ : Ren} {α I:Type} [Inhabited I] {R:bu_ α} {w:QV} {F:Nat->Prop} {l:List α} {s:XJ} {sz:Nat}
set_option maxRecDepth 100000 in
theorem re_ (L:SlLaysF0.n6 P ρ) (hR:R.Good) (ad:0<sz) (aE:∀w,(isAgg (ρ.t 24)).run P w = .ok true w) (zE:∀w,(Go.sizeOf (ρ.t 24)).run P w = .ok sz w) (enc:I->List XJ) (val:I -> α)
    (X:∀x,(enc x).length=sz) (h1:∀x,∀v∈enc x,v.oneCell'=true) (a9:∀{w:QV} {F:Nat->Prop} {x:α} {c:Array XJ},R w F x c->∃r,enc r=c.toList/\val r=x)
    (cv:α -> α -> Int) (hO:SWO (ltOf λx y:I=>cv (val x) (val y))) (g:Nat) (eg:∀args w,(callFunc g args).run P w = .ok (.enter g args) w)
    (a6:∀(x y:I) (W:QV),Calls P g #[.agg (enc x).toArray,.agg (enc y).toArray] W λe w'=>e = YQ (QY QU (cv (val x) (val y)))/\∃q af,w'=grow (W.drewN q) af)
    (h:x_ (ρ.t 24) sz R w F l s) (ai:l.length<=100000000) (hF:∀b,F b->b<w.heap.size) :
    Calls P (ρ.f 6) #[s,.func (.func g) #[] #[]] w λe w'=>e = YQ (ZJ #[])/\∃l':List α,l'.Perm l/\l'.Pairwise (λa b=>¬cv b a<0)/\SlR sz R w' F l' s/\Turn (λb=>s.ownBlock=QJ b) w w':=by
 obtain⟨cs,Z,h6,a3,hr⟩:=h;rcases Z.2 with⟨hs,h0⟩ | ⟨b,a1,aj,hs,_,hb,a2,ah,ak,ag⟩
 ·subst hs;have aa:l=[]:=UK h0;subst aa;refine (AnyF.slices_SortFunc_none L QK 0 _ w).mono λe w' ⟨T,N⟩=>⟨T,[],List.Perm.refl _,List.Pairwise.nil,?_,?_⟩
  ·rw[N];exact SlR.nil ..
  ·rw[N];exact Turn.refl _ _
 ·subst hs;have O:=b_ hb
  have U:∀i,∃r:I,∀x,l[i]?=QJ x->enc r=(cs i).toList/\val r=x:=λi=>by
   cases C:l[i]? with
   | none=>exact⟨default,λx h=>by cases h⟩
   | some x=>
    obtain⟨r,D,E⟩:=a9 (hr i x C);exact⟨r,λy hy=>by injection hy with hy;subst hy;exact⟨D,E⟩⟩
  obtain⟨r,hi⟩:∃r:Nat->I,∀i x,l[i]?=QJ x->enc (r i)=(cs i).toList/\val (r i)=x:=⟨λi=>(U i).choose,λi=>(U i).choose_spec⟩;clear U;obtain⟨d,hd⟩:∃d:Array I,d=((List.range l.length).map r).toArray:=⟨_,rfl⟩;have k:d.size=l.length:=by rw[hd];simp
  have a7:∀i,i<l.length->d[i]! = r i:=λi hi=>by rw[getElem!_pos _ i (by rw[k];exact hi)];simp[hd]
  have hH:HoldsK enc sz w b 0 d:=by
   intro j J;rw[size_flatK,k]at J;have u:j / sz<l.length:=Nat.div_lt_of_lt_mul (by rw[Nat.mul_comm];exact J);have Y:j % sz<sz:=Nat.mod_lt _ ad;have T:j / sz*sz+j % sz=j:=by rw[Nat.mul_comm];exact Nat.div_add_mod j sz
   refine⟨?_,by simp[World.frozen?,hb]⟩;rw[get_flatK _ _ _ _ (by rw[k];exact J),a7 _ u,(hi _ _ (XQ u)).1];have h2:=Z.cellAt j J;have h3:=cr_ h6 u Y;rw[T]at h3;rw[h3]at h2;rw[show (0+j)=j by omega,h2];rw[getElem!_pos (cs (j / sz)).toList (j % sz) (by rw[Array.length_toList,h6 _ u];exact Y)];simp[h6 _ u,Y]
  have a0:d.size<4611686018427387904:=by rw[k];omega
  have S:=AnyQ.slices_SortFunc L sz aE zE enc X h1 (λx y=>cv (val x) (val y)) hO g #[] b 0 a1 d w eg (λm os dk _ x y=>by simpa using a6 x y _) hH O a0;rw[k]at S;refine S.mono λe w' ⟨T,o,n,os,z,ac,N⟩=>⟨T,o.toList.map val,?_,?_,?_,?_⟩
  ·have B:=z.2.2;have D:(o.extract 0 l.length).toList=o.toList:=by rw[show l.length=o.size by rw[z.1,k]];simp
   have E:(d.extract 0 l.length).toList=d.toList:=by rw[show l.length=d.size by rw[k]];simp
   rw[D,E]at B;refine (B.map val).trans (List.Perm.of_eq ?_);rw[hd];apply List.ext_getElem?;intro i;simp only[List.map_map,List.getElem?_map];rcases VZ i l.length with h | h
   ·rw[List.getElem?_range h,XQ h];simp[(hi i _ (XQ h)).2]
   ·rw[ZK (by simpa using h),ZK h];rfl
  ·rw[List.pairwise_iff_getElem];intro i j u V a8;simp only[List.length_map,Array.length_toList]at u V;have h2:=ac i j (Nat.zero_le _) a8 (by rw[<-k,<-z.1];exact V);rw[getElem!_pos _ i u,getElem!_pos _ j V]at h2;unfold ltOf at h2;simpa using h2
  ·have G:o.size=l.length:=by rw[z.1,k]
   have a4:HoldsK enc sz w' b 0 o:=by rw[N];exact holdsK_sortWorldK enc sz w b 0 n d o os O hH z.1
   have ht:Turn (λi=>i=b) w w':=by rw[N];exact e0_
   refine⟨QJ ⟨b,0,QK⟩,a1,by simp[G],by simp[G];exact a2,by simp,λ_=>⟨_,rfl,a3 b rfl,λi x C=>?_⟩⟩;have A:=c3_ C;rw[List.length_map,Array.length_toList]at A;rw[List.getElem?_map]at C;have ae:x=val o[i]!:=by rw[XQ (by simpa using A)]at C;injection C with C;rw[getElem!_pos _ i A,<-C];rfl
   refine⟨(enc o[i]!).toArray,by simp[X],λj J=>?_,?_⟩
   ·have h2:=HoldsK.cells a4 X A j ((enc o[i]!)[j]'(by rw[X];exact J)) (XQ _);rw[Addr.add_lit]at h2 ⊢;rw[show 0+(i*sz+j)=0+i*sz+j by omega,h2];simp[X,J]
   ·have M:o[i]! ∈ d.toList:=by
      have B:=z.2.2;have D:(o.extract 0 l.length).toList=o.toList:=by rw[<-G];simp
      have E:(d.extract 0 l.length).toList=d.toList:=by rw[<-k];simp
      rw[D,E]at B;refine B.mem_iff.1 ?_;rw[getElem!_pos _ i A];simp
    rw[hd]at M;simp only[List.mem_map,List.mem_range]at M;obtain⟨q,hq,ab⟩:=M;obtain⟨D,E⟩:=hi q _ (XQ hq);have a5:=hr q _ (XQ hq);rw[ae,<-ab,D,E];refine hR.mono (hR.keep a5 (w':=w') λp z=>ht.cell (hF _ z.1) λe=>z.2 (by rw[e];rfl)) λg hg=>hg.1
  ·rw[N];exact e0_.mono λi _ hi=>by rw[hi];rfl
end
end Go.Proofs.YtefhfadjajcmkaaGreatDoor
