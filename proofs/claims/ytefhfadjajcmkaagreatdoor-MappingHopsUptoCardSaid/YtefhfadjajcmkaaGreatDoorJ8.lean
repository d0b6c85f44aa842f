/- slices.SortFunc on a row of one's own: the same elements, sorted. -/
import Derived.Test.YtefhfadjajcmkaaGreatDoorJ4
import Derived.Shelf.SlSortCmp.NoneTotal
set_option linter.unusedVariables false
set_option linter.unusedSimpArgs false
namespace Go.Proofs.YtefhfadjajcmkaaGreatDoor
open Go Go.RowKit Go.Shelf Go.Lib Go.Sort Go.Proofs
open Go.Lib (cell_of_heap)
theorem d5_ {I:Type} [Inhabited I] {enc:I->List Value} {k:Nat} {w:World} {g n:Nat} {d:Array I} {os:Array Obj}:Turn (λb=>b=g) w (sortWorldK enc k w g 0 n d os):=by refine⟨rfl,rfl,rfl,by unfold sortWorldK;rw[Go.Sort.size_grow,size_putRowK];show w.heap.size<=w.heap.size+_;omega,λi hi a=>?_⟩;unfold sortWorldK;rw[Go.Sort.heap_grow_old _ _ (by rw[size_putRowK];exact hi)];unfold putRowK;have:g≠i:=λe=>a e.symm;simp[putRow,mapBlock,Sort.ahead,Array.getElem?_modify,this]
section
variable {P:Program} {ρ : Ren} {α I:Type} [Inhabited I] {R:bj_ α} {w:World} {F:Nat->Prop} {l:List α} {s:Value} {sz:Nat}
set_option maxRecDepth 100000 in
theorem o1_ (L:SlLaysF0.n6 P ρ) (hR:R.Good) (ac:0<sz) (aE:∀w,(isAgg (ρ.t 24)).run P w = .ok true w) (zE:∀w,(Go.sizeOf (ρ.t 24)).run P w = .ok sz w) (enc:I->List Value) (val:I -> α)
    (V:∀x,(enc x).length=sz) (h1:∀x,∀v∈enc x,v.oneCell'=true) (a5:∀{w:World} {F:Nat->Prop} {x:α} {c:Array Value},R w F x c->∃o,enc o=c.toList/\val o=x)
    (cv:α -> α -> Int) (hO:SWO (ltOf λx y:I=>cv (val x) (val y))) (g:Nat) (eg:∀args w,(callFunc g args).run P w = .ok (.enter g args) w)
    (a6:∀(x y:I) (W:World),Calls P g #[.agg (enc x).toArray,.agg (enc y).toArray] W λe w'=>e = .returned (.int .i64 (cv (val x) (val y)))/\∃q ab,w'=grow (W.drewN q) ab)
    (h:B_ (ρ.t 24) sz R w F l s) (ah:l.length<=100000000) (hF:∀b,F b->b<w.heap.size) :
    Calls P (ρ.f 6) #[s,.func (.func g) #[] #[]] w λe w'=>e = .returned (.tuple #[])/\∃l':List α,l'.Perm l/\l'.Pairwise (λa b=>¬cv b a<0)/\SlR sz R w' F l' s/\Turn (λb=>s.ownBlock=some b) w w':=by
 obtain⟨cs,S,h6,ae,hr⟩:=h;rcases S.2 with⟨hs,h0⟩ | ⟨b,a1,ak,hs,_,hb,a2,ai,aj,ag⟩
 ·subst hs;have ad:l=[]:=List.eq_nil_of_length_eq_zero h0;subst ad;refine (AnyF.slices_SortFunc_none L none 0 _ w).mono λe w' ⟨O,N⟩=>⟨O,[],List.Perm.refl _,List.Pairwise.nil,?_,?_⟩
  ·rw[N];exact SlR.nil ..
  ·rw[N];exact Turn.refl _ _
 ·subst hs;have Y:=b_ hb
  have T:∀i,∃o:I,∀x,l[i]?=some x->enc o=(cs i).toList/\val o=x:=λi=>by
   cases B:l[i]? with
   | none=>exact⟨default,λx h=>by cases h⟩
   | some x=>
    obtain⟨o,M,G⟩:=a5 (hr i x B);exact⟨o,λy hy=>by injection hy with hy;subst hy;exact⟨M,G⟩⟩
  obtain⟨o,hi⟩:∃o:Nat->I,∀i x,l[i]?=some x->enc (o i)=(cs i).toList/\val (o i)=x:=⟨λi=>(T i).choose,λi=>(T i).choose_spec⟩;clear T;obtain⟨d,hd⟩:∃d:Array I,d=((List.range l.length).map o).toArray:=⟨_,rfl⟩;have k:d.size=l.length:=by rw[hd];simp
  have a4:∀i,i<l.length->d[i]! = o i:=λi hi=>by rw[getElem!_pos _ i (by rw[k];exact hi)];simp[hd]
  have hH:HoldsK enc sz w b 0 d:=by
   intro j E;rw[size_flatK,k]at E;have u:j / sz<l.length:=Nat.div_lt_of_lt_mul (by rw[Nat.mul_comm];exact E);have X:j % sz<sz:=Nat.mod_lt _ ac;have O:j / sz*sz+j % sz=j:=by rw[Nat.mul_comm];exact Nat.div_add_mod j sz
   refine⟨?_,by simp[World.frozen?,hb]⟩;rw[get_flatK _ _ _ _ (by rw[k];exact E),a4 _ u,(hi _ _ (List.getElem?_eq_getElem u)).1];have h2:=S.cellAt j E;have h3:=bt_ h6 u X;rw[O]at h3;rw[h3]at h2;rw[show (0+j)=j by omega,h2];rw[getElem!_pos (cs (j / sz)).toList (j % sz) (by rw[Array.length_toList,h6 _ u];exact X)];simp[h6 _ u,X]
  have a0:d.size<4611686018427387904:=by rw[k];omega
  have Z:=AnyQ.slices_SortFunc L sz aE zE enc V h1 (λx y=>cv (val x) (val y)) hO g #[] b 0 a1 d w eg (λm os dk _ x y=>by simpa using a6 x y _) hH Y a0;rw[k]at Z;refine Z.mono λe w' ⟨O,r,n,os,z,a8,N⟩=>⟨O,r.toList.map val,?_,?_,?_,?_⟩
  ·have C:=z.2.2;have M:(r.extract 0 l.length).toList=r.toList:=by rw[show l.length=r.size by rw[z.1,k]];simp
   have G:(d.extract 0 l.length).toList=d.toList:=by rw[show l.length=d.size by rw[k]];simp
   rw[M,G]at C;refine (C.map val).trans (List.Perm.of_eq ?_);rw[hd];apply List.ext_getElem?;intro i;simp only[List.map_map,List.getElem?_map];rcases Nat.lt_or_ge i l.length with h | h
   ·rw[List.getElem?_range h,List.getElem?_eq_getElem h];simp[(hi i _ (List.getElem?_eq_getElem h)).2]
   ·rw[List.getElem?_eq_none (by simpa using h),List.getElem?_eq_none h];rfl
  ·rw[List.pairwise_iff_getElem];intro i j u U aa;simp only[List.length_map,Array.length_toList]at u U;have h2:=a8 i j (Nat.zero_le _) aa (by rw[<-k,<-z.1];exact U);rw[getElem!_pos _ i u,getElem!_pos _ j U]at h2;unfold ltOf at h2;simpa using h2
  ·have J:r.size=l.length:=by rw[z.1,k]
   have a7:HoldsK enc sz w' b 0 r:=by rw[N];exact holdsK_sortWorldK enc sz w b 0 n d r os Y hH z.1
   have ht:Turn (λi=>i=b) w w':=by rw[N];exact d5_
   refine⟨some ⟨b,0,none⟩,a1,by simp[J],by simp[J];exact a2,by simp,λ_=>⟨_,rfl,ae b rfl,λi x B=>?_⟩⟩;have A:=by_ B;rw[List.length_map,Array.length_toList]at A;rw[List.getElem?_map]at B;have af:x=val r[i]!:=by rw[List.getElem?_eq_getElem (by simpa using A)]at B;injection B with B;rw[getElem!_pos _ i A,<-B];rfl
   refine⟨(enc r[i]!).toArray,by simp[V],λj E=>?_,?_⟩
   ·have h2:=HoldsK.cells a7 V A j ((enc r[i]!)[j]'(by rw[V];exact E)) (List.getElem?_eq_getElem _);rw[Addr.add_lit]at h2 ⊢;rw[show 0+(i*sz+j)=0+i*sz+j by omega,h2];simp[V,E]
   ·have D:r[i]! ∈ d.toList:=by
      have C:=z.2.2;have M:(r.extract 0 l.length).toList=r.toList:=by rw[<-J];simp
      have G:(d.extract 0 l.length).toList=d.toList:=by rw[<-k];simp
      rw[M,G]at C;refine C.mem_iff.1 ?_;rw[getElem!_pos _ i A];simp
    rw[hd]at D;simp only[List.mem_map,List.mem_range]at D;obtain⟨q,hq,a3⟩:=D;obtain⟨M,G⟩:=hi q _ (List.getElem?_eq_getElem hq);have a9:=hr q _ (List.getElem?_eq_getElem hq);rw[af,<-a3,M,G];refine hR.mono (hR.keep a9 (w':=w') λp z=>ht.cell (hF _ z.1) λe=>z.2 (by rw[e];rfl)) λg hg=>hg.1
  ·rw[N];exact d5_.mono λi _ hi=>by rw[hi];rfl
end
end Go.Proofs.YtefhfadjajcmkaaGreatDoor
