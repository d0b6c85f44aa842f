/- slices.SortFunc on a row of one's own: the same elements, sorted. -/
import Derived.Test.YtefhfadjajcmkaaGreatDoorH4
import Derived.Shelf.SlSortCmp.NoneTotal
set_option linter.unusedVariables false
set_option linter.unusedSimpArgs false
namespace Go.Proofs.YtefhfadjajcmkaaGreatDoor
open Go Go.RowKit Go.Shelf Go.Lib Go.Sort Go.Proofs
open Go.Lib (cell_of_heap)
theorem en_ {I:Type} [Inhabited I] {enc:I->List Value} {k:Nat} {w:World} {g n:Nat} {d:Array I} {os:Array Obj}:Turn (λb=>b=g) w (sortWorldK enc k w g 0 n d os):=by refine⟨rfl,rfl,rfl,by unfold sortWorldK;rw[Go.Sort.size_grow,size_putRowK];show w.heap.size<=w.heap.size+_;omega,λi hi a=>?_⟩;unfold sortWorldK;rw[Go.Sort.heap_grow_old _ _ (by rw[size_putRowK];exact hi)];unfold putRowK;have:g≠i:=λe=>a e.symm;simp[putRow,mapBlock,Sort.ahead,Array.getElem?_modify,this]
section
variable {P:Program} {ρ : Ren} {α I:Type} [Inhabited I] {R:bi_ α} {w:World} {F:Nat->Prop} {l:List α} {s:Value} {sz:Nat}
set_option maxRecDepth 100000 in
theorem o8_ (L:SlLaysF0.n6 P ρ) (hR:R.Good) (a6:0<sz) (aE:∀w,(isAgg (ρ.t 24)).run P w = .ok true w) (zE:∀w,(Go.sizeOf (ρ.t 24)).run P w = .ok sz w) (enc:I->List Value) (val:I -> α)
    (X:∀x,(enc x).length=sz) (h1:∀x,∀v∈enc x,v.oneCell'=true) (a9:∀{w:World} {F:Nat->Prop} {x:α} {c:Array Value},R w F x c->∃o,enc o=c.toList/\val o=x)
    (cv:α -> α -> Int) (hO:SWO (ltOf λx y:I=>cv (val x) (val y))) (g:Nat) (eg:∀args w,(callFunc g args).run P w = .ok (.enter g args) w)
    (ad:∀(x y:I) (W:World),Calls P g #[.agg (enc x).toArray,.agg (enc y).toArray] W λe w'=>e = .returned (.int .i64 (cv (val x) (val y)))/\∃q af,w'=grow (W.drewN q) af)
    (h:x_ (ρ.t 24) sz R w F l s) (ai:l.length<=100000000) (hF:∀b,F b->b<w.heap.size) :
    Calls P (ρ.f 6) #[s,.func (.func g) #[] #[]] w λe w'=>e = .returned (.tuple #[])/\∃l':List α,l'.Perm l/\l'.Pairwise (λa b=>¬cv b a<0)/\SlR sz R w' F l' s/\Turn (λb=>s.ownBlock=some b) w w':=by
 obtain⟨cs,V,h6,ae,hr⟩:=h;rcases V.2 with⟨hs,h0⟩ | ⟨b,a2,ak,hs,_,hb,a3,aj,am,ah⟩
 ·subst hs;have a4:l=[]:=List.eq_nil_of_length_eq_zero h0;subst a4;refine (AnyF.slices_SortFunc_none L none 0 _ w).mono λe w' ⟨U,O⟩=>⟨U,[],List.Perm.refl _,List.Pairwise.nil,?_,?_⟩
  ·rw[O];exact SlR.nil ..
  ·rw[O];exact Turn.refl _ _
 ·subst hs;have S:=b_ hb
  have a0:∀i,∃o:I,∀x,l[i]?=some x->enc o=(cs i).toList/\val o=x:=λi=>by
   cases D:l[i]? with
   | none=>exact⟨default,λx h=>by cases h⟩
   | some x=>
    obtain⟨o,G,M⟩:=a9 (hr i x D);exact⟨o,λy hy=>by injection hy with hy;subst hy;exact⟨G,M⟩⟩
  obtain⟨o,hi⟩:∃o:Nat->I,∀i x,l[i]?=some x->enc (o i)=(cs i).toList/\val (o i)=x:=⟨λi=>(a0 i).choose,λi=>(a0 i).choose_spec⟩;clear a0;obtain⟨d,hd⟩:∃d:Array I,d=((List.range l.length).map o).toArray:=⟨_,rfl⟩;have k:d.size=l.length:=by rw[hd];simp
  have a8:∀i,i<l.length->d[i]! = o i:=λi hi=>by rw[getElem!_pos _ i (by rw[k];exact hi)];simp[hd]
  have hH:HoldsK enc sz w b 0 d:=by
   intro j E;rw[size_flatK,k]at E;have u:j / sz<l.length:=Nat.div_lt_of_lt_mul (by rw[Nat.mul_comm];exact E);have Z:j % sz<sz:=Nat.mod_lt _ a6;have U:j / sz*sz+j % sz=j:=by rw[Nat.mul_comm];exact Nat.div_add_mod j sz
   refine⟨?_,by simp[World.frozen?,hb]⟩;rw[get_flatK _ _ _ _ (by rw[k];exact E),a8 _ u,(hi _ _ (List.getElem?_eq_getElem u)).1];have A:=V.cellAt j E;have h3:=az_ h6 u Z;rw[U]at h3;rw[h3]at A;rw[show (0+j)=j by omega,A];rw[getElem!_pos (cs (j / sz)).toList (j % sz) (by rw[Array.length_toList,h6 _ u];exact Z)];simp[h6 _ u,Z]
  have a1:d.size<4611686018427387904:=by rw[k];omega
  have T:=AnyQ.slices_SortFunc L sz aE zE enc X h1 (λx y=>cv (val x) (val y)) hO g #[] b 0 a2 d w eg (λm os dk _ x y=>by simpa using ad x y _) hH S a1;rw[k]at T;refine T.mono λe w' ⟨U,r,n,os,z,a7,O⟩=>⟨U,r.toList.map val,?_,?_,?_,?_⟩
  ·have C:=z.2.2;have G:(r.extract 0 l.length).toList=r.toList:=by rw[show l.length=r.size by rw[z.1,k]];simp
   have M:(d.extract 0 l.length).toList=d.toList:=by rw[show l.length=d.size by rw[k]];simp
   rw[G,M]at C;refine (C.map val).trans (List.Perm.of_eq ?_);rw[hd];apply List.ext_getElem?;intro i;simp only[List.map_map,List.getElem?_map];rcases Nat.lt_or_ge i l.length with h | h
   ·rw[List.getElem?_range h,List.getElem?_eq_getElem h];simp[(hi i _ (List.getElem?_eq_getElem h)).2]
   ·rw[List.getElem?_eq_none (by simpa using h),List.getElem?_eq_none h];rfl
  ·rw[List.pairwise_iff_getElem];intro i j u Y a5;simp only[List.length_map,Array.length_toList]at u Y;have A:=a7 i j (Nat.zero_le _) a5 (by rw[<-k,<-z.1];exact Y);rw[getElem!_pos _ i u,getElem!_pos _ j Y]at A;unfold ltOf at A;simpa using A
  ·have N:r.size=l.length:=by rw[z.1,k]
   have ag:HoldsK enc sz w' b 0 r:=by rw[O];exact holdsK_sortWorldK enc sz w b 0 n d r os S hH z.1
   have ht:Turn (λi=>i=b) w w':=by rw[O];exact en_
   refine⟨some ⟨b,0,none⟩,a2,by simp[N],by simp[N];exact a3,by simp,λ_=>⟨_,rfl,ae b rfl,λi x D=>?_⟩⟩;have B:=b8_ D;rw[List.length_map,Array.length_toList]at B;rw[List.getElem?_map]at D;have ab:x=val r[i]!:=by rw[List.getElem?_eq_getElem (by simpa using B)]at D;injection D with D;rw[getElem!_pos _ i B,<-D];rfl
   refine⟨(enc r[i]!).toArray,by simp[X],λj E=>?_,?_⟩
   ·have A:=HoldsK.cells ag X B j ((enc r[i]!)[j]'(by rw[X];exact E)) (List.getElem?_eq_getElem _);rw[Addr.add_lit]at A ⊢;rw[show 0+(i*sz+j)=0+i*sz+j by omega,A];simp[X,E]
   ·have J:r[i]! ∈ d.toList:=by
      have C:=z.2.2;have G:(r.extract 0 l.length).toList=r.toList:=by rw[<-N];simp
      have M:(d.extract 0 l.length).toList=d.toList:=by rw[<-k];simp
      rw[G,M]at C;refine C.mem_iff.1 ?_;rw[getElem!_pos _ i B];simp
    rw[hd]at J;simp only[List.mem_map,List.mem_range]at J;obtain⟨q,hq,aa⟩:=J;obtain⟨G,M⟩:=hi q _ (List.getElem?_eq_getElem hq);have ac:=hr q _ (List.getElem?_eq_getElem hq);rw[ab,<-aa,G,M];refine hR.mono (hR.keep ac (w':=w') λp z=>ht.cell (hF _ z.1) λe=>z.2 (by rw[e];rfl)) λg hg=>hg.1
  ·rw[O];exact en_.mono λi _ hi=>by rw[hi];rfl
end
end Go.Proofs.YtefhfadjajcmkaaGreatDoor
