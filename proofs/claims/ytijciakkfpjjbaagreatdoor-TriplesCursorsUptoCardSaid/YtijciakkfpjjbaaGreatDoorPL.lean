/- The reference's Up, Open, Next, Seek, Key: printed by gen_YP.py. -/
import Derived.Test.YtijciakkfpjjbaaGreatDoorPK
set_option linter.unusedSimpArgs false
namespace Go.Proofs.YtijciakkfpjjbaaGreatDoor
open Go Go.RowKit Go.Maps
open Go.Lib (hid cell_of_heap)
theorem ownsRow_cells {w:World} {E sz g n cap k:Nat} {cs:Nat→Array Value} {c:Array Value} (h:w.ownsRow 0 E sz (.slice (some ⟨g,0,none⟩) n cap) n (flatC cs n)) (h6:∀i,i<n→(cs i).size=sz) (hk:k<n) (hc:c.size=sz) :
    (w.setCells g (k*sz) c.toList).ownsRow 0 E sz (.slice (some ⟨g,0,none⟩) n cap) n (flatC (λi=>if i=k then c else cs i) n):=by
 have h6':∀i,i<n→((λi=>if i=k then c else cs i) i).size=sz:=λi hi=>by
  dsimp only
  split
  ·exact hc
  ·exact h6 i hi
 rcases h.2 with⟨h0,_⟩ | ⟨g',cap',cur,h0,hb,hg,hnc,hcm,hcs,htake⟩
 ·simp at h0
 ·simp only[Value.slice.injEq,Option.some.injEq,Addr.mk.injEq,and_true,true_and]at h0
  obtain⟨rfl,rfl⟩:=h0
  obtain⟨cur',h1,h2,h3⟩:=cells_heap c.toList (k*sz) hg
  refine⟨by rw[flatC_length h6'],.inr ⟨g,cap,cur',rfl,hb,h1,hnc,hcm,by rw[h2];exact hcs,?_⟩⟩
  have hfull:n*sz≤cur.size:=Nat.le_trans (Nat.mul_le_mul_right sz hnc) (by rw[hcs];exact Nat.le_refl _)
  refine List.ext_getElem? λj=>?_
  by_cases hj:j<n*sz
  ·rcases Nat.eq_zero_or_pos sz with z0 | z0
   ·subst z0
    omega
   ·have hi:j / sz<n:=(Nat.div_lt_iff_lt_mul z0).2 hj
    have hm:j % sz<sz:=Nat.mod_lt _ z0
    have e:j=(j / sz)*sz+j % sz:=by rw[Nat.mul_comm];exact (Nat.div_add_mod j sz).symm
    have hold:(cur.toList.take (n*sz))[j]?=(flatC cs n)[j]?:=by rw[htake]
    rw[List.getElem?_take_of_lt hj,Array.getElem?_toList]at hold
    rw[List.getElem?_take_of_lt hj,Array.getElem?_toList,h3 j,Array.length_toList,hc]
    obtain⟨a,ha⟩:∃a,a=j / sz:=⟨_,rfl⟩
    obtain⟨b,hb2⟩:∃b,b=j % sz:=⟨_,rfl⟩
    rw[←ha,←hb2]at e
    rw[←ha]at hi
    rw[←hb2]at hm
    clear ha hb2
    subst e
    rw[flatC_at h6' hi hm]
    by_cases hak:a=k
    ·subst hak
     rw[if_pos ⟨by omega,by omega,by omega⟩,if_pos rfl,Nat.add_sub_cancel_left,Array.getElem?_toList]
    ·rw[if_neg hak,if_neg,hold,flatC_at h6 hi hm]
     rintro⟨q1,q2,_⟩
     rcases Nat.lt_or_gt_of_ne hak with hlt | hlt
     ·have:=Nat.mul_le_mul_right sz (show a+1≤k from hlt)
      rw[Nat.succ_mul]at this
      omega
     ·have:=Nat.mul_le_mul_right sz (show k+1≤a from hlt)
      rw[Nat.succ_mul]at this
      omega
  ·rw[List.getElem?_eq_none (by rw[List.length_take,Array.length_toList];omega),List.getElem?_eq_none (by rw[flatC_length h6'];omega)]
section
variable {α : Type} {E:TypeId} {sz:Nat} {R:α → Array Value→Prop} {w w':World} {l:List α} {g n cap:Nat}
theorem all_oneCell_of {c:Array Value} (h:∀u∈c.toList,u.oneCell'=true):c.all (·.oneCell')=true:=by
 rw[←Array.toArray_toList (xs:=c)]
 exact all_oneCell_toArray h
theorem POwn.set (hP:PlainR sz R) (h:POwn E sz R w l (.slice (some ⟨g,0,none⟩) n cap)) (hn:l.length=n) {k:Nat} (hk:k<n) {x:α} {c:Array Value} (hx:R x c) :
    POwn E sz R (w.setCells g (k*sz) c.toList) (l.set k x) (.slice (some ⟨g,0,none⟩) n cap):=by
 obtain⟨cs,hrow,hr⟩:=h
 subst hn
 have h6:∀i,i<l.length→(cs i).size=sz:=λi hi=>hP.size (hr i _ (List.getElem?_eq_getElem hi))
 refine⟨λi=>if i=k then c else cs i,?_,λi y hy=>?_⟩
 ·rw[List.length_set]
  exact ownsRow_cells hrow h6 hk (hP.size hx)
 ·dsimp only
  rw[List.getElem?_set]at hy
  by_cases e:k=i
  ·subst e
   rw[if_pos rfl,if_pos hk]at hy
   injection hy with hy
   subst hy
   rw[if_pos rfl]
   exact hx
  ·rw[if_neg e]at hy
   rw[if_neg (λh=>e h.symm)]
   exact hr i y hy
theorem POwn.there (h:POwn E sz R w l (.slice (some ⟨g,0,none⟩) n cap)) (hn:l.length=n) {k:Nat} (hk:k<n):w.there g (k*sz) sz:=by
 obtain⟨cs,hrow,_⟩:=h
 subst hn
 rcases hrow.2 with⟨h0,_⟩ | ⟨g',cap',cur,h0,hb,hg,hnc,hcm,hcs,htake⟩
 ·simp at h0
 ·simp only[Value.slice.injEq,Option.some.injEq,Addr.mk.injEq,and_true,true_and]at h0
  obtain⟨rfl,rfl⟩:=h0
  refine λj hj=>⟨?_,frozen_of_row _ _ _ _ _ hg⟩
  have h1:(k+1)*sz≤cap*sz:=Nat.mul_le_mul_right sz (by omega)
  rw[Nat.succ_mul]at h1
  rw[cell_of_row w g (k*sz+j) cur E _ hg,Array.getElem?_eq_getElem (by rw[hcs];omega)]
  rfl
theorem POwn.cut (hP:PlainR sz R) (h:POwn E sz R w l (.slice (some ⟨g,0,none⟩) n cap)) (hn:l.length=n) {k:Nat} (hk:k≤n):POwn E sz R w (l.take k) (.slice (some ⟨g,0,none⟩) k cap):=by
 obtain⟨cs,hrow,hr⟩:=h
 subst hn
 have hl:(l.take k).length=k:=by rw[List.length_take];omega
 refine⟨cs,?_,λi x hx=>?_⟩
 ·rw[hl]
  rcases hrow.2 with⟨h0,_⟩ | ⟨g',cap',cur,h0,hb,hg,hnc,hcm,hcs,htake⟩
  ·simp at h0
  ·simp only[Value.slice.injEq,Option.some.injEq,Addr.mk.injEq,and_true,true_and]at h0
   obtain⟨rfl,rfl⟩:=h0
   have hlen:=hrow.1
   have hpre:∀m,m≤l.length→flatC cs m=(flatC cs l.length).take (flatC cs m).length:=λm hm=>by
    have e:flatC cs l.length=flatC cs m++flatC (λi=>cs (i+m)) (l.length-m):=by
     rw[flatC_app,Nat.add_sub_cancel' hm]
     refine flatC_congr λi hi=>?_
     split
     ·rfl
     ·rw[Nat.sub_add_cancel (by omega)]
    rw[e,List.take_left']
    rfl
   have hcell:∀m,m≤l.length→(flatC cs m).length=m*sz:=λm hm=>by
    have h6:∀i,i<l.length→(cs i).size=sz:=by
     intro i hi
     exact hP.size (hr i _ (List.getElem?_eq_getElem hi))
    exact flatC_length λi hi=>h6 i (by omega)
   refine⟨hcell k hk,.inr ⟨g,cap,cur,rfl,hb,hg,by omega,hcm,hcs,?_⟩⟩
   have h1:=congrArg (List.take (k*sz)) htake
   rw[List.take_take,Nat.min_eq_left (Nat.mul_le_mul_right sz hk)]at h1
   rw[h1,hpre k hk,hcell k hk]
 ·have hi:=(List.getElem?_eq_some_iff.1 hx).1
  rw[hl]at hi
  rw[List.getElem?_take_of_lt hi]at hx
  exact hr i x hx
end
theorem st_ownW {P:Program} {E:TypeId} {sz:Nat} {α : Type} {R:α → Array Value→Prop} (hP:PlainR sz R) {op:Oper} {a:Act} {w:World} {K:Act→World→Prop} {Q:Exit→Act→World→Prop} (ty:TypeId) (x y:Operand) (ho:op.op = .store ty x y) {l:List α} {g n cap k:Nat} {e:α} {c:Array Value}
    (hx:a.eval x = .pointer (some ⟨g,k*sz,none⟩)) (hy:a.eval y = .agg c) (hown:POwn E sz R w l (.slice (some ⟨g,0,none⟩) n cap)) (hn:l.length=n) (hk:k<n) (hR:R e c) (hi:(P.info? ty).map (·.size)=some c.size)
    (h:∀w',POwn E sz R w' (l.set k e) (.slice (some ⟨g,0,none⟩) n cap)→Turn (λb=>b=g) w w'→K (a.put op.dst undef) w'):op.wp P a w K Q:=
 wp_store_mid ty x y ho g (k*sz) c hx hy (by rw[hP.size hR];exact hown.there hn hk) hi (all_oneCell_of (hP.one hR)) (h _ (hown.set hP hn hk hR) (turn_cells (S:=λb=>b=g) g (.inr rfl) _ _ (Turn.refl _ w)))
theorem find_first {α : Type} {f:α → Bool} {l:List α} {i:Nat} {x:α} (hx:l[i]?=some x) (hf:f x=true) (h:∀(m:Nat) (y:α),m<i→l[m]?=some y→f y=false):l.find? f=some x:=by
 induction l generalizing i with
 | nil=>simp at hx
 | cons a r ih=>
  rw[List.find?_cons]
  cases i with
  | zero=>
   simp at hx
   subst hx
   rw[hf]
  | succ i=>
   rw[h 0 a (by omega) rfl]
   exact ih (i:=i) (by simpa using hx) λm y hm hy=>h (m+1) y (by omega) (by simpa using hy)
theorem find_no {α : Type} {f:α → Bool} {l:List α} (h:∀(m:Nat) (y:α),l[m]?=some y→f y=false):l.find? f=none:=by
 refine List.find?_eq_none.2 λx hx hf=>?_
 obtain⟨m,hm⟩:=List.getElem?_of_mem hx
 rw[h m x hm]at hf
 cases hf
structure RcH (T:List Trip) (j:Nat):Prop where
 hj:j<6
 kt:∀t,t∈T→KeyT t
 sc:∀t,t∈T→ScalT t
 len:T.length≤65536
set_option maxRecDepth 100000 in
set_option maxHeartbeats 32000000 in
theorem toR_any {F:Nat→Prop} {q j:Nat} {T:List Trip} {c:CurA} {w:World} (h:RcRd F w q j T c) (hH:RcH T j) (hd:c.way.length≤3) (strict:Bool) (v:Val) (sv:Value) (fv:FitV v) :
    Calls Tryz.prog 61 #[.pointer (some ⟨q,0,none⟩),.bool strict,.agg (cellsV v sv)] w (RcDo F q j T (toA T (wayN j) strict v c) w):=by
 obtain⟨A,nT,cA,W,h⟩:=h
 obtain⟨uv,Huv⟩:=name6 v sv
 rw[Huv.out]
 obtain⟨z,Hz⟩:=name_itV w.heap.size
 obtain⟨w2,HW2⟩:=name_itV (w.alloc (.cells uv 34))
 have HB2:=hid (show Below w.heap.size w w2 from by rw[←HW2.out];exact (Below.refl _ _).alloc (Nat.le_refl _) _)
 have HX:=hid (show w2.heap[z]?=some (.cells uv 34 (0,0)) from by rw[←HW2.out,←Hz.out];exact heap_alloc_new w _)
 have IUV:=hid (infoV6.trans (congrArg some Huv.size.symm))
 have HR:=hid (h.on HB2.out)
 have HQZ:=hid (show q<z from by have:=blk_lt h.cur;have h2:w.heap.size=z:=Hz.out;omega)
 have HPOST:=hid (show ∀V,Turn (λb=>q≤b) w2 V→Turn (λb=>q≤b) w V from λV ht=>⟨ht.os.trans HB2.out.os,ht.tape.trans HB2.out.tape,ht.output.trans HB2.out.output,Nat.le_trans HB2.out.size ht.size,λk hk hn=>(ht.block k (Nat.lt_of_lt_of_le hk HB2.out.size) hn).trans (HB2.out.block k hk)⟩)
 have HFV:=hid fv
 have HH:=hid hH
 have HNT:=hid (show nT≤65536 from by rw[h.list.1];exact hH.len)
 obtain⟨r,Hr⟩:=name_itV (toA T (wayN j) strict v c)
 rw[Hr.out]
 have f4:=HR.out.f4
 have f3:=HR.out.f3
 obtain⟨d,Hd⟩:=name_itV c.way.length
 obtain⟨fn,Hfn⟩:=name_itV c.fin
 rw[Hd.out]at f4
 rw[Hfn.out]at f3
 clear h hH fv
 go_enter Tryz.func61,Tryz.ntmps61
 go_upto_region 1 with fail
 rw[HW2.out,Hz.out]
 clear HW2
 by_cases hd0:d=0
 ·have HE:=hid (show r=(c,false) from by rw[←Hr.out];exact to_none strict v (.inr (by rw[Hd.out];exact hd0)))
  have e0:(d:Int)=0:=by omega
  subst hd0
  go_wp2_with fail
  go_ret
  exact⟨congrArg (λb=>Ending.returned (Value.bool b)) (show false=r.2 from by rw[HE.out]),by rw[HE.out];exact⟨A,nT,cA,W,HR.out⟩,HPOST.out _ (Turn.refl _ _)⟩
 ·have e0:¬(d:Int)=0:=by omega
  cases fn with
  | true=>
   have HE:=hid (show r=(c,false) from by rw[←Hr.out];exact to_none strict v (.inl Hfn.out))
   go_wp2_with fail
   go_ret
   exact⟨congrArg (λb=>Ending.returned (Value.bool b)) (show false=r.2 from by rw[HE.out]),by rw[HE.out];exact⟨A,nT,cA,W,HR.out⟩,HPOST.out _ (Turn.refl _ _)⟩
  | false=>
   obtain⟨wy,cur,fe⟩:∃wy cur,c=⟨wy++[cur],false⟩:=by
    have hne:c.way≠[]:=List.length_pos_iff.1 (by rw[Hd.out];omega)
    refine⟨c.way.dropLast,c.way.getLast hne,?_⟩
    rw[List.dropLast_concat_getLast]
    have:=Hfn.out
    cases c
    simp only at this ⊢
    rw[this]
   subst fe
   obtain⟨d1,Hd1⟩:=name_itV wy.length
   have HDD:=hid (show d=d1+1 from by rw[←Hd.out,←Hd1.out];simp)
   have HD3:=hid (show d1<3 from by have h2:d=d1+1:=HDD.out;have h3:=Hd.out;omega)
   have HTA:=hid (show r=(match (keysA T (wayN j) wy).find? (toF strict cur v) with
    | some x=>(⟨wy++[x],false⟩,true)
    | none=>(⟨wy++[cur],true⟩,false)) from by rw[←Hr.out];exact toA_at)
   have HWD:=hid (show IntKind.i64.wrap ((d:Int)-1)=(d1:Int) from by have h2:d=d1+1:=HDD.out;have:=HD3.out;rw[IntWalk.i64_in _ (by omega)];omega)
   have wd:wrap64 ((d:Int)-1)=(d1:Int):=(IntWalk.wrap64_in _ (by have h2:d=d1+1:=HDD.out;have:=HD3.out;omega)).trans (by have h2:d=d1+1:=HDD.out;omega)
   have hkeys:=keysR_any HR.out HH.out.hj d1 HD3.out (by rw[Hd.out];have h2:d=d1+1:=HDD.out;omega) HH.out.kt HNT.out
   have htk:(wy++[cur]).take d1=wy:=by rw[←Hd1.out];exact List.take_left' rfl
   rw[show (CurA.mk (wy++[cur]) false).way.take d1=wy from htk]at hkeys
   clear htk
   go_wp2_with fail
   refine hkeys.mono ?_
   unfold KeysIs
   rintro e w3 ⟨S7,rfl,hld⟩
   obtain⟨K,HK⟩:=name_itV (keysA T (wayN j) wy)
   rw[HK.out]at hld HTA
   obtain⟨m,Hm⟩:=name_itV K.length
   obtain⟨A7,c7,rfl,hmc,hnil⟩:∃A c,S7 = .slice A m c∧m≤c∧(A=none→c=0):=by
    obtain⟨A,c,e,h1,h2⟩:=hld.own.form
    rw[Hm.out]at e h1
    exact⟨A,c,e,h1,h2⟩
   have HM65:=hid (show m≤65536 from by
    have h1:=keysK_len (w:=wayN j) (pre:=wy) (T:=T) (i:=T.length) (Nat.le_refl _)
    rw[keysK_all (Nat.le_refl _),HK.out,Hm.out]at h1
    have:=HH.out.len
    omega)
   have HL3:=hid hld
   have HR3:=hid (HR.out.on hld.hb)
   have HX3:=hid ((hld.hb.block z (blk_lt HX.out)).trans HX.out)
   have HB3:=hid hld.hb
   have HKV:=hid (show ∀y,y∈K→KeyV y from λy hy=>by rw[←HK.out]at hy;exact keyV_of HH.out.sc (λt ht n=>(HH.out.kt t ht n).fit) hy)
   clear hld hkeys f3 f4 hmc hnil wd
   go_wp2_with fail
   go_loopw [8] (λs8 wx=>∃i:Nat,i≤m∧s8 = .int .i64 (i:Nat)∧Hid (Below w3.heap.size w3 wx∧∀n y,n<i→K[n]?=some y→toF strict cur v y=false)) (λs8 _=>m-(intOf s8).toNat)
   case atStart=>exact⟨0,by omega,rfl,hid ⟨Below.refl _ _,λn y hn=>absurd hn (by omega)⟩⟩
   case round=>
    obtain⟨i,hi,rfl,hM⟩:=hrel
    by_cases hlt:i<m
    ·have a1:(0:Int)≤i:=by omega
     have a2:(i:Int)<m:=by omega
     have HWI:=hid (show IntKind.i64.wrap ((i:Int)+1)=(i:Int)+1 from IntWalk.i64_in _ (by have:=HM65.out;omega))
     obtain⟨x,hx⟩:∃x,K[i]?=some x:=⟨_,List.getElem?_eq_getElem (by rw[Hm.out];exact hlt)⟩
     obtain⟨ad7,cx,rfl,hl7,hcx,hqx⟩:=HL3.out.own.cell cellV_plain Hm.out hx
     have HXX:=hid hx
     have HCX:=hid hcx
     have HL7:=hid hl7
     have IX:=hid (infoV6.trans (congrArg some (CellV.size hcx).symm))
     have HQX:=hid (λ(V:World) (hb:Below w3.heap.size w3 V) (y:Nat) (hy:y<cx.size)=>(hb.cell (p:=(ad7.add (i*6)).add y) (by rw[add_blk,add_blk];exact hl7)).trans (hqx y hy))
     obtain⟨Aw,cw,eW,_,_⟩:=HR3.out.way.form
     have hwy:=HR3.out.way
     rw[show (CurA.mk (wy++[cur]) false).way.length=d from Hd.out]at eW
     rw[eW]at hwy
     have hcur:(wy++[cur])[d1]?=some cur:=by rw[←Hd1.out,List.getElem?_append_right (Nat.le_refl _),Nat.sub_self];rfl
     obtain⟨adw,cv,eA,hlw,hcv,hqw⟩:=hwy.cell cellV_plain Hd.out hcur
     obtain⟨gw,eg⟩:∃gw,adw=⟨gw,0,none⟩:=by
      obtain⟨csx,hrow,_⟩:=hwy
      obtain⟨g1,c1,e1,_,_⟩:=hrow.form (by simp)
      injection e1 with e1
      rw[eA]at e1
      injection e1 with e1
      exact⟨g1,e1⟩
     subst eg
     subst eA
     have HWY:=hid hwy
     have HAG:=hid (show ¬ad7.block=gw from λe=>by
      have h1:=HL3.out.ow ad7.block rfl
      have h2:=HR.out.way.lt (b:=gw) (by rw[eW];rfl)
      omega)
     have HWQ:=hid (show q<gw from HR3.out.ne gw (by rw[eW];rfl))
     have HCV:=hid hcv
     have IV:=hid (infoV6.trans (congrArg some (CellV.size hcv).symm))
     have HQW:=hid (λ(V:World) (hb:Below w3.heap.size w3 V) (y:Nat) (hy:y<cv.size)=>(hb.cell (p:=((⟨gw,0,none⟩:Addr).add (d1*6)).add y) (by rw[add_blk,add_blk];exact hlw)).trans (hqw y hy))
     have HF2:=hid (λ(V:World) (hb:Below w3.heap.size w3 V)=>(show V.cell? ⟨q,2,none⟩=some (.slice (some ⟨gw,0,none⟩) d cw) from by have h2:=(HR3.out.on hb).f2;rwa [eW]at h2))
     have HF4:=hid (λ(V:World) (hb:Below w3.heap.size w3 V)=>(show V.cell? ⟨q,4,none⟩=some (.int .i64 (d:Nat)) from by have h2:=(HR3.out.on hb).f4;rwa [show (CurA.mk (wy++[cur]) false).way.length=d from Hd.out]at h2))
     have HXB:=hid (λ(V:World) (hb:Below w3.heap.size w3 V)=>(show V.heap[z]?=some (.cells uv 34 (0,0)) from (hb.block z (blk_lt HX3.out)).trans HX3.out))
     have HEW:=hid eW
     have HLT:=hid hlt
     have HKXV:=hid (HKV.out x (List.mem_of_getElem? hx))
     have ho1:=λV=>ordCV_any (a:=x) (b:=cur) hcx hcv V
     have ho2:=λV=>(show Calls Tryz.prog 15 #[.int .i64 1,.agg cx,.agg uv] V (OrdIs x v V) from by
      obtain⟨kx,Ax,ax,e⟩:=hcx
      rw[e,←Huv.out]
      exact refOrder_any x v _ sv V kx.k5 kx.fit HFV.out)
     unfold OrdIs at ho1 ho2
     obtain⟨o1,Ho1⟩:=name_itV (ordV x cur)
     obtain⟨o2,Ho2⟩:=name_itV (ordV x v)
     rw[Ho1.out]at ho1
     rw[Ho2.out]at ho2
     have HO1:=hid ho1
     have HO2:=hid ho2
     have HKD:=hid (show d1<d from by have h2:d=d1+1:=HDD.out;omega)
     clear hx hl7 hcx hqx hwy hcur hlw hcv hqw eW hlt ho1 ho2
     go_upto_region 7 with fail
     refine wp_region_held_drew (S:=λW'=>Below w3.heap.size w3 W') (by kernel_rfl) hM.out.1.drew (λhHeld=>?_)
     refine Boxed.out ?_
     refine tkW 0 35 (.slice (some ad7) m c7) hHeld (λw hSw=>?_) (λhHeld=>?_)
     ·unfold runsTo
      go_simp
     try simp only[Act.put,aT,aZ,aS]
     refine tkW 1 36 (.int .i64 (i:Nat)) hHeld (λw hSw=>?_) (λhHeld=>?_)
     ·unfold runsTo
      go_simp
     try simp only[Act.put,aT,aZ,aS]
     refine tkW 2 37 (.pointer (some (ad7.add (i*6)))) hHeld (λw hSw=>?_) (λhHeld=>?_)
     ·exact val_of (idx_val ad7 m c7 i HLT.out w)
     try simp only[Act.put,aT,aZ,aS]
     refine tkW 3 38 (.agg cx) hHeld (λw hSw=>?_) (λhHeld=>?_)
     ·have p:=run_loadVar_at w (ad7.add (i*6)) 34 cx _ (HQX.out _ hSw) Tryz.underlying34 rfl IX.out
      exact val_of (by simp only[Instr.loadAt,Instr.sureAddr,Sem.run_bind];exact p)
     try simp only[Act.put,aT,aZ,aS]
     refine tkW 4 39 (.pointer (some ⟨q,0,none⟩)) hHeld (λw hSw=>?_) (λhHeld=>?_)
     ·unfold runsTo
      go_simp
     try simp only[Act.put,aT,aZ,aS]
     refine tkW 5 40 (.pointer (some ⟨q,0,none⟩)) hHeld (λw hSw=>?_) (λhHeld=>?_)
     ·unfold runsTo
      go_simp
     try simp only[Act.put,aT,aZ,aS]
     refine tkW 6 41 (.pointer (some ⟨q,2,none⟩)) hHeld (λw hSw=>?_) (λhHeld=>?_)
     ·unfold runsTo
      go_simp
     try simp only[Act.put,aT,aZ,aS]
     refine tkW 7 42 (.slice (some ⟨gw,0,none⟩) d cw) hHeld (λw hSw=>?_) (λhHeld=>?_)
     ·have p:=HF2.out _ hSw
      unfold runsTo
      go_simp
     try simp only[Act.put,aT,aZ,aS]
     refine tkW 8 43 (.pointer (some ⟨q,0,none⟩)) hHeld (λw hSw=>?_) (λhHeld=>?_)
     ·unfold runsTo
      go_simp
     try simp only[Act.put,aT,aZ,aS]
     refine tkW 9 44 (.pointer (some ⟨q,0,none⟩)) hHeld (λw hSw=>?_) (λhHeld=>?_)
     ·unfold runsTo
      go_simp
     try simp only[Act.put,aT,aZ,aS]
     refine tkW 10 45 (.pointer (some ⟨q,4,none⟩)) hHeld (λw hSw=>?_) (λhHeld=>?_)
     ·unfold runsTo
      go_simp
     try simp only[Act.put,aT,aZ,aS]
     refine tkW 11 46 (.int .i64 (d:Nat)) hHeld (λw hSw=>?_) (λhHeld=>?_)
     ·have p:=HF4.out _ hSw
      unfold runsTo
      go_simp
     try simp only[Act.put,aT,aZ,aS]
     refine tkW 12 47 (.int .i64 (d1:Nat)) hHeld (λw hSw=>?_) (λhHeld=>?_)
     ·have p:=HWD.out
      unfold runsTo
      go_simp
     try simp only[Act.put,aT,aZ,aS]
     refine tkW 13 48 (.pointer (some ((⟨gw,0,none⟩:Addr).add (d1*6)))) hHeld (λw hSw=>?_) (λhHeld=>?_)
     ·exact val_of (idx_val ⟨gw,0,none⟩ d cw d1 HKD.out w)
     try simp only[Act.put,aT,aZ,aS]
     refine tkW 14 49 (.agg cv) hHeld (λw hSw=>?_) (λhHeld=>?_)
     ·have p:=run_loadVar_at w ((⟨gw,0,none⟩:Addr).add (d1*6)) 34 cv _ (HQW.out _ hSw) Tryz.underlying34 rfl IV.out
      exact val_of (by simp only[Instr.loadAt,Instr.sureAddr,Sem.run_bind];exact p)
     try simp only[Act.put,aT,aZ,aS]
     refine tkC 15 (λK hK=>?_)
     change Oper.wp _ ⟨some 50,_,_,_,_,_⟩ _ _ _ _
     go_simp
     refine (HO1.out _).mono ?_
     rintro e x7 ⟨rfl,hb⟩
     have HB_x7:=hid (hHeld.trans (hb.mono hHeld.size))
     clear hb
     dsimp only
     refine hK.out _ _ HB_x7.out (λhHeld=>?_)
     clear hK K
     try simp only[Act.put,aT,aZ,aS]
     refine tkW 16 9 (.int .i64 o1) hHeld (λw hSw=>?_) (λhHeld=>?_)
     ·unfold runsTo
      go_simp
     try simp only[Act.put,aT,aZ,aS]
     refine⟨wpAnyH_done (by kernel_rfl) ?_ _⟩
     have HM1:=hid hHeld
     clear hHeld
     go_upto_region 8 with fail
     refine wp_region_held_drew (S:=λW'=>Below w3.heap.size w3 W') (by kernel_rfl) HM1.out.drew (λhHeld=>?_)
     refine Boxed.out ?_
     refine tkW 0 51 (.slice (some ad7) m c7) hHeld (λw hSw=>?_) (λhHeld=>?_)
     ·unfold runsTo
      go_simp
     try simp only[Act.put,aT,aZ,aS]
     refine tkW 1 52 (.int .i64 (i:Nat)) hHeld (λw hSw=>?_) (λhHeld=>?_)
     ·unfold runsTo
      go_simp
     try simp only[Act.put,aT,aZ,aS]
     refine tkW 2 53 (.pointer (some (ad7.add (i*6)))) hHeld (λw hSw=>?_) (λhHeld=>?_)
     ·exact val_of (idx_val ad7 m c7 i HLT.out w)
     try simp only[Act.put,aT,aZ,aS]
     refine tkW 3 54 (.agg cx) hHeld (λw hSw=>?_) (λhHeld=>?_)
     ·have p:=run_loadVar_at w (ad7.add (i*6)) 34 cx _ (HQX.out _ hSw) Tryz.underlying34 rfl IX.out
      exact val_of (by simp only[Instr.loadAt,Instr.sureAddr,Sem.run_bind];exact p)
     try simp only[Act.put,aT,aZ,aS]
     refine tkW 4 55 (.agg uv) hHeld (λw hSw=>?_) (λhHeld=>?_)
     ·exact val_of (ld_run (HXB.out _ hSw) 34 _ Tryz.underlying34 rfl IUV.out)
     try simp only[Act.put,aT,aZ,aS]
     refine tkC 5 (λK hK=>?_)
     change Oper.wp _ ⟨some 56,_,_,_,_,_⟩ _ _ _ _
     go_simp
     refine (HO2.out _).mono ?_
     rintro e x8 ⟨rfl,hb⟩
     have HB_x8:=hid (hHeld.trans (hb.mono hHeld.size))
     clear hb
     dsimp only
     refine hK.out _ _ HB_x8.out (λhHeld=>?_)
     clear hK K
     try simp only[Act.put,aT,aZ,aS]
     refine tkW 6 10 (.int .i64 o2) hHeld (λw hSw=>?_) (λhHeld=>?_)
     ·unfold runsTo
      go_simp
     try simp only[Act.put,aT,aZ,aS]
     refine⟨wpAnyH_done (by kernel_rfl) ?_ _⟩
     have HM2:=hid hHeld
     clear hHeld HM1
     have HTF:=hid (show toF strict cur v x=(decide (0≤o1)&&(if strict=true then decide (0<o2) else decide (0≤o2))) from by rw[←Ho1.out,←Ho2.out];rfl)
     have HFND:=hid (show toF strict cur v x=true→r=(⟨wy++[x],false⟩,true) from λhf=>by
      rw[HTA.out,find_first HXX.out hf (λn y hn hy=>hM.out.2 n y hn hy)])
     have HNXT:=hid (show toF strict cur v x=false→∀n y,n<i+1→K[n]?=some y→toF strict cur v y=false from λhf n y hn hy=>by
      by_cases e:n=i
      ·subst e
       rw[HXX.out]at hy
       injection hy with hy
       subst hy
       exact hf
      ·exact hM.out.2 n y (by omega) hy)
     by_cases h1:0≤o1
     ·cases strict with
      | true=>
       by_cases h2:0<o2
       ·skip
        have HRR:=hid (HFND.out (by rw[HTF.out];simp[*]))
        go_upto_region 10 with fail
        refine wp_region_held_drew (S:=(λV:World=>V.cell? ⟨q,2,none⟩=some (.slice (some ⟨gw,0,none⟩) d cw)∧V.cell? ⟨q,4,none⟩=some (.int .i64 (d:Nat))∧∀y,y<cx.size→V.cell? ((ad7.add (i*6)).add y)=cx[y]?)) (by kernel_rfl) ⟨HF2.out _ HM2.out.drew,HF4.out _ HM2.out.drew,HQX.out _ HM2.out.drew⟩ (λhHeld=>?_)
        refine Boxed.out ?_
        refine tkW 0 74 (.pointer (some ⟨q,0,none⟩)) hHeld (λw hSw=>?_) (λhHeld=>?_)
        ·unfold runsTo
         go_simp
        try simp only[Act.put,aT,aZ,aS]
        refine tkW 1 75 (.pointer (some ⟨q,0,none⟩)) hHeld (λw hSw=>?_) (λhHeld=>?_)
        ·unfold runsTo
         go_simp
        try simp only[Act.put,aT,aZ,aS]
        refine tkW 2 76 (.pointer (some ⟨q,2,none⟩)) hHeld (λw hSw=>?_) (λhHeld=>?_)
        ·unfold runsTo
         go_simp
        try simp only[Act.put,aT,aZ,aS]
        refine tkW 3 77 (.slice (some ⟨gw,0,none⟩) d cw) hHeld (λw hSw=>?_) (λhHeld=>?_)
        ·have p:=hSw.1
         unfold runsTo
         go_simp
        try simp only[Act.put,aT,aZ,aS]
        refine tkW 4 78 (.pointer (some ⟨q,0,none⟩)) hHeld (λw hSw=>?_) (λhHeld=>?_)
        ·unfold runsTo
         go_simp
        try simp only[Act.put,aT,aZ,aS]
        refine tkW 5 79 (.pointer (some ⟨q,0,none⟩)) hHeld (λw hSw=>?_) (λhHeld=>?_)
        ·unfold runsTo
         go_simp
        try simp only[Act.put,aT,aZ,aS]
        refine tkW 6 80 (.pointer (some ⟨q,4,none⟩)) hHeld (λw hSw=>?_) (λhHeld=>?_)
        ·unfold runsTo
         go_simp
        try simp only[Act.put,aT,aZ,aS]
        refine tkW 7 81 (.int .i64 (d:Nat)) hHeld (λw hSw=>?_) (λhHeld=>?_)
        ·have p:=hSw.2.1
         unfold runsTo
         go_simp
        try simp only[Act.put,aT,aZ,aS]
        refine tkW 8 82 (.int .i64 (d1:Nat)) hHeld (λw hSw=>?_) (λhHeld=>?_)
        ·have p:=HWD.out
         unfold runsTo
         go_simp
        try simp only[Act.put,aT,aZ,aS]
        refine tkW 9 83 (.slice (some ad7) m c7) hHeld (λw hSw=>?_) (λhHeld=>?_)
        ·unfold runsTo
         go_simp
        try simp only[Act.put,aT,aZ,aS]
        refine tkW 10 84 (.int .i64 (i:Nat)) hHeld (λw hSw=>?_) (λhHeld=>?_)
        ·unfold runsTo
         go_simp
        try simp only[Act.put,aT,aZ,aS]
        refine tkW 11 85 (.pointer (some (ad7.add (i*6)))) hHeld (λw hSw=>?_) (λhHeld=>?_)
        ·exact val_of (idx_val ad7 m c7 i HLT.out w)
        try simp only[Act.put,aT,aZ,aS]
        refine tkW 12 86 (.agg cx) hHeld (λw hSw=>?_) (λhHeld=>?_)
        ·have p:=run_loadVar_at w (ad7.add (i*6)) 34 cx _ hSw.2.2 Tryz.underlying34 rfl IX.out
         exact val_of (by simp only[Instr.loadAt,Instr.sureAddr,Sem.run_bind];exact p)
        try simp only[Act.put,aT,aZ,aS]
        refine tkW 13 87 (.pointer (some ((⟨gw,0,none⟩:Addr).add (d1*6)))) hHeld (λw hSw=>?_) (λhHeld=>?_)
        ·exact val_of (idx_val ⟨gw,0,none⟩ d cw d1 HKD.out w)
        try simp only[Act.put,aT,aZ,aS]
        refine tkC 14 (λK hK=>?_)
        change Oper.wp _ ⟨none,_,_,_,_,_⟩ _ _ _ _
        refine st_ownW cellV_plain 34 _ _ rfl (k:=d1) (by show Value.pointer (some ((⟨gw,0,none⟩:Addr).add (d1*6)))=_;rw[Addr.add_mid,Nat.zero_add]) rfl (HWY.out.on HM2.out.drew) Hd.out HKD.out HCX.out IX.out (λw6 hw6 ht6=>?_)
        have HW6:=hid hw6
        have HT6:=hid ht6
        clear hw6 ht6
        refine hK.out _ _ ⟨(HT6.out.cell (by exact Nat.lt_of_lt_of_le (blk_lt HR3.out.cur) HM2.out.size) (λe=>by have e:q=gw:=e;have:=HWQ.out;omega)).trans hHeld.1,(HT6.out.cell (by exact Nat.lt_of_lt_of_le (blk_lt HR3.out.cur) HM2.out.size) (λe=>by have e:q=gw:=e;have:=HWQ.out;omega)).trans hHeld.2.1,λy hy=>(HT6.out.cell (by rw[add_blk,add_blk];exact Nat.lt_of_lt_of_le HL7.out HM2.out.size) (λe=>by rw[add_blk,add_blk]at e;exact HAG.out e)).trans (hHeld.2.2 y hy)⟩ (λhHeld=>?_)
        clear hK K
        try simp only[Act.put,aT,aZ,aS]
        refine⟨wpAnyH_done (by kernel_rfl) ?_ _⟩
        clear hHeld
        have HFIN:=hid (show RcRd F w6 q j T ⟨wy++[x],false⟩∧Turn (λb=>q≤b) w2 w6 from by
         have hset:(wy++[cur]).set d1 x=wy++[x]:=by rw[←Hd1.out];simp
         have h1:=HW6.out
         rw[show (CurA.mk (wy++[cur]) false).way.set d1 x=wy++[x] from hset]at h1
         have HR5:=HR3.out.on HM2.out.drew
         have hc:=HR5.cur
         rw[HEW.out]at hc
         have hgq:¬q=gw:=λe=>by have:=HWQ.out;omega
         refine⟨⟨A,nT,cA,.slice (some ⟨gw,0,none⟩) d cw,?_,HR5.list.keep TrR.good (λp hp=>HT6.out.cell (Nat.lt_trans (HR5.fl _ hp) (blk_lt HR5.cur)) (λe=>by have e:p.block=gw:=e;have:=HR5.fl _ hp;have:=HWQ.out;omega)),h1,λb hb=>by injection hb with hb;rw[←hb];exact HWQ.out,HR5.fl⟩,?_⟩
         ·have h2:=HT6.out.heap hc hgq
          rw[h2]
          simp
         ·exact ((Turn.of_below (B:=w2.heap.size) (HB3.out.trans (HM2.out.drew.mono HB3.out.size))).mono λb hb hb2=>by have hb2:w2.heap.size≤b:=hb2;have:=blk_lt HR.out.cur;omega).trans (HT6.out.mono λb _ hb=>by have hb:b=gw:=hb;have:=HWQ.out;omega))
        go_wp2_with fail
        go_ret
        exact⟨congrArg (λb=>Ending.returned (Value.bool b)) (show true=r.2 from by rw[HRR.out]),by rw[HRR.out];exact HFIN.out.1,HPOST.out _ HFIN.out.2⟩
       ·skip
        have HNX:=hid (HNXT.out (by rw[HTF.out];simp[*]))
        have w1:IntKind.i64.wrap ((i:Int)+1)=(i:Int)+1:=HWI.out
        go_wp2_with fail
        go_roundw
        case rel=>exact⟨i+1,by have:=HLT.out;omega,by go_num,hid ⟨HM2.out,HNX.out⟩⟩
        case measure=>have:=HLT.out;simp[intOf];omega
      | false=>
       by_cases h2:0≤o2
       ·skip
        have HRR:=hid (HFND.out (by rw[HTF.out];simp[*]))
        go_upto_region 10 with fail
        refine wp_region_held_drew (S:=(λV:World=>V.cell? ⟨q,2,none⟩=some (.slice (some ⟨gw,0,none⟩) d cw)∧V.cell? ⟨q,4,none⟩=some (.int .i64 (d:Nat))∧∀y,y<cx.size→V.cell? ((ad7.add (i*6)).add y)=cx[y]?)) (by kernel_rfl) ⟨HF2.out _ HM2.out.drew,HF4.out _ HM2.out.drew,HQX.out _ HM2.out.drew⟩ (λhHeld=>?_)
        refine Boxed.out ?_
        refine tkW 0 74 (.pointer (some ⟨q,0,none⟩)) hHeld (λw hSw=>?_) (λhHeld=>?_)
        ·unfold runsTo
         go_simp
        try simp only[Act.put,aT,aZ,aS]
        refine tkW 1 75 (.pointer (some ⟨q,0,none⟩)) hHeld (λw hSw=>?_) (λhHeld=>?_)
        ·unfold runsTo
         go_simp
        try simp only[Act.put,aT,aZ,aS]
        refine tkW 2 76 (.pointer (some ⟨q,2,none⟩)) hHeld (λw hSw=>?_) (λhHeld=>?_)
        ·unfold runsTo
         go_simp
        try simp only[Act.put,aT,aZ,aS]
        refine tkW 3 77 (.slice (some ⟨gw,0,none⟩) d cw) hHeld (λw hSw=>?_) (λhHeld=>?_)
        ·have p:=hSw.1
         unfold runsTo
         go_simp
        try simp only[Act.put,aT,aZ,aS]
        refine tkW 4 78 (.pointer (some ⟨q,0,none⟩)) hHeld (λw hSw=>?_) (λhHeld=>?_)
        ·unfold runsTo
         go_simp
        try simp only[Act.put,aT,aZ,aS]
        refine tkW 5 79 (.pointer (some ⟨q,0,none⟩)) hHeld (λw hSw=>?_) (λhHeld=>?_)
        ·unfold runsTo
         go_simp
        try simp only[Act.put,aT,aZ,aS]
        refine tkW 6 80 (.pointer (some ⟨q,4,none⟩)) hHeld (λw hSw=>?_) (λhHeld=>?_)
        ·unfold runsTo
         go_simp
        try simp only[Act.put,aT,aZ,aS]
        refine tkW 7 81 (.int .i64 (d:Nat)) hHeld (λw hSw=>?_) (λhHeld=>?_)
        ·have p:=hSw.2.1
         unfold runsTo
         go_simp
        try simp only[Act.put,aT,aZ,aS]
        refine tkW 8 82 (.int .i64 (d1:Nat)) hHeld (λw hSw=>?_) (λhHeld=>?_)
        ·have p:=HWD.out
         unfold runsTo
         go_simp
        try simp only[Act.put,aT,aZ,aS]
        refine tkW 9 83 (.slice (some ad7) m c7) hHeld (λw hSw=>?_) (λhHeld=>?_)
        ·unfold runsTo
         go_simp
        try simp only[Act.put,aT,aZ,aS]
        refine tkW 10 84 (.int .i64 (i:Nat)) hHeld (λw hSw=>?_) (λhHeld=>?_)
        ·unfold runsTo
         go_simp
        try simp only[Act.put,aT,aZ,aS]
        refine tkW 11 85 (.pointer (some (ad7.add (i*6)))) hHeld (λw hSw=>?_) (λhHeld=>?_)
        ·exact val_of (idx_val ad7 m c7 i HLT.out w)
        try simp only[Act.put,aT,aZ,aS]
        refine tkW 12 86 (.agg cx) hHeld (λw hSw=>?_) (λhHeld=>?_)
        ·have p:=run_loadVar_at w (ad7.add (i*6)) 34 cx _ hSw.2.2 Tryz.underlying34 rfl IX.out
         exact val_of (by simp only[Instr.loadAt,Instr.sureAddr,Sem.run_bind];exact p)
        try simp only[Act.put,aT,aZ,aS]
        refine tkW 13 87 (.pointer (some ((⟨gw,0,none⟩:Addr).add (d1*6)))) hHeld (λw hSw=>?_) (λhHeld=>?_)
        ·exact val_of (idx_val ⟨gw,0,none⟩ d cw d1 HKD.out w)
        try simp only[Act.put,aT,aZ,aS]
        refine tkC 14 (λK hK=>?_)
        change Oper.wp _ ⟨none,_,_,_,_,_⟩ _ _ _ _
        refine st_ownW cellV_plain 34 _ _ rfl (k:=d1) (by show Value.pointer (some ((⟨gw,0,none⟩:Addr).add (d1*6)))=_;rw[Addr.add_mid,Nat.zero_add]) rfl (HWY.out.on HM2.out.drew) Hd.out HKD.out HCX.out IX.out (λw6 hw6 ht6=>?_)
        have HW6:=hid hw6
        have HT6:=hid ht6
        clear hw6 ht6
        refine hK.out _ _ ⟨(HT6.out.cell (by exact Nat.lt_of_lt_of_le (blk_lt HR3.out.cur) HM2.out.size) (λe=>by have e:q=gw:=e;have:=HWQ.out;omega)).trans hHeld.1,(HT6.out.cell (by exact Nat.lt_of_lt_of_le (blk_lt HR3.out.cur) HM2.out.size) (λe=>by have e:q=gw:=e;have:=HWQ.out;omega)).trans hHeld.2.1,λy hy=>(HT6.out.cell (by rw[add_blk,add_blk];exact Nat.lt_of_lt_of_le HL7.out HM2.out.size) (λe=>by rw[add_blk,add_blk]at e;exact HAG.out e)).trans (hHeld.2.2 y hy)⟩ (λhHeld=>?_)
        clear hK K
        try simp only[Act.put,aT,aZ,aS]
        refine⟨wpAnyH_done (by kernel_rfl) ?_ _⟩
        clear hHeld
        have HFIN:=hid (show RcRd F w6 q j T ⟨wy++[x],false⟩∧Turn (λb=>q≤b) w2 w6 from by
         have hset:(wy++[cur]).set d1 x=wy++[x]:=by rw[←Hd1.out];simp
         have h1:=HW6.out
         rw[show (CurA.mk (wy++[cur]) false).way.set d1 x=wy++[x] from hset]at h1
         have HR5:=HR3.out.on HM2.out.drew
         have hc:=HR5.cur
         rw[HEW.out]at hc
         have hgq:¬q=gw:=λe=>by have:=HWQ.out;omega
         refine⟨⟨A,nT,cA,.slice (some ⟨gw,0,none⟩) d cw,?_,HR5.list.keep TrR.good (λp hp=>HT6.out.cell (Nat.lt_trans (HR5.fl _ hp) (blk_lt HR5.cur)) (λe=>by have e:p.block=gw:=e;have:=HR5.fl _ hp;have:=HWQ.out;omega)),h1,λb hb=>by injection hb with hb;rw[←hb];exact HWQ.out,HR5.fl⟩,?_⟩
         ·have h2:=HT6.out.heap hc hgq
          rw[h2]
          simp
         ·exact ((Turn.of_below (B:=w2.heap.size) (HB3.out.trans (HM2.out.drew.mono HB3.out.size))).mono λb hb hb2=>by have hb2:w2.heap.size≤b:=hb2;have:=blk_lt HR.out.cur;omega).trans (HT6.out.mono λb _ hb=>by have hb:b=gw:=hb;have:=HWQ.out;omega))
        go_wp2_with fail
        go_ret
        exact⟨congrArg (λb=>Ending.returned (Value.bool b)) (show true=r.2 from by rw[HRR.out]),by rw[HRR.out];exact HFIN.out.1,HPOST.out _ HFIN.out.2⟩
       ·skip
        have HNX:=hid (HNXT.out (by rw[HTF.out];simp[*]))
        have w1:IntKind.i64.wrap ((i:Int)+1)=(i:Int)+1:=HWI.out
        go_wp2_with fail
        go_roundw
        case rel=>exact⟨i+1,by have:=HLT.out;omega,by go_num,hid ⟨HM2.out,HNX.out⟩⟩
        case measure=>have:=HLT.out;simp[intOf];omega
     ·skip
      have HNX:=hid (HNXT.out (by rw[HTF.out];simp[*]))
      have w1:IntKind.i64.wrap ((i:Int)+1)=(i:Int)+1:=HWI.out
      go_wp2_with fail
      go_roundw
      case rel=>exact⟨i+1,by have:=HLT.out;omega,by go_num,hid ⟨HM2.out,HNX.out⟩⟩
      case measure=>have:=HLT.out;simp[intOf];omega
    ·have a2:¬(i:Int)<m:=by omega
     have HNONE:=hid (show r=(⟨wy++[cur],true⟩,false) from by
      rw[HTA.out,find_no (λn y hy=>hM.out.2 n y (by have h1:=(List.getElem?_eq_some_iff.1 hy).1;have h2:=Hm.out;omega) hy)])
     have HR4:=hid (HR3.out.on hM.out.1)
     have f3:=HR4.out.f3
     have z3:wr.frozen? ⟨q,3,none⟩=false:=Lib.frozen_of_heap HR4.out.cur 3
     have HT4:=hid (show Turn (λb=>q≤b) w2 wr from (Turn.of_below (B:=w2.heap.size) (HB3.out.trans (hM.out.1.mono HB3.out.size))).mono λb hb hb2=>by have hb2:w2.heap.size≤b:=hb2;have:=blk_lt HR.out.cur;omega)
     clear hM
     go_wp2_with fail
     go_ret
     have ht:=(Turn.refl (λb=>b=q) wr).setCell (p:=⟨q,3,none⟩) (.inr rfl) (.bool true)
     refine⟨congrArg (λb=>Ending.returned (Value.bool b)) (show false=r.2 from by rw[HNONE.out]),by
      rw[HNONE.out]
      exact⟨A,nT,cA,W,heap_setCell_same wr q 3 _ _ _ HR4.out.cur,HR4.out.list.keep TrR.good (λp hp=>ht.cell (Nat.lt_trans (HR4.out.fl _ hp) (blk_lt HR4.out.cur)) (λe=>by have e:p.block=q:=e;have:=HR4.out.fl _ hp;omega)),HR4.out.way.turn ht (λb hb e=>by have e:b=q:=e;have:=HR4.out.ne b hb;omega),HR4.out.ne,HR4.out.fl⟩,HPOST.out _ (HT4.out.trans (ht.mono λb _ hb=>by have hb:b=q:=hb;omega))⟩
theorem cur_form {c:CurA} (h0:c.way.length≠0):∃wy cur,c=⟨wy++[cur],c.fin⟩:=by
 have hne:c.way≠[]:=List.length_pos_iff.1 (by omega)
 refine⟨c.way.dropLast,c.way.getLast hne,?_⟩
 rw[List.dropLast_concat_getLast]
theorem slice_cut {g n c k:Nat} (hk:k≤n) (hn:n≤c) (W:World):(Instr.sliceAt 32 (.slice (some ⟨g,0,none⟩) n c) none (some (.int .i64 (k:Nat))) none).run Tryz.prog W = .ok (.slice (some ⟨g,0,none⟩) k c) W:=by
 rw[run_sliceAt_slice (h:=und_val),run_slice_h (ht:=und_val) (h0:=by omega) (h2:=by omega),sizeOf_val W]
 have e:(if c=0 then some (⟨g,0,none⟩:Addr) else (some (⟨g,0,none⟩:Addr)).map (·.add (0*6)))=some ⟨g,0,none⟩:=by
  split
  ·rfl
  ·show some ((⟨g,0,none⟩:Addr).add (0*6))=_
   rw[Addr.add_mid]
 show Result.ok (Value.slice (if c=0 then some (⟨g,0,none⟩:Addr) else (some (⟨g,0,none⟩:Addr)).map (·.add (0*6))) (((k:Nat):Int).toNat-0) (c-0)) W=_
 rw[e]
 simp
theorem row_head {α : Type} {E:TypeId} {sz:Nat} {R:α → Array Value→Prop} {w:World} {l:List α} {v:Value} (h:POwn E sz R w l v) (hl:0<l.length):∃g c,v = .slice (some ⟨g,0,none⟩) l.length c∧l.length≤c:=by
 obtain⟨A,c,e,h1,_⟩:=h.form
 obtain⟨cs,hrow,_⟩:=h
 obtain⟨g,c1,e1,_,_⟩:=hrow.form hl
 exact⟨g,c1,e1,by rw[e]at e1;injection e1 with _ _ e2;omega⟩
theorem rc_cells {F:Nat→Prop} {q j:Nat} {T:List Trip} {c:CurA} {A:Option Addr} {nT cA:Nat} {W:Value} {w w':World} (h:RcM F q j T c A nT cA W w) (ht:Turn (λb=>b=q) w w') {c':CurA} {W':Value}
    (hc:w'.heap[q]?=some (.cells #[.slice A nT cA,.string (wayT j),W',.bool c'.fin,.int .i64 (c'.way.length:Nat)] 55 (0,0))) (hw:POwn 34 6 CV w c'.way W') (hn:∀b,W'.ownBlock=some b→q<b):RcM F q j T c' A nT cA W' w':=
 ⟨hc,h.list.keep TrR.good (λp hp=>ht.cell (Nat.lt_trans (h.fl _ hp) (blk_lt h.cur)) (λe=>by have e:p.block=q:=e;have:=h.fl _ hp;omega)),hw.turn ht (λb hb e=>by have e:b=q:=e;have:=hn b hb;omega),hn,h.fl⟩
theorem turn_le {q:Nat} {w w':World} (ht:Turn (λb=>b=q) w w'):Turn (λb=>q≤b) w w':=ht.mono λb _ hb=>by have hb:b=q:=hb;omega
set_option maxRecDepth 100000 in
set_option maxHeartbeats 8000000 in
theorem upR_any {F:Nat→Prop} {q j:Nat} {T:List Trip} {c:CurA} {w:World} (h:RcRd F w q j T c) (hd:c.way.length≤3) :
    Calls Tryz.prog 23 #[.pointer (some ⟨q,0,none⟩)] w (RcDo F q j T (upA c) w):=by
 obtain⟨A,nT,cA,W,h⟩:=h
 have HR:=hid h
 have HD:=hid hd
 obtain⟨r,Hr⟩:=name_itV (upA c)
 rw[Hr.out]
 have f4:=HR.out.f4
 obtain⟨d,Hd⟩:=name_itV c.way.length
 rw[Hd.out]at f4
 clear h hd
 go_enter Tryz.func23,Tryz.ntmps23
 by_cases hd0:d=0
 ·have HE:=hid (show r=(c,false) from by rw[←Hr.out];exact up_none (by rw[Hd.out];exact hd0))
  subst hd0
  go_wp2_with fail
  go_ret
  exact⟨congrArg (λb=>Ending.returned (Value.bool b)) (show false=r.2 from by rw[HE.out]),by rw[HE.out];exact⟨A,nT,cA,W,HR.out⟩,Turn.refl _ _⟩
 ·have e0:¬(d:Int)=0:=by omega
  obtain⟨wy,cur,fe⟩:=cur_form (c:=c) (by rw[Hd.out];exact hd0)
  obtain⟨fn,Hfn⟩:=name_itV c.fin
  rw[Hfn.out]at fe
  subst fe
  obtain⟨d1,Hd1⟩:=name_itV wy.length
  have HDD:=hid (show d=d1+1 from by rw[←Hd.out,←Hd1.out];simp)
  have HD3:=hid (show d≤3 from by rw[←Hd.out];exact HD.out)
  have HE:=hid (show r=(⟨wy,false⟩,true) from by rw[←Hr.out];unfold upA;rw[if_neg (by simp)];simp)
  obtain⟨gw,cw,eW,hcw⟩:=row_head HR.out.way (by show 0<(wy++[cur]).length;simp)
  rw[show (CurA.mk (wy++[cur]) fn).way.length=d from Hd.out]at eW hcw
  subst eW
  have HWY:=hid (show POwn 34 6 CV w (wy++[cur]) (.slice (some ⟨gw,0,none⟩) d cw) from HR.out.way)
  have HGQ:=hid (show q<gw from HR.out.ne gw rfl)
  have HCW:=hid hcw
  have HSL:=hid (λV=>slice_cut (g:=gw) (n:=d) (c:=cw) (k:=d1) (by have h2:d=d1+1:=HDD.out;omega) HCW.out V)
  have wd:wrap64 ((d:Int)-1)=(d1:Int):=(IntWalk.wrap64_in _ (by have h2:d=d1+1:=HDD.out;have:=HD3.out;omega)).trans (by have h2:d=d1+1:=HDD.out;omega)
  have z4:w.frozen? ⟨q,4,none⟩=false:=Lib.frozen_of_heap HR.out.cur 4
  obtain⟨w1,Hw1⟩:=name_itV (w.setCell ⟨q,4,none⟩ (.int .i64 (d1:Nat)))
  have HC1:=hid (show w1.heap[q]?=some (.cells #[.slice A nT cA,.string (wayT j),.slice (some ⟨gw,0,none⟩) d cw,.bool fn,.int .i64 (d1:Nat)] 55 (0,0)) from by rw[←Hw1.out];exact heap_setCell_same w q 4 _ _ _ HR.out.cur)
  have HT1:=hid (show Turn (λb=>b=q) w w1 from by rw[←Hw1.out];exact (Turn.refl (λb=>b=q) w).setCell (p:=⟨q,4,none⟩) (.inr rfl) _)
  clear hcw hd0
  go_upto_region 4 with fail
  rw[Hw1.out]
  clear wd z4 f4 e0
  have p2:w1.cell? ⟨q,2,none⟩=some (.slice (some ⟨gw,0,none⟩) d cw):=cell_of_heap HC1.out 2
  have z2:w1.frozen? ⟨q,2,none⟩=false:=Lib.frozen_of_heap HC1.out 2
  refine wp_region_held_drew (S:=λW'=>W'.cell? ⟨q,4,none⟩=some (.int .i64 (d1:Nat))) (by kernel_rfl) (cell_of_heap HC1.out 4) (λhHeld=>?_)
  refine Boxed.out ?_
  refine tkW 0 15 (.pointer (some ⟨q,0,none⟩)) hHeld (λw hSw=>?_) (λhHeld=>?_)
  ·unfold runsTo
   go_simp
  try simp only[Act.put,aT,aZ,aS]
  refine tkW 1 16 (.pointer (some ⟨q,0,none⟩)) hHeld (λw hSw=>?_) (λhHeld=>?_)
  ·unfold runsTo
   go_simp
  try simp only[Act.put,aT,aZ,aS]
  refine tkW 2 17 (.pointer (some ⟨q,0,none⟩)) hHeld (λw hSw=>?_) (λhHeld=>?_)
  ·unfold runsTo
   go_simp
  try simp only[Act.put,aT,aZ,aS]
  refine tkW 3 18 (.pointer (some ⟨q,2,none⟩)) hHeld (λw hSw=>?_) (λhHeld=>?_)
  ·unfold runsTo
   go_simp
  try simp only[Act.put,aT,aZ,aS]
  refine tkW 5 20 (.pointer (some ⟨q,0,none⟩)) hHeld (λw hSw=>?_) (λhHeld=>?_)
  ·unfold runsTo
   go_simp
  try simp only[Act.put,aT,aZ,aS]
  refine tkW 6 21 (.pointer (some ⟨q,0,none⟩)) hHeld (λw hSw=>?_) (λhHeld=>?_)
  ·unfold runsTo
   go_simp
  try simp only[Act.put,aT,aZ,aS]
  refine tkW 7 22 (.pointer (some ⟨q,4,none⟩)) hHeld (λw hSw=>?_) (λhHeld=>?_)
  ·unfold runsTo
   go_simp
  try simp only[Act.put,aT,aZ,aS]
  refine tkW 8 23 (.int .i64 (d1:Nat)) hHeld (λw hSw=>?_) (λhHeld=>?_)
  ·have p:=hSw
   unfold runsTo
   go_simp
  try simp only[Act.put,aT,aZ,aS]
  refine tkC 4 (λK hK=>?_)
  unfold wpAt
  go_simp
  refine hK.out _ _ hHeld (λhHeld=>?_)
  clear hK K
  try simp only[Act.put,aT,aZ,aS]
  refine tkW 9 24 (.slice (some ⟨gw,0,none⟩) d1 cw) hHeld (λw hSw=>?_) (λhHeld=>?_)
  ·exact val_of (HSL.out w)
  try simp only[Act.put,aT,aZ,aS]
  refine tkW 10 25 (.pointer (some ⟨q,0,none⟩)) hHeld (λw hSw=>?_) (λhHeld=>?_)
  ·unfold runsTo
   go_simp
  try simp only[Act.put,aT,aZ,aS]
  refine tkW 11 26 (.pointer (some ⟨q,2,none⟩)) hHeld (λw hSw=>?_) (λhHeld=>?_)
  ·unfold runsTo
   go_simp
  try simp only[Act.put,aT,aZ,aS]
  refine tkC 12 (λK hK=>?_)
  unfold wpAt
  go_simp
  refine hK.out _ _ ?_ (λhHeld=>?_)
  ·exact cell_of_heap (heap_setCell_same w1.drew q 2 _ _ (.slice (some ⟨gw,0,none⟩) d1 cw) HC1.out) 4
  clear hK K
  try simp only[Act.put,aT,aZ,aS]
  refine⟨wpAnyH_done (by kernel_rfl) ?_ _⟩
  clear hHeld
  obtain⟨w2,Hw2⟩:=name_itV (w1.setCell ⟨q,2,none⟩ (.slice (some ⟨gw,0,none⟩) d1 cw)).drew
  have HC2:=hid (show w2.heap[q]?=some (.cells #[.slice A nT cA,.string (wayT j),.slice (some ⟨gw,0,none⟩) d1 cw,.bool fn,.int .i64 (d1:Nat)] 55 (0,0)) from by rw[←Hw2.out];exact heap_setCell_same w1 q 2 _ _ _ HC1.out)
  have HT2:=hid (show Turn (λb=>b=q) w w2 from HT1.out.trans (by rw[←Hw2.out];exact ((Turn.refl (λb=>b=q) w1).setCell (p:=⟨q,2,none⟩) (.inr rfl) _).drew))
  have z3:w2.frozen? ⟨q,3,none⟩=false:=Lib.frozen_of_heap HC2.out 3
  have p3:w2.cell? ⟨q,3,none⟩=some (.bool fn):=cell_of_heap HC2.out 3
  clear p2 z2
  have HFIN:=hid (show RcRd F (w2.setCell ⟨q,3,none⟩ (.bool false)) q j T ⟨wy,false⟩∧Turn (λb=>q≤b) w (w2.setCell ⟨q,3,none⟩ (.bool false)) from by
   have ht:=HT2.out.trans ((Turn.refl (λb=>b=q) w2).setCell (p:=⟨q,3,none⟩) (.inr rfl) (.bool false))
   have hcut:=HWY.out.cut cellV_plain Hd.out (k:=d1) (by have h2:d=d1+1:=HDD.out;omega)
   rw[show (wy++[cur]).take d1=wy from by rw[←Hd1.out];exact List.take_left' rfl]at hcut
   refine⟨⟨A,nT,cA,.slice (some ⟨gw,0,none⟩) d1 cw,rc_cells HR.out ht ?_ hcut (λb hb=>by injection hb with hb;rw[←hb];exact HGQ.out)⟩,turn_le ht⟩
   rw[show (CurA.mk wy false).way.length=d1 from Hd1.out]
   exact heap_setCell_same w2 q 3 _ _ _ HC2.out)
  rw[Hw2.out]
  go_wp2_with fail
  go_ret
  exact⟨congrArg (λb=>Ending.returned (Value.bool b)) (show true=r.2 from by rw[HE.out]),by rw[HE.out];exact HFIN.out.1,HFIN.out.2⟩
set_option maxRecDepth 100000 in
set_option maxHeartbeats 8000000 in
theorem seekR_any {F:Nat→Prop} {q j:Nat} {T:List Trip} {c:CurA} {w:World} (h:RcRd F w q j T c) (hH:RcH T j) (hd:c.way.length≤3) (v:Val) (sv:Value) (fv:FitV v) :
    Calls Tryz.prog 26 #[.pointer (some ⟨q,0,none⟩),.agg (cellsV v sv)] w (RcDo F q j T (toA T (wayN j) false v c) w):=by
 obtain⟨u,Hu⟩:=name6 v sv
 obtain⟨z,Hz⟩:=name_itV w.heap.size
 obtain⟨w2,HW2⟩:=name_itV (w.alloc (.cells u 34))
 have HB2:=hid (show Below w.heap.size w w2 from by rw[←HW2.out];exact (Below.refl _ _).alloc (Nat.le_refl _) _)
 have HX:=hid (show w2.heap[z]?=some (.cells u 34 (0,0)) from by rw[←HW2.out,←Hz.out];exact heap_alloc_new w _)
 have IU:=hid (infoV6.trans (congrArg some Hu.size.symm))
 have hto:=toR_any (h.on HB2.out) hH hd false v sv fv
 rw[Hu.out]at hto ⊢
 have HQ:=hid (show q<w.heap.size from by obtain⟨_,_,_,_,h⟩:=h;exact blk_lt h.cur)
 have HTO:=hid hto
 clear hto h hH hd fv
 go_enter Tryz.func26,Tryz.ntmps26
 go_upto_region 1 with fail
 rw[HW2.out,Hz.out]
 clear HW2
 go_wp2_with ((with_reducible refine at_dst (some 6) ?_);refine ld_armG (by rfl) 34 _ rfl rfl u _ (row_at HX.out) Tryz.underlying34 rfl IU.out ?_)
 refine HTO.out.mono ?_
 unfold RcDo
 rintro e w3 ⟨rfl,hr,ht⟩
 have HR3:=hid hr
 have HT3:=hid (show Turn (λb=>q≤b) w w3 from ((Turn.of_below HB2.out).mono λb hb hb2=>by have hb2:w.heap.size≤b:=hb2;have:=HQ.out;omega).trans ht)
 clear hr ht
 go_wp2_with fail
 go_ret
 exact⟨rfl,HR3.out,HT3.out⟩
set_option maxRecDepth 100000 in
set_option maxHeartbeats 8000000 in
theorem keyR_any {F:Nat→Prop} {q j:Nat} {T:List Trip} {c:CurA} {w:World} (h:RcRd F w q j T c) (hd:c.way.length≤3) :
    Calls Tryz.prog 27 #[.pointer (some ⟨q,0,none⟩)] w (KeyRes (keyA c) w):=by
 obtain⟨A,nT,cA,W,h⟩:=h
 obtain⟨z,Hz⟩:=name_itV w.heap.size
 obtain⟨w2,HW2⟩:=name_itV (w.alloc (.cells #[.int .i64 0,.bool false,.int .i64 0,.string ⟨#[]⟩,.string ⟨#[]⟩,.slice none 0 0] 34))
 have HB2:=hid (show Below w.heap.size w w2 from by rw[←HW2.out];exact (Below.refl _ _).alloc (Nat.le_refl _) _)
 have HX:=hid (show w2.heap[z]?=some (.cells #[.int .i64 0,.bool false,.int .i64 0,.string ⟨#[]⟩,.string ⟨#[]⟩,.slice none 0 0] 34 (0,0)) from by rw[←HW2.out,←Hz.out];exact heap_alloc_new w _)
 have HZL:=hid (show w.heap.size=z from Hz.out)
 have HR:=hid (h.on HB2.out)
 have HR0:=hid h
 have HD:=hid hd
 obtain⟨o,Ho⟩:=name_itV (keyA c)
 rw[Ho.out]
 have f4:=HR.out.f4
 have f3:=HR.out.f3
 obtain⟨d,Hd⟩:=name_itV c.way.length
 obtain⟨fn,Hfn⟩:=name_itV c.fin
 rw[Hd.out]at f4
 rw[Hfn.out]at f3
 have HNO:=hid (show (d=0∨fn=true)→o=none from λhh=>by
  rw[←Ho.out]
  exact CurN.key_none (by rcases hh with hh | hh;exact .inr (by rw[Hd.out];exact hh);exact .inl (by rw[Hfn.out];exact hh)))
 have IZ:=hid (show (Tryz.prog.info? 34).map (·.size)=some (#[.int .i64 0,.bool false,.int .i64 0,.string ⟨#[]⟩,.string ⟨#[]⟩,.slice none 0 0]:Array Value).size from infoV6)
 have OZ:=hid (show (#[.int .i64 0,.bool false,.int .i64 0,.string ⟨#[]⟩,.string ⟨#[]⟩,.slice none 0 0]:Array Value).all (·.oneCell')=true from by kernel_rfl)
 clear h hd
 go_enter Tryz.func27,Tryz.ntmps27
 go_upto_region 1 with fail
 rw[HW2.out,Hz.out]
 clear HW2
 by_cases hd0:d=0
 ·have HN:=hid (HNO.out (.inl hd0))
  subst hd0
  go_wp2_with ((with_reducible refine at_st 2 ?_);refine st_row rfl 34 _ _ rfl z (#[.int .i64 0,.bool false,.int .i64 0,.string ⟨#[]⟩,.string ⟨#[]⟩,.slice none 0 0]) (#[.int .i64 0,.bool false,.int .i64 0,.string ⟨#[]⟩,.string ⟨#[]⟩,.slice none 0 0]) 34 rfl rfl HX.out rfl IZ.out OZ.out ?_;intro w5 hw5 ht5)
  have HB5:=hid (show Below w.heap.size w w5 from below_turn HB2.out ht5 (λb hb=>by have hb:b=z:=hb;have:=HZL.out;omega))
  refine bodyPost_ret (v:=.tuple #[.agg #[.int .i64 0,.bool false,.int .i64 0,.string ⟨#[]⟩,.string ⟨#[]⟩,.slice none 0 0],.bool false]) (results_row2 Tryz.results27 (g:=z) rfl hw5 _ Tryz.underlying34 rfl IZ.out rfl) rfl (by
   rw[HN.out]
   exact⟨none,0,rfl,HB5.out⟩)
 ·have e0:¬(d:Int)=0:=by omega
  cases fn with
  | true=>
   have HN:=hid (HNO.out (.inr rfl))
   go_wp2_with ((with_reducible refine at_st 2 ?_);refine st_row rfl 34 _ _ rfl z (#[.int .i64 0,.bool false,.int .i64 0,.string ⟨#[]⟩,.string ⟨#[]⟩,.slice none 0 0]) (#[.int .i64 0,.bool false,.int .i64 0,.string ⟨#[]⟩,.string ⟨#[]⟩,.slice none 0 0]) 34 rfl rfl HX.out rfl IZ.out OZ.out ?_;intro w5 hw5 ht5)
   have HB5:=hid (show Below w.heap.size w w5 from below_turn HB2.out ht5 (λb hb=>by have hb:b=z:=hb;have:=HZL.out;omega))
   refine bodyPost_ret (v:=.tuple #[.agg #[.int .i64 0,.bool false,.int .i64 0,.string ⟨#[]⟩,.string ⟨#[]⟩,.slice none 0 0],.bool false]) (results_row2 Tryz.results27 (g:=z) rfl hw5 _ Tryz.underlying34 rfl IZ.out rfl) rfl (by
    rw[HN.out]
    exact⟨none,0,rfl,HB5.out⟩)
  | false=>
   obtain⟨wy,cur,fe⟩:=cur_form (c:=c) (by rw[Hd.out];exact hd0)
   rw[Hfn.out]at fe
   subst fe
   have HO:=hid (show o=some cur from by rw[←Ho.out];exact keyA_at)
   obtain⟨d1,Hd1⟩:=name_itV wy.length
   have HDD:=hid (show d=d1+1 from by rw[←Hd.out,←Hd1.out];simp)
   have HD3:=hid (show d≤3 from by rw[←Hd.out];exact HD.out)
   have HWD:=hid (show IntKind.i64.wrap ((d:Int)-1)=(d1:Int) from by have h2:d=d1+1:=HDD.out;have:=HD3.out;rw[IntWalk.i64_in _ (by omega)];omega)
   obtain⟨gw,cw,eW,hcw⟩:=row_head HR.out.way (by show 0<(wy++[cur]).length;simp)
   rw[show (CurA.mk (wy++[cur]) false).way.length=d from Hd.out]at eW hcw
   subst eW
   have hcur:(wy++[cur])[d1]?=some cur:=by rw[←Hd1.out,List.getElem?_append_right (Nat.le_refl _),Nat.sub_self];rfl
   obtain⟨adw,cv,eA,hlw,hcv,hqw⟩:=POwn.cell cellV_plain (show POwn 34 6 CV w2 (wy++[cur]) (.slice (some ⟨gw,0,none⟩) d cw) from HR.out.way) Hd.out hcur
   injection eA with eA
   subst eA
   have IV:=hid (infoV6.trans (congrArg some (CellV.size hcv).symm))
   have SV:=hid (show cv.size=(#[.int .i64 0,.bool false,.int .i64 0,.string ⟨#[]⟩,.string ⟨#[]⟩,.slice none 0 0]:Array Value).size from by rw[CellV.size hcv];rfl)
   have OV:=hid (show cv.all (·.oneCell')=true from by obtain⟨_,A,cp,rfl⟩:=hcv;kernel_rfl)
   have HQW:=hid hqw
   have HCV:=hid hcv
   have HKD:=hid (show d1<d from by have h2:d=d1+1:=HDD.out;omega)
   have HF2:=hid HR.out.f2
   have HF4:=hid (show w2.cell? ⟨q,4,none⟩=some (.int .i64 (d:Nat)) from f4)
   clear hlw hcv hqw hcur hcw hd0
   go_upto_region 3 with fail
   clear f3 f4
   refine wp_region_held_drew (S:=λW'=>W'.cell? ⟨q,2,none⟩=some (.slice (some ⟨gw,0,none⟩) d cw)∧W'.cell? ⟨q,4,none⟩=some (.int .i64 (d:Nat))∧∀y,y<cv.size→W'.cell? (((⟨gw,0,none⟩:Addr).add (d1*6)).add y)=cv[y]?) (by kernel_rfl) ⟨HF2.out,HF4.out,HQW.out⟩ (λhHeld=>?_)
   refine Boxed.out ?_
   refine tkW 0 16 (.pointer (some ⟨q,0,none⟩)) hHeld (λw hSw=>?_) (λhHeld=>?_)
   ·unfold runsTo
    go_simp
   try simp only[Act.put,aT,aZ,aS]
   refine tkW 1 17 (.pointer (some ⟨q,0,none⟩)) hHeld (λw hSw=>?_) (λhHeld=>?_)
   ·unfold runsTo
    go_simp
   try simp only[Act.put,aT,aZ,aS]
   refine tkW 2 18 (.pointer (some ⟨q,2,none⟩)) hHeld (λw hSw=>?_) (λhHeld=>?_)
   ·unfold runsTo
    go_simp
   try simp only[Act.put,aT,aZ,aS]
   refine tkW 3 19 (.slice (some ⟨gw,0,none⟩) d cw) hHeld (λw hSw=>?_) (λhHeld=>?_)
   ·have p:=hSw.1
    unfold runsTo
    go_simp
   try simp only[Act.put,aT,aZ,aS]
   refine tkW 4 20 (.pointer (some ⟨q,0,none⟩)) hHeld (λw hSw=>?_) (λhHeld=>?_)
   ·unfold runsTo
    go_simp
   try simp only[Act.put,aT,aZ,aS]
   refine tkW 5 21 (.pointer (some ⟨q,0,none⟩)) hHeld (λw hSw=>?_) (λhHeld=>?_)
   ·unfold runsTo
    go_simp
   try simp only[Act.put,aT,aZ,aS]
   refine tkW 6 22 (.pointer (some ⟨q,4,none⟩)) hHeld (λw hSw=>?_) (λhHeld=>?_)
   ·unfold runsTo
    go_simp
   try simp only[Act.put,aT,aZ,aS]
   refine tkW 7 23 (.int .i64 (d:Nat)) hHeld (λw hSw=>?_) (λhHeld=>?_)
   ·have p:=hSw.2.1
    unfold runsTo
    go_simp
   try simp only[Act.put,aT,aZ,aS]
   refine tkW 8 24 (.int .i64 (d1:Nat)) hHeld (λw hSw=>?_) (λhHeld=>?_)
   ·have p:=HWD.out
    unfold runsTo
    go_simp
   try simp only[Act.put,aT,aZ,aS]
   refine tkW 9 25 (.pointer (some ((⟨gw,0,none⟩:Addr).add (d1*6)))) hHeld (λw hSw=>?_) (λhHeld=>?_)
   ·exact val_of (idx_val ⟨gw,0,none⟩ d cw d1 HKD.out w)
   try simp only[Act.put,aT,aZ,aS]
   refine tkW 10 26 (.agg cv) hHeld (λw hSw=>?_) (λhHeld=>?_)
   ·have p:=run_loadVar_at w ((⟨gw,0,none⟩:Addr).add (d1*6)) 34 cv _ hSw.2.2 Tryz.underlying34 rfl IV.out
    exact val_of (by simp only[Instr.loadAt,Instr.sureAddr,Sem.run_bind];exact p)
   try simp only[Act.put,aT,aZ,aS]
   refine tkC 11 (λK hK=>?_)
   change Oper.wp _ ⟨none,_,_,_,_,_⟩ _ _ _ _
   refine st_rowW 34 _ _ rfl z (#[.int .i64 0,.bool false,.int .i64 0,.string ⟨#[]⟩,.string ⟨#[]⟩,.slice none 0 0]) cv 34 rfl rfl HX.out SV.out IV.out OV.out ?_
   intro w6 hw6 ht6
   have HW6:=hid hw6
   have HB6:=hid (show Below w.heap.size w w6 from below_turn HB2.out.drew ht6 (λb hb=>by have hb:b=z:=hb;have:=HZL.out;omega))
   have hqz:¬q=z:=λe=>by have:=HZL.out;have h2:=blk_lt HR0.out.cur;omega
   have hgz:¬gw=z:=λe=>by have:=HZL.out;have h2:=HR0.out.way.lt (b:=gw) rfl;omega
   refine hK.out _ _ ⟨(ht6.cell (blk_lt HR.out.cur) hqz).trans hHeld.1,(ht6.cell (blk_lt HR.out.cur) hqz).trans hHeld.2.1,λy hy=>(ht6.cell (by rw[add_blk,add_blk];exact HR.out.way.lt (b:=gw) rfl) (λe=>by rw[add_blk,add_blk]at e;exact hgz e)).trans (hHeld.2.2 y hy)⟩ (λhHeld=>?_)
   clear hK K
   try simp only[Act.put,aT,aZ,aS]
   refine tkW 12 3 (.bool true) hHeld (λw hSw=>?_) (λhHeld=>?_)
   ·unfold runsTo
    go_simp
   try simp only[Act.put,aT,aZ,aS]
   refine⟨wpAnyH_done (by kernel_rfl) ?_ _⟩
   clear hHeld
   go_wp2_with fail
   refine bodyPost_ret (v:=.tuple #[.agg cv,.bool true]) (results_row2 Tryz.results27 (g:=z) rfl HW6.out _ Tryz.underlying34 rfl IV.out rfl) rfl (by
    rw[HO.out]
    obtain⟨_,A,cp,e⟩:=HCV.out
    exact⟨A,cp,by rw[e];rfl,HB6.out⟩)
end Go.Proofs.YtijciakkfpjjbaaGreatDoor
