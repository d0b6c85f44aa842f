/- What Load tells; its six rows of numbers while they are made. -/
import Derived.Test.YtefhfadjajcmkaaGreatDoorKC
set_option linter.unusedVariables false
set_option linter.unusedSimpArgs false
set_option maxRecDepth 100000
set_option maxHeartbeats 8000000
namespace Go.Proofs.YtefhfadjajcmkaaGreatDoor
open Go Go.RowKit Go.Maps
open Go.Lib (hid cell_of_heap)
structure RwM (w:World) (b cap n:Nat) (cs:Nat→Array Value) (wx:World):Prop where
 turn:Turn (λq=>q=b) w wx
 blk:∃cur,wx.heap[b]?=some (.cells cur 99 (0,0))∧cur.size=cap*18∧∀a,a<n→∀j,j<18→cur[a*18+j]?=(cs a)[j]?
section
variable {w wx w':World} {b cap n a:Nat} {cs:Nat→Array Value}
theorem RwM.drew (h:RwM w b cap n cs wx):RwM w b cap n cs wx.drew:=⟨h.turn.drew,h.blk⟩
theorem RwM.on (h:RwM w b cap n cs wx) (hb:Below wx.heap.size wx w'):RwM w b cap n cs w':=by
 obtain⟨cur,h1,h2,h3⟩:=h.blk
 exact⟨h.turn.trans ⟨hb.os,hb.tape,hb.output,hb.size,λk hk _=>hb.block k hk⟩,cur,(hb.block b (blk_lt h1)).trans h1,h2,h3⟩
theorem RwM.range (h:RwM w b cap n cs wx) (ha:a<n) (hc:(cs a).size=18):wx.rangeAt b (a*18) (cs a).toList:=by
 obtain⟨cur,h1,h2,h3⟩:=h.blk
 refine range_at (λj hj=>?_) hc
 rw[cell_of_row wx b (a*18+j) cur _ _ h1,h3 a ha j hj]
theorem RwM.there (h:RwM w b cap n cs wx) (ha:a<n) (hn:n≤cap):wx.there b (a*18) 18:=by
 obtain⟨cur,h1,h2,h3⟩:=h.blk
 intro j hj
 have hlt:a*18+j<cur.size:=by rw[h2];omega
 exact⟨by rw[cell_of_row wx b (a*18+j) cur _ _ h1,Array.getElem?_eq_getElem hlt];rfl,frozen_of_row _ _ _ _ _ h1⟩
theorem RwM.store (h:RwM w b cap n cs wx) {c:Array Value} (hc:c.size=18) (hn:n≤cap) (ha:a<n):RwM w b cap n (λi=>if i=a then c else cs i) (wx.setCells b (a*18) c.toList):=by
 obtain⟨cur,h1,h2,h3⟩:=h.blk
 obtain⟨c',g1,g2,g3⟩:=cells_heap c.toList (a*18) h1
 refine⟨turn_cells (S:=λq=>q=b) b (.inr rfl) _ _ h.turn,c',g1,by rw[g2,h2],λi hi j hj=>?_⟩
 rw[g3,Array.length_toList,hc]
 by_cases e:i=a
 ·subst e
  have hlt:i*18+j<cur.size:=by rw[h2];omega
  rw[if_pos ⟨by omega,by omega,hlt⟩,if_pos rfl,Nat.add_sub_cancel_left,Array.getElem?_toList]
 ·rw[if_neg (by omega),if_neg e]
  exact h3 i hi j hj
theorem RwM.clear (h:RwM w b cap n cs wx) {k:Nat} (hk:k≤n) (zs:List Value):RwM w b cap k cs (wx.setCells b (k*18) zs):=by
 obtain⟨cur,h1,h2,h3⟩:=h.blk
 obtain⟨c',g1,g2,g3⟩:=cells_heap zs (k*18) h1
 refine⟨turn_cells (S:=λq=>q=b) b (.inr rfl) _ _ h.turn,c',g1,by rw[g2,h2],λi hi j hj=>?_⟩
 rw[g3,if_neg (by omega)]
 exact h3 i (by omega) j hj
theorem RwM.congr (h:RwM w b cap n cs wx) {cs':Nat→Array Value} (hc:∀i,i<n→cs i=cs' i):RwM w b cap n cs' wx:=by
 obtain⟨cur,h1,h2,h3⟩:=h.blk
 exact⟨h.turn,cur,h1,h2,λi hi j hj=>by rw[←hc i hi];exact h3 i hi j hj⟩
def ElT (K:List Trip) (cs:Nat→Array Value):Prop:=∀i t,K[i]?=some t→ScalT t∧(∀n,FitV (t.get n))∧∃ss:Nat→Value,(∀n,n<3→∃A cap,ss n = .slice A 0 cap)∧cs i=cellsT t ss
theorem RwM.own (h:RwM w b cap n cs wx) {K:List Trip} (he:ElT K cs) (hl:K.length=n) (hn:n≤cap) (hm:cap≤maxLen) {F:Nat→Prop} (hF:F b):SOwn 99 18 TrS wx F K (.slice (some ⟨b,0,none⟩) n cap):=by
 obtain⟨cur,h1,h2,h3⟩:=h.blk
 have hs:∀i,i<n→(cs i).size=18:=λi hi=>by
  obtain⟨_,_,ss,_,e⟩:=he i _ (List.getElem?_eq_getElem (by rw[hl];exact hi))
  rw[e];rfl
 subst hl
 refine⟨cs,⟨flatC_length hs,.inr ⟨b,cap,cur,rfl,Nat.zero_le _,h1,hn,hm,h2,?_⟩⟩,hs,λg hg=>by injection hg with hg;rw[←hg];exact hF,λi x hx=>he i x hx⟩
 apply List.ext_getElem?
 intro t
 by_cases ht:t<K.length*18
 ·have hi:t / 18<K.length:=by omega
  have h4:=flatC_at hs hi (Nat.mod_lt t (by decide:0<18))
  rw[show t / 18*18+t % 18=t by omega]at h4
  rw[List.getElem?_take_of_lt ht,h4,Array.getElem?_toList]
  have h5:=h3 (t / 18) hi (t % 18) (Nat.mod_lt t (by decide:0<18))
  rwa [show t / 18*18+t % 18=t by omega]at h5
 ·rw[List.getElem?_take_eq_none (by omega),List.getElem?_eq_none (by rw[flatC_length hs];omega)]
end
theorem st_rw {P:Program} {ops:Array Oper} {rest:List Oper} {op:Oper} {act:Act} {w wx:World} {Q:Exit→Act→World→Prop} {b cap n:Nat} {cs:Nat→Array Value} (hgd:op.guard=none) (ty:TypeId) (x y:Operand) (ho:op.op = .store ty x y) (a:Nat) (c:Array Value)
    (hx:act.eval x = .pointer (some ⟨b,a*18,none⟩)) (hy:act.eval y = .agg c) (hR:RwM w b cap n cs wx) (ha:a<n) (hn:n≤cap) (hc:c.size=18) (hi:(P.info? ty).map (·.size)=some 18) (h1:c.all (·.oneCell')=true)
    (h:∀w',RwM w b cap n (λi=>if i=a then c else cs i) w'→wpList P ops Q rest (act.put op.dst undef) w'):wpList P ops Q (op::rest) act wx:=
 wpList_store_mid hgd ty x y ho b (a*18) c hx hy (by rw[hc];exact hR.there ha hn) (by rw[hc];exact hi) h1 (h _ (hR.store hc hn ha))
theorem rw_of {w:World} {F:Nat→Prop} {L:List Trip} {b n cap:Nat} (h:SOwn 99 18 TrS w F L (.slice (some ⟨b,0,none⟩) n cap)):∃cs,ElT L cs∧RwM w b cap n cs w∧L.length=n∧n≤cap∧cap≤maxLen∧F b:=by
 obtain⟨A,cp,e⟩:=h.form
 injection e with _ e _
 obtain⟨cs,hrow,h6,hF,hr⟩:=h
 rcases hrow.2 with⟨h0,_⟩ | ⟨g,cp',cur,h0,_,hg,h1,h2,h3,h4⟩
 ·cases h0
 ·injection h0 with h0 h5 h6'
  injection h0 with h0
  injection h0 with h0
  subst h0 h6'
  refine⟨cs,hr,⟨Turn.refl _ _,cur,hg,h3,λa ha j hj=>?_⟩,e.symm,by omega,h2,hF b rfl⟩
  have h7:=flatC_at h6 (show a<L.length by omega) hj
  rw[←h4,List.getElem?_take_of_lt (by omega),Array.getElem?_toList]at h7
  exact h7
theorem cpt_take {o:Trip→Trip→Int} {L:List Trip} {m:Nat} {x y:Trip} (hm:L[m+1]?=some x) (hy:L[m]?=some y):cpt o (L.take (m+2))=cpt o (L.take (m+1))++(if o x y=0 then [] else [x]):=by
 cases L with
 | nil=>simp at hm
 | cons a r=>
  have h1:r[m]?=some x:=by simpa using hm
  rw[List.take_succ_cons,List.take_succ_cons]
  have hl:=(List.getElem?_eq_some_iff.1 h1).1
  rw[take_oneMore h1]
  show a::cptR o a (r.take m++[x])=a::cptR o a (r.take m)++_
  rw[cptR_snoc]
  have hlast:(r.take m).getLastD a=y:=by
   cases m with
   | zero=>simp at hy;simpa using hy
   | succ m=>
    have h2:r[m]?=some y:=by simpa using hy
    rw[take_oneMore h2]
    simp
  rw[hlast]
  rfl
theorem cpt_len (o:Trip→Trip→Int) (L:List Trip):(cpt o L).length≤L.length:=by
 cases L with
 | nil=>exact Nat.le_refl _
 | cons a r=>
  show (cptR o a r).length+1≤r.length+1
  have:∀p,(cptR o p r).length≤r.length:=by
   induction r with
   | nil=>intro p;exact Nat.le_refl _
   | cons b r ih=>
    intro p
    unfold cptR
    split
    ·exact Nat.le_trans (ih b) (by simp)
    ·have:=ih b;simp;omega
  have:=this a
  omega
theorem storeCells_zero {P:Program} (w:World) (b o:Nat) (vs:List Value) (h1:∀j,j<vs.length→(w.cell? ⟨b,o+j,none⟩).isSome=true) (h2:∀j,j<vs.length→w.frozen? ⟨b,o+j,none⟩=false) (h3:∀v∈vs,v.oneCell'=true) :
    (storeCells ⟨b,o,none⟩ vs).run P w = .ok () (w.setCells b o vs):=run_storeCells_cells b o vs 0 w (λj hj=>h1 j hj) (λj hj=>h2 j hj) h3
theorem zero75 (w:World):(zeroValue 99).run Tryz.prog w = .ok (.agg #[.int .i64 0,.bool false,.int .i64 0,.string ⟨#[]⟩,.string ⟨#[]⟩,.slice none 0 0,.int .i64 0,.bool false,.int .i64 0,.string ⟨#[]⟩,.string ⟨#[]⟩,.slice none 0 0,.int .i64 0,.bool false,.int .i64 0,.string ⟨#[]⟩,.string ⟨#[]⟩,.slice none 0 0]) w:=by kernel_rfl
theorem clear_run {w wx:World} {b cap n k:Nat} {cs:Nat→Array Value} (h:RwM w b cap n cs wx) (hn:n≤cap) (hk:k<n):∃zs,∀ty,(Builtin.clear_ #[93] ty #[.slice (some ⟨b,k*18,none⟩) (n-k) (cap-k)]).run Tryz.prog wx = .ok (.tuple #[]) (wx.setCells b (k*18) zs):=by
 obtain⟨cur,h1,h2,h3⟩:=h.blk
 obtain⟨Z,hZ⟩:∃Z:Array Value,Z=#[.int .i64 0,.bool false,.int .i64 0,.string ⟨#[]⟩,.string ⟨#[]⟩,.slice none 0 0,.int .i64 0,.bool false,.int .i64 0,.string ⟨#[]⟩,.string ⟨#[]⟩,.slice none 0 0,.int .i64 0,.bool false,.int .i64 0,.string ⟨#[]⟩,.string ⟨#[]⟩,.slice none 0 0]:=⟨_,rfl⟩
 have hz:=zero75 wx
 rw[←hZ]at hz
 have hZ18:Z.size=18:=by rw[hZ];rfl
 have hZ1:∀v∈Z.toList,v.oneCell'=true:=by
  rw[hZ]
  intro v hv
  simp only[List.mem_cons,List.not_mem_nil,or_false]at hv
  rcases hv with rfl | rfl | rfl | rfl | rfl | rfl | rfl | rfl | rfl | rfl | rfl | rfl | rfl | rfl | rfl | rfl | rfl | rfl<;>rfl
 have hzs:(Builtin.zeroCells Z (n-k)).size=(n-k)*18:=by unfold Builtin.zeroCells;simp[hZ18]
 refine⟨(Builtin.zeroCells Z (n-k)).toList,λty=>?_⟩
 have hst:=storeCells_zero (P:=Tryz.prog) wx b (k*18) (Builtin.zeroCells Z (n-k)).toList (λj hj=>by
     rw[Array.length_toList,hzs]at hj
     have hlt:k*18+j<cur.size:=by rw[h2];omega
     rw[cell_of_row wx b (k*18+j) cur _ _ h1,Array.getElem?_eq_getElem hlt];rfl) (λj _=>frozen_of_row _ _ _ _ _ h1) (λv hv=>by
     unfold Builtin.zeroCells at hv
     simp only[Array.toList_map,List.mem_map]at hv
     obtain⟨i,_,rfl⟩:=hv
     rw[hZ18,getElem!_pos Z (i % 18) (by rw[hZ18];omega)]
     exact hZ1 _ (by simp))
 obtain⟨q,hq⟩:∃q,n-k=q+1:=⟨n-k-1,by omega⟩
 rw[hq]at hst ⊢
 have hu:=run_underlying (P:=Tryz.prog) Tryz.underlying93 wx
 unfold Builtin.clear_
 simp only[List.getElem?_toArray,List.getElem?_cons_zero,Sem.run_bind,hu,Result.andThen_ok,hz,Value.cells,hst,Sem.run_pure]
def CptIs (o:Trip→Trip→Int) (L:List Trip) (F:Nat→Prop) (s:Value) (w:World) (e:Ending) (w':World):Prop:=
 ∃s',e = .returned s'∧s'.ownBlock=s.ownBlock∧SOwn 99 18 TrS w' F (cpt o L) s'∧Turn (λb=>s.ownBlock=some b) w w'
theorem idx_rowo (r o n cap a:Nat) (ha:a<n) (w:World):(Instr.indexAt 93 (.slice (some ⟨r,o,none⟩) n cap) (.int .i64 (a:Nat))).run Tryz.prog w = .ok (.pointer (some ⟨r,o+a*18,none⟩)) w:=by
 have e1:(0:Int)≤a:=by omega
 have e2:(a:Int)<n:=by omega
 have hadd:(⟨r,o,none⟩:Addr).add (a*18)=⟨r,o+a*18,none⟩:=by unfold Addr.add;split<;>simp_all
 go_simp
theorem cpt_short {o:Trip→Trip→Int} {L:List Trip} (h:L.length<2):cpt o L=L:=by
 cases L with
 | nil=>rfl
 | cons a r=>
  cases r with
  | nil=>rfl
  | cons b r=>simp only[List.length_cons]at h;omega
theorem compact_any (Wy:Way) (hW:Wy.Ok) (g:Nat) (w0:World) {w:World} {F:Nat→Prop} {L:List Trip} {s:Value} (h:SOwn 99 18 TrS w F L s) (hlen:L.length≤100000000)
    (hb0:Below w0.heap.size w0 w) (hF0:∀b,s.ownBlock=some b→w0.heap.size≤b) (hgb:GlobB w0) (hgt:GlobT w0) (hp:w.heap[g]?=some (.cells (wayC Wy) 101 (0,0))) :
    Calls Tryz.prog 52 #[s,.func (.func 53) #[] #[.pointer (some ⟨g,0,none⟩)]] w (CptIs (along Wy) L F s w):=by
 obtain⟨A,cap,rfl⟩:=h.form
 have HO:=hid h
 obtain⟨n,Hn⟩:=name_itV L.length
 rw[Hn.out]
 rw[Hn.out]at hlen
 by_cases hn2:n<2
 ·have e1:(n:Int)<2:=by omega
  have hsame:=hid (show cpt (along Wy) L=L from cpt_short (by rw[Hn.out];exact hn2))
  have HR:=hid (show CptIs (along Wy) L F (.slice A n cap) w (.returned (.slice A n cap)) w from ⟨_,rfl,rfl,by rw[hsame.out,←Hn.out];exact HO.out,Turn.refl _ _⟩)
  clear hn2 hlen hb0 hF0 hgb hgt hp h HO hsame Hn
  go_enter Tryz.func52,Tryz.ntmps52
  go_wp2_with fail
  go_ret
  exact HR.out
 ·have e1:¬(n:Int)<2:=by omega
  have hown:=HO.out
  rw[Hn.out]at hown
  have hA:∃b,A=some ⟨b,0,none⟩:=by
   obtain⟨cs,hrow,_⟩:=hown
   obtain⟨b,cp,e,_⟩:=World.ownsRow.form hrow (by rw[Hn.out];omega)
   injection e with e _ _
   exact⟨b,e⟩
  obtain⟨b,rfl⟩:=hA
  obtain⟨cs0,hel,hrm,hll,hnc,hcm,hFb⟩:=rw_of hown
  have HEL:=hid hel
  have HRM:=hid hrm
  have HNC:=hid (And.intro hnc (And.intro hcm hFb))
  have HN2:=hid (show 2≤n from by omega)
  have HL:=hid (show n≤100000000 from hlen)
  have hne:b≠g:=λe=>by
   obtain⟨cur,h1,_⟩:=hrm.blk
   rw[e,hp]at h1
   injection h1 with h1
   injection h1 with _ h1
   exact absurd h1 (by decide)
  have HB0:=hid (λ(V:World) (ht:Turn (λq=>q=b) w V)=>below_turn hb0 ht (λq hq=>hF0 q (by rw[hq];rfl)))
  have HCL:=hid (λ(V:World) (ht:Turn (λq=>q=b) w V) (x y:Trip) (sx sy:Nat→Value) (hx:ScalT x) (fx:∀n,FitV (x.get n)) (fy:∀n,FitV (y.get n))=>
   clos3_any Wy hW x y sx sy g V (ht.heap hp (λe=>hne e.symm)) (λn=>⟨(hx.get n).2.1,fx n⟩) fy (glob_under hgb (HB0.out V ht)) (globT_under hgt (HB0.out V ht)))
  unfold ToldB at HCL
  have HFIN:=hid (λ(K:List Trip) (k:Nat) (cs:Nat→Array Value) (V:World) (hK:K=cpt (along Wy) L) (hk:K.length=k) (hkn:k≤n) (he:ElT K cs) (hr:RwM w b cap k cs V)=>(show CptIs (along Wy) L F (.slice (some ⟨b,0,none⟩) n cap) w (.returned (.slice (some ⟨b,0,none⟩) k cap)) V from ⟨_,rfl,rfl,hK▸hr.own he hk (Nat.le_trans hkn hnc) hcm hFb,hr.turn.mono λq _ hq=>by rw[hq];rfl⟩))
  have w2:∀k:Nat,k≤1000000000→IntKind.i64.wrap ((k:Int)+1)=(k:Int)+1:=λk hk=>IntWalk.i64_in _ (by omega)
  have HW2:=hid w2
  clear w2 h HO hown hel hrm hll hnc hcm hFb hn2 hlen hb0 hF0 hgb hgt hp hne hW HB0
  go_enter Tryz.func52,Tryz.ntmps52
  go_wp2_with fail
  go_loopw [5] (λs5 wx=>∃k:Nat,1≤k∧k≤n∧s5 = .int .i64 (k:Nat)∧Hid (RwM w b cap n cs0 wx∧cpt (along Wy) (L.take k)=L.take k)) (λs5 _=>n-(intOf s5).toNat)
  case atStart=>exact⟨1,by omega,by have:=HN2.out;omega,rfl,hid ⟨HRM.out,cpt_short (by simp;omega)⟩⟩
  case round=>
   obtain⟨k,hk1,hkn,rfl,hM⟩:=hrel
   by_cases hlt:k<n
   ·have e3:(k:Int)<n:=by omega
    obtain⟨m,hm⟩:∃m,k=m+1:=⟨k-1,by omega⟩
    have HKM:=hid hm
    have e4:IntKind.i64.wrap ((k:Int)-1)=(m:Nat):=by have:=HL.out;rw[IntWalk.i64_in _ (by omega)];omega
    clear hm
    obtain⟨x,hx⟩:∃x,L[k]?=some x:=⟨_,List.getElem?_eq_getElem (by rw[Hn.out];exact hlt)⟩
    obtain⟨y,hy⟩:∃y,L[m]?=some y:=⟨_,List.getElem?_eq_getElem (by rw[Hn.out];have:=HKM.out;omega)⟩
    obtain⟨scx,fx,sx,_,ex⟩:=HEL.out _ _ hx
    obtain⟨scy,fy,sy,_,ey⟩:=HEL.out _ _ hy
    have hcl:=hid (HCL.out wr.drew hM.out.1.turn.drew x y sx sy scx fx fy)
    have HX:=hid hx
    have HY:=hid hy
    clear hx hy scx fx scy fy
    obtain⟨v,Hv⟩:=name_itV (along Wy x y==0)
    rw[Hv.out]at hcl
    obtain⟨c1,Hc1⟩:=name18 x sx
    obtain⟨c2,Hc2⟩:=name18 y sy
    rw[Hc1.out]at hcl ex
    rw[Hc2.out]at hcl ey
    have EX:=hid ex
    have EY:=hid ey
    have Z1:=hid Hc1.size
    have Z2:=hid Hc2.size
    have Q1:=hid (infoPt.trans (congrArg some Hc1.size.symm))
    have Q2:=hid (infoPt.trans (congrArg some Hc2.size.symm))
    have HMT:=hid (show k<n from hlt)
    have HX1:=hid (show L[m+1]?=some x from by rw[←HKM.out];exact HX.out)
    clear ex ey Hc1 Hc2
    go_upto_region 6 with fail
    refine wp_region_held_drew (S:=λW'=>RwM w b cap n cs0 W') (by kernel_rfl) hM.out.1.drew (λhH=>?_)
    refine Boxed.out ?_
    refine tkV 0 18 (.func (.func 53) #[] #[.pointer (some ⟨g,0,none⟩)]) hH (λhH=>?_)
    try simp only[Act.put,aT,aZ,aS]
    refine tkV 1 19 (.slice (some ⟨b,0,none⟩) n cap) hH (λhH=>?_)
    try simp only[Act.put,aT,aZ,aS]
    refine tkV 2 20 (.int .i64 (k:Nat)) hH (λhH=>?_)
    try simp only[Act.put,aT,aZ,aS]
    refine tkW 3 21 (.pointer (some ⟨b,k*18,none⟩)) hH (λw hSw=>?_) (λhH=>?_)
    ·exact val_of (idx_row b n cap k HMT.out w)
    try simp only[Act.put,aT,aZ,aS]
    refine tkW 4 22 (.agg c1) hH (λw hSw=>?_) (λhH=>?_)
    ·have p:=hSw.range HMT.out (show (cs0 k).size=18 from by rw[EX.out];exact Z1.out)
     rw[EX.out]at p
     have q:=run_loadAt_mid (P:=Tryz.prog) w b (k*18) 99 c1.toList _ p Tryz.underlying99 rfl (by rw[Array.length_toList];exact Q1.out)
     rw[Array.toArray_toList]at q
     exact val_of q
    try simp only[Act.put,aT,aZ,aS]
    refine tkV 5 23 (.slice (some ⟨b,0,none⟩) n cap) hH (λhH=>?_)
    try simp only[Act.put,aT,aZ,aS]
    refine tkV 6 24 (.int .i64 (k:Nat)) hH (λhH=>?_)
    try simp only[Act.put,aT,aZ,aS]
    refine tkV 7 25 (.int .i64 (m:Nat)) hH (λhH=>?_)
    try simp only[Act.put,aT,aZ,aS]
    refine tkW 8 26 (.pointer (some ⟨b,m*18,none⟩)) hH (λw hSw=>?_) (λhH=>?_)
    ·exact val_of (idx_row b n cap m (by have:=HMT.out;have:=HKM.out;omega) w)
    try simp only[Act.put,aT,aZ,aS]
    refine tkW 9 27 (.agg c2) hH (λw hSw=>?_) (λhH=>?_)
    ·have p:=hSw.range (by have:=HMT.out;have:=HKM.out;omega) (show (cs0 m).size=18 from by rw[EY.out];exact Z2.out)
     rw[EY.out]at p
     have q:=run_loadAt_mid (P:=Tryz.prog) w b (m*18) 99 c2.toList _ p Tryz.underlying99 rfl (by rw[Array.length_toList];exact Q2.out)
     rw[Array.toArray_toList]at q
     exact val_of q
    try simp only[Act.put,aT,aZ,aS]
    refine tkC 10 (λK hK=>?_)
    change Oper.wp _ ⟨some 28,_,_,_,_,_⟩ _ _ _ _
    go_simp
    refine (hcl.out).mono ?_
    rintro e w3 ⟨rfl,hb3⟩
    have HR3:=hid (hM.out.1.drew.on hb3)
    have HC:=hid hM.out.2
    clear hb3 hcl hM
    dsimp only
    refine hK.out _ _ HR3.out (λhH=>?_)
    clear hK K
    try simp only[Act.put,aT,aZ,aS]
    refine⟨wpAnyH_done (by kernel_rfl) ?_ _⟩
    clear hH
    cases v with
    | false=>
     have w1:=HW2.out k (by have:=HMT.out;have:=HL.out;omega)
     have hz:¬along Wy x y=0:=by simpa using Hv.out
     have HZ:=hid hz
     clear hz
     go_wp2_with fail
     go_roundw
     case rel=>exact⟨k+1,by omega,by have:=HMT.out;omega,by go_num,hid ⟨HR3.out,by have hc:=HC.out;rw[HKM.out]at hc ⊢;rw[cpt_take HX1.out HY.out,if_neg HZ.out,hc,←take_oneMore HX1.out]⟩⟩
     case measure=>have:=HMT.out;simp[intOf];omega
    | true=>
     have hz:along Wy x y=0:=by simpa using Hv.out
     have HK:=hid (show cpt (along Wy) (L.take (k+1))=L.take k from by have hc:=HC.out;rw[HKM.out]at hc ⊢;rw[cpt_take HX1.out HY.out,if_pos hz,hc,List.append_nil])
     clear hz HC HX1 HKM e4 Hv EX EY Q1 Q2 Z1 Z2 HX HY
     have e5:(0:Int)≤k:=by omega
     have e6:(k:Int)≤n:=by omega
     have e7:(n:Int)≤cap:=by have:=HNC.out.1;omega
     have e8:(n:Int)-k=((n-k:Nat):Int):=by omega
     have hadd:(⟨b,0,none⟩:Addr).add (k*18)=⟨b,k*18,none⟩:=by rw[Addr.add_mid,Nat.zero_add]
     go_wp2_with fail
     go_loopw [5,7] (λs5 s7 wx=>∃(kk k2:Nat) (cs':Nat→Array Value),1≤k2∧k+k2≤n∧kk+1≤k+k2∧s5 = .int .i64 (kk:Nat)∧s7 = .int .i64 (k2:Nat)∧Hid (RwM w b cap n cs' wx∧(cpt (along Wy) (L.take (k+k2))).length=kk∧ElT (cpt (along Wy) (L.take (k+k2))) cs'∧∀i,k+k2≤i+1→i<n→cs' i=cs0 i)) (λ_ s7 _=>n-(intOf s7).toNat)
     case atStart=>exact⟨k,1,cs0,by omega,by omega,by omega,rfl,rfl,hid ⟨HR3.out,by rw[HK.out,List.length_take,Hn.out];omega,by rw[HK.out];exact λi t hi=>HEL.out i t (by have:=(List.getElem?_eq_some_iff.1 hi).1;rw[List.length_take]at this;rw[List.getElem?_take_of_lt (by omega)]at hi;exact hi),λ_ _ _=>rfl⟩⟩
     case round=>
      obtain⟨kk,k2,cs',hk21,hk2n,hkk,rfl,rfl,hN⟩:=hrel
      by_cases hlt2:k+k2<n
      ·have e9:(k2:Int)<((n-k:Nat):Int):=by omega
       obtain⟨m2,hm2⟩:∃m2,k2=m2+1:=⟨k2-1,by omega⟩
       have HM2:=hid hm2
       have e10:IntKind.i64.wrap ((k2:Int)-1)=(m2:Nat):=by have:=HL.out;rw[IntWalk.i64_in _ (by omega)];omega
       clear hm2
       obtain⟨x2,hx⟩:∃x2,L[k+k2]?=some x2:=⟨_,List.getElem?_eq_getElem (by rw[Hn.out];exact hlt2)⟩
       obtain⟨y2,hy⟩:∃y2,L[k+m2]?=some y2:=⟨_,List.getElem?_eq_getElem (by rw[Hn.out];have:=HM2.out;omega)⟩
       have hel2:=hid (HEL.out _ _ hx)
       obtain⟨scx,fx,sx2,hsx,ex⟩:=HEL.out _ _ hx
       obtain⟨scy,fy,sy2,_,ey⟩:=HEL.out _ _ hy
       rw[←hN.out.2.2.2 (k+k2) (by omega) hlt2]at ex
       rw[←hN.out.2.2.2 (k+m2) (by have:=HM2.out;omega) (by have:=HM2.out;omega)]at ey
       have hcl2:=hid (HCL.out wr.drew hN.out.1.turn.drew x2 y2 sx2 sy2 scx fx fy)
       have HX:=hid hx
       have HY:=hid hy
       clear hx hy scx fx scy fy
       obtain⟨v2,Hv2⟩:=name_itV (along Wy x2 y2==0)
       rw[Hv2.out]at hcl2
       obtain⟨d1,Hd1⟩:=name18 x2 sx2
       obtain⟨d2,Hd2⟩:=name18 y2 sy2
       rw[Hd1.out]at hcl2 ex
       rw[Hd2.out]at hcl2 ey
       have EX:=hid ex
       have EY:=hid ey
       have Z1:=hid Hd1.size
       have Z2:=hid Hd2.size
       have Q1:=hid (infoPt.trans (congrArg some Hd1.size.symm))
       have Q2:=hid (infoPt.trans (congrArg some Hd2.size.symm))
       have HLT:=hid hlt2
       have o1:=cellsT_one x2 sx2 λq hq=>by obtain⟨A,cp,e⟩:=hsx q hq;exact⟨A,0,cp,e⟩
       rw[Hd1.out]at o1
       have O1:=hid (show d1.all (·.oneCell')=true from by rw[←Array.toArray_toList (xs:=d1)];exact all_oneCell_toArray o1)
       clear o1 hsx
       clear ex ey
       go_upto_region 11 with fail
       refine wp_region_held_drew (S:=λW'=>RwM w b cap n cs' W') (by kernel_rfl) hN.out.1.drew (λhH=>?_)
       refine Boxed.out ?_
       refine tkV 0 38 (.func (.func 53) #[] #[.pointer (some ⟨g,0,none⟩)]) hH (λhH=>?_)
       try simp only[Act.put,aT,aZ,aS]
       refine tkV 1 39 (.slice (some ⟨b,k*18,none⟩) (n-k) (cap-k)) hH (λhH=>?_)
       try simp only[Act.put,aT,aZ,aS]
       refine tkV 2 40 (.int .i64 (k2:Nat)) hH (λhH=>?_)
       try simp only[Act.put,aT,aZ,aS]
       refine tkW 3 41 (.pointer (some ⟨b,k*18+k2*18,none⟩)) hH (λw hSw=>?_) (λhH=>?_)
       ·exact val_of (idx_rowo b (k*18) (n-k) (cap-k) k2 (by have:=HLT.out;omega) w)
       try simp only[Act.put,aT,aZ,aS]
       refine tkW 4 42 (.agg d1) hH (λw hSw=>?_) (λhH=>?_)
       ·have p:=hSw.range (a:=k+k2) HLT.out (show (cs' (k+k2)).size=18 from by rw[EX.out];exact Z1.out)
        rw[EX.out,show (k+k2)*18=k*18+k2*18 by omega]at p
        have q:=run_loadAt_mid (P:=Tryz.prog) w b (k*18+k2*18) 99 d1.toList _ p Tryz.underlying99 rfl (by rw[Array.length_toList];exact Q1.out)
        rw[Array.toArray_toList]at q
        exact val_of q
       try simp only[Act.put,aT,aZ,aS]
       refine tkV 5 43 (.slice (some ⟨b,k*18,none⟩) (n-k) (cap-k)) hH (λhH=>?_)
       try simp only[Act.put,aT,aZ,aS]
       refine tkV 6 44 (.int .i64 (k2:Nat)) hH (λhH=>?_)
       try simp only[Act.put,aT,aZ,aS]
       refine tkV 7 45 (.int .i64 (m2:Nat)) hH (λhH=>?_)
       try simp only[Act.put,aT,aZ,aS]
       refine tkW 8 46 (.pointer (some ⟨b,k*18+m2*18,none⟩)) hH (λw hSw=>?_) (λhH=>?_)
       ·exact val_of (idx_rowo b (k*18) (n-k) (cap-k) m2 (by have:=HLT.out;have:=HM2.out;omega) w)
       try simp only[Act.put,aT,aZ,aS]
       refine tkW 9 47 (.agg d2) hH (λw hSw=>?_) (λhH=>?_)
       ·have p:=hSw.range (a:=k+m2) (by have:=HLT.out;have:=HM2.out;omega) (show (cs' (k+m2)).size=18 from by rw[EY.out];exact Z2.out)
        rw[EY.out,show (k+m2)*18=k*18+m2*18 by omega]at p
        have q:=run_loadAt_mid (P:=Tryz.prog) w b (k*18+m2*18) 99 d2.toList _ p Tryz.underlying99 rfl (by rw[Array.length_toList];exact Q2.out)
        rw[Array.toArray_toList]at q
        exact val_of q
       try simp only[Act.put,aT,aZ,aS]
       refine tkC 10 (λK hK=>?_)
       change Oper.wp _ ⟨some 48,_,_,_,_,_⟩ _ _ _ _
       go_simp
       refine (hcl2.out).mono ?_
       rintro e w4 ⟨rfl,hb4⟩
       have HR4:=hid (hN.out.1.drew.on hb4)
       have HI:=hid hN.out.2
       clear hb4 hcl2 hN
       dsimp only
       refine hK.out _ _ HR4.out (λhH=>?_)
       clear hK K
       try simp only[Act.put,aT,aZ,aS]
       refine tkV 11 49 (.bool (!v2)) hH (λhH=>?_)
       try simp only[Act.put,aT,aZ,aS]
       refine⟨wpAnyH_done (by kernel_rfl) ?_ _⟩
       clear hH
       have w5:=HW2.out k2 (by have:=HLT.out;have:=HL.out;omega)
       cases v2 with
       | true=>
        have hz:along Wy x2 y2=0:=by simpa using Hv2.out
        have HZ:=hid hz
        clear hz
        go_wp2_with fail
        go_roundw
        case rel=>
         have h0:=cpt_take (o:=along Wy) (L:=L) (m:=k+m2) (x:=x2) (y:=y2) (by rw[show k+m2+1=k+k2 by have:=HM2.out;omega];exact HX.out) HY.out
         rw[if_pos HZ.out,List.append_nil,show k+m2+2=k+(k2+1) by have:=HM2.out;omega,show k+m2+1=k+k2 by have:=HM2.out;omega]at h0
         exact⟨kk,k2+1,cs',by omega,by have:=HLT.out;omega,by omega,rfl,by go_num,hid ⟨HR4.out,by rw[h0];exact HI.out.1,by rw[h0];exact HI.out.2.1,λi h1 h2=>HI.out.2.2 i (by omega) h2⟩⟩
        case measure=>have:=HLT.out;simp[intOf];omega
       | false=>
        have hz:¬along Wy x2 y2=0:=by simpa using Hv2.out
        have HZ:=hid hz
        clear hz
        have w6:=HW2.out kk (by have:=HLT.out;have:=HL.out;omega)
        have e11:(0:Int)≤kk:=by omega
        have e12:(kk:Int)<n:=by have:=HLT.out;omega
        have e13:(0:Int)≤k2:=by omega
        have hadd3:(⟨b,0,none⟩:Addr).add (kk*18)=⟨b,kk*18,none⟩:=by rw[Addr.add_mid,Nat.zero_add]
        have hadd4:(⟨b,k*18,none⟩:Addr).add (k2*18)=⟨b,k*18+k2*18,none⟩:=Addr.add_mid _ _ _
        have hrg:=HR4.out.range (a:=k+k2) HLT.out (show (cs' (k+k2)).size=18 from by rw[EX.out];exact Z1.out)
        rw[EX.out,show (k+k2)*18=k*18+k2*18 by omega]at hrg
        have HRG:=hid hrg
        clear hrg
        go_wp2_with (first
         | ((with_reducible refine at_dst (some 55) ?_);refine ld_arm rfl 99 _ rfl b (k*18+k2*18) rfl d1 _ HRG.out Tryz.underlying99 rfl Q1.out ?_)
         | ((with_reducible refine at_st 56 ?_);refine st_rw rfl 99 _ _ rfl kk d1 rfl rfl HR4.out (by have:=HLT.out;omega) HNC.out.1 Z1.out infoPt O1.out ?_;intro w7 hR7))
        have HR7:=hid hR7
        clear hR7
        go_roundw
        case rel=>
         have h0:=cpt_take (o:=along Wy) (L:=L) (m:=k+m2) (x:=x2) (y:=y2) (by rw[show k+m2+1=k+k2 by have:=HM2.out;omega];exact HX.out) HY.out
         rw[if_neg HZ.out,show k+m2+2=k+(k2+1) by have:=HM2.out;omega,show k+m2+1=k+k2 by have:=HM2.out;omega]at h0
         refine⟨kk+1,k2+1,λi=>if i=kk then d1 else cs' i,by omega,by have:=HLT.out;omega,by omega,by go_num,by go_num,hid ⟨HR7.out,by rw[h0,List.length_append,HI.out.1];rfl,?_,λi h1 h2=>?_⟩⟩
         ·rw[h0]
          intro i t hi
          rcases Nat.lt_or_ge i kk with hlt9 | hge9
          ·rw[List.getElem?_append_left (by rw[HI.out.1];exact hlt9)]at hi
           dsimp only
           rw[if_neg (show ¬i=kk by omega)]
           exact HI.out.2.1 i t hi
          ·have hi2:=(List.getElem?_eq_some_iff.1 hi).1
           rw[List.length_append,HI.out.1]at hi2
           have hik:i=kk:=by simp only[List.length_cons,List.length_nil]at hi2;omega
           subst hik
           rw[List.getElem?_append_right (by rw[HI.out.1];exact Nat.le_refl _),HI.out.1,Nat.sub_self]at hi
           injection hi with hi
           subst hi
           dsimp only
           rw[if_pos rfl]
           obtain⟨g1,g2,g3,g4,g5⟩:=hel2.out
           exact⟨g1,g2,g3,g4,by rw[←EX.out,HI.out.2.2 (k+k2) (by omega) HLT.out];exact g5⟩
         ·dsimp only
          rw[if_neg (show ¬i=kk by omega)]
          exact HI.out.2.2 i (by omega) h2
        case measure=>have:=HLT.out;simp[intOf];omega
      ·have hend:k+k2=n:=by omega
       have hkl:kk<n:=by omega
       obtain⟨zs,hzs⟩:=clear_run hN.out.1 HNC.out.1 hkl
       have hcl9:=hzs
       have e9:¬(k2:Int)<((n-k:Nat):Int):=by omega
       have e11:(0:Int)≤kk:=by omega
       have e12:(kk:Int)≤n:=by omega
       have e13:(kk:Int)≤cap:=by omega
       have hadd3:(⟨b,0,none⟩:Addr).add (kk*18)=⟨b,kk*18,none⟩:=by rw[Addr.add_mid,Nat.zero_add]
       have HFI:=hid (HFIN.out (cpt (along Wy) L) kk cs' (wr.setCells b (kk*18) zs) rfl (by have h:=hN.out.2.1;rw[hend,List.take_of_length_le (by rw[Hn.out];exact Nat.le_refl _)]at h;exact h) (by omega) (by have h:=hN.out.2.2.1;rw[hend,List.take_of_length_le (by rw[Hn.out];exact Nat.le_refl _)]at h;exact h) (hN.out.1.clear (by omega) zs))
       clear hN HFIN HCL HEL HRM hend hkl hzs
       go_wp2_with fail
       go_ret
       exact HFI.out
   ·have hke:n=k:=by omega
    subst hke
    have HR:=hid (HFIN.out L n cs0 wr (by have h:=hM.out.2;rw[List.take_of_length_le (by rw[Hn.out];exact Nat.le_refl _)]at h;exact h.symm) Hn.out (Nat.le_refl _) HEL.out hM.out.1)
    have e3:¬(n:Int)<n:=by omega
    clear HFIN HCL HEL HRM hM
    go_wp2_with fail
    go_ret
    exact HR.out
end Go.Proofs.YtefhfadjajcmkaaGreatDoor
namespace Go.Proofs.YtefhfadjajcmkaaGreatDoor
open Go Go.RowKit
open Go.Lib (hid cell_of_heap)
def wayT (i:Nat):ByteArray:=if i=0 then ⟨#[115,112,111]⟩ else if i=1 then ⟨#[115,111,112]⟩ else if i=2 then ⟨#[112,115,111]⟩ else if i=3 then ⟨#[112,111,115]⟩ else if i=4 then ⟨#[111,115,112]⟩ else ⟨#[111,112,115]⟩
def WayIs (i:Nat) (w:World) (e:Ending) (w':World):Prop:=e = .returned (.tuple #[.agg (wayC (wayN i)),.int .i64 (i:Nat),.bool true])∧Below w.heap.size w w'
theorem results_row3 {P:Program} {fn:Func} {a u v:Tmp} {T T':TypeId} {w:World} (h:fn.results=#[.cell a T,.tmp u,.tmp v]) {tmps:Array Value} {g:Nat} (ht:tmps.getD a undef = .pointer (some ⟨g,0,none⟩)) {c:Array Value} (hw:w.heap[g]?=some (.cells c T' (0,0)))
    (d:TypeDesc) (hu:P.underlying T=some d) (hd:d.isRow=true) (hi:(P.info? T).map (·.size)=some c.size) {x y:Value} (hx:tmps.getD u undef=x) (hy:tmps.getD v undef=y):(results fn tmps).run P w = .ok (.tuple #[.agg c,x,y]) w:=by
 have:=run_loadVar_mid (P:=P) w g 0 T c.toList d (range_row hw) hu hd (by rw[Array.length_toList];exact hi)
 rw[Array.toArray_toList]at this
 have ht':tmps[a]?.getD undef = .pointer (some ⟨g,0,none⟩):=by rw[←ht];simp
 have hx':tmps[u]?.getD undef=x:=by rw[←hx];simp
 have hy':tmps[v]?.getD undef=y:=by rw[←hy];simp
 simp[results,h,ht',asAddr,this,hx',hy']
theorem way_0 (w:World):Calls Tryz.prog 48 #[.string ⟨#[115,112,111]⟩] w (WayIs 0 w):=by
 obtain⟨z,Hz⟩:=name_itV w.heap.size
 obtain⟨w1,HW1⟩:=name_itV (w.alloc (.cells #[.int .i64 0,.int .i64 0,.int .i64 0] 101))
 have HB:=hid (show Below w.heap.size w w1 from by rw[←HW1.out];exact (Below.refl _ _).alloc (Nat.le_refl _) _)
 have HX:=hid (show w1.heap[z]?=some (.cells #[.int .i64 0,.int .i64 0,.int .i64 0] 101 (0,0)) from by rw[←HW1.out,←Hz.out];exact heap_alloc_new w _)
 have HI:=hid (show (Tryz.prog.info? 101).map (·.size)=some 3 from by kernel_rfl)
 go_enter Tryz.func48,Tryz.ntmps48
 go_upto_region 1 with fail
 rw[HW1.out,Hz.out]
 clear HW1
 have HO:=hid (show (#[.int .i64 0,.int .i64 1,.int .i64 2]:Array Value).all (·.oneCell')=true from by kernel_rfl)
 go_wp2_with ((with_reducible refine at_st 2 ?_);refine st_row rfl 101 _ _ rfl z (#[.int .i64 0,.int .i64 0,.int .i64 0]) (#[.int .i64 0,.int .i64 1,.int .i64 2]) 101 rfl rfl HX.out rfl HI.out HO.out ?_;intro w2 hw2 ht2)
 have HB2:=hid (show Below w.heap.size w w2 from HB.out.trans ⟨ht2.os,ht2.tape,ht2.output,ht2.size,λk hk=>ht2.block k (Nat.lt_of_lt_of_le hk HB.out.size) (by rw[←Hz.out];omega)⟩)
 refine bodyPost_ret (v:=.tuple #[.agg (#[.int .i64 0,.int .i64 1,.int .i64 2]),.int .i64 0,.bool true]) (results_row3 Tryz.results48 (g:=z) rfl hw2 _ Tryz.underlying101 rfl HI.out rfl rfl) rfl ⟨rfl,HB2.out⟩
theorem way_1 (w:World):Calls Tryz.prog 48 #[.string ⟨#[115,111,112]⟩] w (WayIs 1 w):=by
 obtain⟨z,Hz⟩:=name_itV w.heap.size
 obtain⟨w1,HW1⟩:=name_itV (w.alloc (.cells #[.int .i64 0,.int .i64 0,.int .i64 0] 101))
 have HB:=hid (show Below w.heap.size w w1 from by rw[←HW1.out];exact (Below.refl _ _).alloc (Nat.le_refl _) _)
 have HX:=hid (show w1.heap[z]?=some (.cells #[.int .i64 0,.int .i64 0,.int .i64 0] 101 (0,0)) from by rw[←HW1.out,←Hz.out];exact heap_alloc_new w _)
 have HI:=hid (show (Tryz.prog.info? 101).map (·.size)=some 3 from by kernel_rfl)
 go_enter Tryz.func48,Tryz.ntmps48
 go_upto_region 1 with fail
 rw[HW1.out,Hz.out]
 clear HW1
 have HO:=hid (show (#[.int .i64 0,.int .i64 2,.int .i64 1]:Array Value).all (·.oneCell')=true from by kernel_rfl)
 go_wp2_with ((with_reducible refine at_st 2 ?_);refine st_row rfl 101 _ _ rfl z (#[.int .i64 0,.int .i64 0,.int .i64 0]) (#[.int .i64 0,.int .i64 2,.int .i64 1]) 101 rfl rfl HX.out rfl HI.out HO.out ?_;intro w2 hw2 ht2)
 have HB2:=hid (show Below w.heap.size w w2 from HB.out.trans ⟨ht2.os,ht2.tape,ht2.output,ht2.size,λk hk=>ht2.block k (Nat.lt_of_lt_of_le hk HB.out.size) (by rw[←Hz.out];omega)⟩)
 refine bodyPost_ret (v:=.tuple #[.agg (#[.int .i64 0,.int .i64 2,.int .i64 1]),.int .i64 1,.bool true]) (results_row3 Tryz.results48 (g:=z) rfl hw2 _ Tryz.underlying101 rfl HI.out rfl rfl) rfl ⟨rfl,HB2.out⟩
theorem way_2 (w:World):Calls Tryz.prog 48 #[.string ⟨#[112,115,111]⟩] w (WayIs 2 w):=by
 obtain⟨z,Hz⟩:=name_itV w.heap.size
 obtain⟨w1,HW1⟩:=name_itV (w.alloc (.cells #[.int .i64 0,.int .i64 0,.int .i64 0] 101))
 have HB:=hid (show Below w.heap.size w w1 from by rw[←HW1.out];exact (Below.refl _ _).alloc (Nat.le_refl _) _)
 have HX:=hid (show w1.heap[z]?=some (.cells #[.int .i64 0,.int .i64 0,.int .i64 0] 101 (0,0)) from by rw[←HW1.out,←Hz.out];exact heap_alloc_new w _)
 have HI:=hid (show (Tryz.prog.info? 101).map (·.size)=some 3 from by kernel_rfl)
 go_enter Tryz.func48,Tryz.ntmps48
 go_upto_region 1 with fail
 rw[HW1.out,Hz.out]
 clear HW1
 have HO:=hid (show (#[.int .i64 1,.int .i64 0,.int .i64 2]:Array Value).all (·.oneCell')=true from by kernel_rfl)
 go_wp2_with ((with_reducible refine at_st 2 ?_);refine st_row rfl 101 _ _ rfl z (#[.int .i64 0,.int .i64 0,.int .i64 0]) (#[.int .i64 1,.int .i64 0,.int .i64 2]) 101 rfl rfl HX.out rfl HI.out HO.out ?_;intro w2 hw2 ht2)
 have HB2:=hid (show Below w.heap.size w w2 from HB.out.trans ⟨ht2.os,ht2.tape,ht2.output,ht2.size,λk hk=>ht2.block k (Nat.lt_of_lt_of_le hk HB.out.size) (by rw[←Hz.out];omega)⟩)
 refine bodyPost_ret (v:=.tuple #[.agg (#[.int .i64 1,.int .i64 0,.int .i64 2]),.int .i64 2,.bool true]) (results_row3 Tryz.results48 (g:=z) rfl hw2 _ Tryz.underlying101 rfl HI.out rfl rfl) rfl ⟨rfl,HB2.out⟩
theorem way_3 (w:World):Calls Tryz.prog 48 #[.string ⟨#[112,111,115]⟩] w (WayIs 3 w):=by
 obtain⟨z,Hz⟩:=name_itV w.heap.size
 obtain⟨w1,HW1⟩:=name_itV (w.alloc (.cells #[.int .i64 0,.int .i64 0,.int .i64 0] 101))
 have HB:=hid (show Below w.heap.size w w1 from by rw[←HW1.out];exact (Below.refl _ _).alloc (Nat.le_refl _) _)
 have HX:=hid (show w1.heap[z]?=some (.cells #[.int .i64 0,.int .i64 0,.int .i64 0] 101 (0,0)) from by rw[←HW1.out,←Hz.out];exact heap_alloc_new w _)
 have HI:=hid (show (Tryz.prog.info? 101).map (·.size)=some 3 from by kernel_rfl)
 go_enter Tryz.func48,Tryz.ntmps48
 go_upto_region 1 with fail
 rw[HW1.out,Hz.out]
 clear HW1
 have HO:=hid (show (#[.int .i64 1,.int .i64 2,.int .i64 0]:Array Value).all (·.oneCell')=true from by kernel_rfl)
 go_wp2_with ((with_reducible refine at_st 2 ?_);refine st_row rfl 101 _ _ rfl z (#[.int .i64 0,.int .i64 0,.int .i64 0]) (#[.int .i64 1,.int .i64 2,.int .i64 0]) 101 rfl rfl HX.out rfl HI.out HO.out ?_;intro w2 hw2 ht2)
 have HB2:=hid (show Below w.heap.size w w2 from HB.out.trans ⟨ht2.os,ht2.tape,ht2.output,ht2.size,λk hk=>ht2.block k (Nat.lt_of_lt_of_le hk HB.out.size) (by rw[←Hz.out];omega)⟩)
 refine bodyPost_ret (v:=.tuple #[.agg (#[.int .i64 1,.int .i64 2,.int .i64 0]),.int .i64 3,.bool true]) (results_row3 Tryz.results48 (g:=z) rfl hw2 _ Tryz.underlying101 rfl HI.out rfl rfl) rfl ⟨rfl,HB2.out⟩
theorem way_4 (w:World):Calls Tryz.prog 48 #[.string ⟨#[111,115,112]⟩] w (WayIs 4 w):=by
 obtain⟨z,Hz⟩:=name_itV w.heap.size
 obtain⟨w1,HW1⟩:=name_itV (w.alloc (.cells #[.int .i64 0,.int .i64 0,.int .i64 0] 101))
 have HB:=hid (show Below w.heap.size w w1 from by rw[←HW1.out];exact (Below.refl _ _).alloc (Nat.le_refl _) _)
 have HX:=hid (show w1.heap[z]?=some (.cells #[.int .i64 0,.int .i64 0,.int .i64 0] 101 (0,0)) from by rw[←HW1.out,←Hz.out];exact heap_alloc_new w _)
 have HI:=hid (show (Tryz.prog.info? 101).map (·.size)=some 3 from by kernel_rfl)
 go_enter Tryz.func48,Tryz.ntmps48
 go_upto_region 1 with fail
 rw[HW1.out,Hz.out]
 clear HW1
 have HO:=hid (show (#[.int .i64 2,.int .i64 0,.int .i64 1]:Array Value).all (·.oneCell')=true from by kernel_rfl)
 go_wp2_with ((with_reducible refine at_st 2 ?_);refine st_row rfl 101 _ _ rfl z (#[.int .i64 0,.int .i64 0,.int .i64 0]) (#[.int .i64 2,.int .i64 0,.int .i64 1]) 101 rfl rfl HX.out rfl HI.out HO.out ?_;intro w2 hw2 ht2)
 have HB2:=hid (show Below w.heap.size w w2 from HB.out.trans ⟨ht2.os,ht2.tape,ht2.output,ht2.size,λk hk=>ht2.block k (Nat.lt_of_lt_of_le hk HB.out.size) (by rw[←Hz.out];omega)⟩)
 refine bodyPost_ret (v:=.tuple #[.agg (#[.int .i64 2,.int .i64 0,.int .i64 1]),.int .i64 4,.bool true]) (results_row3 Tryz.results48 (g:=z) rfl hw2 _ Tryz.underlying101 rfl HI.out rfl rfl) rfl ⟨rfl,HB2.out⟩
theorem way_5 (w:World):Calls Tryz.prog 48 #[.string ⟨#[111,112,115]⟩] w (WayIs 5 w):=by
 obtain⟨z,Hz⟩:=name_itV w.heap.size
 obtain⟨w1,HW1⟩:=name_itV (w.alloc (.cells #[.int .i64 0,.int .i64 0,.int .i64 0] 101))
 have HB:=hid (show Below w.heap.size w w1 from by rw[←HW1.out];exact (Below.refl _ _).alloc (Nat.le_refl _) _)
 have HX:=hid (show w1.heap[z]?=some (.cells #[.int .i64 0,.int .i64 0,.int .i64 0] 101 (0,0)) from by rw[←HW1.out,←Hz.out];exact heap_alloc_new w _)
 have HI:=hid (show (Tryz.prog.info? 101).map (·.size)=some 3 from by kernel_rfl)
 go_enter Tryz.func48,Tryz.ntmps48
 go_upto_region 1 with fail
 rw[HW1.out,Hz.out]
 clear HW1
 have HO:=hid (show (#[.int .i64 2,.int .i64 1,.int .i64 0]:Array Value).all (·.oneCell')=true from by kernel_rfl)
 go_wp2_with ((with_reducible refine at_st 2 ?_);refine st_row rfl 101 _ _ rfl z (#[.int .i64 0,.int .i64 0,.int .i64 0]) (#[.int .i64 2,.int .i64 1,.int .i64 0]) 101 rfl rfl HX.out rfl HI.out HO.out ?_;intro w2 hw2 ht2)
 have HB2:=hid (show Below w.heap.size w w2 from HB.out.trans ⟨ht2.os,ht2.tape,ht2.output,ht2.size,λk hk=>ht2.block k (Nat.lt_of_lt_of_le hk HB.out.size) (by rw[←Hz.out];omega)⟩)
 refine bodyPost_ret (v:=.tuple #[.agg (#[.int .i64 2,.int .i64 1,.int .i64 0]),.int .i64 5,.bool true]) (results_row3 Tryz.results48 (g:=z) rfl hw2 _ Tryz.underlying101 rfl HI.out rfl rfl) rfl ⟨rfl,HB2.out⟩
theorem way_any (i:Nat) (hi:i<6) (w:World):Calls Tryz.prog 48 #[.string (wayT i)] w (WayIs i w):=by
 rcases (show i=0∨i=1∨i=2∨i=3∨i=4∨i=5 by omega) with rfl | rfl | rfl | rfl | rfl | rfl
 ·exact way_0 w
 ·exact way_1 w
 ·exact way_2 w
 ·exact way_3 w
 ·exact way_4 w
 ·exact way_5 w
end Go.Proofs.YtefhfadjajcmkaaGreatDoor
namespace Go.Proofs.YtefhfadjajcmkaaGreatDoor
open Go Go.RowKit Go.Maps
open Go.Lib (hid cell_of_heap)
theorem own_inj {w:World} {b e sz:Nat} {v:Value} {n:Nat} {xs ys:List Value} (h1:w.ownsRow b e sz v n xs) (h2:w.ownsRow b e sz v n ys):xs=ys:=by
 rcases h1.2 with⟨e1,n1⟩ | ⟨g1,c1,u1,e1,_,b1,_,_,_,t1⟩
 ·have l1:=h1.1
  have l2:=h2.1
  rw[n1,Nat.zero_mul]at l1 l2
  rw[List.eq_nil_of_length_eq_zero l1,List.eq_nil_of_length_eq_zero l2]
 ·rcases h2.2 with⟨e2,n2⟩ | ⟨g2,c2,u2,e2,_,b2,_,_,_,t2⟩
  ·rw[e1]at e2;cases e2
  ·rw[e1]at e2
   injection e2 with e2 _ e3
   injection e2 with e2
   injection e2 with e2
   subst e2 e3
   rw[b1]at b2
   injection b2 with b2
   injection b2 with b2
   subst b2
   rw[←t1,←t2]
theorem infoPts:(Tryz.prog.info? 99).map (λi=>(i.zero,i.size,i.bytes))=some (some (.agg #[.int .i64 0,.bool false,.int .i64 0,.string ⟨#[]⟩,.string ⟨#[]⟩,.slice none 0 0,.int .i64 0,.bool false,.int .i64 0,.string ⟨#[]⟩,.string ⟨#[]⟩,.slice none 0 0,.int .i64 0,.bool false,.int .i64 0,.string ⟨#[]⟩,.string ⟨#[]⟩,.slice none 0 0]),18,240):=by kernel_rfl
theorem infoIx:(Tryz.prog.info? 3).map (λi=>(i.zero,i.size,i.bytes))=some (some (.int .i64 0),1,8):=by kernel_rfl
theorem wp_app_T {op:Oper} {a:Act} {K:Act→World→Prop} {Q:Exit→Act→World→Prop} (s x:Operand) (ho:op.op = .call { callee:=.builtin .append,args:=#[s,x],argTypes:=#[93,93] })
    {wr:World} {F:Nat→Prop} {L:List Trip} {S:Value} {t:Trip} {c:Array Value} {n:Nat} (hS:a.eval s=S) (hown:SOwn 99 18 TrS wr F L S) (hL:L.length=n) (hx:a.eval x = .slice (some ⟨wr.heap.size,0,none⟩) 1 1) (hc:∀w F,TrS w F t c) (hlen:n≤1000000) (hF:∀b,F b→b<wr.heap.size)
    (h:∀g cap w',SOwn 99 18 TrS w' (λb=>F b∨b=g) (L++[t]) (.slice (some ⟨g,0,none⟩) (n+1) cap)→wr.grownBy w' S.ownBlock→(S.ownBlock=some g∨wr.heap.size≤g)→g<w'.heap.size→K (a.put op.dst (.slice (some ⟨g,0,none⟩) (n+1) cap)) w') :
    op.wp Tryz.prog a (wr.alloc (.cells c 99)) K Q:=by
 subst hL
 obtain⟨i0,hi,hz0,hz1,hz2⟩:=info_parts infoPts
 obtain⟨cs,hrow,h6,hFw,hr⟩:=hown
 have hc18:c.size=18:=by obtain⟨_,_,ss,_,e⟩:=hc wr F;rw[e];rfl
 have hc1:∀u∈c.toList,u.oneCell'=true:=by
  obtain⟨_,_,ss,hs,e⟩:=hc wr F
  rw[e]
  exact cellsT_one t ss λq hq=>by obtain⟨A,cp,e⟩:=hs q hq;exact⟨A,0,cp,e⟩
 refine wp_append_lies _ s x _ ho 0 99 i0 _ 18 240 Tryz.underlying93 hi hz0 hz1 hz2 rfl (by decide) S L.length (flatC cs L.length) hS (hrow.alloc _) ⟨wr.heap.size,0,none⟩ 1 1 c.toList hx (by rw[Array.length_toList,hc18]) (World.news_of_block (heap_alloc_new wr _)) hc1 (by omega) (by unfold maxLen;omega) (by omega) (Nat.zero_le _) (wr.heap.size+1) (by simp) (λg cap w' h1 h2 h3 h4=>?_)
 have hg:=grown_after h2
 have hl:S.ownBlock=some g∨wr.heap.size≤g:=h3.imp id (λe=>by rw[e];omega)
 have hsn:=SOwn.snoc (x:=t) (c:=c) (G:=λ_=>False) TrS.good ⟨cs,hrow,h6,hFw,hr⟩ (hc _ _) hc18 (λb hb=>hb.elim) hF (λb hb=>hb.elim) (λcs' h'=>by rw[own_inj h' hrow];exact h1) hg hl
 exact h g cap w' (hsn.mono TrS.good λb hb=>by rcases hb with hb | hb | hb;exact .inl hb;exact hb.elim;exact .inr hb) hg hl h4
theorem wp_app_I {op:Oper} {a:Act} {K:Act→World→Prop} {Q:Exit→Act→World→Prop} (s x:Operand) (ho:op.op = .call { callee:=.builtin .append,args:=#[s,x],argTypes:=#[94,94] })
    {wr:World} {ix:List Nat} {S:Value} {k n:Nat} (hS:a.eval s=S) (hn:ix.length=n) (hown:wr.ownsRow 0 3 1 S n (ixC ix)) (hx:a.eval x = .slice (some ⟨wr.heap.size,0,none⟩) 1 1) (hlen:n≤1000000)
    (h:∀g cap w',w'.ownsRow 0 3 1 (.slice (some ⟨g,0,none⟩) (n+1) cap) (n+1) (ixC (ix++[k]))→wr.grownBy w' S.ownBlock→(S.ownBlock=some g∨wr.heap.size≤g)→g<w'.heap.size→K (a.put op.dst (.slice (some ⟨g,0,none⟩) (n+1) cap)) w') :
    op.wp Tryz.prog a (wr.alloc (.cells #[.int .i64 (k:Nat)] 3)) K Q:=by
 obtain⟨i0,hi,hz0,hz1,hz2⟩:=info_parts infoIx
 refine wp_append_lies _ s x _ ho 0 3 i0 _ 1 8 Tryz.underlying94 hi hz0 hz1 hz2 rfl (by decide) S n (ixC ix) hS (hown.alloc _) ⟨wr.heap.size,0,none⟩ 1 1 [.int .i64 (k:Nat)] hx rfl (World.news_of_block (cs:=#[.int .i64 (k:Nat)]) (heap_alloc_new wr _)) (λu hu=>by simp at hu;subst hu;rfl) (by omega) (by unfold maxLen;omega) (by omega) (Nat.zero_le _) (wr.heap.size+1) (by simp) (λg cap w' h1 h2 h3 h4=>?_)
 exact h g cap w' (by unfold ixC at h1 ⊢;rw[List.map_append];exact h1) (grown_after h2) (h3.imp id (λe=>by rw[e];omega)) h4
structure LdM (w0:World) (c:Nat) (S:Value) (ss:Nat→Value) (wx:World):Prop where
 hb:Below w0.heap.size w0 wx
 c0:w0.heap.size≤c
 ph:wx.heap[c+1]?=some (.cells #[.pointer (some ⟨c,0,none⟩)] 29 (0,0))
 pc:wx.heap[c]?=some (.cells #[S,ss 0,ss 1,ss 2,ss 3,ss 4,ss 5] 97 (0,0))
section
variable {w0 wx w':World} {c:Nat} {S:Value} {ss:Nat→Value}
theorem LdM.on (h:LdM w0 c S ss wx) (hb:Below wx.heap.size wx w'):LdM w0 c S ss w':=
 ⟨h.hb.trans (hb.mono h.hb.size),h.c0,(hb.block _ (blk_lt h.ph)).trans h.ph,(hb.block _ (blk_lt h.pc)).trans h.pc⟩
theorem LdM.turn (h:LdM w0 c S ss wx) {T:Nat→Prop} (ht:Turn T wx w') (h1:∀b,T b→c+2≤b):LdM w0 c S ss w':=
 ⟨below_turn h.hb ht (λb hb=>by have:=h1 b hb;have:=h.c0;omega),h.c0,ht.heap h.ph (λhb=>by have:=h1 _ hb;omega),ht.heap h.pc (λhb=>by have:=h1 _ hb;omega)⟩
theorem LdM.drew (h:LdM w0 c S ss wx):LdM w0 c S ss wx.drew:=⟨h.hb.drew,h.c0,h.ph,h.pc⟩
theorem LdM.cellS (h:LdM w0 c S ss wx):wx.cell? ⟨c,0,none⟩=some S:=cell_of_heap h.pc 0
theorem LdM.cellP (h:LdM w0 c S ss wx):wx.cell? ⟨c+1,0,none⟩=some (.pointer (some ⟨c,0,none⟩)):=cell_of_heap h.ph 0
theorem LdM.setS (h:LdM w0 c S ss wx) (S':Value):LdM w0 c S' ss (wx.setCell ⟨c,0,none⟩ S'):=by
 refine⟨h.hb.trans ?_,h.c0,?_,?_⟩
 ·have ht:=(Turn.refl (λb=>b=c) wx).setCell (p:=⟨c,0,none⟩) (.inr rfl) S'
  exact⟨ht.os,ht.tape,ht.output,ht.size,λk hk=>ht.block k (Nat.lt_of_lt_of_le hk h.hb.size) (λe=>by have:=h.c0;omega)⟩
 ·have ht:=(Turn.refl (λb=>b=c) wx).setCell (p:=⟨c,0,none⟩) (.inr rfl) S'
  exact ht.heap h.ph (by show ¬c+1=c;omega)
 ·exact heap_setCell_same wx c 0 _ _ S' h.pc
end
def nilS:Nat→Value:=λ_=>.slice none 0 0
structure LdT (w0:World) (c:Nat) (S:Value) (K:List Trip) (wx:World):Prop where
 m:LdM w0 c S nilS wx
 own:SOwn 99 18 TrS wx (λb=>c+2≤b∧b<wx.heap.size) K S
theorem LdT.on {w0 wx w':World} {c:Nat} {S:Value} {K:List Trip} (h:LdT w0 c S K wx) (hb:Below wx.heap.size wx w'):LdT w0 c S K w':=
 ⟨h.m.on hb,(h.own.turn TrS.good (Turn.of_below hb) (λb hb=>hb.2) (λb hb h=>by have h2:wx.heap.size≤b:=h;omega)).mono TrS.good λb hbb=>⟨hbb.1,Nat.lt_of_lt_of_le hbb.2 hb.size⟩⟩
theorem LdT.drew {w0 wx:World} {c:Nat} {S:Value} {K:List Trip} (h:LdT w0 c S K wx):LdT w0 c S K wx.drew:=⟨h.m.drew,h.own⟩
theorem LdT.blk {w0 wx:World} {c:Nat} {S:Value} {K:List Trip} (h:LdT w0 c S K wx):∀b,S.ownBlock=some b→c+2≤b∧b<wx.heap.size:=by
 obtain⟨cs,_,_,hF,_⟩:=h.own
 exact hF
theorem LdT.more {w0 wr w':World} {c g cap:Nat} {S:Value} {K:List Trip} {t:Trip} {n:Nat} (h:LdT w0 c S K wr) (hg:wr.grownBy w' S.ownBlock) (hl:S.ownBlock=some g∨wr.heap.size≤g) (hgw:g<w'.heap.size)
    (ho:SOwn 99 18 TrS w' (λb=>(c+2≤b∧b<wr.heap.size)∨b=g) (K++[t]) (.slice (some ⟨g,0,none⟩) (n+1) cap)) :
    LdT w0 c (.slice (some ⟨g,0,none⟩) (n+1) cap) (K++[t]) (w'.setCell ⟨c,0,none⟩ (.slice (some ⟨g,0,none⟩) (n+1) cap)):=by
 have hcl:c+2≤wr.heap.size:=by have:=blk_lt h.m.ph;omega
 have hm:LdM w0 c S nilS w':=h.m.turn (Turn.of_grown hg) (λb hb=>(h.blk b hb.symm).1)
 have hg2:c+2≤g:=by
  rcases hl with h1 | h1
  ·exact (h.blk g h1).1
  ·omega
 refine⟨hm.setS _,?_⟩
 have ht:=(Turn.refl (λb=>b=c) w').setCell (p:=⟨c,0,none⟩) (.inr rfl) (.slice (some ⟨g,0,none⟩) (n+1) cap)
 refine (ho.turn TrS.good ht (λb hb=>?_) (λb hb e=>?_)).mono TrS.good (λb hb=>?_)
 ·rcases hb with hb | hb
  ·exact Nat.lt_of_lt_of_le hb.2 hg.size
  ·rw[hb];exact hgw
 ·rcases hb with hb | hb
  ·have:b=c:=e;omega
  ·have:b=c:=e;omega
 ·rcases hb with hb | hb
  ·exact⟨hb.1,Nat.lt_of_lt_of_le (Nat.lt_of_lt_of_le hb.2 hg.size) ht.size⟩
  ·rw[hb];exact⟨hg2,Nat.lt_of_lt_of_le hgw ht.size⟩
structure RowT (F:Nat→Prop) (w:World) (cs:Nat→Array Value) (T:List Trip) (S:Value):Prop where
 el:ElT T cs
 form:∃A cap,S = .slice A T.length cap∧T.length≤cap∧(0<T.length→∃r,A=some ⟨r,0,none⟩∧F r∧∀a,a<T.length→∀j,j<18→w.cell? ⟨r,a*18+j,none⟩=(cs a)[j]?)
def RowI (F:Nat→Prop) (w:World) (ix:List Nat) (s:Value):Prop:=
 ∃A cap,s = .slice A ix.length cap∧ix.length≤cap∧(0<ix.length→∃r o,A=some ⟨r,o,none⟩∧F r∧∀a k,ix[a]?=some k→w.cell? ⟨r,o+a,none⟩=some (.int .i64 (k:Nat)))
section
variable {F F':Nat→Prop} {w w':World} {cs:Nat→Array Value} {T:List Trip} {S s:Value} {ix:List Nat}
theorem RowT.keep (h:RowT F w cs T S) (hk:∀p:Addr,F p.block→w'.cell? p=w.cell? p):RowT F w' cs T S:=by
 obtain⟨h0,A,cap,e,h1,h2⟩:=h
 refine⟨h0,A,cap,e,h1,λhn=>?_⟩
 obtain⟨r,e2,hF,hc⟩:=h2 hn
 exact⟨r,e2,hF,λa ha j hj=>(hk ⟨r,a*18+j,none⟩ hF).trans (hc a ha j hj)⟩
theorem RowT.mono (h:RowT F w cs T S) (hF:∀b,F b→F' b):RowT F' w cs T S:=by
 obtain⟨h0,A,cap,e,h1,h2⟩:=h
 refine⟨h0,A,cap,e,h1,λhn=>?_⟩
 obtain⟨r,e2,h3,hc⟩:=h2 hn
 exact⟨r,e2,hF _ h3,hc⟩
theorem RowI.keep (h:RowI F w ix s) (hk:∀p:Addr,F p.block→w'.cell? p=w.cell? p):RowI F w' ix s:=by
 obtain⟨A,cap,e,h1,h2⟩:=h
 refine⟨A,cap,e,h1,λhn=>?_⟩
 obtain⟨r,o,e2,hF,hc⟩:=h2 hn
 exact⟨r,o,e2,hF,λa k hak=>(hk ⟨r,o+a,none⟩ hF).trans (hc a k hak)⟩
theorem RowI.mono (h:RowI F w ix s) (hF:∀b,F b→F' b):RowI F' w ix s:=by
 obtain⟨A,cap,e,h1,h2⟩:=h
 refine⟨A,cap,e,h1,λhn=>?_⟩
 obtain⟨r,o,e2,h3,hc⟩:=h2 hn
 exact⟨r,o,e2,hF _ h3,hc⟩
end
structure StoreAt (F:Nat→Prop) (w:World) (c:Nat) (T:List Trip):Prop where
 cells:∃(S:Value) (ss:Nat→Value) (cs:Nat→Array Value),w.heap[c]?=some (.cells #[S,ss 0,ss 1,ss 2,ss 3,ss 4,ss 5] 97 (0,0))∧RowT F w cs T S∧∀j,j<6→∃ix:List Nat,IxOf (wayN j) T ix∧RowI F w ix (ss j)
 fc:F c
 scal:∀t,t∈T→ScalT t
 fit:∀t,t∈T→∀n,FitV (t.get n)
 rise:Rise (along (wayN 0)) T
 len:T.length≤65536
theorem StoreAt.keep {F:Nat→Prop} {w w':World} {c:Nat} {T:List Trip} (h:StoreAt F w c T) (hk:∀b,F b→w'.heap[b]?=w.heap[b]?):StoreAt F w' c T:=by
 obtain⟨S,ss,cs,h1,h2,h3⟩:=h.cells
 refine⟨⟨S,ss,cs,(hk c h.fc).trans h1,h2.keep λp hp=>World.cell?_of_block (hk _ hp),λj hj=>?_⟩,h.fc,h.scal,h.fit,h.rise,h.len⟩
 obtain⟨ix,q1,q2⟩:=h3 j hj
 exact⟨ix,q1,q2.keep λp hp=>World.cell?_of_block (hk _ hp)⟩
def LoadTIs (L:List Trip) (w:World) (e:Ending) (w':World):Prop:=
 (¬(L.length≤65536∧L.all mayT=true)∧e = .returned (.tuple #[.pointer none,.int .i64 20])∧Below w.heap.size w w') ∨
 (L.length≤65536∧L.all mayT=true∧∃c,e = .returned (.tuple #[.pointer (some ⟨c,0,none⟩),.int .i64 0])∧Below w.heap.size w w'∧StoreAt (λb=>w.heap.size≤b∧b<w'.heap.size) w' c (loadR (along (wayN 0)) L))
def updV (ss:Nat→Value) (j:Nat) (v:Value):Nat→Value:=λi=>if i=j then v else ss i
theorem idx_six (z j:Nat) (hj:j<6) (w:World):(Instr.indexAt 95 (.pointer (some ⟨z,1,none⟩)) (.int .i64 (j:Nat))).run Tryz.prog w = .ok (.pointer (some ⟨z,1+j,none⟩)) w:=by
 rcases (show j=0∨j=1∨j=2∨j=3∨j=4∨j=5 by omega) with rfl | rfl | rfl | rfl | rfl | rfl<;>kernel_rfl
section
variable {w0 wx w':World} {c:Nat} {S:Value} {ss:Nat→Value}
theorem LdM.cellJ (h:LdM w0 c S ss wx) {j:Nat} (hj:j<6):wx.cell? ⟨c,1+j,none⟩=some (ss j):=by
 rcases (show j=0∨j=1∨j=2∨j=3∨j=4∨j=5 by omega) with rfl | rfl | rfl | rfl | rfl | rfl<;>exact cell_of_heap h.pc _
theorem LdM.setJ (h:LdM w0 c S ss wx) {j:Nat} (hj:j<6) (v:Value):LdM w0 c S (updV ss j v) (wx.setCell ⟨c,1+j,none⟩ v):=by
 have ht:=(Turn.refl (λb=>b=c) wx).setCell (p:=⟨c,1+j,none⟩) (.inr rfl) v
 refine⟨h.hb.trans ⟨ht.os,ht.tape,ht.output,ht.size,λk hk=>ht.block k (Nat.lt_of_lt_of_le hk h.hb.size) (λe=>by have:=h.c0;omega)⟩,h.c0,ht.heap h.ph (by show ¬c+1=c;omega),?_⟩
 rcases (show j=0∨j=1∨j=2∨j=3∨j=4∨j=5 by omega) with rfl | rfl | rfl | rfl | rfl | rfl<;>exact heap_setCell_same wx c _ _ _ v h.pc
end
structure IxRow (c:Nat) (s:Value) (ix:List Nat) (wx:World):Prop where
 row:wx.ownsRow 0 3 1 s ix.length (ixC ix)
 blk:∀b,s.ownBlock=some b→c+2≤b∧b<wx.heap.size
theorem IxRow.nil (c:Nat) (wx:World):IxRow c (.slice none 0 0) [] wx:=⟨World.ownsRow_nil _ _ _ _,λb h=>by cases h⟩
theorem IxRow.turn {c:Nat} {s:Value} {ix:List Nat} {wx w':World} (h:IxRow c s ix wx) {T:Nat→Prop} (ht:Turn T wx w') (hT:∀b,s.ownBlock=some b→¬T b):IxRow c s ix w':=
 ⟨ht.owns h.row hT,λb hb=>⟨(h.blk b hb).1,Nat.lt_of_lt_of_le (h.blk b hb).2 ht.size⟩⟩
theorem IxRow.rd {c:Nat} {s:Value} {ix:List Nat} {wx:World} {F:Nat→Prop} (h:IxRow c s ix wx) (hF:∀b,c+2≤b→b<wx.heap.size→F b):RowI F wx ix s:=by
 rcases h.row.2 with⟨e,h0⟩ | ⟨g,cp,cur,e,_,hg,h1,h2,h3,h4⟩
 ·exact⟨none,0,by rw[e,h0],by omega,λhn=>absurd hn (by omega)⟩
 ·refine⟨some ⟨g,0,none⟩,cp,e,h1,λhn=>⟨g,0,rfl,?_,λa k hak=>?_⟩⟩
  ·obtain⟨q1,q2⟩:=h.blk g (by rw[e];rfl)
   exact hF g q1 q2
  ·have hi:=(List.getElem?_eq_some_iff.1 hak).1
   have hrow:=h.row
   rw[e]at hrow
   have h5:=hrow.cellAt a (by omega)
   rw[Nat.zero_add,h5]
   unfold ixC
   rw[List.getElem?_map,hak]
   rfl
structure LdX (w0:World) (c:Nat) (S:Value) (T:List Trip) (ss:Nat→Value) (zo:Nat) (j:Nat) (ixj:List Nat) (wx:World):Prop where
 m:LdM w0 c S ss wx
 own:SOwn 99 18 TrS wx (λb=>c+2≤b∧b<wx.heap.size) T S
 names:wx.heap[zo]?=some (.cells #[.string (wayT 0),.string (wayT 1),.string (wayT 2),.string (wayT 3),.string (wayT 4),.string (wayT 5)] 9 (0,0))
 zo2:c+2≤zo
 rows:∀i,i<6→i≠j→∃ix,IxRow c (ss i) ix wx∧(i<j→IxOf (wayN i) T ix)∧(j<i→ss i = .slice none 0 0)
 rowj:j<6→IxRow c (ss j) ixj wx
 sep:∀i i',i<6→i'<6→i≠i'→∀b,(ss i).ownBlock=some b→(ss i').ownBlock≠some b
section
variable {w0 wx w':World} {c zo j:Nat} {S:Value} {T:List Trip} {ss:Nat→Value} {ixj:List Nat}
theorem LdX.sblk (h:LdX w0 c S T ss zo j ixj wx):∀b,S.ownBlock=some b→c+2≤b∧b<wx.heap.size:=by
 obtain⟨cs,_,_,hF,_⟩:=h.own
 exact hF
theorem LdX.turn (h:LdX w0 c S T ss zo j ixj wx) {Tn:Nat→Prop} (ht:Turn Tn wx w') (h1:∀b,Tn b→c+2≤b) (h2:∀b,S.ownBlock=some b→¬Tn b) (h3:¬Tn zo) (h4:∀i,i<6→i≠j→∀b,(ss i).ownBlock=some b→¬Tn b) (h5:j<6→IxRow c (ss j) ixj w'):LdX w0 c S T ss zo j ixj w':=by
 refine⟨h.m.turn ht h1,?_,ht.heap h.names h3,h.zo2,λi hi hij=>?_,h5,h.sep⟩
 ·obtain⟨cs,hrow,h6,hF,hr⟩:=h.own
  exact⟨cs,ht.owns hrow h2,h6,λg hg=>⟨(hF g hg).1,Nat.lt_of_lt_of_le (hF g hg).2 ht.size⟩,λi x hx=>hr i x hx⟩
 ·obtain⟨ix,q1,q2,q3⟩:=h.rows i hi hij
  exact⟨ix,q1.turn ht (h4 i hi hij),q2,q3⟩
theorem LdX.on (h:LdX w0 c S T ss zo j ixj wx) (hb:Below wx.heap.size wx w'):LdX w0 c S T ss zo j ixj w':=by
 have hbl:=blk_lt h.m.ph
 refine h.turn (Turn.of_below hb) (λb hb=>by have hb:wx.heap.size≤b:=hb;omega) (λb hb h2=>?_) (λh2=>?_) (λi hi hij b hb h2=>?_) (λhj=>?_)
 ·have:=(h.sblk b hb).2;have h2:wx.heap.size≤b:=h2;omega
 ·have:=blk_lt h.names;have h2:wx.heap.size≤zo:=h2;omega
 ·obtain⟨ix,q1,_⟩:=h.rows i hi hij
  have:=(q1.blk b hb).2;have h2:wx.heap.size≤b:=h2;omega
 ·exact (h.rowj hj).turn (Turn.of_below hb) (λb hb2 h2=>by have:=((h.rowj hj).blk b hb2).2;have h2:wx.heap.size≤b:=h2;omega)
theorem LdX.drew (h:LdX w0 c S T ss zo j ixj wx):LdX w0 c S T ss zo j ixj wx.drew:=h.on (Below.refl _ _).drew
theorem LdX.store {v:Value} {ix':List Nat} {g:Nat} {wr w7:World} (h:LdX w0 c S T ss zo j ixj wr) (hj:j<6) (hg:wr.grownBy w7 (ss j).ownBlock) (hl:(ss j).ownBlock=some g∨wr.heap.size≤g) (hgw:g<w7.heap.size) (hv:v.ownBlock=some g) (ho:w7.ownsRow 0 3 1 v ix'.length (ixC ix')) :
    LdX w0 c S T (updV ss j v) zo j ix' (w7.setCell ⟨c,1+j,none⟩ v):=by
 have hgr:=Turn.of_grown hg
 have hbl:c+2≤wr.heap.size:=by have:=blk_lt h.m.ph;omega
 have hg2:c+2≤g:=by
  rcases hl with h1 | h1
  ·exact ((h.rowj hj).blk g h1).1
  ·omega
 have hother:∀i,i<6→i≠j→∀b,(ss i).ownBlock=some b→¬some b=(ss j).ownBlock:=λi hi hij b hb e=>h.sep i j hi hj hij b hb e.symm
 have hm7:LdM w0 c S ss w7:=h.m.turn hgr (λb hb=>((h.rowj hj).blk b hb.symm).1)
 have ht:=(Turn.refl (λb=>b=c) w7).setCell (p:=⟨c,1+j,none⟩) (.inr rfl) v
 refine⟨hm7.setJ hj v,?_,?_,h.zo2,λi hi hij=>?_,λ_=>?_,λi i' hi hi' hne b hb=>?_⟩
 ·obtain⟨cs,hrow,h6,hF,hr⟩:=h.own
  have hne:∀b,S.ownBlock=some b→¬some b=(ss j).ownBlock:=λb hb e=>own_apart hrow (h.rowj hj).row (by decide) b e.symm hb
  have hne2:∀b,S.ownBlock=some b→¬b=c:=λb hb e=>by have:=(hF b hb).1;omega
  exact⟨cs,ht.owns (hgr.owns hrow hne) hne2,h6,λq hq=>⟨(hF q hq).1,Nat.lt_of_lt_of_le (Nat.lt_of_lt_of_le (hF q hq).2 hgr.size) ht.size⟩,λi x hx=>hr i x hx⟩
 ·have h7:w7.heap[zo]?=_:=hgr.heap h.names (λe=>own_ne (h.rowj hj).row h.names (by decide) e.symm)
  exact ht.heap h7 (by have:=h.zo2;omega)
 ·obtain⟨ix,q1,q2,q3⟩:=h.rows i hi hij
  refine⟨ix,?_,q2,λhji=>?_⟩
  ·show IxRow c (if i=j then v else ss i) ix _
   rw[if_neg hij]
   exact (q1.turn hgr (hother i hi hij)).turn ht (λb hb e=>by have:=(q1.blk b hb).1;omega)
  ·show (if i=j then v else ss i)=_
   rw[if_neg hij];exact q3 hji
 ·show IxRow c (if j=j then v else ss j) ix' _
  rw[if_pos rfl]
  refine⟨ht.owns ho (λb hb e=>?_),λb hb=>?_⟩
  ·rw[hv]at hb;injection hb with hb;omega
  ·rw[hv]at hb;injection hb with hb;subst hb
   exact⟨hg2,Nat.lt_of_lt_of_le hgw ht.size⟩
 ·have hb:(if i=j then v else ss i).ownBlock=some b:=hb
  show (if i'=j then v else ss i').ownBlock≠some b
  have hnew:∀q,q<6→q≠j→(ss q).ownBlock≠some g:=λq hq hqj e=>by
   rcases hl with h1 | h1
   ·exact h.sep q j hq hj hqj g e h1
   ·obtain⟨ix,q1,_⟩:=h.rows q hq hqj
    have:=(q1.blk g e).2
    omega
  by_cases e1:i=j
  ·rw[if_pos e1,hv]at hb
   injection hb with hb
   subst hb
   rw[if_neg (by omega)]
   exact hnew i' hi' (by omega)
  ·rw[if_neg e1]at hb
   by_cases e2:i'=j
   ·rw[if_pos e2,hv]
    intro e
    injection e with e
    subst e
    exact hnew i hi e1 hb
   ·rw[if_neg e2]
    exact h.sep i i' hi hi' hne b hb
theorem LdX.next (h:LdX w0 c S T ss zo j ixj wx) (hj:j<6) (hx:IxOf (wayN j) T ixj):LdX w0 c S T ss zo (j+1) [] wx:=by
 refine⟨h.m,h.own,h.names,h.zo2,λi hi hij=>?_,λhj1=>?_,h.sep⟩
 ·by_cases e:i=j
  ·subst e
   exact⟨ixj,h.rowj hj,λ_=>hx,λh=>by omega⟩
  ·obtain⟨ix,q1,q2,q3⟩:=h.rows i hi e
   exact⟨ix,q1,λh=>q2 (by omega),λh=>q3 (by omega)⟩
 ·obtain⟨ix,q1,q2,q3⟩:=h.rows (j+1) hj1 (by omega)
  rw[q3 (by omega)]
  exact IxRow.nil c wx
theorem LdX.start {w0 wx:World} {c:Nat} {S:Value} {T:List Trip} (h:LdT w0 c S T wx):LdX w0 c S T nilS wx.heap.size 0 [] (wx.alloc (.cells #[.string (wayT 0),.string (wayT 1),.string (wayT 2),.string (wayT 3),.string (wayT 4),.string (wayT 5)] 9)):=by
 have hb:Below wx.heap.size wx (wx.alloc (.cells #[.string (wayT 0),.string (wayT 1),.string (wayT 2),.string (wayT 3),.string (wayT 4),.string (wayT 5)] 9)):=(Below.refl _ _).alloc (Nat.le_refl _) _
 have h2:=h.on hb
 have hbl:=blk_lt h.m.ph
 exact⟨h2.m,h2.own,heap_alloc_new wx _,by omega,λi _ _=>⟨[],IxRow.nil ..,λh=>by omega,λ_=>rfl⟩,λ_=>IxRow.nil ..,λ_ _ _ _ _ b hb=>by cases hb⟩
theorem LdX.name (h:LdX w0 c S T ss zo j ixj wx) (hj:j<6):wx.cell? ⟨zo,j,none⟩=some (.string (wayT j)):=by
 rcases (show j=0∨j=1∨j=2∨j=3∨j=4∨j=5 by omega) with rfl | rfl | rfl | rfl | rfl | rfl<;>exact cell_of_heap h.names _
theorem LdX.stc {r n cap g:Nat} {W:Way} (h:LdX w0 c (.slice (some ⟨r,0,none⟩) n cap) T ss zo j ixj wx) (hp:wx.heap[g]?=some (.cells (wayC W) 101 (0,0))) :
    ∃cs,(∀a t,T[a]?=some t→ScalT t∧(∀n,FitV (t.get n))∧∃ss,cs a=cellsT t ss)∧StC (c+1) c r n cap g W cs wx:=by
 obtain⟨cs,hel,hrm,_⟩:=rw_of h.own
 refine⟨cs,λa t ht=>?_,h.m.cellP,h.m.cellS,λa ha q hq=>?_,hp⟩
 ·obtain⟨q1,q2,s,_,q3⟩:=hel a t ht
  exact⟨q1,q2,s,q3⟩
 ·obtain⟨cur,h1,h2,h3⟩:=hrm.blk
  rw[cell_of_row wx r (a*18+q) cur _ _ h1]
  exact h3 a ha q hq
theorem LdX.sorted {ix':List Nat} (h:LdX w0 c S T ss zo j ixj wx) (hj:j<6) (ht:Turn (λb=>(ss j).ownBlock=some b) wx w') (ho:w'.ownsRow 0 3 1 (ss j) ix'.length (ixC ix')):LdX w0 c S T ss zo j ix' w':=by
 have hb:LdX w0 c S T ss zo j ix' w':=by
  have h9:LdX w0 c S T ss zo j ixj wx:=h
  refine⟨h.m.turn ht (λb hb=>((h.rowj hj).blk b hb).1),?_,ht.heap h.names (λe=>own_ne (h.rowj hj).row h.names (by decide) e),h.zo2,λi hi hij=>?_,λ_=>⟨ho,λb hb=>⟨((h.rowj hj).blk b hb).1,Nat.lt_of_lt_of_le ((h.rowj hj).blk b hb).2 ht.size⟩⟩,h.sep⟩
  ·obtain⟨cs,hrow,h6,hF,hr⟩:=h9.own
   exact⟨cs,ht.owns hrow (λb hb e=>own_apart hrow (h.rowj hj).row (by decide) b e hb),h6,λg hg=>⟨(hF g hg).1,Nat.lt_of_lt_of_le (hF g hg).2 ht.size⟩,λi x hx=>hr i x hx⟩
  ·obtain⟨ix,q1,q2,q3⟩:=h.rows i hi hij
   exact⟨ix,q1.turn ht (λb hb e=>h.sep i j hi hj hij b hb e),q2,q3⟩
 exact hb
theorem sortJ_any {A7:Option Addr} {nT c7 g:Nat} (h:LdX w0 c (.slice A7 nT c7) T ss zo j (List.range nT) wx) (hj:j<6) (hT:T.length=nT) (hnil:nT=0→ss j = .slice none 0 0) (hp:wx.heap[g]?=some (.cells (wayC (wayN j)) 101 (0,0))) (hgb:GlobB w0) (hgt:GlobT w0)
    (hs:∀t,t∈T→ScalT t) (hnd:T.Nodup) (hn:nT≤65536) :
    Calls Tryz.prog 54 #[ss j,.func (.func 55) #[] #[.pointer (some ⟨c+1,0,none⟩),.pointer (some ⟨g,0,none⟩)]] wx λe w'=>e = .returned (.tuple #[])∧∃ix',IxOf (wayN j) T ix'∧LdX w0 c (.slice A7 nT c7) T ss zo j ix' w':=by
 by_cases hn0:nT=0
 ·subst hn0
  have hT0:T=[]:=List.eq_nil_of_length_eq_zero hT
  subst hT0
  rw[hnil rfl]
  refine (AnyF.slices_SortFunc_none { Tryz.sortI with } none 0 _ wx).mono λe w' ⟨he,hw⟩=>⟨he,[],⟨List.Perm.refl _,List.Pairwise.nil⟩,?_⟩
  rw[hw]
  exact h
 ·obtain⟨r,rfl⟩:∃r,A7=some ⟨r,0,none⟩:=by
    obtain⟨cs,hrow,_⟩:=h.own
    obtain⟨b,cp,e,_⟩:=World.ownsRow.form hrow (by omega)
    injection e with e _ _
    exact⟨b,e⟩
  obtain⟨cs,hcs,hst⟩:=h.stc hp
  have hrow:=(h.rowj hj).row
  have hbk:=(h.rowj hj).blk
  have hc0:=h.m.c0
  refine (sortIx_any (wayN j) (wayN_ok j) T (c+1) c r nT c7 g cs w0 hT hcs hrow (λk hk=>List.mem_range.1 hk) (by simp;omega) (.inl (by omega)) hst h.m.hb (λb hb=>by have:=(hbk b hb).1;omega) (λb hb=>?_) hgb hgt).mono λe w' ⟨he,ix',hpm,hpw,hro,ht⟩=>⟨he,ix',ix_of (wayN_ok j) hs hnd (by rw[hT];exact hpm) hpw,h.sorted hj ht hro⟩
  have h1:=(hbk b hb).1
  refine⟨by omega,by omega,λe=>?_,λe=>?_⟩
  ·obtain⟨cs2,hrow2,_⟩:=h.own
   exact own_apart hrow2 hrow (by decide) b hb (by rw[e];rfl)
  ·exact own_ne hrow hp (by decide) (by rw[hb,e])
theorem LdX.whole (h:LdX w0 c S T ss zo 6 ixj wx) (hs:∀t,t∈T→ScalT t) (hf:∀t,t∈T→∀n,FitV (t.get n)) (hr:Rise (along (wayN 0)) T) (hl:T.length≤65536):StoreAt (λb=>w0.heap.size≤b∧b<wx.heap.size) wx c T:=by
 have h0:=h.m.c0
 obtain⟨A,cap,rfl⟩:=h.own.form
 have hrow:∃cs,RowT (λb=>w0.heap.size≤b∧b<wx.heap.size) wx cs T (.slice A T.length cap):=by
  by_cases hn:0<T.length
  ·obtain⟨r,rfl⟩:∃r,A=some ⟨r,0,none⟩:=by
     obtain⟨cs,hrow,_⟩:=h.own
     obtain⟨b,cp,e,_⟩:=World.ownsRow.form hrow hn
     injection e with e _ _
     exact⟨b,e⟩
   obtain⟨cs,hel,hrm,_,hnc,_,hFb⟩:=rw_of h.own
   obtain⟨cur,h1,h2,h3⟩:=hrm.blk
   exact⟨cs,hel,_,cap,rfl,hnc,λ_=>⟨r,rfl,⟨by omega,hFb.2⟩,λa ha j hj=>by rw[cell_of_row wx r (a*18+j) cur _ _ h1];exact h3 a ha j hj⟩⟩
  ·obtain⟨cs,hrow,h6,hF,hr⟩:=h.own
   exact⟨cs,hr,A,cap,rfl,owned_cap hrow,λh=>absurd h hn⟩
 obtain⟨cs,hcs⟩:=hrow
 refine⟨⟨_,ss,cs,h.m.pc,hcs,λj hj=>?_⟩,⟨h0,blk_lt h.m.pc⟩,hs,hf,hr,hl⟩
 obtain⟨ix,q1,q2,_⟩:=h.rows j hj (by omega)
 exact⟨ix,q2 hj,q1.rd λb hb1 hb2=>⟨by omega,hb2⟩⟩
end
end Go.Proofs.YtefhfadjajcmkaaGreatDoor
