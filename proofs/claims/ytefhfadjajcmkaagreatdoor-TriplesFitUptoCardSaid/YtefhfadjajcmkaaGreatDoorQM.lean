/- TriplesFit: the walk: printed by gen_ZB.py. -/
import Derived.Test.YtefhfadjajcmkaaGreatDoorQL
import Derived.Test.YtefhfadjajcmkaaGreatDoorQJ
set_option linter.unusedVariables false
set_option linter.unusedSimpArgs false
namespace Go.Proofs.YtefhfadjajcmkaaGreatDoor
open Go Go.RowKit Go.Maps
open Go.Lib (hid cell_of_heap)
theorem filter_at {T:List Trip} {g:Trip→Bool} {i:Nat} {u:Trip} (h:T[i]?=some u) (hg:g u=true):(T.filter g)[((T.take i).filter g).length]?=some u:=by
 obtain⟨hi,e⟩:=List.getElem?_eq_some_iff.1 h
 have e2:T.filter g=(T.take i).filter g++(u::(T.drop (i+1)).filter g):=by
  have e3:T=T.take i++T.drop i:=(List.take_append_drop i T).symm
  have e4:T.drop i=u::T.drop (i+1):=by rw[←e];exact List.drop_eq_getElem_cons hi
  have e5:=congrArg (List.filter g) e3
  rw[List.filter_append,e4,List.filter_cons_of_pos hg]at e5
  exact e5
 rw[e2,List.getElem?_append_right (Nat.le_refl _),Nat.sub_self]
 rfl
def nilT:Nat→Value:=λ_=>.slice none 0 0
theorem nm_fit {x:ByteArray} (h:x.size≤1000):FitV (nmV x):=⟨show (-9223372036854775808:Int)≤0 by decide,show (0:Int)≤9223372036854775807 by decide,Nat.le_trans h (by decide)⟩
theorem build_nm (x:ByteArray) (W:World):(Instr.build 39 #[(3,.string x)]).run Tryz.prog W = .ok (.agg (cellsV (nmV x) (.slice none 0 0))) W:=by kernel_rfl
theorem build_pat (a b c:Val) (W:World):(Instr.build 45 #[(0,.agg (cellsV a (.slice none 0 0))),(1,.agg (cellsV b (.slice none 0 0))),(2,.agg (cellsV c (.slice none 0 0)))]).run Tryz.prog W = .ok (.agg (cellsT ⟨a,b,c⟩ nilT)) W:=by kernel_rfl
theorem build_prP (t:Trip) (ss:Nat→Value) (W:World):(Instr.build 45 #[(0,.agg (cellsV (t.get 0) (ss 0))),(1,.agg (cellsV (t.get 1) (ss 1))),(2,.agg (cellsV (t.get 2) (ss 2)))]).run Tryz.prog W = .ok (.agg (cellsT t ss)) W:=by kernel_rfl
def oneS (s:Value):Nat→Value:=λe=>if e=0 then s else .slice none 0 0
theorem build_one (v:Val) (s:Value) (x:ByteArray) (W:World):(Instr.build 45 #[(0,.agg (cellsV v s)),(2,.agg (cellsV (nmV x) (.slice none 0 0)))]).run Tryz.prog W = .ok (.agg (cellsT ⟨v,nmV ⟨#[]⟩,nmV x⟩ (oneS s))) W:=by kernel_rfl
theorem names_ps (a b c:ByteArray):∀e,e<3→∃B cap,nilT e = .slice B ((⟨nmV a,nmV b,nmV c⟩:Trip).get e).list.length cap:=λe he=>by
 rcases (show e=0∨e=1∨e=2 by omega) with rfl | rfl | rfl<;>exact⟨none,0,rfl⟩
theorem names_fit {a b c:ByteArray} (ha:a.size≤1000) (hb:b.size≤1000) (hc:c.size≤1000):∀n,FitV ((⟨nmV a,nmV b,nmV c⟩:Trip).get n):=λn=>by
 unfold Trip.get
 split
 ·exact nm_fit ha
 ·split
  ·exact nm_fit hb
  ·exact nm_fit hc
set_option maxRecDepth 100000 in
set_option maxHeartbeats 32000000 in
theorem fitL_any (L:List Trip) (hok:∀t,t∈L→OkT t) (F:Nat→Prop) (A1 A2 A3:Option Addr) (nL nP nD c1 c2 c3:Nat) (ord:ByteArray) (w:World) (hF:∀b,F b→b<w.heap.size)
    (hL:SRd 18 TrR w F L A1 nL) (hnL:nL≤1000000000) (hgb:GlobB w) (hgt:GlobT w) :
    Calls Tryz.prog 4 #[.agg #[.slice A1 nL c1,.slice A2 nP c2,.string ord,.slice A3 nD c3]] w (ToldB true w):=by
 have HG:=hid (And.intro hgb hgt)
 have HLD:=hid (λ(W:World) (hb:Below w.heap.size w W)=>loadT_any L hok F A1 nL c1 W (λb h=>Nat.lt_of_lt_of_le (hF b h) hb.size) (hL.under TrR.good hb hF) hnL (glob_under hgb hb) (globT_under hgt hb))
 have HW:=hid (λ(W:World) (hb:Below w.heap.size w W)=>(wakes5_any W (glob_under hgb hb) (globT_under hgt hb)).mono (λe w' (h:e = .returned (.bool true)∧Below W.heap.size W w')=>(⟨h.1,hb.trans (h.2.mono hb.size)⟩:e = .returned (.bool true)∧Below w.heap.size w w')))
 clear hL hok hgb hgt hF
 obtain⟨z,HZ⟩:=name_itV w.heap.size
 obtain⟨w1,HW1⟩:=name_itV (w.alloc (.cells #[.slice A1 nL c1,.slice A2 nP c2,.string ord,.slice A3 nD c3] 26))
 have HB1:=hid (show Below w.heap.size w w1 from by rw[←HW1.out];exact (Below.refl _ _).alloc (Nat.le_refl _) _)
 have HK1:=hid (show w1.heap[z]?=some (.cells #[.slice A1 nL c1,.slice A2 nP c2,.string ord,.slice A3 nD c3] 26 (0,0)) from by rw[←HW1.out,←HZ.out];exact heap_alloc_new w _)
 have b0:w1.cell? ⟨z,0,none⟩=some (.slice A1 nL c1):=cell_of_heap HK1.out 0
 go_enter Tryz.func4,Tryz.ntmps4
 go_upto_region 1 with fail
 rw[HW1.out,HZ.out]
 clear HW1
 by_cases hbig:60<nL
 ·have e1:(60:Int)<nL:=by omega
  go_wp2_with fail
  refine (HW.out _ HB1.out).mono ?_
  rintro e w9 ⟨rfl,hb9⟩
  have HB9:=hid hb9
  clear hb9
  go_wp2_with fail
  go_ret
  exact⟨rfl,HB9.out⟩
 ·have e1:¬(60:Int)<nL:=by omega
  go_wp2_with fail
  refine (HLD.out w1 HB1.out).mono ?_
  rintro e w2 (⟨hno,rfl,hb⟩ | ⟨h65,hall,c,rfl,hb,hs⟩)
  ·have HB2:=hid (HB1.out.trans (hb.mono HB1.out.size))
   clear hb b0 hno
   go_wp2_with fail
   refine (HW.out _ HB2.out).mono ?_
   rintro e w9 ⟨rfl,hb9⟩
   have HB9:=hid hb9
   clear hb9
   go_wp2_with fail
   go_ret
   exact⟨rfl,HB9.out⟩
  ·have HB2:=hid (HB1.out.trans (hb.mono HB1.out.size))
   obtain⟨Gs,HGN⟩:=name_itV (λb=>w1.heap.size≤b∧b<w2.heap.size)
   rw[HGN.out]at hs
   have HFL:=hid (show ∀b,Gs b→b<w2.heap.size from by rw[←HGN.out];exact λb h=>h.2)
   obtain⟨T,HT⟩:=name_itV (loadR (along (wayN 0)) L)
   rw[HT.out]at hs
   have HND:=hid (show T.Nodup from hs.rise.imp fun {a b} h e=>by rw[e,(along_pre (wayN 0)).refl]at h;omega)
   have HS:=hid (λ(W:World) (hb:Below w2.heap.size w2 W)=>hs.keep (w':=W) λb hb2=>hb.block b (HFL.out b hb2))
   have HSC:=hid hs.scal
   have HFT:=hid hs.fit
   have HLT:=hid hs.len
   have HMT:=hid (λ(W:World) (hb:Below w2.heap.size w2 W) (P:Trip) (ps:Nat→Value) (hps:∀e,e<3→∃B cap,ps e = .slice B (P.get e).list.length cap) (fb:∀n,FitV (P.get n))=>match_any (hs.keep (w':=W) λb hb2=>hb.block b (HFL.out b hb2)) (λb hb2=>Nat.lt_of_lt_of_le (HFL.out b hb2) hb.size) P ps hps fb (glob_under HG.out.1 (HB2.out.trans (hb.mono HB2.out.size))) (globT_under HG.out.2 (HB2.out.trans (hb.mono HB2.out.size))))
   have HCT:=hid (λ(W:World) (hb:Below w2.heap.size w2 W) (P:Trip) (ps:Nat→Value) (hps:∀e,e<3→∃B cap,ps e = .slice B (P.get e).list.length cap) (fb:∀n,FitV (P.get n))=>count_any (hs.keep (w':=W) λb hb2=>hb.block b (HFL.out b hb2)) (λb hb2=>Nat.lt_of_lt_of_le (HFL.out b hb2) hb.size) P ps hps fb (glob_under HG.out.1 (HB2.out.trans (hb.mono HB2.out.size))) (globT_under HG.out.2 (HB2.out.trans (hb.mono HB2.out.size))))
   unfold AllIs at HMT
   unfold CountIs at HCT
   clear hs hb b0 HGN e1 hbig h65 hall HT
   go_wp2_with fail
   refine (all_any (HS.out _ (Below.refl _ _)) HFL.out).mono ?_
   unfold AllIs
   rintro e w3 ⟨v3,rfl,hown,hb⟩
   obtain⟨A5,c5,rfl,hr5⟩:=own_rd hown
   have HB3:=hid hb
   have HBF:=hid (show ∀b,(w2.heap.size≤b∧b<w3.heap.size)→b<w3.heap.size from λb h=>h.2)
   have HR5:=hid (λ(W:World) (hb:Below w3.heap.size w3 W)=>hr5.under (ofP.good CTx) hb HBF.out)
   obtain⟨n,HN⟩:=name_itV T.length
   rw[HN.out]at HR5 HLT ⊢
   clear hown hb hr5
   have BN1:=hid (build_nm ⟨#[115]⟩)
   have BN2:=hid (build_nm ⟨#[112]⟩)
   have BN3:=hid (build_nm ⟨#[111]⟩)
   have BP:=hid (build_pat (nmV ⟨#[115]⟩) (nmV ⟨#[112]⟩) (nmV ⟨#[111]⟩))
   have hm1:=HMT.out w3 HB3.out ⟨nmV ⟨#[115]⟩,nmV ⟨#[112]⟩,nmV ⟨#[111]⟩⟩ nilT (names_ps _ _ _) (names_fit (by decide) (by decide) (by decide))
   rw[fits_free (.inr (by decide)) (.inr (by decide)) (.inr (by decide))]at hm1
   obtain⟨s1,Hs1⟩:=name_itV (cellsV (nmV ⟨#[115]⟩) (.slice none 0 0))
   obtain⟨s2,Hs2⟩:=name_itV (cellsV (nmV ⟨#[112]⟩) (.slice none 0 0))
   obtain⟨s3,Hs3⟩:=name_itV (cellsV (nmV ⟨#[111]⟩) (.slice none 0 0))
   obtain⟨s4,Hs4⟩:=name_itV (cellsT ⟨nmV ⟨#[115]⟩,nmV ⟨#[112]⟩,nmV ⟨#[111]⟩⟩ nilT)
   rw[Hs1.out]at BN1 BP
   rw[Hs2.out]at BN2 BP
   rw[Hs3.out]at BN3 BP
   rw[Hs4.out]at BP hm1
   clear Hs1 Hs2 Hs3 Hs4
   go_wp2_with (first
    | ((with_reducible refine at_dst (some 36) ?_);refine build_arm rfl 39 _ rfl #[(3,.string ⟨#[115]⟩)] (by kernel_rfl) (.agg s1) (BN1.out _) ?_)
    | ((with_reducible refine at_dst (some 37) ?_);refine build_arm rfl 39 _ rfl #[(3,.string ⟨#[112]⟩)] (by kernel_rfl) (.agg s2) (BN2.out _) ?_)
    | ((with_reducible refine at_dst (some 38) ?_);refine build_arm rfl 39 _ rfl #[(3,.string ⟨#[111]⟩)] (by kernel_rfl) (.agg s3) (BN3.out _) ?_)
    | ((with_reducible refine at_dst (some 39) ?_);refine build_arm rfl 45 _ rfl #[(0,.agg s1),(1,.agg s2),(2,.agg s3)] (by kernel_rfl) (.agg s4) (BP.out _) ?_))
   refine hm1.mono ?_
   rintro e w4 ⟨v4,rfl,hown,hb⟩
   obtain⟨A6,c6,rfl,hr6⟩:=own_rd hown
   have HB4:=hid (HB3.out.trans (hb.mono HB3.out.size))
   have HB34:=hid hb
   have heq:=eqTs_any (ca:=c6) (cb:=c5) (rd_tr hr6) (rd_tr (HR5.out w4 hb)) (λb h=>h.2) (λb h=>Nat.lt_of_lt_of_le h.2 hb.size) (by have:=HLT.out;have:=HN.out;omega) (λt ht i=>by rw[scal_list ((HSC.out t ht).get i)];decide)
   rw[sameTs_iff.2 rfl]at heq
   rw[HN.out]at heq ⊢
   clear hown hr6 hb hm1 BN1 BN2 BN3 BP
   unfold ToldB at heq
   go_wp2_with fail
   refine heq.mono ?_
   rintro e w5 ⟨rfl,hb⟩
   have HB5:=hid (HB4.out.trans (hb.mono HB4.out.size))
   have HB35:=hid (HB34.out.trans (hb.mono HB34.out.size))
   clear hb heq
   have hm2:=HMT.out w5 HB5.out ⟨nmV ⟨#[]⟩,nmV ⟨#[]⟩,nmV ⟨#[]⟩⟩ nilT (names_ps _ _ _) (names_fit (by decide) (by decide) (by decide))
   rw[fits_free (.inl rfl) (.inl rfl) (.inl rfl)]at hm2
   have hm2:Calls Tryz.prog 19 #[.pointer (some ⟨c,0,none⟩),.agg #[.int .i64 0,.bool false,.int .i64 0,.string ⟨#[]⟩,.string ⟨#[]⟩,.slice none 0 0,.int .i64 0,.bool false,.int .i64 0,.string ⟨#[]⟩,.string ⟨#[]⟩,.slice none 0 0,.int .i64 0,.bool false,.int .i64 0,.string ⟨#[]⟩,.string ⟨#[]⟩,.slice none 0 0]] w5 _:=hm2
   go_wp2_with fail
   refine hm2.mono ?_
   rintro e w6 ⟨v6,rfl,hown,hb⟩
   obtain⟨A7,c7,rfl,hr7⟩:=own_rd hown
   have HB6:=hid (HB5.out.trans (hb.mono HB5.out.size))
   have HB36:=hid (HB35.out.trans (hb.mono HB35.out.size))
   have heq:=eqTs_any (ca:=c7) (cb:=c5) (rd_tr hr7) (rd_tr (HR5.out w6 HB36.out)) (λb h=>h.2) (λb h=>Nat.lt_of_lt_of_le h.2 HB36.out.size) (by have:=HLT.out;have:=HN.out;omega) (λt ht i=>by rw[scal_list ((HSC.out t ht).get i)];decide)
   rw[sameTs_iff.2 rfl]at heq
   rw[HN.out]at heq ⊢
   unfold ToldB at heq
   clear hown hr7 hb hm2
   go_wp2_with fail
   refine heq.mono ?_
   rintro e w7 ⟨rfl,hb⟩
   have HB7:=hid (HB6.out.trans (hb.mono HB6.out.size))
   have HB37:=hid (HB36.out.trans (hb.mono HB36.out.size))
   clear hb heq
   go_wp2_with fail
   go_loopw [7] (λs7 wx=>∃k:Nat,k≤n∧s7 = .int .i64 (k:Nat)∧Hid (Below w3.heap.size w3 wx)) (λs7 _=>n-(intOf s7).toNat)
   case atStart=>exact⟨0,by omega,rfl,HB37⟩
   case round=>
    obtain⟨k,hk,rfl,hM⟩:=hrel
    have HBW:=hid (show Below w2.heap.size w2 wr from HB3.out.trans (hM.out.mono HB3.out.size))
    by_cases hlt:k<n∧k<6
    ·obtain⟨hkn,hk6⟩:=hlt
     have a1:(0:Int)≤k:=by omega
     have a2:(k:Int)<n:=by omega
     have a3:(k:Int)<6:=by omega
     obtain⟨t,ht⟩:∃t,T[k]?=some t:=⟨_,List.getElem?_eq_getElem (by rw[HN.out];exact hkn)⟩
     have HT:=hid ht
     have htm:=List.mem_of_getElem? ht
     obtain⟨ad,c8,rfl,hfa,hsz8,hc8,hk8,ss,hss,rfl⟩:=(HR5.out wr hM.out).at_ ht
     have HK8:=hid hk8
     have hq:∀j,j<(cellsT t ss).size→wr.cell? ((ad.add (k*18)).add j)=(cellsT t ss)[j]?:=λj hj=>by rw[add_of_add];exact hc8 j (by rw[hsz8]at hj;exact hj)
     have HBP:=hid (build_prP t ss)
     have hone:=tr_one (t:=t) hss
     have HPS:=hid (show ∀e,e<3→∃B cap,ss e = .slice B (t.get e).list.length cap from λe he=>by
      obtain⟨A,cap,e1⟩:=hss e he
      exact⟨A,cap,by rw[e1,(hk8 e).list];rfl⟩)
     have hcn:=λ(W:World) (hb:Below w2.heap.size w2 W)=>HCT.out W hb t ss HPS.out (HFT.out t htm)
     rw[count_self HND.out HSC.out htm]at hcn
     have HBO:=hid (build_one (t.get 0) (ss 0) ⟨#[120]⟩)
     have hmt:=λ(W:World) (hb:Below w2.heap.size w2 W)=>HMT.out W hb ⟨t.get 0,nmV ⟨#[]⟩,nmV ⟨#[120]⟩⟩ (oneS (ss 0)) (λe he=>by
      rcases (show e=0∨e=1∨e=2 by omega) with rfl | rfl | rfl
      ·exact HPS.out 0 (by omega)
      ·exact⟨none,0,rfl⟩
      ·exact⟨none,0,rfl⟩) (λq=>by
      unfold Trip.get
      split
      ·exact HFT.out t htm 0
      ·split
       ·exact nm_fit (by decide)
       ·exact nm_fit (by decide))
     have hk0:(t.get 0).kind≠0:=by have:=((HSC.out t htm).get 0).2.1;omega
     have hfc:T.filter (fitsT ⟨t.get 0,nmV ⟨#[]⟩,nmV ⟨#[120]⟩⟩)=T.filter λq=>sameB (q.get 0) (t.get 0):=List.filter_congr λq _=>fits_one hk0 q
     rw[hfc]at hmt
     have BX:=hid (build_nm ⟨#[120]⟩)
     obtain⟨c1',Hc1⟩:=name18 t ss
     rw[Hc1.out]at hq hone HBP hcn
     obtain⟨u0,Hu0⟩:=name6 (t.get 0) (ss 0)
     obtain⟨u1,Hu1⟩:=name6 (t.get 1) (ss 1)
     obtain⟨u2,Hu2⟩:=name6 (t.get 2) (ss 2)
     obtain⟨sx,Hsx⟩:=name_itV (cellsV (nmV ⟨#[120]⟩) (.slice none 0 0))
     obtain⟨cx,Hcx⟩:=name_itV (cellsT ⟨t.get 0,nmV ⟨#[]⟩,nmV ⟨#[120]⟩⟩ (oneS (ss 0)))
     rw[Hu0.out,Hu1.out,Hu2.out]at HBP
     rw[Hu0.out,Hsx.out,Hcx.out]at HBO
     rw[Hsx.out]at BX
     rw[Hcx.out]at hmt
     have HCN:=hid hcn
     have HMX:=hid hmt
     have HQ:=hid hq
     have HONE:=hid hone
     have Z1:=hid Hc1.size
     have Q1:=hid (infoTr.trans (congrArg some Hc1.size.symm))
     have IU0:=hid (infoV6.trans (congrArg some Hu0.size.symm))
     have IU1:=hid (infoV6.trans (congrArg some Hu1.size.symm))
     have IU2:=hid (infoV6.trans (congrArg some Hu2.size.symm))
     clear hq hone hcn hmt hfc hk0 ht htm hfa hsz8 hc8 hk8 Hsx Hcx
     obtain⟨zt,Hzt⟩:=name_itV wr.heap.size
     have HBX:=hid (show (wr.alloc (.cells #[.int .i64 0,.bool false,.int .i64 0,.string ⟨#[]⟩,.string ⟨#[]⟩,.slice none 0 0,.int .i64 0,.bool false,.int .i64 0,.string ⟨#[]⟩,.string ⟨#[]⟩,.slice none 0 0,.int .i64 0,.bool false,.int .i64 0,.string ⟨#[]⟩,.string ⟨#[]⟩,.slice none 0 0] 41)).heap[zt]?=some (.cells #[.int .i64 0,.bool false,.int .i64 0,.string ⟨#[]⟩,.string ⟨#[]⟩,.slice none 0 0,.int .i64 0,.bool false,.int .i64 0,.string ⟨#[]⟩,.string ⟨#[]⟩,.slice none 0 0,.int .i64 0,.bool false,.int .i64 0,.string ⟨#[]⟩,.string ⟨#[]⟩,.slice none 0 0] 41 (0,0)) from by rw[←Hzt.out];exact heap_alloc_new wr _)
     go_upto_region 14 with (first
      | ((with_reducible refine at_dst (some 66) ?_);refine ld_armA rfl 41 _ rfl rfl c1' _ HQ.out Tryz.underlying41 rfl Q1.out ?_)
      | ((with_reducible refine at_st 8 ?_);refine st_row rfl 41 _ _ rfl zt (#[.int .i64 0,.bool false,.int .i64 0,.string ⟨#[]⟩,.string ⟨#[]⟩,.slice none 0 0,.int .i64 0,.bool false,.int .i64 0,.string ⟨#[]⟩,.string ⟨#[]⟩,.slice none 0 0,.int .i64 0,.bool false,.int .i64 0,.string ⟨#[]⟩,.string ⟨#[]⟩,.slice none 0 0]) c1' 41 (by rw[←Hzt.out];rfl) rfl HBX.out Z1.out Q1.out HONE.out ?_;intro w8 hw8 ht8))
     rw[Hzt.out]
     have HB8:=hid (show Below wr.heap.size wr w8 from box_below (by rw[Hzt.out];exact ht8))
     have HT8:=hid hw8
     have HBW8:=hid (HBW.out.trans (HB8.out.mono HBW.out.size))
     clear hw8 ht8 HBX HQ a1 a2 a3
     have LU0:=hid (λi (hi:i<u0.size)=>(show w8.cell? ((⟨zt,0,none⟩:Addr).add i)=u0[i]? from by
      rw[Addr.add_mid,cell_of_row w8 zt (0+i) c1' _ _ HT8.out,←Hu0.out,←Hc1.out]
      exact cellsT_part t ss 0 (by omega) i (by rwa [Hu0.size]at hi)))
     have LU1:=hid (λi (hi:i<u1.size)=>(show w8.cell? ((⟨zt,6,none⟩:Addr).add i)=u1[i]? from by
      rw[Addr.add_mid,cell_of_row w8 zt (6+i) c1' _ _ HT8.out,←Hu1.out,←Hc1.out]
      exact cellsT_part t ss 1 (by omega) i (by rwa [Hu1.size]at hi)))
     have LU2:=hid (λi (hi:i<u2.size)=>(show w8.cell? ((⟨zt,12,none⟩:Addr).add i)=u2[i]? from by
      rw[Addr.add_mid,cell_of_row w8 zt (12+i) c1' _ _ HT8.out,←Hu2.out,←Hc1.out]
      exact cellsT_part t ss 2 (by omega) i (by rwa [Hu2.size]at hi)))
     go_wp2_with (first
      | ((with_reducible refine at_dst (some 69) ?_);refine ld_armG (by rfl) 39 _ rfl rfl u0 _ LU0.out Tryz.underlying39 rfl IU0.out ?_)
      | ((with_reducible refine at_dst (some 71) ?_);refine ld_armG (by rfl) 39 _ rfl rfl u1 _ LU1.out Tryz.underlying39 rfl IU1.out ?_)
      | ((with_reducible refine at_dst (some 73) ?_);refine ld_armG (by rfl) 39 _ rfl rfl u2 _ LU2.out Tryz.underlying39 rfl IU2.out ?_)
      | ((with_reducible refine at_dst (some 74) ?_);refine build_arm rfl 45 _ rfl #[(0,.agg u0),(1,.agg u1),(2,.agg u2)] (by kernel_rfl) (.agg c1') (HBP.out _) ?_))
     refine (HCN.out w8 HBW8.out).mono ?_
     rintro e w9 ⟨rfl,hb⟩
     have HB9:=hid (HB8.out.trans (hb.mono HB8.out.size))
     have HBW9:=hid (HBW8.out.trans (hb.mono HBW8.out.size))
     have HT9:=hid ((hb.block zt (blk_lt HT8.out)).trans HT8.out)
     clear hb
     have LV0:=hid (λi (hi:i<u0.size)=>(show w9.cell? ((⟨zt,0,none⟩:Addr).add i)=u0[i]? from by
      rw[Addr.add_mid,cell_of_row w9 zt (0+i) c1' _ _ HT9.out,←Hu0.out,←Hc1.out]
      exact cellsT_part t ss 0 (by omega) i (by rwa [Hu0.size]at hi)))
     go_wp2_with (first
      | ((with_reducible refine at_dst (some 79) ?_);refine ld_armG (by rfl) 39 _ rfl rfl u0 _ LV0.out Tryz.underlying39 rfl IU0.out ?_)
      | ((with_reducible refine at_dst (some 80) ?_);refine build_arm rfl 39 _ rfl #[(3,.string ⟨#[120]⟩)] (by kernel_rfl) (.agg sx) (BX.out _) ?_)
      | ((with_reducible refine at_dst (some 81) ?_);refine build_arm rfl 45 _ rfl #[(0,.agg u0),(2,.agg sx)] (by kernel_rfl) (.agg cx) (HBO.out _) ?_))
     refine (HMX.out w9 HBW9.out).mono ?_
     rintro e w10 ⟨v10,rfl,hown,hb⟩
     obtain⟨A8,c8',rfl,hr8⟩:=own_rd hown
     have HB10:=hid (HB9.out.trans (hb.mono HB9.out.size))
     have HBW10:=hid (HBW9.out.trans (hb.mono HBW9.out.size))
     have HT10:=hid ((hb.block zt (blk_lt HT9.out)).trans HT9.out)
     have HR8:=hid (λ(W:World) (hb:Below w10.heap.size w10 W)=>hr8.under (ofP.good CTx) hb (λb h=>h.2))
     have HB310:=hid (hM.out.trans (HB10.out.mono hM.out.size))
     clear hown hb hr8
     obtain⟨g,Hg⟩:=name_itV (λq:Trip=>sameB (q.get 0) (t.get 0))
     rw[Hg.out]at HR8 ⊢
     obtain⟨m,Hm⟩:=name_itV (T.filter g).length
     rw[Hm.out]at HR8 ⊢
     go_wp2_with fail
     go_loopw [10,11] (λs10 s11 wx=>∃i:Nat,i≤n∧s11 = .int .i64 (i:Nat)∧s10 = .int .i64 (((T.take i).filter g).length:Nat)∧Hid (Below w10.heap.size w10 wx)) (λ_ s _=>n-(intOf s).toNat)
     case atStart=>exact⟨0,by omega,rfl,rfl,hid (Below.refl _ _)⟩
     case round=>
      rename World=>wq
      obtain⟨i,hi,rfl,rfl,hN⟩:=hrel
      have HCL:=hid (List.length_filter_le g (T.take i))
      have HTL:=hid (show (T.take i).length≤i from by rw[List.length_take];omega)
      obtain⟨cn,Hcn⟩:=name_itV ((T.take i).filter g).length
      rw[Hcn.out]at HCL ⊢
      by_cases hin:i<n
      ·have HIN:=hid hin
       have a1:(0:Int)≤i:=by omega
       have a2:(i:Int)<n:=by omega
       have h65:=HLT.out
       obtain⟨u,hu⟩:∃u,T[i]?=some u:=⟨_,List.getElem?_eq_getElem (by rw[HN.out];exact hin)⟩
       have HU:=hid hu
       have HBQ:=hid (HB310.out.trans (hN.out.mono HB310.out.size))
       obtain⟨ad',cu0,e4,hfb,hszu,hcu,hku,su,hsu,rfl⟩:=(HR5.out wq HBQ.out).at_ hu
       injection e4 with e4
       subst e4
       have HKU:=hid (show CellT (cellsT u su) u from ⟨hku,su,hsu,rfl⟩)
       have hqu:=λ(W:World) (hb:Below wq.heap.size wq W) (j:Nat) (hj:j<(cellsT u su).size)=>(show W.cell? ((ad.add (i*18)).add j)=(cellsT u su)[j]? from by
        rw[add_of_add]
        exact (hb.cell (p:=ad.add (i*18+j)) (by rw[add_blk];exact Nat.lt_of_lt_of_le hfb.2 HBQ.out.size)).trans (hcu j (by rw[hszu]at hj;exact hj)))
       have hq6:=λ(W:World) (hb:Below wq.heap.size wq W) (j:Nat) (hj:j<(cellsV (u.get 0) (su 0)).size)=>(show W.cell? ((ad.add (i*18)).add j)=(cellsV (u.get 0) (su 0))[j]? from by
        have hj6:j<6:=hj
        have h1:=cellsT_part u su 0 (by omega) j hj6
        rw[Nat.zero_mul,Nat.zero_add]at h1
        rw[hqu W hb j (by rw[hszu];omega),h1])
       obtain⟨Au,qu,eu⟩:=hsu 0 (by omega)
       obtain⟨At,qt,et⟩:=hss 0 (by omega)
       have hsm:=λ(W:World)=>sameK_any (hku 0) (HK8.out 0) Au At qu qt W
       rw[←eu,←et]at hsm
       unfold ToldB at hsm
       obtain⟨cu,Hcu⟩:=name18 u su
       obtain⟨v0,Hv0⟩:=name6 (u.get 0) (su 0)
       rw[Hcu.out]at hqu HKU
       rw[Hv0.out]at hq6 hsm
       rw[Hu0.out]at hsm
       obtain⟨b,Hb⟩:=name_itV (sameB (u.get 0) (t.get 0))
       have HGU:=hid (show g u=b from by rw[←Hg.out];exact Hb.out)
       rw[Hb.out]at hsm
       have HSM:=hid hsm
       have HQU:=hid hqu
       have HQ6:=hid hq6
       have QU:=hid (infoTr.trans (congrArg some Hcu.size.symm))
       have IV:=hid (infoV6.trans (congrArg some Hv0.size.symm))
       have HTQ:=hid ((hN.out.block zt (blk_lt HT10.out)).trans HT10.out)
       have HLZ:=hid (λ(W:World) (hb:Below wq.heap.size wq W)=>(show (Instr.loadAt 39 (.pointer (some ⟨zt,0,none⟩))).run Tryz.prog W = .ok (.agg u0) W from by
        have:=ld_part (P:=Tryz.prog) (part_range ((hb.block zt (blk_lt HTQ.out)).trans HTQ.out) Hc1 (n:=0) (by omega)) 39 _ Tryz.underlying39 rfl (by kernel_rfl)
        rw[Hu0.out,Nat.zero_mul]at this
        exact this))
       clear hu hfb hszu hcu hku hsu hqu hq6 hsm eu et
       go_upto_region 21 with fail
       refine wp_region_held_drew (S:=λW'=>Below wq.heap.size wq W') (by kernel_rfl) (Below.refl _ _).drew (λhHeld=>?_)
       refine Boxed.out ?_
       refine tkW 0 89 (.slice (some ad) n c5) hHeld (λw hSw=>?_) (λhHeld=>?_)
       ·unfold runsTo
        go_simp
       try simp only[Act.put,aT,aZ,aS]
       refine tkW 1 90 (.int .i64 (i:Nat)) hHeld (λw hSw=>?_) (λhHeld=>?_)
       ·unfold runsTo
        go_simp
       try simp only[Act.put,aT,aZ,aS]
       refine tkW 2 91 (.pointer (some (ad.add (i*18)))) hHeld (λw hSw=>?_) (λhHeld=>?_)
       ·unfold runsTo
        go_simp
       try simp only[Act.put,aT,aZ,aS]
       refine tkW 3 92 (.pointer (some (ad.add (i*18)))) hHeld (λw hSw=>?_) (λhHeld=>?_)
       ·unfold runsTo
        go_simp
       try simp only[Act.put,aT,aZ,aS]
       refine tkW 4 93 (.agg v0) hHeld (λw hSw=>?_) (λhHeld=>?_)
       ·have p:=run_loadVar_at w (ad.add (i*18)) 39 v0 _ (HQ6.out w hSw) Tryz.underlying39 rfl IV.out
        exact val_of (by simp only[Instr.loadAt,Instr.sureAddr,Sem.run_bind];exact p)
       try simp only[Act.put,aT,aZ,aS]
       refine tkW 5 94 (.pointer (some ⟨zt,0,none⟩)) hHeld (λw hSw=>?_) (λhHeld=>?_)
       ·unfold runsTo
        go_simp
       try simp only[Act.put,aT,aZ,aS]
       refine tkW 6 95 (.agg u0) hHeld (λw hSw=>?_) (λhHeld=>?_)
       ·exact val_of (HLZ.out w hSw)
       try simp only[Act.put,aT,aZ,aS]
       refine tkC 7 (λK hK=>?_)
       change Oper.wp _ ⟨some 96,_,_,_,_,_⟩ _ _ _ _
       go_simp
       refine (HSM.out _).mono ?_
       rintro e w11 ⟨rfl,hb⟩
       have HB11:=hid (show Below wq.heap.size wq w11 from below_of_dr hb)
       clear hb HSM
       dsimp only
       refine hK.out _ _ HB11.out (λhHeld=>?_)
       clear hK K
       try simp only[Act.put,aT,aZ,aS]
       refine⟨wpAnyH_done (by kernel_rfl) ?_ _⟩
       clear hHeld
       have hcn9:cn≤65536:=by have:=HCL.out;have:=HTL.out;omega
       cases b with
       | false=>
        have HCE:=hid (show ((T.take (i+1)).filter g).length=cn from by
         rw[take_oneMore HU.out,List.filter_append,List.filter_cons_of_neg (by rw[HGU.out];exact Bool.false_ne_true),List.filter_nil,List.append_nil,Hcn.out])
        have HNN:=hid (hN.out.trans (HB11.out.mono hN.out.size))
        go_wp2_with fail
        go_roundw
        case rel=>exact⟨i+1,by omega,by first | rfl | go_num,by rw[HCE.out],HNN⟩
        case measure=>simp[intOf];omega
       | true=>
        have HCE:=hid (show ((T.take (i+1)).filter g).length=cn+1 from by
         rw[take_oneMore HU.out,List.filter_append,List.filter_cons_of_pos (by rw[HGU.out]),List.filter_nil,List.length_append,Hcn.out]
         rfl)
        have hfa:=filter_at HU.out HGU.out
        rw[Hcn.out]at hfa
        have hcm:cn<m:=by rw[←Hm.out];exact (List.getElem?_eq_some_iff.1 hfa).1
        have HNN:=hid (hN.out.trans (HB11.out.mono hN.out.size))
        obtain⟨ad8,cm,rfl,hfb,hsz,hcs,hkm⟩:=(HR8.out w11 HNN.out).at_ hfa
        have hqm:=λ(W:World) (hb:Below w11.heap.size w11 W) (j:Nat) (hj:j<cm.size)=>(show W.cell? ((ad8.add (cn*18)).add j)=cm[j]? from by
         rw[add_of_add]
         exact (hb.cell (p:=ad8.add (cn*18+j)) (by rw[add_blk];exact Nat.lt_of_lt_of_le hfb.2 HNN.out.size)).trans (hcs j (by rw[hsz]at hj;exact hj)))
        have heq:=λ(W:World)=>eqT_any hkm HKU.out W
        rw[sameT_refl]at heq
        unfold ToldB at heq
        have HEQ:=hid heq
        have HQM:=hid hqm
        have QM:=hid (infoTr.trans (congrArg some hsz.symm))
        have a3:(0:Int)≤cn:=by omega
        have a4:(cn:Int)<m:=by omega
        have a5:¬(m:Int)≤cn:=by omega
        clear hfa hfb hsz hcs hkm hqm heq
        go_upto_region 22 with fail
        refine wp_region_held_drew (S:=λW'=>Below w11.heap.size w11 W') (by kernel_rfl) (Below.refl _ _).drew (λhHeld=>?_)
        refine Boxed.out ?_
        refine tkW 0 97 (.int .i64 (cn:Nat)) hHeld (λw hSw=>?_) (λhHeld=>?_)
        ·unfold runsTo
         go_simp
        try simp only[Act.put,aT,aZ,aS]
        refine tkW 1 98 (.slice (some ad8) m c8') hHeld (λw hSw=>?_) (λhHeld=>?_)
        ·unfold runsTo
         go_simp
        try simp only[Act.put,aT,aZ,aS]
        refine tkW 2 99 (.int .i64 (m:Nat)) hHeld (λw hSw=>?_) (λhHeld=>?_)
        ·unfold runsTo
         go_simp
        try simp only[Act.put,aT,aZ,aS]
        refine tkW 3 100 (.bool false) hHeld (λw hSw=>?_) (λhHeld=>?_)
        ·unfold runsTo
         go_simp
        try simp only[Act.put,aT,aZ,aS]
        refine tkW 4 101 (.bool false) hHeld (λw hSw=>?_) (λhHeld=>?_)
        ·unfold runsTo
         go_simp
        try simp only[Act.put,aT,aZ,aS]
        refine tkW 5 102 (.slice (some ad8) m c8') hHeld (λw hSw=>?_) (λhHeld=>?_)
        ·unfold runsTo
         go_simp
        try simp only[Act.put,aT,aZ,aS]
        refine tkW 6 103 (.int .i64 (cn:Nat)) hHeld (λw hSw=>?_) (λhHeld=>?_)
        ·unfold runsTo
         go_simp
        try simp only[Act.put,aT,aZ,aS]
        refine tkW 7 104 (.pointer (some (ad8.add (cn*18)))) hHeld (λw hSw=>?_) (λhHeld=>?_)
        ·unfold runsTo
         go_simp
        try simp only[Act.put,aT,aZ,aS]
        refine tkW 8 105 (.agg cm) hHeld (λw hSw=>?_) (λhHeld=>?_)
        ·have p:=run_loadVar_at w (ad8.add (cn*18)) 41 cm _ (HQM.out w hSw) Tryz.underlying41 rfl QM.out
         exact val_of (by simp only[Instr.loadAt,Instr.sureAddr,Sem.run_bind];exact p)
        try simp only[Act.put,aT,aZ,aS]
        refine tkW 9 106 (.slice (some ad) n c5) hHeld (λw hSw=>?_) (λhHeld=>?_)
        ·unfold runsTo
         go_simp
        try simp only[Act.put,aT,aZ,aS]
        refine tkW 10 107 (.int .i64 (i:Nat)) hHeld (λw hSw=>?_) (λhHeld=>?_)
        ·unfold runsTo
         go_simp
        try simp only[Act.put,aT,aZ,aS]
        refine tkW 11 108 (.pointer (some (ad.add (i*18)))) hHeld (λw hSw=>?_) (λhHeld=>?_)
        ·unfold runsTo
         go_simp
        try simp only[Act.put,aT,aZ,aS]
        refine tkW 12 109 (.agg cu) hHeld (λw hSw=>?_) (λhHeld=>?_)
        ·have p:=run_loadVar_at w (ad.add (i*18)) 41 cu _ (HQU.out w (HB11.out.trans (hSw.mono HB11.out.size))) Tryz.underlying41 rfl QU.out
         exact val_of (by simp only[Instr.loadAt,Instr.sureAddr,Sem.run_bind];exact p)
        try simp only[Act.put,aT,aZ,aS]
        refine tkC 13 (λK hK=>?_)
        change Oper.wp _ ⟨some 110,_,_,_,_,_⟩ _ _ _ _
        go_simp
        refine (HEQ.out _).mono ?_
        rintro e w12 ⟨rfl,hb⟩
        have HB12:=hid (show Below w11.heap.size w11 w12 from below_of_dr hb)
        clear hb HEQ
        dsimp only
        refine hK.out _ _ HB12.out (λhHeld=>?_)
        clear hK K
        try simp only[Act.put,aT,aZ,aS]
        refine tkW 14 111 (.bool false) hHeld (λw hSw=>?_) (λhHeld=>?_)
        ·unfold runsTo
         go_simp
        try simp only[Act.put,aT,aZ,aS]
        refine tkW 15 112 (.bool false) hHeld (λw hSw=>?_) (λhHeld=>?_)
        ·unfold runsTo
         go_simp
        try simp only[Act.put,aT,aZ,aS]
        refine⟨wpAnyH_done (by kernel_rfl) ?_ _⟩
        clear hHeld
        clear a5
        have HN12:=hid (HNN.out.trans (HB12.out.mono HNN.out.size))
        go_wp2_with fail
        go_roundw
        case rel=>exact⟨i+1,by omega,by first | rfl | go_num,by rw[HCE.out];first | rfl | go_num,HN12⟩
        case measure=>simp[intOf];omega
      ·have e1:¬(i:Int)<n:=by omega
       have ecn:cn=m:=by rw[←Hcn.out,←Hm.out,List.take_of_length_le (by rw[HN.out];omega)]
       subst ecn
       have HBE:=hid (HB310.out.trans (hN.out.mono HB310.out.size))
       clear hi hin
       go_wp2_with fail
       go_roundw
       case rel=>exact⟨k+1,by omega,by first | rfl | go_num,HBE⟩
       case measure=>simp[intOf];omega
    ·have hcs:¬(k:Int)<n∨((k:Int)<n∧¬(k:Int)<6):=by omega
     have BX:=hid (build_nm ⟨#[120]⟩)
     have BQ:=hid (build_nm ⟨#[112]⟩)
     have BP:=hid (build_pat (nmV ⟨#[120]⟩) (nmV ⟨#[112]⟩) (nmV ⟨#[120]⟩))
     have hm1:=HMT.out wr HBW.out ⟨nmV ⟨#[120]⟩,nmV ⟨#[112]⟩,nmV ⟨#[120]⟩⟩ nilT (names_ps _ _ _) (names_fit (by decide) (by decide) (by decide))
     have hfc:T.filter (fitsT ⟨nmV ⟨#[120]⟩,nmV ⟨#[112]⟩,nmV ⟨#[120]⟩⟩)=T.filter λq=>sameB (q.get 0) (q.get 2):=List.filter_congr λq _=>fits_twice (by decide) (by decide) q
     rw[hfc]at hm1
     obtain⟨s1,Hs1⟩:=name_itV (cellsV (nmV ⟨#[120]⟩) (.slice none 0 0))
     obtain⟨s2,Hs2⟩:=name_itV (cellsV (nmV ⟨#[112]⟩) (.slice none 0 0))
     obtain⟨s4,Hs4⟩:=name_itV (cellsT ⟨nmV ⟨#[120]⟩,nmV ⟨#[112]⟩,nmV ⟨#[120]⟩⟩ nilT)
     rw[Hs1.out]at BX BP
     rw[Hs2.out]at BQ BP
     rw[Hs4.out]at BP hm1
     have HMX:=hid hm1
     clear Hs1 Hs2 Hs4 hm1 hfc hlt
     rcases hcs with a2 | ⟨a2,a3⟩
     all_goals go_upto_region 27 with fail
     all_goals (first | clear a2 a3 | clear a2)
     all_goals go_wp2_with (first
      | ((with_reducible refine at_dst (some 120) ?_);refine build_arm rfl 39 _ rfl #[(3,.string ⟨#[120]⟩)] (by kernel_rfl) (.agg s1) (BX.out _) ?_)
      | ((with_reducible refine at_dst (some 121) ?_);refine build_arm rfl 39 _ rfl #[(3,.string ⟨#[112]⟩)] (by kernel_rfl) (.agg s2) (BQ.out _) ?_)
      | ((with_reducible refine at_dst (some 122) ?_);refine build_arm rfl 39 _ rfl #[(3,.string ⟨#[120]⟩)] (by kernel_rfl) (.agg s1) (BX.out _) ?_)
      | ((with_reducible refine at_dst (some 123) ?_);refine build_arm rfl 45 _ rfl #[(0,.agg s1),(1,.agg s2),(2,.agg s1)] (by kernel_rfl) (.agg s4) (BP.out _) ?_))
     all_goals refine HMX.out.mono ?_
     all_goals
      rintro e w8 ⟨v8,rfl,hown,hb⟩
      obtain⟨A8,c8,rfl,_⟩:=own_rd hown
      have HB8:=hid (hM.out.trans (hb.mono hM.out.size))
      clear hown hb HMX BX BQ BP
      obtain⟨g,Hg⟩:=name_itV (λq:Trip=>sameB (q.get 0) (q.get 2))
      rw[Hg.out]
      obtain⟨m,Hm⟩:=name_itV (T.filter g).length
      rw[Hm.out]
      go_wp2_with fail
      go_loopw [13,14] (λs13 s14 wx=>∃i:Nat,i≤n∧s14 = .int .i64 (i:Nat)∧s13 = .int .i64 (((T.take i).filter g).length:Nat)∧Hid (Below w8.heap.size w8 wx)) (λ_ s _=>n-(intOf s).toNat)
      case atStart=>exact⟨0,by omega,rfl,rfl,hid (Below.refl _ _)⟩
      case round=>
       rename World=>wq
       obtain⟨i,hi,rfl,rfl,hN⟩:=hrel
       have HCL:=hid (List.length_filter_le g (T.take i))
       have HTL:=hid (show (T.take i).length≤i from by rw[List.length_take];omega)
       obtain⟨cn,Hcn⟩:=name_itV ((T.take i).filter g).length
       rw[Hcn.out]at HCL ⊢
       have HBQ:=hid (HB8.out.trans (hN.out.mono HB8.out.size))
       have HBQ2:=hid (HB3.out.trans (HBQ.out.mono HB3.out.size))
       by_cases hin:i<n
       ·have HIN:=hid hin
        have a1:(0:Int)≤i:=by omega
        have a2:(i:Int)<n:=by omega
        have h65:=HLT.out
        have hcn9:cn≤65536:=by have:=HCL.out;have:=HTL.out;omega
        obtain⟨u,hu⟩:∃u,T[i]?=some u:=⟨_,List.getElem?_eq_getElem (by rw[HN.out];exact hin)⟩
        have HU:=hid hu
        obtain⟨ad,cu0,rfl,hfb,hszu,hcu,hku,su,hsu,rfl⟩:=(HR5.out wq HBQ.out).at_ hu
        have hqu:=λ(W:World) (hb:Below wq.heap.size wq W) (j:Nat) (hj:j<18)=>(show W.cell? (ad.add (i*18+j))=(cellsT u su)[j]? from
         (hb.cell (p:=ad.add (i*18+j)) (by rw[add_blk];exact Nat.lt_of_lt_of_le hfb.2 HBQ.out.size)).trans (hcu j hj))
        have hq0:=λ(W:World) (hb:Below wq.heap.size wq W) (j:Nat) (hj:j<(cellsV (u.get 0) (su 0)).size)=>(show W.cell? ((ad.add (i*18)).add j)=(cellsV (u.get 0) (su 0))[j]? from by
         have hj6:j<6:=hj
         have h1:=cellsT_part u su 0 (by omega) j hj6
         rw[Nat.zero_mul,Nat.zero_add]at h1
         rw[add_of_add,hqu W hb j (by omega),h1])
        have hq2:=λ(W:World) (hb:Below wq.heap.size wq W) (j:Nat) (hj:j<(cellsV (u.get 2) (su 2)).size)=>(show W.cell? (((ad.add (i*18)).add 12).add j)=(cellsV (u.get 2) (su 2))[j]? from by
         have hj6:j<6:=hj
         have h1:=cellsT_part u su 2 (by omega) j hj6
         rw[add_of_add,add_of_add,hqu W hb (12+j) (by omega),←h1])
        obtain⟨Au,qu,eu⟩:=hsu 0 (by omega)
        obtain⟨At,qt,et⟩:=hsu 2 (by omega)
        have hsm:=λ(W:World)=>sameK_any (hku 0) (hku 2) Au At qu qt W
        rw[←eu,←et]at hsm
        unfold ToldB at hsm
        obtain⟨v0,Hv0⟩:=name6 (u.get 0) (su 0)
        obtain⟨v2,Hv2⟩:=name6 (u.get 2) (su 2)
        rw[Hv0.out]at hq0 hsm
        rw[Hv2.out]at hq2 hsm
        obtain⟨b,Hb⟩:=name_itV (sameB (u.get 0) (u.get 2))
        have HGU:=hid (show g u=b from by rw[←Hg.out];exact Hb.out)
        rw[Hb.out]at hsm
        have HSM:=hid hsm
        have HQ0:=hid hq0
        have HQ2:=hid hq2
        have IV0:=hid (infoV6.trans (congrArg some Hv0.size.symm))
        have IV2:=hid (infoV6.trans (congrArg some Hv2.size.symm))
        clear hu hfb hszu hcu hku hsu hqu hq0 hq2 hsm eu et
        go_upto_region 32 with fail
        refine wp_region_held_drew (S:=λW'=>Below wq.heap.size wq W') (by kernel_rfl) (Below.refl _ _).drew (λhHeld=>?_)
        refine Boxed.out ?_
        refine tkW 0 131 (.slice (some ad) n c5) hHeld (λw hSw=>?_) (λhHeld=>?_)
        ·unfold runsTo
         go_simp
        try simp only[Act.put,aT,aZ,aS]
        refine tkW 1 132 (.int .i64 (i:Nat)) hHeld (λw hSw=>?_) (λhHeld=>?_)
        ·unfold runsTo
         go_simp
        try simp only[Act.put,aT,aZ,aS]
        refine tkW 2 133 (.pointer (some (ad.add (i*18)))) hHeld (λw hSw=>?_) (λhHeld=>?_)
        ·unfold runsTo
         go_simp
        try simp only[Act.put,aT,aZ,aS]
        refine tkW 3 134 (.pointer (some (ad.add (i*18)))) hHeld (λw hSw=>?_) (λhHeld=>?_)
        ·unfold runsTo
         go_simp
        try simp only[Act.put,aT,aZ,aS]
        refine tkW 4 135 (.agg v0) hHeld (λw hSw=>?_) (λhHeld=>?_)
        ·have p:=run_loadVar_at w (ad.add (i*18)) 39 v0 _ (HQ0.out w hSw) Tryz.underlying39 rfl IV0.out
         exact val_of (by simp only[Instr.loadAt,Instr.sureAddr,Sem.run_bind];exact p)
        try simp only[Act.put,aT,aZ,aS]
        refine tkW 5 136 (.slice (some ad) n c5) hHeld (λw hSw=>?_) (λhHeld=>?_)
        ·unfold runsTo
         go_simp
        try simp only[Act.put,aT,aZ,aS]
        refine tkW 6 137 (.int .i64 (i:Nat)) hHeld (λw hSw=>?_) (λhHeld=>?_)
        ·unfold runsTo
         go_simp
        try simp only[Act.put,aT,aZ,aS]
        refine tkW 7 138 (.pointer (some (ad.add (i*18)))) hHeld (λw hSw=>?_) (λhHeld=>?_)
        ·unfold runsTo
         go_simp
        try simp only[Act.put,aT,aZ,aS]
        refine tkW 8 139 (.pointer (some ((ad.add (i*18)).add 12))) hHeld (λw hSw=>?_) (λhHeld=>?_)
        ·unfold runsTo
         go_simp
        try simp only[Act.put,aT,aZ,aS]
        refine tkW 9 140 (.agg v2) hHeld (λw hSw=>?_) (λhHeld=>?_)
        ·have p:=run_loadVar_at w ((ad.add (i*18)).add 12) 39 v2 _ (HQ2.out w hSw) Tryz.underlying39 rfl IV2.out
         exact val_of (by simp only[Instr.loadAt,Instr.sureAddr,Sem.run_bind];exact p)
        try simp only[Act.put,aT,aZ,aS]
        refine tkC 10 (λK hK=>?_)
        change Oper.wp _ ⟨some 141,_,_,_,_,_⟩ _ _ _ _
        go_simp
        refine (HSM.out _).mono ?_
        rintro e w11 ⟨rfl,hb⟩
        have HB11:=hid (show Below wq.heap.size wq w11 from below_of_dr hb)
        clear hb HSM
        dsimp only
        refine hK.out _ _ HB11.out (λhHeld=>?_)
        clear hK K
        try simp only[Act.put,aT,aZ,aS]
        refine⟨wpAnyH_done (by kernel_rfl) ?_ _⟩
        clear hHeld
        have HNN:=hid (hN.out.trans (HB11.out.mono hN.out.size))
        cases b with
        | false=>
         have HCE:=hid (show ((T.take (i+1)).filter g).length=cn from by
          rw[take_oneMore HU.out,List.filter_append,List.filter_cons_of_neg (by rw[HGU.out];exact Bool.false_ne_true),List.filter_nil,List.append_nil,Hcn.out])
         go_wp2_with fail
         go_roundw
         case rel=>exact⟨i+1,by omega,by first | rfl | go_num,by rw[HCE.out],HNN⟩
         case measure=>simp[intOf];omega
        | true=>
         have HCE:=hid (show ((T.take (i+1)).filter g).length=cn+1 from by
          rw[take_oneMore HU.out,List.filter_append,List.filter_cons_of_pos (by rw[HGU.out]),List.filter_nil,List.length_append,Hcn.out]
          rfl)
         go_wp2_with fail
         go_roundw
         case rel=>exact⟨i+1,by omega,by first | rfl | go_num,by rw[HCE.out];first | rfl | go_num,HNN⟩
         case measure=>simp[intOf];omega
       ·have e1:¬(i:Int)<n:=by omega
        have ecn:cn=m:=by rw[←Hcn.out,←Hm.out,List.take_of_length_le (by rw[HN.out];omega)]
        subst ecn
        have e2:((cn:Int)==(cn:Int))=true:=by simp
        clear hi hin
        go_wp2_with fail
        refine (HW.out _ (HB2.out.trans (HBQ2.out.mono HB2.out.size))).mono ?_
        rintro e w9 ⟨rfl,hb9⟩
        have HB9:=hid hb9
        clear hb9
        go_wp2_with fail
        go_ret
        exact⟨rfl,HB9.out⟩
end Go.Proofs.YtefhfadjajcmkaaGreatDoor
