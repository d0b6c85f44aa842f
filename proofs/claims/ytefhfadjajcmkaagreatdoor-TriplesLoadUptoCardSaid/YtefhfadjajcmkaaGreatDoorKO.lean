/- What a script, a list of triples in memory read as: printed by gen_Y3.py. -/
import Derived.Test.YtefhfadjajcmkaaGreatDoorKM
import Derived.Test.YtefhfadjajcmkaaGreatDoorKJ
import Derived.Test.YtefhfadjajcmkaaGreatDoorKH
import Derived.Test.YtefhfadjajcmkaaGreatDoorKN
import Derived.Test.YtefhfadjajcmkaaGreatDoorK9
import Derived.Test.YtefhfadjajcmkaaGreatDoorKL
import Derived.Lib.AppendStr
import Derived.Test.YtefhfadjajcmkaaGreatDoorK3
import Derived.Test.YtefhfadjajcmkaaGreatDoorBulk
import Derived.Deep.Slices
import Derived.Lib.SmallJoins
set_option linter.unusedVariables false
set_option linter.unusedSimpArgs false
namespace Go.Proofs.YtefhfadjajcmkaaGreatDoor
open Go Go.RowKit Go.Maps
open Go.Lib (hid cell_of_heap)
theorem info_pat:(Tryz.prog.info? 45).map (·.size)=some 18:=by kernel_rfl
theorem trR_len {w:World} {F:Nat→Prop} {P:Trip} {ps:Nat→Value} (h:∀e,e<3→VRd w F (P.get e) (.agg (cellsV (P.get e) (ps e)))):∀e,e<3→∃B cap,ps e = .slice B (P.get e).list.length cap:=λe he=>by
 obtain⟨A,cap,e1,_,_⟩:=(h e he).inv
 injection e1 with e1
 have:=congrArg (λa:Array Value=>a[5]?) e1
 exact⟨A,cap,by simpa [cellsV] using this⟩
set_option maxRecDepth 100000 in
set_option maxHeartbeats 64000000 in
theorem loadL_any (L P:List Trip) (hok:∀t,t∈L→OkT t) (hokP:∀t,t∈P→OkT t) (F:Nat→Prop) (A1 A2 A3:Option Addr) (nL nP nD c1 c2 c3:Nat) (ord:ByteArray) (w:World) (hF:∀b,F b→b<w.heap.size)
    (hL:SRd 18 TrR w F L A1 nL) (hP:SRd 18 TrR w F P A2 nP) (hnL:nL≤1000000000) (hnP:nP≤1000000000) (hgb:GlobB w) (hgt:GlobT w) :
    Calls Tryz.prog 3 #[.agg #[.slice A1 nL c1,.slice A2 nP c2,.string ord,.slice A3 nD c3]] w (ToldB true w):=by
 have HG:=hid (And.intro hgb hgt)
 have HL:=hid (λ(W:World) (hb:Below w.heap.size w W)=>hL.under TrR.good hb hF)
 have HP:=hid (λ(W:World) (hb:Below w.heap.size w W)=>hP.under TrR.good hb hF)
 have HPL:=hid hP.1
 have HLN:=hid hL.1.symm
 have HF:=hid hF
 have HLD:=hid (λ(W:World) (B:Option Addr) (cb:Nat) (G:Nat→Prop) (hG:∀b,G b→b<W.heap.size) (h:SRd 18 TrR W G L B nL) (hb:Below w.heap.size w W)=>loadT_any L hok G B nL cb W hG h hnL (glob_under hgb hb) (globT_under hgt hb))
 have HRL:=hid (λ(W:World) (hb:Below w.heap.size w W)=>refLoad_any L hok (cp:=c1) (hL.under TrR.good hb hF) (λb h=>Nat.lt_of_lt_of_le (hF b h) hb.size) hnL)
 have HSZ:=hid (λt (ht:t∈L) i=>(show sizeL (t.get i).list≤100000000 from by have h1:=((hok t ht).get i).size;have h2:=sizeL_list (t.get i);omega))
 have HCP:=hid (λ(W:World) (hb:Below w.heap.size w W)=>copyTs_any (cp:=c1) (hL.under TrR.good hb hF) (λb h=>Nat.lt_of_lt_of_le (hF b h) hb.size) hnL HSZ.out)
 have HW:=hid (λ(W:World) (hb:Below w.heap.size w W)=>(wakes5_any W (glob_under hgb hb) (globT_under hgt hb)).mono (λe w' (h:e = .returned (.bool true)∧Below W.heap.size W w')=>(⟨h.1,hb.trans (h.2.mono hb.size)⟩:e = .returned (.bool true)∧Below w.heap.size w w')))
 clear hL hP hgb hgt hF
 obtain⟨z,HZ⟩:=name_itV w.heap.size
 obtain⟨w1,HW1⟩:=name_itV (w.alloc (.cells #[.slice A1 nL c1,.slice A2 nP c2,.string ord,.slice A3 nD c3] 26))
 have HB1:=hid (show Below w.heap.size w w1 from by rw[←HW1.out];exact (Below.refl _ _).alloc (Nat.le_refl _) _)
 have HK1:=hid (show w1.heap[z]?=some (.cells #[.slice A1 nL c1,.slice A2 nP c2,.string ord,.slice A3 nD c3] 26 (0,0)) from by rw[←HW1.out,←HZ.out];exact heap_alloc_new w _)
 have b0:w1.cell? ⟨z,0,none⟩=some (.slice A1 nL c1):=cell_of_heap HK1.out 0
 go_enter Tryz.func3,Tryz.ntmps3
 go_upto_region 1 with fail
 rw[HW1.out,HZ.out]
 clear HW1
 by_cases hbig:60<nL∧nL≤65536
 ·have e1:(60:Int)<nL:=by omega
  have e2:(nL:Int)≤65536:=by omega
  go_wp2_with fail
  refine (HW.out _ HB1.out).mono ?_
  rintro e w9 ⟨rfl,hb9⟩
  have HB9:=hid hb9
  clear hb9
  go_wp2_with fail
  go_ret
  exact⟨rfl,HB9.out⟩
 ·have hcs:¬(60:Int)<nL∨((60:Int)<nL∧¬(nL:Int)≤65536):=by omega
  clear hbig
  go_cut [23] (λs23 wx=>s23 = .bool false∧wx=w1)
  case first=>
   rcases hcs with e1 | ⟨e1,e2⟩
   ·go_wp2_with fail
    go_meet
    exact⟨rfl,rfl⟩
   ·go_wp2_with fail
    go_meet
    exact⟨rfl,rfl⟩
  case rest=>
  obtain⟨rfl,hw⟩:=hcut
  rw[hw]
  clear hw hcs
  go_wp2_with fail
  refine (HCP.out w1 HB1.out).mono ?_
  unfold CopyTsIs
  rintro e w2 ⟨v2,rfl,hown,hb⟩
  have HB2:=hid (HB1.out.trans (hb.mono HB1.out.size))
  have HPW2:=hid (own_any trR_any hown)
  obtain⟨Ac,cc,e2,_,hr2⟩:=hown.rd TrR.good
  subst e2
  rw[HLN.out]at HPW2 hr2 hown ⊢
  have hE:=λk t (ht:L[k]?=some t)=>own_at hown HLN.out ht
  have hOW:=λb (h:(Value.slice Ac nL cc).ownBlock=some b)=>(show w1.heap.size≤b∧b<w2.heap.size from by
   obtain⟨_,_,_,hF2,_⟩:=hown
   exact hF2 b h)
  have HOW:=hid hOW
  have HE2:=hid hE
  have HR2:=hid (λ(W:World) (hb:Below w2.heap.size w2 W)=>hr2.under TrR.good hb (λb h=>h.2))
  have bz:w2.cell? ⟨z,0,none⟩=some (.slice A1 nL c1):=cell_of_heap ((hb.block z (blk_lt HK1.out)).trans HK1.out) 0
  have HZN:=hid (show ¬(w1.heap.size≤z∧z<w2.heap.size) from λh=>by have:=blk_lt HK1.out;omega)
  have HK2:=hid ((hb.block z (blk_lt HK1.out)).trans HK1.out)
  clear hown hb hr2 hE hOW b0
  go_wp2_with fail
  refine (HLD.out w2 Ac cc _ (λb h=>h.2) (HR2.out w2 (Below.refl _ _)) HB2.out).mono ?_
  unfold LoadTIs
  rintro e w3 (⟨hno,rfl,hb⟩ | ⟨h65,hall,c,rfl,hb,hs⟩)
  ·have HB3:=hid (HB2.out.trans (hb.mono HB2.out.size))
   have HB23:=hid hb
   have HNO:=hid hno
   have bz3:w3.cell? ⟨z,0,none⟩=some (.slice A1 nL c1):=(hb.cell (p:=⟨z,0,none⟩) (blk_lt HK2.out)).trans bz
   clear hno hb bz
   go_wp2_with fail
   refine (HRL.out w3 HB3.out).mono ?_
   unfold LoadR5Is
   rintro e w4 (⟨_,rfl,hb⟩ | ⟨h65,hall,_⟩)
   ·have HB4:=hid (HB3.out.trans (hb.mono HB3.out.size))
    have HB24:=hid (HB23.out.trans (hb.mono HB23.out.size))
    have bz4:w4.cell? ⟨z,0,none⟩=some (.slice A1 nL c1):=(hb.cell (p:=⟨z,0,none⟩) (Nat.lt_of_lt_of_le (blk_lt HK2.out) HB23.out.size)).trans bz3
    have heq:=eqTs_any (ca:=cc) (cb:=c1) (HR2.out w4 HB24.out) (HL.out w4 HB4.out) (λb h=>Nat.lt_of_lt_of_le h.2 HB24.out.size) (λb h=>Nat.lt_of_lt_of_le (HF.out b h) HB4.out.size) hnL (λt ht i=>Nat.le_trans (HSZ.out t ht i) (by decide))
    rw[sameTs_iff.2 rfl]at heq
    unfold ToldB at heq
    clear hb bz3
    go_wp2_with fail
    refine heq.mono ?_
    rintro e w5 ⟨rfl,hb⟩
    have HB5:=hid (HB4.out.trans (hb.mono HB4.out.size))
    have HB25:=hid (HB24.out.trans (hb.mono HB24.out.size))
    have HPO:=hid (HPW2.out.on HB25.out)
    have HZ5:=hid (show z<w5.heap.size∧¬(w1.heap.size≤z∧z<w2.heap.size) from ⟨Nat.lt_of_lt_of_le (blk_lt HK2.out) HB25.out.size,HZN.out⟩)
    have HK5:=hid ((HB25.out.block z (blk_lt HK2.out)).trans HK2.out)
    clear hb heq bz4
    go_wp2_with fail
    go_loopw [8] (λs8 wx=>∃k:Nat,k≤nL∧s8 = .int .i64 (k:Nat)∧Hid (ZeroM w5 (.slice Ac nL cc) nL k wx)) (λs8 _=>nL-(intOf s8).toNat)
    case atStart=>exact⟨0,by omega,rfl,hid (ZeroM.start HPO.out)⟩
    case round=>
     obtain⟨k,hk,rfl,hM⟩:=hrel
     have HOB:=hid (λb (h:(Value.slice Ac nL cc).ownBlock=some b)=>HOW.out b h)
     have HBW:=hid (show Below w.heap.size w wr from below_turnP HB5.out hM.out.t (λb h=>Nat.le_trans HB1.out.size (HOB.out b h).1))
     have HKP:=hid (λb (h1:b<w5.heap.size) (h2:¬(w1.heap.size≤b∧b<w2.heap.size))=>hM.out.t.block b h1 (λh=>h2 (HOB.out b h)))
     have HZC:=hid (λ(W:World) (hb:Below wr.heap.size wr W)=>(show W.cell? ⟨z,0,none⟩=some (.slice A1 nL c1) from cell_of_heap ((hb.block z (blk_lt ((HKP.out z HZ5.out.1 HZ5.out.2).trans HK5.out))).trans ((HKP.out z HZ5.out.1 HZ5.out.2).trans HK5.out)) 0))
     by_cases hlt:k<nL
     ·have a1:(0:Int)≤k:=by omega
      have a2:(k:Int)<nL:=by omega
      have w1i:IntKind.i64.wrap ((k:Int)+1)=(k:Int)+1:=IntWalk.i64_in _ (by omega)
      obtain⟨t,ht⟩:∃t,L[k]?=some t:=⟨_,List.getElem?_eq_getElem (by rw[HLN.out];exact hlt)⟩
      have htm:=List.mem_of_getElem? ht
      obtain⟨g,ss,eA,hFg,hq,hv⟩:=HE2.out k t ht
      obtain⟨ad,Had⟩:=name_itV (⟨g,0,none⟩:Addr)
      rw[Had.out]at eA
      subst eA
      obtain⟨ad1,s1,e1,hfa,hq1,hr1⟩:=TrR.cells (HL.out wr HBW.out) ht
      subst e1
      have HOK:=hid (hok t htm)
      obtain⟨ct,Hct⟩:=name18 t ss
      obtain⟨cu,Hcu⟩:=name18 t s1
      have hOwn:(Value.slice (some ad) nL cc).ownBlock=some g:=by rw[←Had.out];rfl
      have hqw:∀j,j<18→wr.cell? ⟨g,k*18+j,none⟩=(cellsT t ss)[j]?:=λj hj=>by
       rw[hM.out.rest g hOwn (k*18+j) (by omega),←hq j hj]
       exact HB25.out.cell (p:=⟨g,k*18+j,none⟩) hFg.2
      have HQ1:=hid (λ(W:World) (hb:Below wr.heap.size wr W) (j:Nat) (hj:j<ct.size)=>(show W.cell? ((ad.add (k*18)).add j)=ct[j]? from by
       have hj':j<18:=by rw[Hct.size]at hj;exact hj
       rw[add_of_add,←Had.out,Addr.add_mid,Nat.zero_add,←Hct.out,←hqw j hj']
       exact hb.cell (p:=⟨g,k*18+j,none⟩) (hM.out.own.lt hOwn)))
      have HQ2:=hid (λ(W:World) (hb:Below wr.heap.size wr W) (j:Nat) (hj:j<cu.size)=>(show W.cell? ((ad1.add (k*18)).add j)=cu[j]? from by
       rw[←Hcu.out]at hj ⊢
       exact (hb.cell (p:=(ad1.add (k*18)).add j) (by rw[add_blk,add_blk];exact Nat.lt_of_lt_of_le (HF.out _ hfa) HBW.out.size)).trans (hq1 j hj)))
      have I1:=hid (infoTr.trans (congrArg some Hct.size.symm))
      have I2:=hid (infoTr.trans (congrArg some Hcu.size.symm))
      have HVW:=hid (λ(W:World) (hb:Below wr.heap.size wr W) i (hi:i<3)=>(show VRd W (λb=>(w1.heap.size≤b∧b<w2.heap.size)∧b≠g) (t.get i) (.agg (cellsV (t.get i) (ss i))) from
       (hv i hi).keep λp hp=>World.cell?_of_block ((hb.block p.block (Nat.lt_of_lt_of_le hp.1.2 (Nat.le_trans HB25.out.size hM.out.t.size))).trans ((hM.out.t.block p.block (Nat.lt_of_lt_of_le hp.1.2 HB25.out.size) (λh=>by rw[hOwn]at h;injection h with h;exact hp.2 h.symm)).trans (HB25.out.block p.block hp.1.2)))))
      have hck:=λ(W:World) (hb:Below wr.heap.size wr W)=>checkT_any t HOK.out _ ss W (λb (h:(w1.heap.size≤b∧b<w2.heap.size)∧b≠g)=>Nat.lt_of_lt_of_le h.1.2 (Nat.le_trans (Nat.le_trans HB25.out.size hM.out.t.size) hb.size)) (HVW.out W hb) (glob_under HG.out.1 (HBW.out.trans (hb.mono HBW.out.size)))
      have hmy:=λ(W:World) (hb:Below wr.heap.size wr W)=>refMayT_any t HOK.out F s1 W (λb h=>Nat.lt_of_lt_of_le (HF.out b h) (Nat.le_trans HBW.out.size hb.size)) (λi hi=>(hr1 i hi).under hb (λb h=>Nat.lt_of_lt_of_le (HF.out b h) HBW.out.size))
      obtain⟨b,Hb⟩:=name_itV (mayT t)
      rw[Hct.out,Hb.out]at hck
      rw[Hcu.out,Hb.out]at hmy
      have HCK:=hid hck
      have HMY:=hid hmy
      have HFG:=hid hFg
      have hbb:(b != b)=false:=bne_self_eq_false _
      have HLT:=hid hlt
      clear ht htm hFg hq hv hfa hq1 hr1 hqw hck hmy hOwn hlt
      go_upto_region 11 with fail
      refine wp_region_held_drew (S:=λW'=>Below wr.heap.size wr W') (by kernel_rfl) (Below.refl _ _).drew (λhH=>?_)
      refine Boxed.out ?_
      refine tkV 0 62 (.slice (some ad) nL cc) hH (λhH=>?_)
      try simp only[Act.put,aT,aZ,aS]
      refine tkV 1 63 (.int .i64 (k:Nat)) hH (λhH=>?_)
      try simp only[Act.put,aT,aZ,aS]
      refine tkV 2 64 (.pointer (some (ad.add (k*18)))) hH (λhH=>?_)
      try simp only[Act.put,aT,aZ,aS]
      refine tkW 3 65 (.agg ct) hH (λw hSw=>?_) (λhH=>?_)
      ·have p:=run_loadVar_at w (ad.add (k*18)) 41 ct _ (HQ1.out w hSw) Tryz.underlying41 rfl I1.out
       exact val_of (by simp only[Instr.loadAt,Instr.sureAddr,Sem.run_bind];exact p)
      try simp only[Act.put,aT,aZ,aS]
      refine tkV 5 67 (.pointer (some ⟨z,0,none⟩)) hH (λhH=>?_)
      try simp only[Act.put,aT,aZ,aS]
      refine tkW 6 68 (.slice (some ad1) nL c1) hH (λw hSw=>?_) (λhH=>?_)
      ·have p:w.cell? ⟨z,0,none⟩=some (.slice (some ad1) nL c1):=HZC.out w hSw
       unfold runsTo
       go_simp
      try simp only[Act.put,aT,aZ,aS]
      refine tkV 7 69 (.int .i64 (k:Nat)) hH (λhH=>?_)
      try simp only[Act.put,aT,aZ,aS]
      refine tkV 8 70 (.pointer (some (ad1.add (k*18)))) hH (λhH=>?_)
      try simp only[Act.put,aT,aZ,aS]
      refine tkW 9 71 (.agg cu) hH (λw hSw=>?_) (λhH=>?_)
      ·have p:=run_loadVar_at w (ad1.add (k*18)) 41 cu _ (HQ2.out w hSw) Tryz.underlying41 rfl I2.out
       exact val_of (by simp only[Instr.loadAt,Instr.sureAddr,Sem.run_bind];exact p)
      try simp only[Act.put,aT,aZ,aS]
      refine tkC 4 (λK hK=>?_)
      change Oper.wp _ ⟨some 66,_,_,_,_,_⟩ _ _ _ _
      go_simp
      refine (HCK.out _ hH).mono ?_
      unfold ToldB
      rintro e w7 ⟨rfl,hb⟩
      have HB7:=hid (hH.trans (hb.mono hH.size))
      clear hb
      dsimp only
      refine hK.out _ _ HB7.out (λhH=>?_)
      clear hK K
      try simp only[Act.put,aT,aZ,aS]
      refine tkC 10 (λK hK=>?_)
      change Oper.wp _ ⟨some 72,_,_,_,_,_⟩ _ _ _ _
      go_simp
      refine (HMY.out _ hH).mono ?_
      unfold ToldB
      rintro e w8 ⟨rfl,hb⟩
      have HB8:=hid (hH.trans (hb.mono hH.size))
      clear hb
      dsimp only
      refine hK.out _ _ HB8.out (λhH=>?_)
      clear hK K
      try simp only[Act.put,aT,aZ,aS]
      refine tkV 11 73 (.bool false) hH (λhH=>?_)
      try simp only[Act.put,aT,aZ,aS]
      refine⟨wpAnyH_done (by kernel_rfl) ?_ _⟩
      clear hH
      have HM2:=hid (show ZeroM w5 (.slice (some ⟨g,0,none⟩) nL cc) nL k w8 from by have:=hM.out.on HB8.out;rwa [←Had.out]at this)
      clear hbb HCK HMY
      go_wp2_with ((with_reducible refine at_st 77 ?_);refine st_zero rfl 41 _ _ rfl ad g k Had.out.symm rfl rfl (HM2.out.there HLT.out) info_zero ?_)
      go_roundw
      case rel=>exact⟨k+1,by have:=HLT.out;omega,by go_num,hid (by rw[←Had.out];exact HM2.out.set HLT.out)⟩
      case measure=>have:=HLT.out;simp[intOf];omega
     ·have a2:¬(k:Int)<nL:=by omega
      clear hlt hk
      go_wp2_with fail
      refine (HW.out _ HBW.out).mono ?_
      rintro e w9 ⟨rfl,hb9⟩
      have HB9:=hid hb9
      clear hb9
      go_wp2_with fail
      go_ret
      exact⟨rfl,HB9.out⟩
   ·exact absurd ⟨h65,hall⟩ HNO.out
  ·have HB3:=hid (HB2.out.trans (hb.mono HB2.out.size))
   have HB23:=hid hb
   have HYES:=hid (And.intro h65 hall)
   have HS3:=hid hs
   have bz3:w3.cell? ⟨z,0,none⟩=some (.slice A1 nL c1):=(hb.cell (p:=⟨z,0,none⟩) (blk_lt HK2.out)).trans bz
   obtain⟨T,HT⟩:=name_itV (loadR (along (wayN 0)) L)
   rw[HT.out]at HS3
   clear h65 hall hs hb bz
   go_wp2_with fail
   refine (HRL.out w3 HB3.out).mono ?_
   unfold LoadR5Is
   rintro e w4 (⟨hno,_,_⟩ | ⟨_,_,v5,rfl,hown,hb⟩)
   ·exact absurd HYES.out hno
   ·have HB4:=hid (HB3.out.trans (hb.mono HB3.out.size))
    have HB34:=hid hb
    have HB24:=hid (HB23.out.trans (hb.mono HB23.out.size))
    have bz4:w4.cell? ⟨z,0,none⟩=some (.slice A1 nL c1):=(hb.cell (p:=⟨z,0,none⟩) (Nat.lt_of_lt_of_le (blk_lt HK2.out) HB23.out.size)).trans bz3
    rw[HT.out]at hown
    obtain⟨A5,c5,e5,_,hr5⟩:=hown.rd TrR.good
    obtain⟨n,HN⟩:=name_itV T.length
    rw[HN.out]at e5 hr5
    subst e5
    have HR4:=hid hr5
    have heq:=eqTs_any (ca:=cc) (cb:=c1) (HR2.out w4 HB24.out) (HL.out w4 HB4.out) (λb h=>Nat.lt_of_lt_of_le h.2 HB24.out.size) (λb h=>Nat.lt_of_lt_of_le (HF.out b h) HB4.out.size) hnL (λt ht i=>Nat.le_trans (HSZ.out t ht i) (by decide))
    rw[sameTs_iff.2 rfl]at heq
    unfold ToldB at heq
    clear hb bz3 hown hr5 HYES HT
    go_wp2_with fail
    refine heq.mono ?_
    rintro e w5 ⟨rfl,hb⟩
    have HB5:=hid (HB4.out.trans (hb.mono HB4.out.size))
    have HB25:=hid (HB24.out.trans (hb.mono HB24.out.size))
    have HPO:=hid (HPW2.out.on HB25.out)
    have HZ5:=hid (show z<w5.heap.size∧¬(w1.heap.size≤z∧z<w2.heap.size) from ⟨Nat.lt_of_lt_of_le (blk_lt HK2.out) HB25.out.size,HZN.out⟩)
    have HK5:=hid ((HB25.out.block z (blk_lt HK2.out)).trans HK2.out)
    obtain⟨Gs,HGN⟩:=name_itV (λb=>w2.heap.size≤b∧b<w3.heap.size)
    obtain⟨Fs,HFN⟩:=name_itV (λb=>w3.heap.size≤b∧b<w4.heap.size)
    rw[HGN.out]at HS3
    rw[HFN.out]at HR4
    have HGB:=hid (show ∀b,Gs b→b<w5.heap.size∧¬(w1.heap.size≤b∧b<w2.heap.size) from by
     rw[←HGN.out]
     exact λb h=>⟨Nat.lt_of_lt_of_le h.2 (Nat.le_trans HB34.out.size hb.size),λh2=>by have:=h.1;omega⟩)
    have HFB:=hid (show ∀b,Fs b→b<w5.heap.size∧¬(w1.heap.size≤b∧b<w2.heap.size) from by
     rw[←HFN.out]
     exact λb h=>⟨Nat.lt_of_lt_of_le h.2 hb.size,λh2=>by have:=h.1;have:=HB23.out.size;omega⟩)
    have HS5:=hid (HS3.out.keep (w':=w5) λb h=>(hb.block b (by rw[←HGN.out]at h;exact Nat.lt_of_lt_of_le h.2 HB34.out.size)).trans (HB34.out.block b (by rw[←HGN.out]at h;exact h.2)))
    have HR5:=hid (HR4.out.under TrR.good hb (λb h=>by rw[←HFN.out]at h;exact h.2))
    have HSC:=hid HS5.out.scal
    have HFT:=hid HS5.out.fit
    have HLT5:=hid (show n≤65536 from by rw[←HN.out];exact HS5.out.len)
    clear hb heq bz4 HGN HFN HR4 HS3
    go_wp2_with fail
    go_loopw [8] (λs8 wx=>∃k:Nat,k≤nL∧s8 = .int .i64 (k:Nat)∧Hid (ZeroM w5 (.slice Ac nL cc) nL k wx)) (λs8 _=>nL-(intOf s8).toNat)
    case atStart=>exact⟨0,by omega,rfl,hid (ZeroM.start HPO.out)⟩
    case round=>
     obtain⟨k,hk,rfl,hM⟩:=hrel
     have HOB:=hid (λb (h:(Value.slice Ac nL cc).ownBlock=some b)=>HOW.out b h)
     have HBW:=hid (show Below w.heap.size w wr from below_turnP HB5.out hM.out.t (λb h=>Nat.le_trans HB1.out.size (HOB.out b h).1))
     have HKP:=hid (λb (h1:b<w5.heap.size) (h2:¬(w1.heap.size≤b∧b<w2.heap.size))=>hM.out.t.block b h1 (λh=>h2 (HOB.out b h)))
     have HZC:=hid (λ(W:World) (hb:Below wr.heap.size wr W)=>(show W.cell? ⟨z,0,none⟩=some (.slice A1 nL c1) from cell_of_heap ((hb.block z (blk_lt ((HKP.out z HZ5.out.1 HZ5.out.2).trans HK5.out))).trans ((HKP.out z HZ5.out.1 HZ5.out.2).trans HK5.out)) 0))
     by_cases hlt:k<nL
     ·have a1:(0:Int)≤k:=by omega
      have a2:(k:Int)<nL:=by omega
      have w1i:IntKind.i64.wrap ((k:Int)+1)=(k:Int)+1:=IntWalk.i64_in _ (by omega)
      obtain⟨t,ht⟩:∃t,L[k]?=some t:=⟨_,List.getElem?_eq_getElem (by rw[HLN.out];exact hlt)⟩
      have htm:=List.mem_of_getElem? ht
      obtain⟨g,ss,eA,hFg,hq,hv⟩:=HE2.out k t ht
      obtain⟨ad,Had⟩:=name_itV (⟨g,0,none⟩:Addr)
      rw[Had.out]at eA
      subst eA
      obtain⟨ad1,s1,e1,hfa,hq1,hr1⟩:=TrR.cells (HL.out wr HBW.out) ht
      subst e1
      have HOK:=hid (hok t htm)
      obtain⟨ct,Hct⟩:=name18 t ss
      obtain⟨cu,Hcu⟩:=name18 t s1
      have hOwn:(Value.slice (some ad) nL cc).ownBlock=some g:=by rw[←Had.out];rfl
      have hqw:∀j,j<18→wr.cell? ⟨g,k*18+j,none⟩=(cellsT t ss)[j]?:=λj hj=>by
       rw[hM.out.rest g hOwn (k*18+j) (by omega),←hq j hj]
       exact HB25.out.cell (p:=⟨g,k*18+j,none⟩) hFg.2
      have HQ1:=hid (λ(W:World) (hb:Below wr.heap.size wr W) (j:Nat) (hj:j<ct.size)=>(show W.cell? ((ad.add (k*18)).add j)=ct[j]? from by
       have hj':j<18:=by rw[Hct.size]at hj;exact hj
       rw[add_of_add,←Had.out,Addr.add_mid,Nat.zero_add,←Hct.out,←hqw j hj']
       exact hb.cell (p:=⟨g,k*18+j,none⟩) (hM.out.own.lt hOwn)))
      have HQ2:=hid (λ(W:World) (hb:Below wr.heap.size wr W) (j:Nat) (hj:j<cu.size)=>(show W.cell? ((ad1.add (k*18)).add j)=cu[j]? from by
       rw[←Hcu.out]at hj ⊢
       exact (hb.cell (p:=(ad1.add (k*18)).add j) (by rw[add_blk,add_blk];exact Nat.lt_of_lt_of_le (HF.out _ hfa) HBW.out.size)).trans (hq1 j hj)))
      have I1:=hid (infoTr.trans (congrArg some Hct.size.symm))
      have I2:=hid (infoTr.trans (congrArg some Hcu.size.symm))
      have HVW:=hid (λ(W:World) (hb:Below wr.heap.size wr W) i (hi:i<3)=>(show VRd W (λb=>(w1.heap.size≤b∧b<w2.heap.size)∧b≠g) (t.get i) (.agg (cellsV (t.get i) (ss i))) from
       (hv i hi).keep λp hp=>World.cell?_of_block ((hb.block p.block (Nat.lt_of_lt_of_le hp.1.2 (Nat.le_trans HB25.out.size hM.out.t.size))).trans ((hM.out.t.block p.block (Nat.lt_of_lt_of_le hp.1.2 HB25.out.size) (λh=>by rw[hOwn]at h;injection h with h;exact hp.2 h.symm)).trans (HB25.out.block p.block hp.1.2)))))
      have hck:=λ(W:World) (hb:Below wr.heap.size wr W)=>checkT_any t HOK.out _ ss W (λb (h:(w1.heap.size≤b∧b<w2.heap.size)∧b≠g)=>Nat.lt_of_lt_of_le h.1.2 (Nat.le_trans (Nat.le_trans HB25.out.size hM.out.t.size) hb.size)) (HVW.out W hb) (glob_under HG.out.1 (HBW.out.trans (hb.mono HBW.out.size)))
      have hmy:=λ(W:World) (hb:Below wr.heap.size wr W)=>refMayT_any t HOK.out F s1 W (λb h=>Nat.lt_of_lt_of_le (HF.out b h) (Nat.le_trans HBW.out.size hb.size)) (λi hi=>(hr1 i hi).under hb (λb h=>Nat.lt_of_lt_of_le (HF.out b h) HBW.out.size))
      obtain⟨b,Hb⟩:=name_itV (mayT t)
      rw[Hct.out,Hb.out]at hck
      rw[Hcu.out,Hb.out]at hmy
      have HCK:=hid hck
      have HMY:=hid hmy
      have HFG:=hid hFg
      have hbb:(b != b)=false:=bne_self_eq_false _
      have HLT:=hid hlt
      clear ht htm hFg hq hv hfa hq1 hr1 hqw hck hmy hOwn hlt
      go_upto_region 11 with fail
      refine wp_region_held_drew (S:=λW'=>Below wr.heap.size wr W') (by kernel_rfl) (Below.refl _ _).drew (λhH=>?_)
      refine Boxed.out ?_
      refine tkV 0 62 (.slice (some ad) nL cc) hH (λhH=>?_)
      try simp only[Act.put,aT,aZ,aS]
      refine tkV 1 63 (.int .i64 (k:Nat)) hH (λhH=>?_)
      try simp only[Act.put,aT,aZ,aS]
      refine tkV 2 64 (.pointer (some (ad.add (k*18)))) hH (λhH=>?_)
      try simp only[Act.put,aT,aZ,aS]
      refine tkW 3 65 (.agg ct) hH (λw hSw=>?_) (λhH=>?_)
      ·have p:=run_loadVar_at w (ad.add (k*18)) 41 ct _ (HQ1.out w hSw) Tryz.underlying41 rfl I1.out
       exact val_of (by simp only[Instr.loadAt,Instr.sureAddr,Sem.run_bind];exact p)
      try simp only[Act.put,aT,aZ,aS]
      refine tkV 5 67 (.pointer (some ⟨z,0,none⟩)) hH (λhH=>?_)
      try simp only[Act.put,aT,aZ,aS]
      refine tkW 6 68 (.slice (some ad1) nL c1) hH (λw hSw=>?_) (λhH=>?_)
      ·have p:w.cell? ⟨z,0,none⟩=some (.slice (some ad1) nL c1):=HZC.out w hSw
       unfold runsTo
       go_simp
      try simp only[Act.put,aT,aZ,aS]
      refine tkV 7 69 (.int .i64 (k:Nat)) hH (λhH=>?_)
      try simp only[Act.put,aT,aZ,aS]
      refine tkV 8 70 (.pointer (some (ad1.add (k*18)))) hH (λhH=>?_)
      try simp only[Act.put,aT,aZ,aS]
      refine tkW 9 71 (.agg cu) hH (λw hSw=>?_) (λhH=>?_)
      ·have p:=run_loadVar_at w (ad1.add (k*18)) 41 cu _ (HQ2.out w hSw) Tryz.underlying41 rfl I2.out
       exact val_of (by simp only[Instr.loadAt,Instr.sureAddr,Sem.run_bind];exact p)
      try simp only[Act.put,aT,aZ,aS]
      refine tkC 4 (λK hK=>?_)
      change Oper.wp _ ⟨some 66,_,_,_,_,_⟩ _ _ _ _
      go_simp
      refine (HCK.out _ hH).mono ?_
      unfold ToldB
      rintro e w7 ⟨rfl,hb⟩
      have HB7:=hid (hH.trans (hb.mono hH.size))
      clear hb
      dsimp only
      refine hK.out _ _ HB7.out (λhH=>?_)
      clear hK K
      try simp only[Act.put,aT,aZ,aS]
      refine tkC 10 (λK hK=>?_)
      change Oper.wp _ ⟨some 72,_,_,_,_,_⟩ _ _ _ _
      go_simp
      refine (HMY.out _ hH).mono ?_
      unfold ToldB
      rintro e w8 ⟨rfl,hb⟩
      have HB8:=hid (hH.trans (hb.mono hH.size))
      clear hb
      dsimp only
      refine hK.out _ _ HB8.out (λhH=>?_)
      clear hK K
      try simp only[Act.put,aT,aZ,aS]
      refine tkV 11 73 (.bool false) hH (λhH=>?_)
      try simp only[Act.put,aT,aZ,aS]
      refine⟨wpAnyH_done (by kernel_rfl) ?_ _⟩
      clear hH
      have HM2:=hid (show ZeroM w5 (.slice (some ⟨g,0,none⟩) nL cc) nL k w8 from by have:=hM.out.on HB8.out;rwa [←Had.out]at this)
      clear hbb HCK HMY
      go_wp2_with ((with_reducible refine at_st 77 ?_);refine st_zero rfl 41 _ _ rfl ad g k Had.out.symm rfl rfl (HM2.out.there HLT.out) info_zero ?_)
      go_roundw
      case rel=>exact⟨k+1,by have:=HLT.out;omega,by go_num,hid (by rw[←Had.out];exact HM2.out.set HLT.out)⟩
      case measure=>have:=HLT.out;simp[intOf];omega
     ·have a2:¬(k:Int)<nL:=by omega
      clear hlt hk
      have HS:=hid (λ(W:World) (hb:Below wr.heap.size wr W)=>(HS5.out.keep (w':=W) λb h=>(hb.block b (Nat.lt_of_lt_of_le (HGB.out b h).1 hM.out.t.size)).trans (HKP.out b (HGB.out b h).1 (HGB.out b h).2)))
      have HFR:=hid (show ∀b,Gs b→b<wr.heap.size from λb h=>Nat.lt_of_lt_of_le (HGB.out b h).1 hM.out.t.size)
      have HFF:=hid (show ∀b,Fs b→b<wr.heap.size from λb h=>Nat.lt_of_lt_of_le (HFB.out b h).1 hM.out.t.size)
      have HWT:=hid (λ(W:World) (hb:Below wr.heap.size wr W)=>(HR5.out.keep (w':=W) TrR.good λp h=>World.cell?_of_block ((hb.block p.block (HFF.out _ h)).trans (HKP.out p.block (HFB.out _ h).1 (HFB.out _ h).2))))
      have HZK:=hid (λ(W:World) (hb:Below wr.heap.size wr W)=>(hb.block z (blk_lt ((HKP.out z HZ5.out.1 HZ5.out.2).trans HK5.out))).trans ((HKP.out z HZ5.out.1 HZ5.out.2).trans HK5.out))
      have HGW:=hid (λ(W:World) (hb:Below wr.heap.size wr W)=>And.intro (glob_under HG.out.1 (HBW.out.trans (hb.mono HBW.out.size))) (globT_under HG.out.2 (HBW.out.trans (hb.mono HBW.out.size))))
      have HMT:=hid (λ(W:World) (hb:Below wr.heap.size wr W) (P:Trip) (ps:Nat→Value) (hps:∀e,e<3→∃B cap,ps e = .slice B (P.get e).list.length cap) (fb:∀n,FitV (P.get n))=>match_any (HS.out W hb) (λb h=>Nat.lt_of_lt_of_le (HFR.out b h) hb.size) P ps hps fb (HGW.out W hb).1 (HGW.out W hb).2)
      have HCT:=hid (λ(W:World) (hb:Below wr.heap.size wr W) (P:Trip) (ps:Nat→Value) (hps:∀e,e<3→∃B cap,ps e = .slice B (P.get e).list.length cap) (fb:∀n,FitV (P.get n))=>count_any (HS.out W hb) (λb h=>Nat.lt_of_lt_of_le (HFR.out b h) hb.size) P ps hps fb (HGW.out W hb).1 (HGW.out W hb).2)
      unfold AllIs at HMT
      unfold CountIs at HCT
      clear hM
      go_wp2_with fail
      clear a2
      refine (all_any (HS.out _ (Below.refl _ _)) HFR.out).mono ?_
      unfold AllIs
      rintro e w7 ⟨v7,rfl,hown,hb⟩
      have hpo:=own_any trS_any hown
      have hnw:=λg (h:v7.ownBlock=some g)=>(show wr.heap.size≤g from by
       obtain⟨_,_,_,hF2,_⟩:=hown
       exact (hF2 g h).1)
      obtain⟨A7,c7,rfl,hr7⟩:=own_rd hown
      rw[HN.out]at hpo hr7 hnw ⊢
      have heq:=eqTs_any (ca:=c7) (cb:=c5) (rd_tr hr7) (HWT.out w7 hb) (λb h=>h.2) (λb h=>Nat.lt_of_lt_of_le (HFF.out b h) hb.size) (by have:=HLT5.out;omega) (λt ht i=>by rw[scal_list ((HSC.out t ht).get i)];decide)
      rw[sameTs_iff.2 rfl]at heq
      unfold ToldB at heq
      have HB7:=hid hb
      have HZB7:=hid (show ZeroB wr (.slice A7 n c7) n w7 from ⟨hb,hpo,hnw⟩)
      clear hown hb hr7 hpo hnw
      go_wp2_with fail
      refine heq.mono ?_
      rintro e w8 ⟨rfl,hb⟩
      have HB8:=hid (HB7.out.trans (hb.mono HB7.out.size))
      have HZB8:=hid (HZB7.out.on hb)
      have hlen:=len_any (HS.out w8 HB8.out)
      rw[HN.out]at hlen
      have enn:((n:Int)==(n:Int))=true:=by simp
      clear hb heq
      go_wp2_with fail
      refine hlen.mono ?_
      rintro e w9 ⟨rfl,e9⟩
      rw[e9]
      clear e9 hlen
      go_wp2_with fail
      go_loopw [10] (λs10 wx=>∃k:Nat,k≤n∧s10 = .int .i64 (k:Nat)∧Hid (ZeroB wr (.slice A7 n c7) n wx)) (λs10 _=>n-(intOf s10).toNat)
      case atStart=>exact⟨0,by omega,rfl,HZB8⟩
      case round=>
       rename World=>wz
       obtain⟨k,hk,rfl,hN⟩:=hrel
       by_cases hlt:k<n
       ·have a1:(0:Int)≤k:=by omega
        have a2:(k:Int)<n:=by omega
        have h65:=HLT5.out
        have w1i:IntKind.i64.wrap ((k:Int)+1)=(k:Int)+1:=IntWalk.i64_in _ (by omega)
        clear h65
        obtain⟨g,cp,eg⟩:=zero_blk hN.out.own (by omega)
        injection eg with eg _ ecp
        obtain⟨ad,Had⟩:=name_itV (⟨g,0,none⟩:Addr)
        rw[Had.out]at eg
        subst eg
        clear ecp
        have HM2:=hid (show ZeroB wr (.slice (some ⟨g,0,none⟩) n c7) n wz from by have:=hN.out;rwa [←Had.out]at this)
        have HLT:=hid hlt
        clear hlt hk
        go_wp2_with ((with_reducible refine at_st 103 ?_);refine st_zero rfl 41 _ _ rfl ad g k Had.out.symm rfl rfl (HM2.out.there HLT.out) info_zero ?_)
        go_roundw
        case rel=>exact⟨k+1,by have:=HLT.out;omega,by go_num,hid (by rw[←Had.out];exact HM2.out.set HLT.out)⟩
        case measure=>have:=HLT.out;simp[intOf];omega
       ·have a2:¬(k:Int)<n:=by omega
        have HBZ:=hid hN.out.b
        clear hlt hk hN enn
        go_wp2_with fail
        go_loopw [11] (λs11 wx=>∃i:Nat,i≤nP∧i≤12∧s11 = .int .i64 (i:Nat)∧Hid (Below wr.heap.size wr wx)) (λs11 _=>nP-(intOf s11).toNat)
        case atStart=>exact⟨0,by omega,by omega,rfl,HBZ⟩
        case round=>
         rename World=>wq
         obtain⟨i,hi,hi12,rfl,hM⟩:=hrel
         clear a2
         have bz1:wq.cell? ⟨z,1,none⟩=some (.slice A2 nP c2):=cell_of_heap (HZK.out wq hM.out) 1
         by_cases hlt:i<nP∧i<12
         ·have a1:(0:Int)≤i:=by omega
          have a2:(i:Int)<nP:=by omega
          have a3:(i:Int)<12:=by omega
          have w1i:IntKind.i64.wrap ((i:Int)+1)=(i:Int)+1:=IntWalk.i64_in _ (by omega)
          obtain⟨p,hp⟩:∃p,P[i]?=some p:=⟨_,List.getElem?_eq_getElem (by rw[←HPL.out];exact hlt.1)⟩
          have HBQ:=hid (HBW.out.trans (hM.out.mono HBW.out.size))
          obtain⟨ad,s1,e1,hfa,hq1,hr1⟩:=TrR.cells (HP.out wq HBQ.out) hp
          subst e1
          have HOKP:=hid (hokP p (List.mem_of_getElem? hp))
          have HPS:=hid (trR_len hr1)
          have HFP:=hid (λq=>(HOKP.out.get q).fit)
          have HRP:=hid (λ(W:World) (hb:Below wq.heap.size wq W) e (he:e<3)=>(hr1 e he).under hb (λb h=>Nat.lt_of_lt_of_le (HF.out b h) HBQ.out.size))
          have hmt:=HMT.out wq hM.out p s1 HPS.out HFP.out
          have hct:=λ(W:World) (hb:Below wr.heap.size wr W)=>HCT.out W hb p s1 HPS.out HFP.out
          have hrm:=λ(W:World) (hb:Below wr.heap.size wr W) (hb2:Below wq.heap.size wq W)=>refMatch_any (cp:=c5) (HWT.out W hb) (λb h=>Nat.lt_of_lt_of_le (HFF.out b h) hb.size) HLT5.out HSC.out HFT.out p s1 (G:=F) (λb h=>Nat.lt_of_lt_of_le (HF.out b h) (Nat.le_trans HBQ.out.size hb2.size)) (HRP.out W hb2) (λe _=>by have h1:=(HOKP.out.get e).size;have h2:=sizeL_list (p.get e);omega)
          unfold AllIs at hrm
          obtain⟨cq,Hcq⟩:=name18 p s1
          rw[Hcq.out]at hmt hct hrm
          have HQP:=hid (λ(W:World) (hb:Below wq.heap.size wq W) (j:Nat) (hj:j<cq.size)=>(show W.cell? ((ad.add (i*18)).add j)=cq[j]? from by
           rw[←Hcq.out]at hj ⊢
           exact (hb.cell (p:=(ad.add (i*18)).add j) (by rw[add_blk,add_blk];exact Nat.lt_of_lt_of_le (HF.out _ hfa) HBQ.out.size)).trans (hq1 j hj)))
          have IQ:=hid (info_pat.trans (congrArg some Hcq.size.symm))
          obtain⟨Tf,HTf⟩:=name_itV (T.filter (fitsT p))
          rw[HTf.out]at hmt hct hrm
          have HTM:=hid (show ∀t,t∈Tf→ScalT t from λt ht=>HSC.out t (by rw[←HTf.out]at ht;exact (List.mem_filter.1 ht).1))
          have HTL:=hid (show Tf.length≤65536 from by rw[←HTf.out];exact Nat.le_trans (List.length_filter_le _ _) (by rw[HN.out];exact HLT5.out))
          obtain⟨m,Hm⟩:=name_itV Tf.length
          rw[Hm.out]at hct HTL
          have HCTX:=hid hct
          have HRMX:=hid hrm
          have HLTI:=hid hlt
          clear hp hfa hq1 hr1 hct hrm hlt hi hi12
          go_wp2_with ((with_reducible refine at_dst (some 120) ?_);refine ld_armG (by rfl) 45 _ rfl rfl cq _ (HQP.out _ (Below.refl _ _)) Tryz.underlying45 rfl IQ.out ?_)
          refine hmt.mono ?_
          rintro e w9 ⟨v9,rfl,hown,hb⟩
          have hpo:=own_any trS_any hown
          have hnw:=λg (h:v9.ownBlock=some g)=>(show wq.heap.size≤g from by
           obtain⟨_,_,_,hF2,_⟩:=hown
           exact (hF2 g h).1)
          obtain⟨A9,c9,rfl,hr9⟩:=own_rd hown
          rw[Hm.out]at hpo hr9 hnw ⊢
          have HB9:=hid hb
          have HBR9:=hid (hM.out.trans (hb.mono hM.out.size))
          have HR9:=hid (λ(W:World) (hb:Below w9.heap.size w9 W)=>hr9.under (ofP.good CTx) hb (λb h=>h.2))
          have HZB9:=hid (show ZeroB wq (.slice A9 m c9) m w9 from ⟨hb,hpo,hnw⟩)
          have bz2:w9.cell? ⟨z,1,none⟩=some (.slice (some ad) nP c2):=cell_of_heap (HZK.out w9 HBR9.out) 1
          clear hown hb hr9 hpo hnw hmt bz1
          go_wp2_with ((with_reducible refine at_dst (some 128) ?_);refine ld_armG (by rfl) 45 _ rfl rfl cq _ (HQP.out _ HB9.out) Tryz.underlying45 rfl IQ.out ?_)
          refine (HRMX.out w9 HBR9.out HB9.out).mono ?_
          rintro e w10 ⟨v10,rfl,hown,hb⟩
          obtain⟨A10,c10,rfl,hr10⟩:=own_rd hown
          rw[Hm.out]at hr10 ⊢
          have HB10:=hid (HB9.out.trans (hb.mono HB9.out.size))
          have HBR10:=hid (HBR9.out.trans (hb.mono HBR9.out.size))
          have HZB10:=hid (HZB9.out.on hb)
          have heq:=eqTs_any (ca:=c9) (cb:=c10) (rd_tr (HR9.out w10 hb)) (rd_tr hr10) (λb h=>Nat.lt_of_lt_of_le h.2 hb.size) (λb h=>h.2) (by have:=HTL.out;omega) (λt ht i=>by rw[scal_list ((HTM.out t ht).get i)];decide)
          rw[sameTs_iff.2 rfl]at heq
          unfold ToldB at heq
          clear hown hb hr10 bz2
          go_wp2_with fail
          refine heq.mono ?_
          rintro e w11 ⟨rfl,hb⟩
          have HB11:=hid (HB10.out.trans (hb.mono HB10.out.size))
          have HBR11:=hid (HBR10.out.trans (hb.mono HBR10.out.size))
          have HZB11:=hid (HZB10.out.on hb)
          have bz3:w11.cell? ⟨z,1,none⟩=some (.slice (some ad) nP c2):=cell_of_heap (HZK.out w11 HBR11.out) 1
          have emm:((m:Int)==(m:Int))=true:=by simp
          clear hb heq
          go_wp2_with ((with_reducible refine at_dst (some 138) ?_);refine ld_armG (by rfl) 45 _ rfl rfl cq _ (HQP.out _ HB11.out) Tryz.underlying45 rfl IQ.out ?_)
          refine (HCTX.out w11 HBR11.out).mono ?_
          rintro e w12 ⟨rfl,hb⟩
          have HZB12:=hid (HZB11.out.on hb)
          clear hb bz3
          go_wp2_with fail
          go_loopw [13] (λs13 wx=>∃k:Nat,k≤m∧s13 = .int .i64 (k:Nat)∧Hid (ZeroB wq (.slice A9 m c9) m wx)) (λs13 _=>m-(intOf s13).toNat)
          case atStart=>exact⟨0,by omega,rfl,HZB12⟩
          case round=>
           rename World=>wz
           obtain⟨k,hk,rfl,hN⟩:=hrel
           by_cases hlt:k<m
           ·have a1:(0:Int)≤k:=by omega
            have a2:(k:Int)<m:=by omega
            have h65:=HTL.out
            have w1i:IntKind.i64.wrap ((k:Int)+1)=(k:Int)+1:=IntWalk.i64_in _ (by omega)
            clear h65
            obtain⟨g,cp,eg⟩:=zero_blk hN.out.own (by omega)
            injection eg with eg _ ecp
            obtain⟨ad,Had⟩:=name_itV (⟨g,0,none⟩:Addr)
            rw[Had.out]at eg
            subst eg
            clear ecp
            have HM2:=hid (show ZeroB wq (.slice (some ⟨g,0,none⟩) m c9) m wz from by have:=hN.out;rwa [←Had.out]at this)
            have HLT:=hid hlt
            clear hlt hk
            go_wp2_with ((with_reducible refine at_st 153 ?_);refine st_zero rfl 41 _ _ rfl ad g k Had.out.symm rfl rfl (HM2.out.there HLT.out) info_zero ?_)
            go_roundw
            case rel=>exact⟨k+1,by have:=HLT.out;omega,by go_num,hid (by rw[←Had.out];exact HM2.out.set HLT.out)⟩
            case measure=>have:=HLT.out;simp[intOf];omega
           ·have a4:¬(k:Int)<m:=by omega
            have HBE:=hid (hM.out.trans (hN.out.b.mono hM.out.size))
            clear hlt hk hN emm
            go_wp2_with fail
            go_roundw
            case rel=>exact⟨i+1,by have:=HLTI.out;omega,by have:=HLTI.out;omega,by go_num,HBE⟩
            case measure=>have:=HLTI.out;simp[intOf];omega
         ·have hcs:¬(i:Int)<nP∨((i:Int)<nP∧¬(i:Int)<12):=by omega
          clear hlt hi hi12
          have hal:=all_any (HS.out _ hM.out) (λb h=>Nat.lt_of_lt_of_le (HFR.out b h) hM.out.size)
          unfold AllIs at hal
          rcases hcs with a2 | ⟨a2,a3⟩
          all_goals go_wp2_with fail
          all_goals
           refine hal.mono ?_
           rintro e w7 ⟨v7,rfl,hown,hb⟩
           obtain⟨A8,c8,rfl,hr7⟩:=own_rd hown
           rw[HN.out]at hr7 ⊢
           have HB8:=hid (hM.out.trans (hb.mono hM.out.size))
           have heq:=eqTs_any (ca:=c8) (cb:=c5) (rd_tr hr7) (HWT.out w7 HB8.out) (λb h=>h.2) (λb h=>Nat.lt_of_lt_of_le (HFF.out b h) HB8.out.size) (by have:=HLT5.out;omega) (λt ht i=>by rw[scal_list ((HSC.out t ht).get i)];decide)
           rw[sameTs_iff.2 rfl]at heq
           unfold ToldB at heq
           clear hown hb hr7 hal bz1
           go_wp2_with fail
           refine heq.mono ?_
           rintro e w8 ⟨rfl,hb⟩
           have HB9:=hid (HBW.out.trans ((HB8.out.trans (hb.mono HB8.out.size)).mono HBW.out.size))
           clear hb heq
           go_wp2_with fail
           refine (HW.out _ HB9.out).mono ?_
           rintro e w9 ⟨rfl,hb9⟩
           have HB10:=hid hb9
           clear hb9
           go_wp2_with fail
           go_ret
           exact⟨rfl,HB10.out⟩
end Go.Proofs.YtefhfadjajcmkaaGreatDoor
namespace Go.Proofs.YtefhfadjajcmkaaGreatDoor
open Go Go.RowKit
open Go.Lib (hid cell_of_heap)
end Go.Proofs.YtefhfadjajcmkaaGreatDoor
namespace Go.Proofs.YtefhfadjajcmkaaGreatDoor
open Go Go.RowKit Go.Maps Go.WideMaps
open Go.Lib (hid cell_of_heap)
structure Grown (v v':Value) (w w':World):Prop where
 turn:Turn (λi=>some i=v.ownBlock) w w'
 lies:v'.ownBlock=v.ownBlock∨∀g,v'.ownBlock=some g→w.heap.size≤g
theorem Grown.trans {v v1 v2:Value} {w w1 w2:World} (h:Grown v v1 w w1) (k:Grown v1 v2 w1 w2):Grown v v2 w w2:=by
 refine⟨h.turn.andThen k.turn (λi hi hs=>?_),?_⟩
 ·rcases h.lies with e | e
  ·rw[←e];exact hs
  ·have:=e i hs.symm;omega
 ·rcases k.lies with e | e
  ·rcases h.lies with e2 | e2
   ·exact .inl (e.trans e2)
   ·exact .inr (λg hg=>e2 g (by rw[←e];exact hg))
  ·exact .inr (λg hg=>Nat.le_trans h.turn.size (e g hg))
theorem Grown.below {v:Value} {w w':World} (h:Below w.heap.size w w'):Grown v v w w':=⟨(Turn.of_below h).mono (λi hi hs=>by omega),.inl rfl⟩
mutual
def i64V:Val→Prop
 | .mk _ _ n _ _ l=>(-9223372036854775808≤n∧n≤9223372036854775807)∧i64L l
def i64L:List Val→Prop
 | []=>True
 | v::r=>i64V v∧i64L r
end
section
variable {w:World} {h rb G:Nat} {R:List UInt8} {k:Int} {b:Bool} {n:Int} {t x:ByteArray} {l:List Val} {s:Value} {wr:World}
end
end Go.Proofs.YtefhfadjajcmkaaGreatDoor
namespace Go.Proofs.YtefhfadjajcmkaaGreatDoor
open Go Go.ChangeShapes Go.WideShapes Go.ChangeAt Go.RowKit Go.Joins
open Go.Lib (hid cell_of_heap)
theorem cellAdd (a:Addr) (i j:Nat):(a.add i).add j=a.add (i+j):=Go.Deep.add_add a i j
theorem trod_six {H:Type} {enc:TypeId×Value→H} {P:Program} {w:World} {base:Nat} {spare:Nat→Bool} {held:Bool} {t:TypeId} {f0 f1 f2 f3 f4 f5:Field} {fuel:Nat} {cs:List Value} {x:DataW H×List MemPlace} (ht:P.underlying t=some (.struct #[f0,f1,f2,f3,f4,f5])) (ce:P.cellsOf t=6)
    (o0:f0.offset=0) (o1:f1.offset=1) (o2:f2.offset=2) (o3:f3.offset=3) (o4:f4.offset=4) (o5:f5.offset=5) (c0:P.cellsOf f0.type=1) (c1:P.cellsOf f1.type=1) (c2:P.cellsOf f2.type=1) (c3:P.cellsOf f3.type=1) (c4:P.cellsOf f4.type=1) (c5:P.cellsOf f5.type=1)
    (h:DataW.trod enc P w base spare held fuel t cs=some x) :
    ∃(v0 v1 v2 v3 v4 v5:Value) (y0 y1 y2 y3 y4 y5:DataW H×List MemPlace) (k:Nat),cs=[v0,v1,v2,v3,v4,v5]∧x.1 = .agg [y0.1,y1.1,y2.1,y3.1,y4.1,y5.1]∧DataW.trod enc P w base spare held k f0.type [v0]=some y0∧DataW.trod enc P w base spare held k f1.type [v1]=some y1∧DataW.trod enc P w base spare held k f2.type [v2]=some y2∧DataW.trod enc P w base spare held k f3.type [v3]=some y3∧DataW.trod enc P w base spare held k f4.type [v4]=some y4∧DataW.trod enc P w base spare held k f5.type [v5]=some y5:=by
 obtain⟨xs,k,hk,hxy,hcl,hxl,hf⟩:=DataW.trod_struct ht h
 rw[ce]at hcl
 match xs,hxl,cs,hcl with
 | [y0,y1,y2,y3,y4,y5],_,[v0,v1,v2,v3,v4,v5],_=>
  have g0:=hf 0 f0 rfl
  have g1:=hf 1 f1 rfl
  have g2:=hf 2 f2 rfl
  have g3:=hf 3 f3 rfl
  have g4:=hf 4 f4 rfl
  have g5:=hf 5 f5 rfl
  simp[o0,o1,o2,o3,o4,o5,c0,c1,c2,c3,c4,c5]at g0 g1 g2 g3 g4 g5
  exact⟨v0,v1,v2,v3,v4,v5,y0,y1,y2,y3,y4,y5,k,rfl,by rw[hxy];rfl,g0,g1,g2,g3,g4,g5⟩
set_option maxRecDepth 100000 in
theorem val_cells {H:Type} {enc:TypeId×Value→H} {W:World} {N:Nat} {held:Bool} {n:Nat} {cs:List Value} {d:DataW H} {p:List MemPlace}
    (ih:∀{fuel:Nat} {v:Value} {d:DataW H} {p:List MemPlace},Rows.uptoBulk d≤N→DataW.trod enc Tryz.prog W 0 (λ_=>true) held fuel 37 [v]=some (d,p) →
     ∃A n cap l,v = .slice A n cap∧n≤cap∧LRd W (λg=>g<W.heap.size) l A n∧i64L l∧sizeL l<Rows.uptoBulk d)
    (hN:Rows.uptoBulk d≤N+1) (h:DataW.trod enc Tryz.prog W 0 (λ_=>true) held n 39 cs=some (d,p)) :
    ∃x,cs.toArray.size=6∧VRd W (λg=>g<W.heap.size) x (.agg cs.toArray)∧i64V x∧sizeV x≤Rows.uptoBulk d:=by
 obtain⟨v0,v1,v2,v3,v4,v5,y0,y1,y2,y3,y4,y5,k,rfl,hxy,g0,g1,g2,g3,g4,g5⟩:=trod_six Tryz.underlying39 (by kernel_rfl) rfl rfl rfl rfl rfl rfl (by kernel_rfl) (by kernel_rfl) (by kernel_rfl) (by kernel_rfl) (by kernel_rfl) (by kernel_rfl) h
 obtain⟨k0,e0,d0,w0⟩:=DataW.trod_int (by kernel_rfl:Tryz.prog.underlying 3=some (.int .i64)) g0
 obtain⟨k1,e1,d1⟩:=DataW.trod_bool (by kernel_rfl:Tryz.prog.underlying 4=some .bool) g1
 obtain⟨k2,e2,d2,w2⟩:=DataW.trod_int (by kernel_rfl:Tryz.prog.underlying 2=some (.int .i64)) g2
 obtain⟨k3,e3,d3,w3⟩:=DataW.trod_string (by kernel_rfl:Tryz.prog.underlying 9=some .string) g3
 obtain⟨k4,e4,d4,w4⟩:=DataW.trod_string (by kernel_rfl:Tryz.prog.underlying 9=some .string) g4
 injection e0 with e0 _
 injection e1 with e1 _
 injection e2 with e2 _
 injection e3 with e3 _
 injection e4 with e4 _
 subst e0 e1 e2 e3 e4 d0 d1 d2 d3 d4
 obtain⟨y5,p5⟩:=y5
 simp only at hxy
 subst hxy
 have hbulk:6+k3.size+k4.size+Rows.uptoBulk y5≤Rows.uptoBulk (DataW.agg [.lit (.int .i64 k0),.lit (.bool k1),.lit (.int .i64 k2),.lit (.string k3.data.toList),.lit (.string k4.data.toList),y5]):=by
  have z3:k3.data.toList.length=k3.size:=by rw[Array.length_toList];rfl
  have z4:k4.data.toList.length=k4.size:=by rw[Array.length_toList];rfl
  simp only[Rows.uptoBulk,Rows.uptoBulkAll]
  omega
 obtain⟨A,m,cap,l,e5,hcap,hl,h64,hsz⟩:=ih (by omega) g5
 subst e5
 have hm:m=l.length:=hl.1
 subst hm
 have h2:-9223372036854775808≤k2∧k2≤9223372036854775807:=by simpa [Lit.wf,IntKind.min,IntKind.max,IntKind.signed,IntKind.bits] using w2
 refine⟨.mk k0 k1 k2 k3 k4 l,rfl,VRd.of_list (v:=.mk k0 k1 k2 k3 k4 l) hcap hl,⟨h2,h64⟩,?_⟩
 simp only[sizeV]
 omega
set_option maxRecDepth 100000 in
theorem vals_open {H:Type} {enc:TypeId×Value→H} {W:World} {held:Bool} (N:Nat):∀{fuel:Nat} {v:Value} {d:DataW H} {p:List MemPlace},Rows.uptoBulk d≤N→DataW.trod enc Tryz.prog W 0 (λ_=>true) held fuel 37 [v]=some (d,p) →
      ∃A n cap l,v = .slice A n cap∧n≤cap∧LRd W (λg=>g<W.heap.size) l A n∧i64L l∧sizeL l<Rows.uptoBulk d:=by
 induction N with
 | zero=>intro fuel v d p hN;have:=bulks.one_le d;omega
 | succ N ih=>
  intro fuel v d p hN h
  rcases Go.Deep.open_slice Tryz.underlying37 h with⟨h3,hd⟩ | ⟨a,len,cap,m,n,D,Pl,h3,_,hlc,hcm,hm,hd,hel⟩
  ·injection h3 with h3 _
   subst h3
   exact⟨none,0,0,[],rfl,Nat.le_refl _,LRd.nil 0 rfl,trivial,by simp only[sizeL];exact bulks.one_le d⟩
  ·injection h3 with h3 _
   subst h3
   have hml:len≤m:=by rw[hm];split<;>omega
   injection hd with hd _
   subst hd
   have hb:=bulks.slice_elems ((List.range len).map D) ((List.range (m-len)).map λj=>D (len+j))
   have hDi:∀i,i<len→Rows.uptoBulk (D i)≤N:=λi hi=>by
    have:=bulks.part_le (List.mem_map.2 ⟨i,List.mem_range.2 hi,rfl⟩:D i∈(List.range len).map D)
    omega
   have each:∀i,i<len→∃q:Val×Array Value,q.2.size=6∧(∀j,j<6→W.cell? (a.add (i*6+j))=q.2[j]?)∧VRd W (λg=>g<W.heap.size) q.1 (.agg q.2)∧i64V q.1∧sizeV q.1≤Rows.uptoBulk (D i):=λi hi=>by
    obtain⟨cs',c1,c2⟩:=hel i (by omega)
    rw[show Tryz.prog.cellsOf 39=6 by kernel_rfl]at c1
    obtain⟨_,hlen,hcell⟩:=World.cells?_some c1
    obtain⟨x,x1,x2,x3,x4⟩:=val_cells (λhN h=>ih hN h) (Nat.le_succ_of_le (hDi i hi)) c2
    exact⟨(x,cs'.toArray),x1,λj hj=>by rw[←cellAdd,hcell j hj];simp,x2,x3,x4⟩
   have hex:∃q:Nat→Val×Array Value,∀i,i<len→(q i).2.size=6∧(∀j,j<6→W.cell? (a.add (i*6+j))=(q i).2[j]?)∧VRd W (λg=>g<W.heap.size) (q i).1 (.agg (q i).2)∧i64V (q i).1∧sizeV (q i).1≤Rows.uptoBulk (D i):=by
    classical
    exact⟨λi=>if hi:i<len then Classical.choose (each i hi) else (.mk 0 false 0 ⟨#[]⟩ ⟨#[]⟩ [],#[]),λi hi=>by simp only[dif_pos hi];exact Classical.choose_spec (each i hi)⟩
   obtain⟨q,hq⟩:=hex
   refine⟨some a,len,cap,(List.range len).map λi=>(q i).1,rfl,hlc,⟨by simp,λhn=>⟨a,rfl,?_,λi x hx=>?_⟩⟩,?_,?_⟩
   ·obtain⟨cs',c1,_⟩:=hel 0 (by omega)
    rw[show Tryz.prog.cellsOf 39=6 by kernel_rfl]at c1
    obtain⟨_,hlen,hcell⟩:=World.cells?_some c1
    have h0:=hcell 0 (by omega)
    rw[List.getElem?_eq_getElem (by omega)]at h0
    have:=World.block_lt_of_cell? W _ h0
    simpa [Addr.add] using this
   ·rw[List.getElem?_map]at hx
    have hil:i<len:=by
     rcases Nat.lt_or_ge i len with h' | h'
     ·exact h'
     ·rw[List.getElem?_eq_none (by simpa using h')]at hx;cases hx
    rw[List.getElem?_range hil]at hx
    injection hx with hx
    subst hx
    obtain⟨q1,q2,q3,_⟩:=hq i hil
    exact⟨_,q1,q2,q3⟩
   ·have:∀L:List Nat,(∀i,i∈L→i<len)→i64L (L.map λi=>(q i).1):=λL=>by
      induction L with
      | nil=>intro _;trivial
      | cons x r ihl=>intro hL;exact⟨(hq x (hL x (List.mem_cons_self ..))).2.2.2.1,ihl λi hi=>hL i (List.mem_cons_of_mem _ hi)⟩
    exact this _ λi hi=>List.mem_range.1 hi
   ·have:∀L:List Nat,(∀i,i∈L→i<len)→sizeL (L.map λi=>(q i).1)≤Rows.uptoBulkAll (L.map D):=λL=>by
      induction L with
      | nil=>intro _;simp[sizeL]
      | cons x r ihl=>
       intro hL
       have h1:=(hq x (hL x (List.mem_cons_self ..))).2.2.2.2
       have h2:=ihl λi hi=>hL i (List.mem_cons_of_mem _ hi)
       simp only[List.map_cons,sizeL,Rows.uptoBulkAll]
       omega
    have:=this (List.range len) λi hi=>List.mem_range.1 hi
    omega
theorem trod_op {H:Type} {enc:TypeId×Value→H} {P:Program} {w:World} {base:Nat} {spare:Nat→Bool} {held:Bool} {t:TypeId} {f0 f1:Field} {fuel:Nat} {cs:List Value} {x:DataW H×List MemPlace} (ht:P.underlying t=some (.struct #[f0,f1])) (ce:P.cellsOf t=7)
    (o0:f0.offset=0) (o1:f1.offset=1) (c0:P.cellsOf f0.type=1) (c1:P.cellsOf f1.type=6)
    (h:DataW.trod enc P w base spare held fuel t cs=some x) :
    ∃(v0 v1 v2 v3 v4 v5 v6:Value) (y0 y1:DataW H×List MemPlace) (k:Nat),cs=[v0,v1,v2,v3,v4,v5,v6]∧x.1 = .agg [y0.1,y1.1]∧DataW.trod enc P w base spare held k f0.type [v0]=some y0∧DataW.trod enc P w base spare held k f1.type [v1,v2,v3,v4,v5,v6]=some y1:=by
 obtain⟨xs,k,hk,hxy,hcl,hxl,hf⟩:=DataW.trod_struct ht h
 rw[ce]at hcl
 match xs,hxl,cs,hcl with
 | [y0,y1],_,[v0,v1,v2,v3,v4,v5,v6],_=>
  have g0:=hf 0 f0 rfl
  have g1:=hf 1 f1 rfl
  simp[o0,o1,c0,c1]at g0 g1
  exact⟨v0,v1,v2,v3,v4,v5,v6,y0,y1,k,rfl,by rw[hxy];rfl,g0,g1⟩
theorem trod_tr {H:Type} {enc:TypeId×Value→H} {P:Program} {w:World} {base:Nat} {spare:Nat→Bool} {held:Bool} {t:TypeId} {f0 f1 f2:Field} {fuel:Nat} {cs:List Value} {x:DataW H×List MemPlace} (ht:P.underlying t=some (.struct #[f0,f1,f2])) (ce:P.cellsOf t=18)
    (o0:f0.offset=0) (o1:f1.offset=6) (o2:f2.offset=12) (c0:P.cellsOf f0.type=6) (c1:P.cellsOf f1.type=6) (c2:P.cellsOf f2.type=6)
    (h:DataW.trod enc P w base spare held fuel t cs=some x) :
    ∃(v0 v1 v2 v3 v4 v5 v6 v7 v8 v9 v10 v11 v12 v13 v14 v15 v16 v17:Value) (y0 y1 y2:DataW H×List MemPlace) (k:Nat),cs=[v0,v1,v2,v3,v4,v5,v6,v7,v8,v9,v10,v11,v12,v13,v14,v15,v16,v17]∧x.1 = .agg [y0.1,y1.1,y2.1]∧DataW.trod enc P w base spare held k f0.type [v0,v1,v2,v3,v4,v5]=some y0∧DataW.trod enc P w base spare held k f1.type [v6,v7,v8,v9,v10,v11]=some y1∧DataW.trod enc P w base spare held k f2.type [v12,v13,v14,v15,v16,v17]=some y2:=by
 obtain⟨xs,k,hk,hxy,hcl,hxl,hf⟩:=DataW.trod_struct ht h
 rw[ce]at hcl
 match xs,hxl,cs,hcl with
 | [y0,y1,y2],_,[v0,v1,v2,v3,v4,v5,v6,v7,v8,v9,v10,v11,v12,v13,v14,v15,v16,v17],_=>
  have g0:=hf 0 f0 rfl
  have g1:=hf 1 f1 rfl
  have g2:=hf 2 f2 rfl
  simp[o0,o1,o2,c0,c1,c2]at g0 g1 g2
  exact⟨v0,v1,v2,v3,v4,v5,v6,v7,v8,v9,v10,v11,v12,v13,v14,v15,v16,v17,y0,y1,y2,k,rfl,by rw[hxy];rfl,g0,g1,g2⟩
theorem trod_four {H:Type} {enc:TypeId×Value→H} {P:Program} {w:World} {base:Nat} {spare:Nat→Bool} {held:Bool} {t:TypeId} {f0 f1 f2 f3:Field} {fuel:Nat} {cs:List Value} {x:DataW H×List MemPlace} (ht:P.underlying t=some (.struct #[f0,f1,f2,f3])) (ce:P.cellsOf t=4)
    (o0:f0.offset=0) (o1:f1.offset=1) (o2:f2.offset=2) (o3:f3.offset=3) (c0:P.cellsOf f0.type=1) (c1:P.cellsOf f1.type=1) (c2:P.cellsOf f2.type=1) (c3:P.cellsOf f3.type=1)
    (h:DataW.trod enc P w base spare held fuel t cs=some x) :
    ∃(v0 v1 v2 v3:Value) (y0 y1 y2 y3:DataW H×List MemPlace) (k:Nat),cs=[v0,v1,v2,v3]∧x.1 = .agg [y0.1,y1.1,y2.1,y3.1]∧DataW.trod enc P w base spare held k f0.type [v0]=some y0∧DataW.trod enc P w base spare held k f1.type [v1]=some y1∧DataW.trod enc P w base spare held k f2.type [v2]=some y2∧DataW.trod enc P w base spare held k f3.type [v3]=some y3:=by
 obtain⟨xs,k,hk,hxy,hcl,hxl,hf⟩:=DataW.trod_struct ht h
 rw[ce]at hcl
 match xs,hxl,cs,hcl with
 | [y0,y1,y2,y3],_,[v0,v1,v2,v3],_=>
  have g0:=hf 0 f0 rfl
  have g1:=hf 1 f1 rfl
  have g2:=hf 2 f2 rfl
  have g3:=hf 3 f3 rfl
  simp[o0,o1,o2,o3,c0,c1,c2,c3]at g0 g1 g2 g3
  exact⟨v0,v1,v2,v3,y0,y1,y2,y3,k,rfl,by rw[hxy];rfl,g0,g1,g2,g3⟩
def sumBy {α : Type} (f:α → Nat) (l:List α):Nat:=(l.map f).sum
set_option maxRecDepth 100000 in
theorem slice_of {α : Type} [Inhabited α] {H:Type} {enc:TypeId×Value→H} {W:World} {held:Bool} {R:Lies α} {sz N:Nat} {T E:TypeId} {Q:α → Prop} {wt:α → Nat} (hT:Tryz.prog.underlying T=some (.slice E)) (hE:Tryz.prog.cellsOf E=sz) (hsz:0<sz)
    (each:∀{fuel:Nat} {cs:List Value} {d:DataW H} {p:List MemPlace},Rows.uptoBulk d≤N→DataW.trod enc Tryz.prog W 0 (λ_=>true) held fuel E cs=some (d,p)→∃x:α,cs.toArray.size=sz∧R W (λg=>g<W.heap.size) x cs.toArray∧Q x∧wt x≤Rows.uptoBulk d)
    {fuel:Nat} {v:Value} {d:DataW H} {p:List MemPlace} (hN:Rows.uptoBulk d≤N) (h:DataW.trod enc Tryz.prog W 0 (λ_=>true) held fuel T [v]=some (d,p)) :
    ∃l:List α,SlR sz R W (λg=>g<W.heap.size) l v∧(∀x,x∈l→Q x)∧sumBy wt l<Rows.uptoBulk d∧l.length<Rows.uptoBulk d:=by
 rcases Go.Deep.open_slice hT h with⟨h3,hd⟩ | ⟨a,len,cap,m,n,D,Pl,h3,_,hlc,hcm,hm,hd,hel⟩
 ·injection h3 with h3 _
  subst h3
  have h1:=bulks.one_le d
  exact⟨[],SlR.nil ..,λx hx=>(List.not_mem_nil hx).elim,by show 0<_;omega,by show 0<_;omega⟩
 ·injection h3 with h3 _
  subst h3
  have hml:len≤m:=by rw[hm];split<;>omega
  injection hd with hd _
  subst hd
  have hb:=bulks.slice_elems ((List.range len).map D) ((List.range (m-len)).map λj=>D (len+j))
  have hb2:=bulks.slice_le ((List.range len).map D) ((List.range (m-len)).map λj=>D (len+j))
  have hDi:∀i,i<len→Rows.uptoBulk (D i)≤N:=λi hi=>by
   have:=bulks.part_le (List.mem_map.2 ⟨i,List.mem_range.2 hi,rfl⟩:D i∈(List.range len).map D)
   omega
  have ev:∀i,i<len→∃q:α × Array Value,q.2.size=sz∧(∀j,j<sz→W.cell? (a.add (i*sz+j))=q.2[j]?)∧R W (λg=>g<W.heap.size) q.1 q.2∧Q q.1∧wt q.1≤Rows.uptoBulk (D i):=λi hi=>by
   obtain⟨cs',c1,c2⟩:=hel i (by omega)
   rw[hE]at c1
   obtain⟨_,hlen,hcell⟩:=World.cells?_some c1
   obtain⟨x,x1,x2,x3,x4⟩:=each (hDi i hi) c2
   exact⟨(x,cs'.toArray),x1,λj hj=>by rw[←cellAdd,hcell j hj];simp,x2,x3,x4⟩
  have hex:∃q:Nat → α × Array Value,∀i,i<len→(q i).2.size=sz∧(∀j,j<sz→W.cell? (a.add (i*sz+j))=(q i).2[j]?)∧R W (λg=>g<W.heap.size) (q i).1 (q i).2∧Q (q i).1∧wt (q i).1≤Rows.uptoBulk (D i):=by
   classical
   exact⟨λi=>if hi:i<len then Classical.choose (ev i hi) else (default,#[]),λi hi=>by simp only[dif_pos hi];exact Classical.choose_spec (ev i hi)⟩
  obtain⟨q,hq⟩:=hex
  have hll:((List.range len).map λi=>(q i).1).length=len:=by simp
  refine⟨(List.range len).map λi=>(q i).1,⟨some a,cap,by rw[hll],by rw[hll];exact hlc,rfl,λhn=>⟨a,rfl,?_,λi x hx=>?_⟩⟩,?_,?_,?_⟩
  ·obtain⟨cs',c1,_⟩:=hel 0 (by rw[hll]at hn;omega)
   rw[hE]at c1
   obtain⟨_,hlen,hcell⟩:=World.cells?_some c1
   have h0:=hcell 0 hsz
   rw[List.getElem?_eq_getElem (by omega)]at h0
   have:=World.block_lt_of_cell? W _ h0
   simpa [Addr.add] using this
  ·rw[List.getElem?_map]at hx
   have hil:i<len:=by
    rcases Nat.lt_or_ge i len with h' | h'
    ·exact h'
    ·rw[List.getElem?_eq_none (by simpa using h')]at hx;cases hx
   rw[List.getElem?_range hil]at hx
   injection hx with hx
   subst hx
   obtain⟨q1,q2,q3,_⟩:=hq i hil
   exact⟨_,q1,q2,q3⟩
  ·intro x hx
   obtain⟨i,hi,rfl⟩:=List.mem_map.1 hx
   exact (hq i (List.mem_range.1 hi)).2.2.2.1
  ·have:∀L:List Nat,(∀i,i∈L→i<len)→sumBy wt (L.map λi=>(q i).1)≤Rows.uptoBulkAll (L.map D):=λL=>by
     induction L with
     | nil=>intro _;simp[sumBy]
     | cons x r ihl=>
      intro hL
      have h1:=(hq x (hL x (List.mem_cons_self ..))).2.2.2.2
      have h2:=ihl λi hi=>hL i (List.mem_cons_of_mem _ hi)
      simp only[sumBy,List.map_cons,List.sum_cons,Rows.uptoBulkAll]at h2 ⊢
      omega
   have:=this (List.range len) λi hi=>List.mem_range.1 hi
   omega
  ·rw[hll]
   have hh:((List.range len).map D).length=len:=by simp
   omega
instance:Inhabited Val:=⟨.mk 0 false 0 ⟨#[]⟩ ⟨#[]⟩ []⟩
instance:Inhabited Trip:=⟨⟨default,default,default⟩⟩
section
variable {H:Type} {enc:TypeId×Value→H} {W:World} {held:Bool} {fuel:Nat} {d:DataW H} {p:List MemPlace}
theorem val_of_cells {cs:List Value} (hN:Rows.uptoBulk d≤1048576) (h:DataW.trod enc Tryz.prog W 0 (λ_=>true) held fuel 39 cs=some (d,p)) :
    ∃x:Val,OkV x∧∃s,cs.toArray=cellsV x s∧VRd W (λg=>g<W.heap.size) x (.agg (cellsV x s)):=by
 obtain⟨x,x1,x2,x3,x4⟩:=val_cells (N:=1048576) (λhN h=>vals_open 1048576 hN h) (by omega) h
 obtain⟨A,cap,hu,_,_⟩:=x2.inv
 injection hu with hu
 have hi:-9223372036854775808≤x.num∧x.num≤9223372036854775807:=by
  cases x with
  | mk k b n t y l=>
   simp only[i64V]at x3
   exact x3.1
 exact⟨x,⟨by omega,hi.1,hi.2⟩,_,hu,by rw[←hu];exact x2⟩
set_option maxRecDepth 100000 in
theorem tr_el {cs:List Value} (hN:Rows.uptoBulk d≤1048576) (h:DataW.trod enc Tryz.prog W 0 (λ_=>true) held fuel 41 cs=some (d,p)) :
    ∃x:Trip,cs.toArray.size=18∧TrR W (λg=>g<W.heap.size) x cs.toArray∧OkT x∧(λ_:Trip=>0) x≤Rows.uptoBulk d:=by
 obtain⟨v0,v1,v2,v3,v4,v5,v6,v7,v8,v9,v10,v11,v12,v13,v14,v15,v16,v17,y0,y1,y2,k,rfl,hxy,g0,g1,g2⟩:=trod_tr Tryz.underlying41 (by kernel_rfl) rfl rfl rfl (by kernel_rfl) (by kernel_rfl) (by kernel_rfl) h
 obtain⟨y0,p0⟩:=y0
 obtain⟨y1,p1⟩:=y1
 obtain⟨y2,p2⟩:=y2
 simp only at hxy
 subst hxy
 have hb:Rows.uptoBulk y0+Rows.uptoBulk y1+Rows.uptoBulk y2≤Rows.uptoBulk (DataW.agg [y0,y1,y2]):=by
  simp only[Rows.uptoBulk,Rows.uptoBulkAll]
  omega
 obtain⟨x,o0,s0,e0,r0⟩:=val_of_cells (by omega) g0
 obtain⟨y,o1,s1,e1,r1⟩:=val_of_cells (by omega) g1
 obtain⟨z,o2,s2,e2,r2⟩:=val_of_cells (by omega) g2
 refine⟨⟨x,y,z⟩,rfl,⟨λi=>if i=0 then s0 else if i=1 then s1 else s2,?_,λi hi=>?_⟩,⟨o0,o1,o2⟩,Nat.zero_le _⟩
 ·show _=cellsV x s0++cellsV y s1++cellsV z s2
  rw[←e0,←e1,←e2]
  rfl
 ·rcases (show i=0∨i=1∨i=2 by omega) with rfl | rfl | rfl
  ·exact r0
  ·exact r1
  ·exact r2
set_option maxRecDepth 100000 in
theorem pat_el {cs:List Value} (hN:Rows.uptoBulk d≤1048576) (h:DataW.trod enc Tryz.prog W 0 (λ_=>true) held fuel 45 cs=some (d,p)) :
    ∃x:Trip,cs.toArray.size=18∧TrR W (λg=>g<W.heap.size) x cs.toArray∧OkT x∧(λ_:Trip=>0) x≤Rows.uptoBulk d:=by
 obtain⟨v0,v1,v2,v3,v4,v5,v6,v7,v8,v9,v10,v11,v12,v13,v14,v15,v16,v17,y0,y1,y2,k,rfl,hxy,g0,g1,g2⟩:=trod_tr Tryz.underlying45 (by kernel_rfl) rfl rfl rfl (by kernel_rfl) (by kernel_rfl) (by kernel_rfl) h
 obtain⟨y0,p0⟩:=y0
 obtain⟨y1,p1⟩:=y1
 obtain⟨y2,p2⟩:=y2
 simp only at hxy
 subst hxy
 have hb:Rows.uptoBulk y0+Rows.uptoBulk y1+Rows.uptoBulk y2≤Rows.uptoBulk (DataW.agg [y0,y1,y2]):=by
  simp only[Rows.uptoBulk,Rows.uptoBulkAll]
  omega
 obtain⟨x,o0,s0,e0,r0⟩:=val_of_cells (by omega) g0
 obtain⟨y,o1,s1,e1,r1⟩:=val_of_cells (by omega) g1
 obtain⟨z,o2,s2,e2,r2⟩:=val_of_cells (by omega) g2
 refine⟨⟨x,y,z⟩,rfl,⟨λi=>if i=0 then s0 else if i=1 then s1 else s2,?_,λi hi=>?_⟩,⟨o0,o1,o2⟩,Nat.zero_le _⟩
 ·show _=cellsV x s0++cellsV y s1++cellsV z s2
  rw[←e0,←e1,←e2]
  rfl
 ·rcases (show i=0∨i=1∨i=2 by omega) with rfl | rfl | rfl
  ·exact r0
  ·exact r1
  ·exact r2
set_option maxRecDepth 100000 in
theorem op_el {cs:List Value} (hN:Rows.uptoBulk d≤1048576) (h:DataW.trod enc Tryz.prog W 0 (λ_=>true) held fuel 423 cs=some (d,p)) :
    ∃x:Int×Val,cs.toArray.size=7∧OpR W (λg=>g<W.heap.size) x cs.toArray∧OkV x.2∧(λ_:Int×Val=>0) x≤Rows.uptoBulk d:=by
 obtain⟨v0,v1,v2,v3,v4,v5,v6,y0,y1,k,rfl,hxy,g0,g1⟩:=trod_op Tryz.underlying423 (by kernel_rfl) rfl rfl (by kernel_rfl) (by kernel_rfl) h
 obtain⟨i0,e0,d0,_⟩:=DataW.trod_int (by kernel_rfl:Tryz.prog.underlying 3=some (.int .i64)) g0
 injection e0 with e0 _
 subst e0 d0
 obtain⟨y1,p1⟩:=y1
 simp only at hxy
 subst hxy
 have hb:Rows.uptoBulk y1≤Rows.uptoBulk (DataW.agg [.lit (.int .i64 i0),y1]):=by
  simp only[Rows.uptoBulk,Rows.uptoBulkAll]
  omega
 obtain⟨x,o1,s1,e1,r1⟩:=val_of_cells (by omega) g1
 refine⟨(i0,x),rfl,⟨s1,?_,r1⟩,o1,Nat.zero_le _⟩
 show _=#[.int .i64 i0]++cellsV x s1
 rw[←e1]
 rfl
theorem triples_of {v:Value} (hN:Rows.uptoBulk d≤1048576) (h:DataW.trod enc Tryz.prog W 0 (λ_=>true) held fuel 22 [v]=some (d,p)) :
    ∃l:List Trip,SlR 18 TrR W (λg=>g<W.heap.size) l v∧(∀x,x∈l→OkT x)∧sumBy (λ_=>0) l<Rows.uptoBulk d∧l.length<Rows.uptoBulk d:=
 slice_of (Q:=OkT) Tryz.underlying22 (by kernel_rfl) (by decide) (λhN h=>tr_el hN h) hN h
end
set_option maxRecDepth 100000 in
theorem script_open {H:Type} {enc:TypeId×Value→H} {W:World} {base:Nat} {v:Value} {d:DataW H} {p:List MemPlace} (hk:Rows.uptoBulk d≤1048576) (hv:Value.okWide Tryz.prog W .any base 26 v)
    (h:DataW.Trod enc Tryz.prog W 0 (λ_=>true) true 26 v d p) :
    ∃(A1 A2 A3:Option Addr) (nL c1 nP c2 nD c3:Nat) (ord:ByteArray) (L P:List Trip) (D:List (Int×Val)),v = .agg #[.slice A1 nL c1,.slice A2 nP c2,.string ord,.slice A3 nD c3]∧(∀t,t∈L→OkT t)∧(∀t,t∈P→OkT t)∧(∀o,o∈D→OkV o.2) ∧
     SRd 18 TrR W (λb=>b<W.heap.size) L A1 nL∧SRd 18 TrR W (λb=>b<W.heap.size) P A2 nP∧SRd 7 OpR W (λb=>b<W.heap.size) D A3 nD∧nL≤100000000∧nP≤100000000∧nD≤100000000∧ord.size≤2000000:=by
 obtain⟨cs,rfl,hsz⟩:=okWide_struct Tryz.underlying26 hv
 obtain⟨fuel,hf⟩:=h
 obtain⟨v0,v1,v2,v3,y0,y1,y2,y3,k,hcs,hxy,g0,g1,g2,g3⟩:=trod_four Tryz.underlying26 (by kernel_rfl) rfl rfl rfl rfl (by kernel_rfl) (by kernel_rfl) (by kernel_rfl) (by kernel_rfl) hf
 obtain⟨y0,p0⟩:=y0
 obtain⟨y1,p1⟩:=y1
 obtain⟨y3,p3⟩:=y3
 obtain⟨s,e2,d2,_⟩:=DataW.trod_string (by kernel_rfl:Tryz.prog.underlying 9=some .string) g2
 injection e2 with e2 _
 subst e2 d2
 simp only at hxy
 subst hxy
 have hss:s.data.toList.length=s.size:=by rw[Array.length_toList];rfl
 simp only[Rows.uptoBulk,Rows.uptoBulkAll]at hk
 obtain⟨L,⟨A1,c1,rfl,_,l1⟩,l2,_,l4⟩:=triples_of (by omega) g0
 obtain⟨P,⟨A2,c2,rfl,_,m1⟩,m2,_,m4⟩:=slice_of (Q:=OkT) (wt:=λ_=>0) (R:=TrR) (N:=1048576) Tryz.underlying23 (by kernel_rfl) (by decide) (λhN h=>pat_el hN h) (by omega) g1
 obtain⟨D,⟨A3,c3,rfl,_,n1⟩,n2,_,n4⟩:=slice_of (Q:=λo:Int×Val=>OkV o.2) (wt:=λ_=>0) (R:=OpR) (N:=1048576) Tryz.underlying24 (by kernel_rfl) (by decide) (λhN h=>op_el hN h) (by omega) g3
 have hcs2:cs.toList=[.slice A1 L.length c1,.slice A2 P.length c2,.string s,.slice A3 D.length c3]:=hcs
 have hcs3:cs=#[.slice A1 L.length c1,.slice A2 P.length c2,.string s,.slice A3 D.length c3]:=by
  rw[←Array.toList_inj,hcs2]
 subst hcs3
 exact⟨A1,A2,A3,L.length,c1,P.length,c2,D.length,c3,s,L,P,D,rfl,l2,m2,n2,l1,m1,n1,by omega,by omega,by omega,by omega⟩
end Go.Proofs.YtefhfadjajcmkaaGreatDoor
