/- What 'near' reads of a store; its two questions: printed by gen_Z1.py. -/
import Derived.Test.YtefhfadjajcmkaaGreatDoorKE
import Derived.BigQuiet
set_option linter.unusedVariables false
set_option linter.unusedSimpArgs false
namespace Go.Proofs.YtefhfadjajcmkaaGreatDoor
open Go Go.RowKit Go.Maps
open Go.Lib (hid cell_of_heap)
set_option maxRecDepth 100000 in
set_option maxHeartbeats 4000000 in
theorem stands_any {F:Nat→Prop} {q c j:Nat} {T:List Trip} {ix:List Nat} {cs:Nat→Array Value} {S s:Value} {d:Nat} {at_ en:Nat→Nat} {w:World} (h:CurW F q c j T ix cs S s d at_ en w) (hd:d≤3) :
    Calls Tryz.prog 107 #[.pointer (some ⟨q,0,none⟩)] w (ToldB (decide (0<d∧at_ d<en d)) w):=by
 have c5:=h.c5
 have HB:=hid (λn:Nat=>show Below w.heap.size w (w.drewN n) from ⟨rfl,rfl,rfl,Nat.le_refl _,λ_ _=>rfl⟩)
 by_cases h0:d=0
 ·subst h0
  clear h hd
  go_enter Tryz.func107,Tryz.ntmps107
  go_upto_region 1 with fail
  go_quiet (fail)
  go_wp2_with fail
  go_ret
  exact⟨by simp,HB.out _⟩
 ·rcases (show d=1∨d=2∨d=3 by omega) with rfl | rfl | rfl
  ·have ca:=h.ca (e:=1) (by omega)
   have ce:=h.ce (e:=1) (by omega)
   obtain⟨x,hx⟩:=name_itV (at_ 1)
   obtain⟨y,hy⟩:=name_itV (en 1)
   rw[hx.out]at ca ⊢
   rw[hy.out]at ce ⊢
   have HC:=hid (show decide (0<1∧x<y)=decide (x<y) from by
    by_cases hxy:x<y
    ·rw[decide_eq_true (And.intro (by omega) hxy),decide_eq_true hxy]
    ·rw[decide_eq_false (λh=>hxy h.2),decide_eq_false hxy])
   rw[HC.out]
   clear h hd h0 hx hy HC
   go_enter Tryz.func107,Tryz.ntmps107
   go_upto_region 1 with fail
   go_quiet (fail)
   go_wp2_with fail
   go_ret
   exact⟨rfl,HB.out _⟩
  ·have ca:=h.ca (e:=2) (by omega)
   have ce:=h.ce (e:=2) (by omega)
   obtain⟨x,hx⟩:=name_itV (at_ 2)
   obtain⟨y,hy⟩:=name_itV (en 2)
   rw[hx.out]at ca ⊢
   rw[hy.out]at ce ⊢
   have HC:=hid (show decide (0<2∧x<y)=decide (x<y) from by
    by_cases hxy:x<y
    ·rw[decide_eq_true (And.intro (by omega) hxy),decide_eq_true hxy]
    ·rw[decide_eq_false (λh=>hxy h.2),decide_eq_false hxy])
   rw[HC.out]
   clear h hd h0 hx hy HC
   go_enter Tryz.func107,Tryz.ntmps107
   go_upto_region 1 with fail
   go_quiet (fail)
   go_wp2_with fail
   go_ret
   exact⟨rfl,HB.out _⟩
  ·have ca:=h.ca (e:=3) (by omega)
   have ce:=h.ce (e:=3) (by omega)
   obtain⟨x,hx⟩:=name_itV (at_ 3)
   obtain⟨y,hy⟩:=name_itV (en 3)
   rw[hx.out]at ca ⊢
   rw[hy.out]at ce ⊢
   have HC:=hid (show decide (0<3∧x<y)=decide (x<y) from by
    by_cases hxy:x<y
    ·rw[decide_eq_true (And.intro (by omega) hxy),decide_eq_true hxy]
    ·rw[decide_eq_false (λh=>hxy h.2),decide_eq_false hxy])
   rw[HC.out]
   clear h hd h0 hx hy HC
   go_enter Tryz.func107,Tryz.ntmps107
   go_upto_region 1 with fail
   go_quiet (fail)
   go_wp2_with fail
   go_ret
   exact⟨rfl,HB.out _⟩
section
variable {P:Program} {md:Region.Mode} {ops:Array Oper} {Q:Exit→Act→World→Prop} {S:World→Prop} {fuel:Nat} {listed:Array Bool} {a:Act} {w:World}
theorem take_skip (i d:Nat) (hd:ops[i]?.map (·.dst)=some (some d)) (hw:wantedNo ops i a=some false) (hs:Region.noSelect ops=true) (hf:Region.free md ops listed i=true) (hr:(Region.ready md ops listed).contains i=true)
    (hQ:∀c a w,Q (.panic c) (a.put (some d) undef) w→Q (.panic c) a w) (hS:S w)
    (h:S w→Boxed (wpAnyH P md ops Q S fuel (listed.setIfInBounds i true) (a.put (some d) undef) w)):Boxed (wpAnyH P md ops Q S (fuel+1) listed a w):=by
 unfold wantedNo at hw
 cases ho:ops[i]? with
 | none=>rw[ho]at hd;cases hd
 | some o=>
  rw[ho]at hd hw
  simp only[Option.map_some,Option.some.injEq]at hd hw
  exact⟨wpAnyH_take ho hs hf hr (λc a w h=>hQ c a w (by rw[←hd];exact h)) (.inr ⟨hw,rfl⟩) hS (by rw[hd];exact (h hS).out)⟩
end
def VarV (g:Nat) (v:Val) (s:Value) (w:World):Prop:=w.heap[g]?=some (.cells (cellsV v s) 39 (0,0))
set_option maxRecDepth 100000 in
set_option maxHeartbeats 2000000 in
theorem past_behind (a b:Val) (sa sb:Value) (g:Nat) (w:World) (hp:VarV g b sb w) (ka:KindT a) (fb:FitV b) (hgb:GlobB w) (hgt:GlobT w) :
    Calls Tryz.prog 161 #[.agg (cellsV a sa),.pointer (some ⟨g,0,none⟩)] w (ToldB (decide (0<ordV a b)) w):=by
 have hc:=hid (λ(W:World) (hb:Below w.heap.size w W)=>cmpT_any a b sa sb W ka fb (glob_under hgb hb) (globT_under hgt hb))
 unfold OrdIs at hc
 unfold ToldB
 unfold VarV at hp
 obtain⟨v,Hv⟩:=name_itV (ordV a b)
 rw[Hv.out]at hc ⊢
 clear Hv ka fb hgb hgt
 obtain⟨c1,Hc1⟩:=name6 a sa
 obtain⟨c2,Hc2⟩:=name6 b sb
 rw[Hc1.out]at hc ⊢
 rw[Hc2.out]at hc hp
 have I1:=hid (infoV6.trans (congrArg some Hc1.size.symm))
 have I2:=hid (infoV6.trans (congrArg some Hc2.size.symm))
 obtain⟨z,Hz⟩:=name_itV w.heap.size
 obtain⟨w1,HW1⟩:=name_itV (w.alloc (.cells c1 39))
 have HB:=hid (show Below w.heap.size w w1 from by rw[←HW1.out];exact (Below.refl _ _).alloc (Nat.le_refl _) _)
 have HX:=hid (show w1.heap[z]?=some (.cells c1 39 (0,0)) from by rw[←HW1.out,←Hz.out];exact heap_alloc_new w _)
 have HY:=hid ((HB.out.block g (blk_lt hp)).trans hp)
 clear hp
 go_enter Tryz.func161,Tryz.ntmps161
 go_upto_region 1 with fail
 rw[HW1.out,Hz.out]
 clear HW1
 go_wp2_with (first
  | ((with_reducible refine at_dst (some 4) ?_);refine ld_arm rfl 39 _ rfl z 0 rfl c1 _ (range_row HX.out) Tryz.underlying39 rfl I1.out ?_)
  | ((with_reducible refine at_dst (some 5) ?_);refine ld_arm rfl 39 _ rfl g 0 rfl c2 _ (range_row HY.out) Tryz.underlying39 rfl I2.out ?_))
 refine (hc.out _ HB.out).mono ?_
 rintro e w2 ⟨rfl,hb⟩
 have HB2:=hid (HB.out.trans (hb.mono HB.out.size))
 clear hb
 go_wp2_with fail
 go_ret
 exact⟨rfl,HB2.out⟩
structure GalV (q gp gv b1 b2 b3 low:Nat) (w:World):Prop where
 past:w.cell? ⟨b1,0,none⟩=some (.func (.func gp) #[] #[.pointer (some ⟨gv,0,none⟩)])
 key:w.cell? ⟨b2,0,none⟩=some (.func (.func 109) #[.pointer (some ⟨q,0,none⟩)] #[])
 low:w.cell? ⟨b3,0,none⟩=some (.int .i64 (low:Nat))
theorem GalV.on {q gp gv b1 b2 b3 low:Nat} {w w':World} (h:GalV q gp gv b1 b2 b3 low w) (hb:Below w.heap.size w w'):GalV q gp gv b1 b2 b3 low w':=
 ⟨(hb.cell (p:=⟨b1,0,none⟩) (cell_blk h.past)).trans h.past,(hb.cell (p:=⟨b2,0,none⟩) (cell_blk h.key)).trans h.key,(hb.cell (p:=⟨b3,0,none⟩) (cell_blk h.low)).trans h.low⟩
set_option maxRecDepth 100000 in
set_option maxHeartbeats 4000000 in
theorem gallop1_any {F:Nat→Prop} {q c j:Nat} {T:List Trip} {ix:List Nat} {cs:Nat→Array Value} {S s:Value} {d d':Nat} {at_ en:Nat→Nat} {w:World} (h:CurW F q c j T ix cs S s d' at_ en w) (hdd:d'=d+1) (hd:d<3)
    (gp gv:Nat) (f:Nat→Bool) (hpast:∀(W:World),Below w.heap.size w W→∀n t A cap,(Kof T ix)[n]?=some t→Calls Tryz.prog gp #[.agg (cellsV (t.get ((wayN j).get d)) (.slice A 0 cap)),.pointer (some ⟨gv,0,none⟩)] W (ToldB (f n) W))
    (egp:∀args w,(callFunc gp args).run Tryz.prog w = .ok (.enter gp args) w) (b1 b2 b3 low:Nat) (hg:GalV q gp gv b1 b2 b3 low w) (n:Nat) (hn:low+n<ix.length) :
    Calls Tryz.prog 242 #[.int .i64 (n:Nat),.pointer (some ⟨b1,0,none⟩),.pointer (some ⟨b2,0,none⟩),.pointer (some ⟨b3,0,none⟩)] w (ToldB (f (low+n)) w):=by
 obtain⟨t,ht⟩:∃t,(Kof T ix)[low+n]?=some t:=⟨_,List.getElem?_eq_getElem (by rw[kof_len];exact hn)⟩
 have HKY:=hid (key_any h.drew hdd hd (low+n) hn t ht)
 unfold KeyIs at HKY
 have HPA:=hid (λ(W:World) (hb:Below w.heap.size w W) (A:Option Addr) (cap:Nat)=>hpast W hb (low+n) t A cap ht)
 unfold ToldB at HPA ⊢
 have HGV:=hid hg
 have HCW:=hid h
 have e1:IntKind.i64.wrap ((low:Int)+(n:Int))=((low+n:Nat):Int):=by have:=h.r.len;have:=h.r.ixo.len;rw[IntWalk.i64_in _ (by omega)];omega
 obtain⟨m,Hm⟩:=name_itV (low+n)
 rw[Hm.out]at HKY HPA e1 ⊢
 obtain⟨v,Hv⟩:=name_itV (f m)
 rw[Hv.out]at HPA ⊢
 have HE1:=hid e1
 clear hg h hdd hd hpast ht hn Hm Hv e1
 go_enter Tryz.func242,Tryz.ntmps242
 go_upto_region 1 with fail
 refine wp_region_held_drew (S:=λW'=>GalV q gp gv b1 b2 b3 low W') (by kernel_rfl) ⟨HGV.out.past,HGV.out.key,HGV.out.low⟩ (λhH=>?_)
 refine Boxed.out ?_
 refine tkW 0 6 (.func (.func gp) #[] #[.pointer (some ⟨gv,0,none⟩)]) hH (λw hSw=>?_) (λhH=>?_)
 ·have p:=hSw.past
  unfold runsTo
  go_simp
 try simp only[Act.put,aT,aZ,aS]
 refine tkW 1 7 (.func (.func 109) #[.pointer (some ⟨q,0,none⟩)] #[]) hH (λw hSw=>?_) (λhH=>?_)
 ·have p:=hSw.key
  unfold runsTo
  go_simp
 try simp only[Act.put,aT,aZ,aS]
 refine tkW 2 8 (.int .i64 (low:Nat)) hH (λw hSw=>?_) (λhH=>?_)
 ·have p:=hSw.low
  unfold runsTo
  go_simp
 try simp only[Act.put,aT,aZ,aS]
 refine tkV 3 9 (.int .i64 (n:Nat)) hH (λhH=>?_)
 try simp only[Act.put,aT,aZ,aS]
 refine tkW 4 10 (.int .i64 (m:Nat)) hH (λw hSw=>?_) (λhH=>?_)
 ·have p:=HE1.out
  unfold runsTo
  go_simp
 try simp only[Act.put,aT,aZ,aS]
 refine tkC 5 (λK hK=>?_)
 change Oper.wp _ ⟨some 11,_,_,_,_,_⟩ _ _ _ _
 go_simp
 refine HKY.out.mono ?_
 rintro e w2 ⟨A,cap,rfl,hb2⟩
 obtain⟨u,Hu⟩:=name_itV (cellsV (t.get ((wayN j).get d)) (.slice A 0 cap))
 have HB2:=hid (show Below w.heap.size w w2 from below_of_dr hb2)
 have HP2:=hid (HPA.out w2 HB2.out A cap)
 rw[Hu.out]at HP2 ⊢
 have HG2:=hid (HGV.out.on HB2.out)
 clear hb2 HKY HPA Hu
 dsimp only
 refine hK.out _ _ HG2.out (λhH=>?_)
 clear hK K
 try simp only[Act.put,aT,aZ,aS]
 refine tkC 6 (λK hK=>?_)
 change Oper.wp _ ⟨some 12,_,_,_,_,_⟩ _ _ _ _
 go_simp
 refine HP2.out.mono ?_
 rintro e w3 ⟨rfl,hb3⟩
 have HB3:=hid (HB2.out.trans (hb3.mono HB2.out.size))
 have HG3:=hid (HG2.out.on hb3)
 clear hb3 HP2
 dsimp only
 refine hK.out _ _ HG3.out (λhH=>?_)
 clear hK K
 try simp only[Act.put,aT,aZ,aS]
 refine tkV 7 5 (.bool v) hH (λhH=>?_)
 try simp only[Act.put,aT,aZ,aS]
 refine⟨wpAnyH_done (by kernel_rfl) ?_ _⟩
 clear hH
 go_wp2_with fail
 go_ret
 exact⟨rfl,HB3.out⟩
def GalIs (f:Nat→Bool) (a b:Nat) (w:World) (e:Ending) (w':World):Prop:=
 ∃m:Nat,e = .returned (.int .i64 (m:Nat))∧a≤m∧m≤b∧(∀i,a≤i→i<m→f i=false)∧(m<b→f m=true)∧Below w.heap.size w w'
theorem count_low {f:Nat→Bool} {low n:Nat} (hm:∀i i',i≤i'→i'<n→f (low+i)=true→f (low+i')=true) :
    (List.range n).countP (λi=>!f (low+i))≤n∧(∀i,i<(List.range n).countP (λi=>!f (low+i))→f (low+i)=false)∧((List.range n).countP (λi=>!f (low+i))<n→f (low+(List.range n).countP (λi=>!f (low+i)))=true):=by
 induction n with
 | zero=>exact⟨Nat.le_refl _,λi hi=>absurd hi (by simp),λh=>absurd h (by simp)⟩
 | succ n ih=>
  obtain⟨i1,i2,i3⟩:=ih (λi i' h1 h2=>hm i i' h1 (by omega))
  rw[List.range_succ,List.countP_append]
  generalize hc:(List.range n).countP (λi=>!f (low+i))=c at i1 i2 i3
  cases hf:f (low+n) with
  | true=>
   have h0:List.countP (λi=>!f (low+i)) [n]=0:=by simp[hf]
   rw[h0,Nat.add_zero]
   refine⟨by omega,i2,λ_=>?_⟩
   rcases Nat.lt_or_ge c n with h | h
   ·exact i3 h
   ·rw[show c=n by omega];exact hf
  | false=>
   have h1:List.countP (λi=>!f (low+i)) [n]=1:=by simp[hf]
   have hcn:c=n:=by
    rcases Nat.lt_or_ge c n with h | h
    ·have:=hm c n (by omega) (by omega) (i3 h)
     rw[hf]at this
     cases this
    ·omega
   rw[h1,hcn]
   refine⟨Nat.le_refl _,λi hi=>?_,λh=>absurd h (by omega)⟩
   by_cases e:i=n
   ·rw[e];exact hf
   ·exact i2 i (by omega)
set_option maxRecDepth 100000 in
set_option maxHeartbeats 8000000 in
theorem gallop_any {F:Nat→Prop} {q c j:Nat} {T:List Trip} {ix:List Nat} {cs:Nat→Array Value} {S s:Value} {d d':Nat} {at_ en:Nat→Nat} {w:World} (h:CurW F q c j T ix cs S s d' at_ en w) (hdd:d'=d+1) (hd:d<3)
    (gp gv:Nat) (f:Nat→Bool) (hpast:∀(W:World),Below w.heap.size w W→∀n t A cap,(Kof T ix)[n]?=some t→Calls Tryz.prog gp #[.agg (cellsV (t.get ((wayN j).get d)) (.slice A 0 cap)),.pointer (some ⟨gv,0,none⟩)] W (ToldB (f n) W))
    (egp:∀args w,(callFunc gp args).run Tryz.prog w = .ok (.enter gp args) w) (a b:Nat) (hmono:∀i i',a≤i→i≤i'→i'<b→f i=true→f i'=true) (hab:a≤b) (hb:b≤ix.length) :
    Calls Tryz.prog 160 #[.int .i64 (a:Nat),.int .i64 (b:Nat),.func (.func 109) #[.pointer (some ⟨q,0,none⟩)] #[],.func (.func gp) #[] #[.pointer (some ⟨gv,0,none⟩)]] w (GalIs f a b w):=by
 have HCW:=hid h
 have HPA:=hid hpast
 have HDD:=hid (And.intro hdd hd)
 have HLN:=hid (show ix.length≤65536 from by have:=h.r.len;have:=h.r.ixo.len;omega)
 have HAB:=hid (And.intro hab hb)
 have HMO:=hid hmono
 clear h hpast hdd hd hab hb hmono
 obtain⟨z,Hz⟩:=name_itV w.heap.size
 obtain⟨w1,HW1⟩:=name_itV ((w.alloc (.cells #[.func (.func 109) #[.pointer (some ⟨q,0,none⟩)] #[]] 172)).alloc (.cells #[.func (.func gp) #[] #[.pointer (some ⟨gv,0,none⟩)]] 112))
 have HB1:=hid (show Below w.heap.size w w1 from by rw[←HW1.out];exact two_new w _ _)
 have HK1:=hid (show w1.heap[z]?=some (.cells #[.func (.func 109) #[.pointer (some ⟨q,0,none⟩)] #[]] 172 (0,0)) from by rw[←HW1.out,←Hz.out];exact heap_alloc2_old w _ _)
 have HP1:=hid (show w1.heap[z+1]?=some (.cells #[.func (.func gp) #[] #[.pointer (some ⟨gv,0,none⟩)]] 112 (0,0)) from by rw[←HW1.out,←Hz.out];exact heap_alloc2_new w _ _)
 go_enter Tryz.func160,Tryz.ntmps160
 go_upto_region 1 with fail
 rw[HW1.out,Hz.out]
 clear HW1
 go_wp2_with fail
 go_loopw [9] (λs wx=>∃(st:Nat),1≤st∧s = .int .i64 (st:Nat)∧Hid (Below w1.heap.size w1 wx∧a+st / 2≤b∧(st=1∨(2≤st∧a+st / 2<b∧f (a+st / 2)=false)))) (λs _=>2*b+2-(intOf s).toNat)
 case atStart=>exact⟨1,by omega,rfl,hid ⟨Below.refl _ _,by have:=HAB.out.1;omega,.inl rfl⟩⟩
 case round=>
  obtain⟨st,hst,rfl,hM⟩:=hrel
  have HBW:=hid (show Below w.heap.size w wr from HB1.out.trans (hM.out.1.mono HB1.out.size))
  have HST:=hid hM.out.2
  have HK2:=hid ((hM.out.1.block z (blk_lt HK1.out)).trans HK1.out)
  have HP2:=hid ((hM.out.1.block (z+1) (blk_lt HP1.out)).trans HP1.out)
  have HMB:=hid hM.out.1
  clear hM
  have hsb:st≤2*65536+1:=by have:=HLN.out;have:=HAB.out;have:=HST.out.1;omega
  have w1:IntKind.i64.wrap ((a:Int)+(st:Int))=((a+st:Nat):Int):=by have:=HLN.out;have:=HAB.out;rw[IntWalk.i64_in _ (by omega)];omega
  have HW1:=hid w1
  have w2:IntKind.i64.wrap ((st:Int)*2)=((st*2:Nat):Int):=by rw[IntWalk.i64_in _ (by omega)];omega
  have HW2:=hid w2
  obtain⟨hf,Hhf⟩:=name_itV (st / 2)
  have d1:((st:Int)).tdiv 2=((hf:Nat):Int):=by rw[Int.tdiv_eq_ediv_of_nonneg (by omega),←Hhf.out];omega
  have d2:IntKind.i64.wrap ((st:Int) / 2)=((hf:Nat):Int):=by have h2:=Hhf.out;rw[IntWalk.i64_in _ (by omega)];omega
  have d3:IntKind.i64.wrap ((hf:Nat):Int)=((hf:Nat):Int):=by have h2:=Hhf.out;rw[IntWalk.i64_in _ (by omega)]
  have HDV:=hid (And.intro d1 (And.intro d2 d3))
  obtain⟨low,HLW⟩:=name_itV (a+st / 2)
  have w3:IntKind.i64.wrap ((a:Int)+(hf:Int))=((low:Nat):Int):=by have:=HLN.out;have:=HAB.out;have h2:=Hhf.out;have h3:=HLW.out;have h4:=HST.out.1;rw[IntWalk.i64_in _ (by omega)];omega
  have HW3:=hid w3
  clear w1 w2 d1 d2 d3 w3 hsb
  have k2:wr.cell? ⟨z,0,none⟩=some (.func (.func 109) #[.pointer (some ⟨q,0,none⟩)] #[]):=cell_of_heap HK2.out 0
  have p2:wr.cell? ⟨z+1,0,none⟩=some (.func (.func gp) #[] #[.pointer (some ⟨gv,0,none⟩)]):=cell_of_heap HP2.out 0
  have HKP:=hid (And.intro k2 p2)
  clear k2 p2
  obtain⟨aV,Has⟩:=name_itV (a+st)
  rw[Has.out]at HW1
  go_upto_region 2 with fail
  refine wp_region_held_drew (S:=λW'=>W'.cell? ⟨z,0,none⟩=some (.func (.func 109) #[.pointer (some ⟨q,0,none⟩)] #[])∧W'.cell? ⟨z+1,0,none⟩=some (.func (.func gp) #[] #[.pointer (some ⟨gv,0,none⟩)])) (by kernel_rfl) ⟨HKP.out.1,HKP.out.2⟩ (λhH=>?_)
  refine Boxed.out ?_
  by_cases hlt:aV<b
  ·have HLT:=hid hlt
   obtain⟨t,ht⟩:∃t,(Kof T ix)[aV]?=some t:=⟨_,List.getElem?_eq_getElem (by rw[kof_len];have:=HAB.out;omega)⟩
   have HKY:=hid (key_any (HCW.out.on HBW.out.drew) HDD.out.1 HDD.out.2 aV (by have:=HAB.out;omega) t ht)
   unfold KeyIs at HKY
   have HPC:=hid (λ(W:World) (hb:Below w.heap.size w W) (A:Option Addr) (cap:Nat)=>HPA.out W hb aV t A cap ht)
   unfold ToldB at HPC
   obtain⟨v,Hv⟩:=name_itV (f aV)
   rw[Hv.out]at HPC
   have HTT:=hid (decide_eq_true hlt)
   clear hlt ht
   refine tkV 0 11 (.int .i64 (a:Nat)) hH (λhH=>?_)
   try simp only[Act.put,aT,aZ,aS]
   refine tkV 1 12 (.int .i64 (st:Nat)) hH (λhH=>?_)
   try simp only[Act.put,aT,aZ,aS]
   refine tkW 2 13 (.int .i64 (aV:Nat)) hH (λw hSw=>?_) (λhH=>?_)
   ·have p:=HW1.out
    unfold runsTo
    go_simp
   try simp only[Act.put,aT,aZ,aS]
   refine tkV 3 14 (.int .i64 (b:Nat)) hH (λhH=>?_)
   try simp only[Act.put,aT,aZ,aS]
   refine tkW 4 15 (.bool true) hH (λw hSw=>?_) (λhH=>?_)
   ·have p:=HTT.out
    unfold runsTo
    go_simp
   try simp only[Act.put,aT,aZ,aS]
   refine tkV 5 16 (.bool true) hH (λhH=>?_)
   try simp only[Act.put,aT,aZ,aS]
   refine tkW 6 17 (.func (.func gp) #[] #[.pointer (some ⟨gv,0,none⟩)]) hH (λw hSw=>?_) (λhH=>?_)
   ·have p:=hSw.2
    unfold runsTo
    go_simp
   try simp only[Act.put,aT,aZ,aS]
   refine tkW 7 18 (.func (.func 109) #[.pointer (some ⟨q,0,none⟩)] #[]) hH (λw hSw=>?_) (λhH=>?_)
   ·have p:=hSw.1
    unfold runsTo
    go_simp
   try simp only[Act.put,aT,aZ,aS]
   refine tkV 8 19 (.int .i64 (a:Nat)) hH (λhH=>?_)
   try simp only[Act.put,aT,aZ,aS]
   refine tkV 9 20 (.int .i64 (st:Nat)) hH (λhH=>?_)
   try simp only[Act.put,aT,aZ,aS]
   refine tkW 10 21 (.int .i64 (aV:Nat)) hH (λw hSw=>?_) (λhH=>?_)
   ·have p:=HW1.out
    unfold runsTo
    go_simp
   try simp only[Act.put,aT,aZ,aS]
   refine tkC 11 (λK hK=>?_)
   change Oper.wp _ ⟨some 22,_,_,_,_,_⟩ _ _ _ _
   go_simp
   refine HKY.out.mono ?_
   rintro e w4 ⟨A,cap,rfl,hb4⟩
   obtain⟨u,Hu⟩:=name_itV (cellsV (t.get ((wayN j).get d)) (.slice A 0 cap))
   have HB4:=hid (show Below wr.heap.size wr w4 from below_of_dr hb4)
   have HP4:=hid (HPC.out w4 (HBW.out.trans (HB4.out.mono HBW.out.size)) A cap)
   rw[Hu.out]at HP4 ⊢
   have hH:w4.cell? ⟨z,0,none⟩=some (.func (.func 109) #[.pointer (some ⟨q,0,none⟩)] #[])∧w4.cell? ⟨z+1,0,none⟩=some (.func (.func gp) #[] #[.pointer (some ⟨gv,0,none⟩)]):=⟨(HB4.out.cell (p:=⟨z,0,none⟩) (cell_blk HKP.out.1)).trans HKP.out.1,(HB4.out.cell (p:=⟨z+1,0,none⟩) (cell_blk HKP.out.2)).trans HKP.out.2⟩
   clear hb4 HKY HPC Hu
   dsimp only
   refine hK.out _ _ hH (λhH=>?_)
   clear hK K
   try simp only[Act.put,aT,aZ,aS]
   refine tkC 12 (λK hK=>?_)
   change Oper.wp _ ⟨some 23,_,_,_,_,_⟩ _ _ _ _
   go_simp
   refine HP4.out.mono ?_
   rintro e w5 ⟨rfl,hb5⟩
   have HB5:=hid (HB4.out.trans (hb5.mono HB4.out.size))
   have hH:w5.cell? ⟨z,0,none⟩=some (.func (.func 109) #[.pointer (some ⟨q,0,none⟩)] #[])∧w5.cell? ⟨z+1,0,none⟩=some (.func (.func gp) #[] #[.pointer (some ⟨gv,0,none⟩)]):=⟨(HB5.out.cell (p:=⟨z,0,none⟩) (cell_blk HKP.out.1)).trans HKP.out.1,(HB5.out.cell (p:=⟨z+1,0,none⟩) (cell_blk HKP.out.2)).trans HKP.out.2⟩
   clear hb5 HP4 HB4
   dsimp only
   refine hK.out _ _ hH (λhH=>?_)
   clear hK K
   try simp only[Act.put,aT,aZ,aS]
   refine tkV 13 24 (.bool (!v)) hH (λhH=>?_)
   try simp only[Act.put,aT,aZ,aS]
   refine tkV 14 25 (.bool (!v)) hH (λhH=>?_)
   try simp only[Act.put,aT,aZ,aS]
   refine⟨wpAnyH_done (by kernel_rfl) ?_ _⟩
   clear hH
   have HB6:=hid (HMB.out.trans (HB5.out.mono HMB.out.size))
   cases v with
   | false=>
    have w2:=HW2.out
    go_wp2_with fail
    go_roundw
    case rel=>exact⟨st*2,by omega,by first | rfl | go_num,hid ⟨HB6.out,by have:=HLT.out;have h2:=Has.out;rw[Nat.mul_div_cancel _ (by omega)];omega,.inr ⟨by omega,by rw[Nat.mul_div_cancel _ (by omega),Has.out];exact HLT.out,by rw[Nat.mul_div_cancel _ (by omega),Has.out];exact Hv.out⟩⟩⟩
    case measure=>have:=HLT.out;have h2:=Has.out;simp[intOf];omega
   | true=>
    have HEX:=hid (show f (a+st / 2+(min aV b-(a+st / 2)))=true∨min aV b=b from by
     have h2:=Has.out
     have h3:=HLT.out
     left
     rw[Nat.min_eq_left (by omega),show a+st / 2+(aV-(a+st / 2))=aV by omega]
     exact Hv.out)
    have HBX:=hid (show Below w.heap.size w w5 from HBW.out.trans (HB5.out.mono HBW.out.size))
    have HCX:=hid (HCW.out.on HBX.out)
    have HKX:=hid (show w5.cell? ⟨z,0,none⟩=some (.func (.func 109) #[.pointer (some ⟨q,0,none⟩)] #[])∧w5.cell? ⟨z+1,0,none⟩=some (.func (.func gp) #[] #[.pointer (some ⟨gv,0,none⟩)]) from ⟨(HB5.out.cell (p:=⟨z,0,none⟩) (cell_blk HKP.out.1)).trans HKP.out.1,(HB5.out.cell (p:=⟨z+1,0,none⟩) (cell_blk HKP.out.2)).trans HKP.out.2⟩)
    obtain⟨wx,HWX⟩:=name_itV (w5)
    rw[HWX.out]at HBX HCX HKX ⊢
    clear HWX
    obtain⟨mn,HMN⟩:=name_itV (min aV b)
    rw[HLW.out]at HEX HST
    rw[HMN.out]at HEX
    obtain⟨zl,Hzl⟩:=name_itV wx.heap.size
    obtain⟨w7,HW7⟩:=name_itV (wx.alloc (.cells #[.int .i64 (low:Nat)] 3))
    have HB7:=hid (show Below wx.heap.size wx w7 from by rw[←HW7.out];exact (Below.refl _ _).alloc (Nat.le_refl _) _)
    have HL7:=hid (show w7.heap[zl]?=some (.cells #[.int .i64 (low:Nat)] 3 (0,0)) from by rw[←HW7.out,←Hzl.out];exact heap_alloc_new wx _)
    have d1:=HDV.out.1
    have d2:=HDV.out.2.1
    have d3:=HDV.out.2.2
    have w3:=HW3.out
    go_upto_region 5 with fail
    rw[Hzl.out,HW7.out]
    clear HW7 d1 d2 d3 w3
    have HC7:=hid (HCX.out.on HB7.out)
    have HG7:=hid (show GalV q gp gv (z+1) z zl low w7 from ⟨(HB7.out.cell (p:=⟨z+1,0,none⟩) (cell_blk HKX.out.2)).trans HKX.out.2,(HB7.out.cell (p:=⟨z,0,none⟩) (cell_blk HKX.out.1)).trans HKX.out.1,cell_of_heap HL7.out 0⟩)
    have HBW7:=hid (show Below w.heap.size w w7 from HBX.out.trans (HB7.out.mono HBX.out.size))
    have HMI:=hid (show min (aV:Int) (b:Int)=((mn:Nat):Int) from by rw[←HMN.out];omega)
    have HLM:=hid (show low≤mn∧mn≤b from by have h1:=HMN.out;have h2:=HST.out.1;have h3:=HLW.out;have h4:=Has.out;constructor<;>omega)
    obtain⟨len,Hlen⟩:=name_itV (mn-low)
    rw[Hlen.out]at HEX
    have HSU:=hid (show IntKind.i64.wrap ((mn:Int)-(low:Int))=((len:Nat):Int) from by have h1:=HLM.out;have h2:=HAB.out;have h3:=HLN.out;have h4:=Hlen.out;rw[IntWalk.i64_in _ (by omega)];omega)
    have HSE:=hid (Any.sort_Search Tryz.searchL 242 #[.pointer (some ⟨z+1,0,none⟩),.pointer (some ⟨z,0,none⟩),.pointer (some ⟨zl,0,none⟩)] len (λi=>f (low+i)) w7.drew (enters_of Tryz.func242 (by kernel_rfl) rfl) (by have h1:=HLM.out;have h2:=HAB.out;have h3:=HLN.out;have h4:=Hlen.out;omega)
     (λm os i hi=>by
      have hbg:=below_grow w7.drew m os
      have hb9:Below w.heap.size w (Go.Sort.grow (w7.drew.drewN m) os):=HBW7.out.drew.trans (hbg.mono HBW7.out.size)
      refine (Dn.calls_drawn (gallop1_any (HC7.out.drew.on hbg) HDD.out.1 HDD.out.2 gp gv f (λW hW=>HPA.out W (hb9.trans (hW.mono hb9.size))) egp (z+1) z zl low (GalV.on (w:=w7.drew) ⟨HG7.out.past,HG7.out.key,HG7.out.low⟩ hbg) i (by have h1:=HLM.out;have h2:=HAB.out;have h4:=Hlen.out;omega))).mono λe w' ⟨⟨he,hbw⟩,hdr⟩=>⟨he,?_⟩
      exact Dn.grow_of_below hbw (hdr (by rw[he];exact λh=>by cases h)))
     (λi i' h1 h2 h3=>HMO.out (low+i) (low+i') (by have h7:=HLW.out;omega) (by omega) (by have h5:=HLM.out;have h6:=HAB.out;have h4:=Hlen.out;omega) h3))
    have HCT:=hid (count_low (f:=f) (low:=low) (n:=len) (λi i' h1 h2 h3=>HMO.out (low+i) (low+i') (by have h7:=HLW.out;omega) (by omega) (by have h5:=HLM.out;have h6:=HAB.out;have h4:=Hlen.out;omega) h3))
    obtain⟨cnt,Hcnt⟩:=name_itV ((List.range len).countP (λi=>!f (low+i)))
    rw[Hcnt.out]at HSE HCT
    have HAD:=hid (show IntKind.i64.wrap ((low:Int)+(cnt:Int))=((low+cnt:Nat):Int) from by have h0:=HCT.out.1;have h1:=HLM.out;have h2:=HAB.out;have h3:=HLN.out;have h4:=Hlen.out;rw[IntWalk.i64_in _ (by omega)];omega)
    have HFI:=hid (show ∀w',Below w.heap.size w w'→GalIs f a b w (.returned (.int .i64 ((low+cnt:Nat):Int))) w' from λw' hb=>⟨low+cnt,rfl,by have h3:=HLW.out;omega,by have h0:=HCT.out.1;have h1:=HLM.out;have h4:=Hlen.out;omega,λi h1 h2=>by
     by_cases hil:i<low
     ·rcases HST.out.2 with h | h
      ·have h3:=HLW.out;omega
      ·cases hfi:f i with
       | false=>rfl
       | true=>
        have:=HMO.out i low h1 (by omega) (by have h5:=HAB.out;have h6:=h.2.1;omega) hfi
        rw[h.2.2]at this
        cases this
     ·have:=HCT.out.2.1 (i-low) (by omega)
      rwa [show low+(i-low)=i by omega]at this,λhmb=>by
     rcases Nat.lt_or_ge cnt len with h | h
     ·exact HCT.out.2.2 h
     ·have h0:=HCT.out.1
      rcases HEX.out with h1 | h1
      ·rwa [show cnt=len by omega]
      ·have h4:=Hlen.out;have h5:=HLM.out;omega,hb⟩)
    obtain⟨mm,Hmm⟩:=name_itV (low+cnt)
    rw[Hmm.out]at HAD HFI
    refine wp_region_held_drew (S:=λW'=>W'.cell? ⟨zl,0,none⟩=some (.int .i64 (low:Nat))) (by kernel_rfl) HG7.out.low (λhH=>?_)
    refine Boxed.out ?_
    refine tkW 0 32 (.int .i64 (low:Nat)) hH (λw hSw=>?_) (λhH=>?_)
    ·have p:=hSw
     unfold runsTo
     go_simp
    try simp only[Act.put,aT,aZ,aS]
    refine tkV 1 33 (.int .i64 (a:Nat)) hH (λhH=>?_)
    try simp only[Act.put,aT,aZ,aS]
    refine tkV 2 34 (.int .i64 (st:Nat)) hH (λhH=>?_)
    try simp only[Act.put,aT,aZ,aS]
    refine tkW 3 35 (.int .i64 (aV:Nat)) hH (λw hSw=>?_) (λhH=>?_)
    ·have p:=HW1.out
     unfold runsTo
     go_simp
    try simp only[Act.put,aT,aZ,aS]
    refine tkV 4 36 (.int .i64 (b:Nat)) hH (λhH=>?_)
    try simp only[Act.put,aT,aZ,aS]
    refine tkW 5 37 (.int .i64 (mn:Nat)) hH (λw hSw=>?_) (λhH=>?_)
    ·have p:=HMI.out
     unfold runsTo
     go_simp
    try simp only[Act.put,aT,aZ,aS]
    refine tkW 6 38 (.int .i64 (low:Nat)) hH (λw hSw=>?_) (λhH=>?_)
    ·have p:=hSw
     unfold runsTo
     go_simp
    try simp only[Act.put,aT,aZ,aS]
    refine tkW 7 39 (.int .i64 (len:Nat)) hH (λw hSw=>?_) (λhH=>?_)
    ·have p:=HSU.out
     unfold runsTo
     go_simp
    try simp only[Act.put,aT,aZ,aS]
    refine tkV 8 40 (.func (.func 242) #[] #[.pointer (some ⟨z+1,0,none⟩),.pointer (some ⟨z,0,none⟩),.pointer (some ⟨zl,0,none⟩)]) hH (λhH=>?_)
    try simp only[Act.put,aT,aZ,aS]
    refine tkC 9 (λK hK=>?_)
    change Oper.wp _ ⟨some 41,_,_,_,_,_⟩ _ _ _ _
    go_simp
    refine HSE.out.mono ?_
    rintro e w8 ⟨rfl,qq,os,hw8⟩
    have HB8:=hid (show Below w7.drew.heap.size w7.drew w8 from by rw[hw8];exact below_grow w7.drew qq os)
    have HB9:=hid (show Below w.heap.size w w8 from HBW7.out.drew.trans (HB8.out.mono HBW7.out.size))
    clear hw8 HSE
    dsimp only
    refine hK.out _ _ ((HB8.out.cell (p:=⟨zl,0,none⟩) (cell_blk HG7.out.low)).trans HG7.out.low) (λhH=>?_)
    clear hK K
    try simp only[Act.put,aT,aZ,aS]
    refine tkW 10 42 (.int .i64 (mm:Nat)) hH (λw hSw=>?_) (λhH=>?_)
    ·have p:=HAD.out
     unfold runsTo
     go_simp
    try simp only[Act.put,aT,aZ,aS]
    refine tkV 11 8 (.int .i64 (mm:Nat)) hH (λhH=>?_)
    try simp only[Act.put,aT,aZ,aS]
    refine⟨wpAnyH_done (by kernel_rfl) ?_ _⟩
    clear hH
    go_wp2_with fail
    go_ret
    exact HFI.out _ HB9.out
  ·have HEX:=hid (show f (a+st / 2+(min aV b-(a+st / 2)))=true∨min aV b=b from .inr (Nat.min_eq_right (by omega)))
   have HTT:=hid (decide_eq_false hlt)
   clear hlt
   refine tkV 0 11 (.int .i64 (a:Nat)) hH (λhH=>?_)
   try simp only[Act.put,aT,aZ,aS]
   refine tkV 1 12 (.int .i64 (st:Nat)) hH (λhH=>?_)
   try simp only[Act.put,aT,aZ,aS]
   refine tkW 2 13 (.int .i64 (aV:Nat)) hH (λw hSw=>?_) (λhH=>?_)
   ·have p:=HW1.out
    unfold runsTo
    go_simp
   try simp only[Act.put,aT,aZ,aS]
   refine tkV 3 14 (.int .i64 (b:Nat)) hH (λhH=>?_)
   try simp only[Act.put,aT,aZ,aS]
   refine tkW 4 15 (.bool false) hH (λw hSw=>?_) (λhH=>?_)
   ·have p:=HTT.out
    unfold runsTo
    go_simp
   try simp only[Act.put,aT,aZ,aS]
   refine tkV 5 16 (.bool false) hH (λhH=>?_)
   try simp only[Act.put,aT,aZ,aS]
   refine take_skip 6 17 (by kernel_rfl) (by rfl) (by kernel_rfl) (by kernel_rfl) (by kernel_rfl) (λ_ _ _ h=>h) hH (λhH=>?_)
   try simp only[Act.put,aT,aZ,aS]
   refine take_skip 7 18 (by kernel_rfl) (by rfl) (by kernel_rfl) (by kernel_rfl) (by kernel_rfl) (λ_ _ _ h=>h) hH (λhH=>?_)
   try simp only[Act.put,aT,aZ,aS]
   refine take_skip 8 19 (by kernel_rfl) (by rfl) (by kernel_rfl) (by kernel_rfl) (by kernel_rfl) (λ_ _ _ h=>h) hH (λhH=>?_)
   try simp only[Act.put,aT,aZ,aS]
   refine take_skip 9 20 (by kernel_rfl) (by rfl) (by kernel_rfl) (by kernel_rfl) (by kernel_rfl) (λ_ _ _ h=>h) hH (λhH=>?_)
   try simp only[Act.put,aT,aZ,aS]
   refine take_skip 10 21 (by kernel_rfl) (by rfl) (by kernel_rfl) (by kernel_rfl) (by kernel_rfl) (λ_ _ _ h=>h) hH (λhH=>?_)
   try simp only[Act.put,aT,aZ,aS]
   refine take_skip 11 22 (by kernel_rfl) (by rfl) (by kernel_rfl) (by kernel_rfl) (by kernel_rfl) (λ_ _ _ h=>h) hH (λhH=>?_)
   try simp only[Act.put,aT,aZ,aS]
   refine take_skip 12 23 (by kernel_rfl) (by rfl) (by kernel_rfl) (by kernel_rfl) (by kernel_rfl) (λ_ _ _ h=>h) hH (λhH=>?_)
   try simp only[Act.put,aT,aZ,aS]
   refine take_skip 13 24 (by kernel_rfl) (by rfl) (by kernel_rfl) (by kernel_rfl) (by kernel_rfl) (λ_ _ _ h=>h) hH (λhH=>?_)
   try simp only[Act.put,aT,aZ,aS]
   refine tkV 14 25 (.bool false) hH (λhH=>?_)
   try simp only[Act.put,aT,aZ,aS]
   refine⟨wpAnyH_done (by kernel_rfl) ?_ _⟩
   clear hH
   have HBX:=hid (show Below w.heap.size w wr.drew from HBW.out.drew)
   have HCX:=hid (HCW.out.on HBX.out)
   have HKX:=hid (show wr.drew.cell? ⟨z,0,none⟩=some (.func (.func 109) #[.pointer (some ⟨q,0,none⟩)] #[])∧wr.drew.cell? ⟨z+1,0,none⟩=some (.func (.func gp) #[] #[.pointer (some ⟨gv,0,none⟩)]) from ⟨HKP.out.1,HKP.out.2⟩)
   obtain⟨wx,HWX⟩:=name_itV (wr.drew)
   rw[HWX.out]at HBX HCX HKX ⊢
   clear HWX
   obtain⟨mn,HMN⟩:=name_itV (min aV b)
   rw[HLW.out]at HEX HST
   rw[HMN.out]at HEX
   obtain⟨zl,Hzl⟩:=name_itV wx.heap.size
   obtain⟨w7,HW7⟩:=name_itV (wx.alloc (.cells #[.int .i64 (low:Nat)] 3))
   have HB7:=hid (show Below wx.heap.size wx w7 from by rw[←HW7.out];exact (Below.refl _ _).alloc (Nat.le_refl _) _)
   have HL7:=hid (show w7.heap[zl]?=some (.cells #[.int .i64 (low:Nat)] 3 (0,0)) from by rw[←HW7.out,←Hzl.out];exact heap_alloc_new wx _)
   have d1:=HDV.out.1
   have d2:=HDV.out.2.1
   have d3:=HDV.out.2.2
   have w3:=HW3.out
   go_upto_region 5 with fail
   rw[Hzl.out,HW7.out]
   clear HW7 d1 d2 d3 w3
   have HC7:=hid (HCX.out.on HB7.out)
   have HG7:=hid (show GalV q gp gv (z+1) z zl low w7 from ⟨(HB7.out.cell (p:=⟨z+1,0,none⟩) (cell_blk HKX.out.2)).trans HKX.out.2,(HB7.out.cell (p:=⟨z,0,none⟩) (cell_blk HKX.out.1)).trans HKX.out.1,cell_of_heap HL7.out 0⟩)
   have HBW7:=hid (show Below w.heap.size w w7 from HBX.out.trans (HB7.out.mono HBX.out.size))
   have HMI:=hid (show min (aV:Int) (b:Int)=((mn:Nat):Int) from by rw[←HMN.out];omega)
   have HLM:=hid (show low≤mn∧mn≤b from by have h1:=HMN.out;have h2:=HST.out.1;have h3:=HLW.out;have h4:=Has.out;constructor<;>omega)
   obtain⟨len,Hlen⟩:=name_itV (mn-low)
   rw[Hlen.out]at HEX
   have HSU:=hid (show IntKind.i64.wrap ((mn:Int)-(low:Int))=((len:Nat):Int) from by have h1:=HLM.out;have h2:=HAB.out;have h3:=HLN.out;have h4:=Hlen.out;rw[IntWalk.i64_in _ (by omega)];omega)
   have HSE:=hid (Any.sort_Search Tryz.searchL 242 #[.pointer (some ⟨z+1,0,none⟩),.pointer (some ⟨z,0,none⟩),.pointer (some ⟨zl,0,none⟩)] len (λi=>f (low+i)) w7.drew (enters_of Tryz.func242 (by kernel_rfl) rfl) (by have h1:=HLM.out;have h2:=HAB.out;have h3:=HLN.out;have h4:=Hlen.out;omega)
    (λm os i hi=>by
     have hbg:=below_grow w7.drew m os
     have hb9:Below w.heap.size w (Go.Sort.grow (w7.drew.drewN m) os):=HBW7.out.drew.trans (hbg.mono HBW7.out.size)
     refine (Dn.calls_drawn (gallop1_any (HC7.out.drew.on hbg) HDD.out.1 HDD.out.2 gp gv f (λW hW=>HPA.out W (hb9.trans (hW.mono hb9.size))) egp (z+1) z zl low (GalV.on (w:=w7.drew) ⟨HG7.out.past,HG7.out.key,HG7.out.low⟩ hbg) i (by have h1:=HLM.out;have h2:=HAB.out;have h4:=Hlen.out;omega))).mono λe w' ⟨⟨he,hbw⟩,hdr⟩=>⟨he,?_⟩
     exact Dn.grow_of_below hbw (hdr (by rw[he];exact λh=>by cases h)))
    (λi i' h1 h2 h3=>HMO.out (low+i) (low+i') (by have h7:=HLW.out;omega) (by omega) (by have h5:=HLM.out;have h6:=HAB.out;have h4:=Hlen.out;omega) h3))
   have HCT:=hid (count_low (f:=f) (low:=low) (n:=len) (λi i' h1 h2 h3=>HMO.out (low+i) (low+i') (by have h7:=HLW.out;omega) (by omega) (by have h5:=HLM.out;have h6:=HAB.out;have h4:=Hlen.out;omega) h3))
   obtain⟨cnt,Hcnt⟩:=name_itV ((List.range len).countP (λi=>!f (low+i)))
   rw[Hcnt.out]at HSE HCT
   have HAD:=hid (show IntKind.i64.wrap ((low:Int)+(cnt:Int))=((low+cnt:Nat):Int) from by have h0:=HCT.out.1;have h1:=HLM.out;have h2:=HAB.out;have h3:=HLN.out;have h4:=Hlen.out;rw[IntWalk.i64_in _ (by omega)];omega)
   have HFI:=hid (show ∀w',Below w.heap.size w w'→GalIs f a b w (.returned (.int .i64 ((low+cnt:Nat):Int))) w' from λw' hb=>⟨low+cnt,rfl,by have h3:=HLW.out;omega,by have h0:=HCT.out.1;have h1:=HLM.out;have h4:=Hlen.out;omega,λi h1 h2=>by
    by_cases hil:i<low
    ·rcases HST.out.2 with h | h
     ·have h3:=HLW.out;omega
     ·cases hfi:f i with
      | false=>rfl
      | true=>
       have:=HMO.out i low h1 (by omega) (by have h5:=HAB.out;have h6:=h.2.1;omega) hfi
       rw[h.2.2]at this
       cases this
    ·have:=HCT.out.2.1 (i-low) (by omega)
     rwa [show low+(i-low)=i by omega]at this,λhmb=>by
    rcases Nat.lt_or_ge cnt len with h | h
    ·exact HCT.out.2.2 h
    ·have h0:=HCT.out.1
     rcases HEX.out with h1 | h1
     ·rwa [show cnt=len by omega]
     ·have h4:=Hlen.out;have h5:=HLM.out;omega,hb⟩)
   obtain⟨mm,Hmm⟩:=name_itV (low+cnt)
   rw[Hmm.out]at HAD HFI
   refine wp_region_held_drew (S:=λW'=>W'.cell? ⟨zl,0,none⟩=some (.int .i64 (low:Nat))) (by kernel_rfl) HG7.out.low (λhH=>?_)
   refine Boxed.out ?_
   refine tkW 0 32 (.int .i64 (low:Nat)) hH (λw hSw=>?_) (λhH=>?_)
   ·have p:=hSw
    unfold runsTo
    go_simp
   try simp only[Act.put,aT,aZ,aS]
   refine tkV 1 33 (.int .i64 (a:Nat)) hH (λhH=>?_)
   try simp only[Act.put,aT,aZ,aS]
   refine tkV 2 34 (.int .i64 (st:Nat)) hH (λhH=>?_)
   try simp only[Act.put,aT,aZ,aS]
   refine tkW 3 35 (.int .i64 (aV:Nat)) hH (λw hSw=>?_) (λhH=>?_)
   ·have p:=HW1.out
    unfold runsTo
    go_simp
   try simp only[Act.put,aT,aZ,aS]
   refine tkV 4 36 (.int .i64 (b:Nat)) hH (λhH=>?_)
   try simp only[Act.put,aT,aZ,aS]
   refine tkW 5 37 (.int .i64 (mn:Nat)) hH (λw hSw=>?_) (λhH=>?_)
   ·have p:=HMI.out
    unfold runsTo
    go_simp
   try simp only[Act.put,aT,aZ,aS]
   refine tkW 6 38 (.int .i64 (low:Nat)) hH (λw hSw=>?_) (λhH=>?_)
   ·have p:=hSw
    unfold runsTo
    go_simp
   try simp only[Act.put,aT,aZ,aS]
   refine tkW 7 39 (.int .i64 (len:Nat)) hH (λw hSw=>?_) (λhH=>?_)
   ·have p:=HSU.out
    unfold runsTo
    go_simp
   try simp only[Act.put,aT,aZ,aS]
   refine tkV 8 40 (.func (.func 242) #[] #[.pointer (some ⟨z+1,0,none⟩),.pointer (some ⟨z,0,none⟩),.pointer (some ⟨zl,0,none⟩)]) hH (λhH=>?_)
   try simp only[Act.put,aT,aZ,aS]
   refine tkC 9 (λK hK=>?_)
   change Oper.wp _ ⟨some 41,_,_,_,_,_⟩ _ _ _ _
   go_simp
   refine HSE.out.mono ?_
   rintro e w8 ⟨rfl,qq,os,hw8⟩
   have HB8:=hid (show Below w7.drew.heap.size w7.drew w8 from by rw[hw8];exact below_grow w7.drew qq os)
   have HB9:=hid (show Below w.heap.size w w8 from HBW7.out.drew.trans (HB8.out.mono HBW7.out.size))
   clear hw8 HSE
   dsimp only
   refine hK.out _ _ ((HB8.out.cell (p:=⟨zl,0,none⟩) (cell_blk HG7.out.low)).trans HG7.out.low) (λhH=>?_)
   clear hK K
   try simp only[Act.put,aT,aZ,aS]
   refine tkW 10 42 (.int .i64 (mm:Nat)) hH (λw hSw=>?_) (λhH=>?_)
   ·have p:=HAD.out
    unfold runsTo
    go_simp
   try simp only[Act.put,aT,aZ,aS]
   refine tkV 11 8 (.int .i64 (mm:Nat)) hH (λhH=>?_)
   try simp only[Act.put,aT,aZ,aS]
   refine⟨wpAnyH_done (by kernel_rfl) ?_ _⟩
   clear hH
   go_wp2_with fail
   go_ret
   exact HFI.out _ HB9.out
structure NeaR (F:Nat→Prop) (c:Nat) (T:List Trip) (l:List Nat) (cs:Nat→Array Value) (S s:Value) (w:World):Prop where
 st:w.cell? ⟨c,0,none⟩=some S
 row:RowT F w cs T S
 nums:RowI F w l s
 lt:∀n,n∈l→n<T.length
 fc:F c
 fl:∀b,F b→b<w.heap.size
structure NeaV (F:Nat→Prop) (c:Nat) (T:List Trip) (l:List Nat) (cs:Nat→Array Value) (S s:Value) (b1 b2 b3 b4 p:Nat) (P:Trip) (ps:Nat→Value) (w:World):Prop where
 r:NeaR F c T l cs S s w
 v1:w.cell? ⟨b1,0,none⟩=some (.pointer (some ⟨c,0,none⟩))
 v2:w.cell? ⟨b2,0,none⟩=some s
 v3:w.cell? ⟨b3,0,none⟩=some (.int .i64 (p:Nat))
 v4:w.heap[b4]?=some (.cells (cellsT P ps) 99 (0,0))
section
variable {F:Nat→Prop} {c:Nat} {T:List Trip} {l:List Nat} {cs:Nat→Array Value} {S s:Value} {b1 b2 b3 b4 p:Nat} {P:Trip} {ps:Nat→Value} {w w':World}
theorem NeaR.turn (h:NeaR F c T l cs S s w) {Tn:Nat→Prop} (ht:Turn Tn w w') (h1:∀b,F b→¬Tn b):NeaR F c T l cs S s w':=
 have hk:∀b,F b→w'.heap[b]?=w.heap[b]?:=λb hb=>ht.block b (h.fl b hb) (h1 b hb)
 ⟨(World.cell?_of_block (a:=⟨c,0,none⟩) (hk c h.fc)).trans h.st,h.row.keep λ_ hp=>World.cell?_of_block (hk _ hp),h.nums.keep λ_ hp=>World.cell?_of_block (hk _ hp),h.lt,h.fc,λb hb=>Nat.lt_of_lt_of_le (h.fl b hb) ht.size⟩
theorem NeaR.on (h:NeaR F c T l cs S s w) (hb:Below w.heap.size w w'):NeaR F c T l cs S s w':=
 h.turn (Turn.of_below hb) (λb hb2 h2=>by have:=h.fl b hb2;have h2:w.heap.size≤b:=h2;omega)
theorem NeaV.on (h:NeaV F c T l cs S s b1 b2 b3 b4 p P ps w) (hb:Below w.heap.size w w'):NeaV F c T l cs S s b1 b2 b3 b4 p P ps w':=
 ⟨h.r.on hb,(hb.cell (p:=⟨b1,0,none⟩) (cell_blk h.v1)).trans h.v1,(hb.cell (p:=⟨b2,0,none⟩) (cell_blk h.v2)).trans h.v2,(hb.cell (p:=⟨b3,0,none⟩) (cell_blk h.v3)).trans h.v3,(hb.block b4 (blk_lt h.v4)).trans h.v4⟩
theorem NeaV.drew (h:NeaV F c T l cs S s b1 b2 b3 b4 p P ps w):NeaV F c T l cs S s b1 b2 b3 b4 p P ps w.drew:=h.on (Below.refl _ _).drew
theorem part_at {g e:Nat} (h:w.heap[g]?=some (.cells (cellsT P ps) 99 (0,0))) (he:e<3):w.rangeAt g (e*6) (cellsV (P.get e) (ps e)).toList:=λi v hv=>by
 have hi:i<6:=(List.getElem?_eq_some_iff.1 hv).1
 refine (cell_of_row w g (e*6+i) _ _ _ h).trans ?_
 rw[cellsT_part P ps e he i hi,←Array.getElem?_toList]
 exact hv
theorem NeaR.stand (h:NeaR F c T l cs S s w) {n k:Nat} (hk:l[n]?=some k):∃(r1 c1 r2 o2 c2:Nat) (t:Trip) (ss:Nat→Value),S = .slice (some ⟨r1,0,none⟩) T.length c1∧s = .slice (some ⟨r2,o2,none⟩) l.length c2∧T[k]?=some t∧k<T.length ∧
    (∀w':World,NeaR F c T l cs S s w'→w'.cell? ⟨r2,o2+n,none⟩=some (.int .i64 (k:Nat))∧∀e,e<3→w'.rangeAt r1 (k*18+e*6) (cellsV (t.get e) (ss e)).toList)∧(∀e,e<3→∃A cap,ss e = .slice A 0 cap):=by
 have hn:n<l.length:=(List.getElem?_eq_some_iff.1 hk).1
 have hkT:=h.lt k (List.mem_of_getElem? hk)
 obtain⟨t,ht⟩:∃t,T[k]?=some t:=⟨_,List.getElem?_eq_getElem hkT⟩
 obtain⟨A,cap,rfl,hc1,hr1⟩:=h.row.form
 obtain⟨B,cap2,rfl,hc2,hr2⟩:=h.nums
 obtain⟨r1,rfl,_,hx1⟩:=hr1 (by omega)
 obtain⟨r2,o2,rfl,_,hx2⟩:=hr2 (by omega)
 obtain⟨_,_,ss,hss,hcs⟩:=h.row.el k t ht
 refine⟨r1,cap,r2,o2,cap2,t,ss,rfl,rfl,ht,hkT,λw' h'=>⟨?_,λe he i v hv=>?_⟩,hss⟩
 ·obtain⟨B',cap',e1,_,hr3⟩:=h'.nums
  injection e1 with e1 _ _
  obtain⟨r3,o3,e3,_,hx3⟩:=hr3 (by omega)
  rw[←e1]at e3
  injection e3 with e3
  injection e3 with e3 e4
  subst e3 e4
  exact hx3 n k hk
 ·obtain⟨A',cap',e1,_,hr3⟩:=h'.row.form
  injection e1 with e1 _ _
  obtain⟨r3,e3,_,hx3⟩:=hr3 (by omega)
  rw[←e1]at e3
  injection e3 with e3
  injection e3 with e3
  subst e3
  have hi:i<6:=(List.getElem?_eq_some_iff.1 hv).1
  rw[show k*18+e*6+i=k*18+(e*6+i) by omega,hx3 k hkT (e*6+i) (by omega),hcs,cellsT_part t ss e he i hi,←Array.getElem?_toList]
  exact hv
set_option maxRecDepth 100000 in
set_option maxHeartbeats 4000000 in
theorem near_lo (h:NeaV F c T l cs S s b1 b2 b3 b4 p P ps w) (hp:p<3) (n k:Nat) (t:Trip) (hk:l[n]?=some k) (ht:T[k]?=some t) (ka:KindT (t.get p)) (fb:FitV (P.get p)) (hgb:GlobB w) (hgt:GlobT w) :
    Calls Tryz.prog 121 #[.int .i64 (n:Nat),.pointer (some ⟨b1,0,none⟩),.pointer (some ⟨b2,0,none⟩),.pointer (some ⟨b3,0,none⟩),.pointer (some ⟨b4,0,none⟩)] w (ToldB (decide (0≤ordV (t.get p) (P.get p))) w):=by
 obtain⟨r1,c1,r2,o2,c2,t',ss,rfl,rfl,ht',hkT,hw,hss⟩:=h.r.stand hk
 rw[ht]at ht'
 injection ht' with ht'
 subst ht'
 have HN:=hid (show n<l.length from (List.getElem?_eq_some_iff.1 hk).1)
 have HK:=hid hkT
 have HW:=hid hw
 obtain⟨N,HT⟩:=name_itV T.length
 obtain⟨M,HM⟩:=name_itV l.length
 rw[HM.out]at HN
 rw[HT.out]at HK
 have HPL:=hid hp
 have HR:=hid (λ(w':World) (h':NeaR F c T l cs (.slice (some ⟨r1,0,none⟩) T.length c1) (.slice (some ⟨r2,o2,none⟩) l.length c2) w')=>(hw w' h').2 p hp)
 have HCM:=hid (cmpT_any (t.get p) (P.get p) (ss p) (ps p) w.drew ka fb (glob_under hgb (Below.refl _ _).drew) (globT_under hgt (Below.refl _ _).drew))
 unfold OrdIs at HCM
 unfold ToldB
 obtain⟨u,Hu⟩:=name_itV (cellsV (t.get p) (ss p))
 obtain⟨u2,Hu2⟩:=name_itV (cellsV (P.get p) (ps p))
 obtain⟨q,Hq⟩:=name_itV (ordV (t.get p) (P.get p))
 rw[Hu.out,Hu2.out,Hq.out]at HCM
 have Z6:=hid (show u.size=6 from by rw[←Hu.out];rfl)
 have Z62:=hid (show u2.size=6 from by rw[←Hu2.out];rfl)
 rw[Hu.out]at HR
 have I6:=hid (infoV6.trans (congrArg some Z6.out.symm))
 have I62:=hid (infoV6.trans (congrArg some Z62.out.symm))
 rw[Hq.out]
 obtain⟨v,Hv⟩:=name_itV (decide (0≤q))
 have HVB:=hid Hv.out
 rw[Hv.out]
 have HCW:=hid h
 clear Hu Hq Hv hw h hss hk ht hp hkT ka fb hgb hgt
 go_enter Tryz.func121,Tryz.ntmps121
 go_upto_region 1 with fail
 refine wp_region_held_drew (S:=λW'=>NeaV F c T l cs (.slice (some ⟨r1,0,none⟩) T.length c1) (.slice (some ⟨r2,o2,none⟩) l.length c2) b1 b2 b3 b4 p P ps W') (by kernel_rfl) HCW.out.drew (λhH=>?_)
 refine Boxed.out ?_
 refine tkW 0 7 (.pointer (some ⟨c,0,none⟩)) hH (λw hSw=>?_) (λhH=>?_)
 ·have p9:=hSw.v1
  unfold runsTo
  go_simp
 try simp only[Act.put,aT,aZ,aS]
 refine tkV 1 8 (.pointer (some ⟨c,0,none⟩)) hH (λhH=>?_)
 try simp only[Act.put,aT,aZ,aS]
 refine tkV 2 9 (.pointer (some ⟨c,0,none⟩)) hH (λhH=>?_)
 try simp only[Act.put,aT,aZ,aS]
 refine tkW 3 10 (.slice (some ⟨r1,0,none⟩) N c1) hH (λw hSw=>?_) (λhH=>?_)
 ·have p9:=hSw.r.st
  rw[HT.out]at p9
  unfold runsTo
  go_simp
 try simp only[Act.put,aT,aZ,aS]
 refine tkW 4 11 (.slice (some ⟨r2,o2,none⟩) M c2) hH (λw hSw=>?_) (λhH=>?_)
 ·have p9:=hSw.v2
  rw[HM.out]at p9
  unfold runsTo
  go_simp
 try simp only[Act.put,aT,aZ,aS]
 refine tkV 5 12 (.int .i64 (n:Nat)) hH (λhH=>?_)
 try simp only[Act.put,aT,aZ,aS]
 refine tkW 6 13 (.pointer (some ⟨r2,o2+n,none⟩)) hH (λw hSw=>?_) (λhH=>?_)
 ·exact val_of (idx_num r2 o2 M c2 n HN.out w)
 try simp only[Act.put,aT,aZ,aS]
 refine tkW 7 14 (.int .i64 (k:Nat)) hH (λw hSw=>?_) (λhH=>?_)
 ·have p9:=(HW.out w hSw.r).1
  unfold runsTo
  go_simp
 try simp only[Act.put,aT,aZ,aS]
 refine tkW 8 15 (.int .i64 (p:Nat)) hH (λw hSw=>?_) (λhH=>?_)
 ·have p9:=hSw.v3
  unfold runsTo
  go_simp
 try simp only[Act.put,aT,aZ,aS]
 refine tkW 9 16 (.pointer (some ⟨r1,k*18,none⟩)) hH (λw hSw=>?_) (λhH=>?_)
 ·exact val_of (idx_row r1 N c1 k HK.out w)
 try simp only[Act.put,aT,aZ,aS]
 refine tkW 10 17 (.pointer (some ⟨r1,k*18+p*6,none⟩)) hH (λw hSw=>?_) (λhH=>?_)
 ·exact val_of (idx_parto r1 (k*18) p HPL.out w)
 try simp only[Act.put,aT,aZ,aS]
 refine tkW 11 18 (.agg u) hH (λw hSw=>?_) (λhH=>?_)
 ·have q9:=run_loadAt_mid (P:=Tryz.prog) w r1 (k*18+p*6) 39 u.toList _ (HR.out w hSw.r) Tryz.underlying39 rfl (by rw[Array.length_toList];exact I6.out)
  rw[Array.toArray_toList]at q9
  exact val_of q9
 try simp only[Act.put,aT,aZ,aS]
 refine tkW 12 19 (.int .i64 (p:Nat)) hH (λw hSw=>?_) (λhH=>?_)
 ·have p9:=hSw.v3
  unfold runsTo
  go_simp
 try simp only[Act.put,aT,aZ,aS]
 refine tkW 13 20 (.pointer (some ⟨b4,p*6,none⟩)) hH (λw hSw=>?_) (λhH=>?_)
 ·have q9:=idx_parto b4 0 p HPL.out w
  rw[Nat.zero_add]at q9
  exact val_of q9
 try simp only[Act.put,aT,aZ,aS]
 refine tkW 14 21 (.agg u2) hH (λw hSw=>?_) (λhH=>?_)
 ·have q9:=run_loadAt_mid (P:=Tryz.prog) w b4 (p*6) 39 u2.toList _ (by rw[←Hu2.out];exact part_at hSw.v4 HPL.out) Tryz.underlying39 rfl (by rw[Array.length_toList];exact I62.out)
  rw[Array.toArray_toList]at q9
  exact val_of q9
 try simp only[Act.put,aT,aZ,aS]
 refine tkC 15 (λK hK=>?_)
 change Oper.wp _ ⟨some 22,_,_,_,_,_⟩ _ _ _ _
 go_simp
 refine HCM.out.mono ?_
 rintro e w2 ⟨rfl,hb2⟩
 have HB2:=hid (show Below w.heap.size w w2 from below_of_dr hb2)
 have HC2:=hid (HCW.out.on HB2.out)
 clear hb2 HCM
 dsimp only
 refine hK.out _ _ HC2.out (λhH=>?_)
 clear hK K
 try simp only[Act.put,aT,aZ,aS]
 refine tkW 16 23 (.bool v) hH (λw hSw=>?_) (λhH=>?_)
 ·have p9:=HVB.out
  unfold runsTo
  go_simp
 try simp only[Act.put,aT,aZ,aS]
 refine tkV 17 6 (.bool v) hH (λhH=>?_)
 try simp only[Act.put,aT,aZ,aS]
 refine⟨wpAnyH_done (by kernel_rfl) ?_ _⟩
 clear hH
 go_wp2_with fail
 go_ret
 exact⟨rfl,HB2.out⟩
set_option maxRecDepth 100000 in
set_option maxHeartbeats 4000000 in
theorem near_hi (h:NeaV F c T l cs S s b1 b2 b3 b4 p P ps w) (hp:p<3) (n k:Nat) (t:Trip) (hk:l[n]?=some k) (ht:T[k]?=some t) (ka:KindT (t.get p)) (fb:FitV (P.get p)) (hgb:GlobB w) (hgt:GlobT w) :
    Calls Tryz.prog 122 #[.int .i64 (n:Nat),.pointer (some ⟨b1,0,none⟩),.pointer (some ⟨b2,0,none⟩),.pointer (some ⟨b3,0,none⟩),.pointer (some ⟨b4,0,none⟩)] w (ToldB (decide (0<ordV (t.get p) (P.get p))) w):=by
 obtain⟨r1,c1,r2,o2,c2,t',ss,rfl,rfl,ht',hkT,hw,hss⟩:=h.r.stand hk
 rw[ht]at ht'
 injection ht' with ht'
 subst ht'
 have HN:=hid (show n<l.length from (List.getElem?_eq_some_iff.1 hk).1)
 have HK:=hid hkT
 have HW:=hid hw
 obtain⟨N,HT⟩:=name_itV T.length
 obtain⟨M,HM⟩:=name_itV l.length
 rw[HM.out]at HN
 rw[HT.out]at HK
 have HPL:=hid hp
 have HR:=hid (λ(w':World) (h':NeaR F c T l cs (.slice (some ⟨r1,0,none⟩) T.length c1) (.slice (some ⟨r2,o2,none⟩) l.length c2) w')=>(hw w' h').2 p hp)
 have HCM:=hid (cmpT_any (t.get p) (P.get p) (ss p) (ps p) w.drew ka fb (glob_under hgb (Below.refl _ _).drew) (globT_under hgt (Below.refl _ _).drew))
 unfold OrdIs at HCM
 unfold ToldB
 obtain⟨u,Hu⟩:=name_itV (cellsV (t.get p) (ss p))
 obtain⟨u2,Hu2⟩:=name_itV (cellsV (P.get p) (ps p))
 obtain⟨q,Hq⟩:=name_itV (ordV (t.get p) (P.get p))
 rw[Hu.out,Hu2.out,Hq.out]at HCM
 have Z6:=hid (show u.size=6 from by rw[←Hu.out];rfl)
 have Z62:=hid (show u2.size=6 from by rw[←Hu2.out];rfl)
 rw[Hu.out]at HR
 have I6:=hid (infoV6.trans (congrArg some Z6.out.symm))
 have I62:=hid (infoV6.trans (congrArg some Z62.out.symm))
 rw[Hq.out]
 obtain⟨v,Hv⟩:=name_itV (decide (0<q))
 have HVB:=hid Hv.out
 rw[Hv.out]
 have HCW:=hid h
 clear Hu Hq Hv hw h hss hk ht hp hkT ka fb hgb hgt
 go_enter Tryz.func122,Tryz.ntmps122
 go_upto_region 1 with fail
 refine wp_region_held_drew (S:=λW'=>NeaV F c T l cs (.slice (some ⟨r1,0,none⟩) T.length c1) (.slice (some ⟨r2,o2,none⟩) l.length c2) b1 b2 b3 b4 p P ps W') (by kernel_rfl) HCW.out.drew (λhH=>?_)
 refine Boxed.out ?_
 refine tkW 0 7 (.pointer (some ⟨c,0,none⟩)) hH (λw hSw=>?_) (λhH=>?_)
 ·have p9:=hSw.v1
  unfold runsTo
  go_simp
 try simp only[Act.put,aT,aZ,aS]
 refine tkV 1 8 (.pointer (some ⟨c,0,none⟩)) hH (λhH=>?_)
 try simp only[Act.put,aT,aZ,aS]
 refine tkV 2 9 (.pointer (some ⟨c,0,none⟩)) hH (λhH=>?_)
 try simp only[Act.put,aT,aZ,aS]
 refine tkW 3 10 (.slice (some ⟨r1,0,none⟩) N c1) hH (λw hSw=>?_) (λhH=>?_)
 ·have p9:=hSw.r.st
  rw[HT.out]at p9
  unfold runsTo
  go_simp
 try simp only[Act.put,aT,aZ,aS]
 refine tkW 4 11 (.slice (some ⟨r2,o2,none⟩) M c2) hH (λw hSw=>?_) (λhH=>?_)
 ·have p9:=hSw.v2
  rw[HM.out]at p9
  unfold runsTo
  go_simp
 try simp only[Act.put,aT,aZ,aS]
 refine tkV 5 12 (.int .i64 (n:Nat)) hH (λhH=>?_)
 try simp only[Act.put,aT,aZ,aS]
 refine tkW 6 13 (.pointer (some ⟨r2,o2+n,none⟩)) hH (λw hSw=>?_) (λhH=>?_)
 ·exact val_of (idx_num r2 o2 M c2 n HN.out w)
 try simp only[Act.put,aT,aZ,aS]
 refine tkW 7 14 (.int .i64 (k:Nat)) hH (λw hSw=>?_) (λhH=>?_)
 ·have p9:=(HW.out w hSw.r).1
  unfold runsTo
  go_simp
 try simp only[Act.put,aT,aZ,aS]
 refine tkW 8 15 (.int .i64 (p:Nat)) hH (λw hSw=>?_) (λhH=>?_)
 ·have p9:=hSw.v3
  unfold runsTo
  go_simp
 try simp only[Act.put,aT,aZ,aS]
 refine tkW 9 16 (.pointer (some ⟨r1,k*18,none⟩)) hH (λw hSw=>?_) (λhH=>?_)
 ·exact val_of (idx_row r1 N c1 k HK.out w)
 try simp only[Act.put,aT,aZ,aS]
 refine tkW 10 17 (.pointer (some ⟨r1,k*18+p*6,none⟩)) hH (λw hSw=>?_) (λhH=>?_)
 ·exact val_of (idx_parto r1 (k*18) p HPL.out w)
 try simp only[Act.put,aT,aZ,aS]
 refine tkW 11 18 (.agg u) hH (λw hSw=>?_) (λhH=>?_)
 ·have q9:=run_loadAt_mid (P:=Tryz.prog) w r1 (k*18+p*6) 39 u.toList _ (HR.out w hSw.r) Tryz.underlying39 rfl (by rw[Array.length_toList];exact I6.out)
  rw[Array.toArray_toList]at q9
  exact val_of q9
 try simp only[Act.put,aT,aZ,aS]
 refine tkW 12 19 (.int .i64 (p:Nat)) hH (λw hSw=>?_) (λhH=>?_)
 ·have p9:=hSw.v3
  unfold runsTo
  go_simp
 try simp only[Act.put,aT,aZ,aS]
 refine tkW 13 20 (.pointer (some ⟨b4,p*6,none⟩)) hH (λw hSw=>?_) (λhH=>?_)
 ·have q9:=idx_parto b4 0 p HPL.out w
  rw[Nat.zero_add]at q9
  exact val_of q9
 try simp only[Act.put,aT,aZ,aS]
 refine tkW 14 21 (.agg u2) hH (λw hSw=>?_) (λhH=>?_)
 ·have q9:=run_loadAt_mid (P:=Tryz.prog) w b4 (p*6) 39 u2.toList _ (by rw[←Hu2.out];exact part_at hSw.v4 HPL.out) Tryz.underlying39 rfl (by rw[Array.length_toList];exact I62.out)
  rw[Array.toArray_toList]at q9
  exact val_of q9
 try simp only[Act.put,aT,aZ,aS]
 refine tkC 15 (λK hK=>?_)
 change Oper.wp _ ⟨some 22,_,_,_,_,_⟩ _ _ _ _
 go_simp
 refine HCM.out.mono ?_
 rintro e w2 ⟨rfl,hb2⟩
 have HB2:=hid (show Below w.heap.size w w2 from below_of_dr hb2)
 have HC2:=hid (HCW.out.on HB2.out)
 clear hb2 HCM
 dsimp only
 refine hK.out _ _ HC2.out (λhH=>?_)
 clear hK K
 try simp only[Act.put,aT,aZ,aS]
 refine tkW 16 23 (.bool v) hH (λw hSw=>?_) (λhH=>?_)
 ·have p9:=HVB.out
  unfold runsTo
  go_simp
 try simp only[Act.put,aT,aZ,aS]
 refine tkV 17 6 (.bool v) hH (λhH=>?_)
 try simp only[Act.put,aT,aZ,aS]
 refine⟨wpAnyH_done (by kernel_rfl) ?_ _⟩
 clear hH
 go_wp2_with fail
 go_ret
 exact⟨rfl,HB2.out⟩
end
end Go.Proofs.YtefhfadjajcmkaaGreatDoor
