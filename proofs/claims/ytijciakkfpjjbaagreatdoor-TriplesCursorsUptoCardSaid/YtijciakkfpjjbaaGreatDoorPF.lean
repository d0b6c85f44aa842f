/- A cursor's ways: Up, Depth, Next, Key: printed by gen_XO.py. -/
import Derived.Test.YtijciakkfpjjbaaGreatDoorPE
import Derived.BigQuiet
namespace Go.Proofs.YtijciakkfpjjbaaGreatDoor
open Go Go.RowKit Go.Maps
open Go.Lib (hid cell_of_heap)
set_option maxRecDepth 100000 in
set_option maxHeartbeats 4000000 in
theorem stands_any {F:Nat→Prop} {q c j:Nat} {T:List Trip} {ix:List Nat} {cs:Nat→Array Value} {S s:Value} {d:Nat} {at_ en:Nat→Nat} {w:World} (h:CurW F q c j T ix cs S s d at_ en w) (hd:d≤3) :
    Calls Tryz.prog 50 #[.pointer (some ⟨q,0,none⟩)] w (ToldB (decide (0<d∧at_ d<en d)) w):=by
 have c5:=h.c5
 have HB:=hid (λn:Nat=>show Below w.heap.size w (w.drewN n) from ⟨rfl,rfl,rfl,Nat.le_refl _,λ_ _=>rfl⟩)
 by_cases h0:d=0
 ·subst h0
  clear h hd
  go_enter Tryz.func50,Tryz.ntmps50
  go_upto_region 1 with fail
  go_quiet (fail)
  go_wp2_with fail
  go_ret
  exact⟨by simp,HB.out _⟩
 ·rcases (show d=1∨d=2∨d=3 by omega) with rfl | rfl | rfl
  ·have ca:=h.ca (e:=1) (by omega)
   have ce:=h.ce (e:=1) (by omega)
   obtain⟨x,hx⟩:=name_itV (at_ 1)
   obtain⟨y,hy⟩:=name_itV (en 1)
   rw[hx.out]at ca ⊢
   rw[hy.out]at ce ⊢
   have HC:=hid (show decide (0<1∧x<y)=decide (x<y) from by
    by_cases hxy:x<y
    ·rw[decide_eq_true (And.intro (by omega) hxy),decide_eq_true hxy]
    ·rw[decide_eq_false (λh=>hxy h.2),decide_eq_false hxy])
   rw[HC.out]
   clear h hd h0 hx hy HC
   go_enter Tryz.func50,Tryz.ntmps50
   go_upto_region 1 with fail
   go_quiet (fail)
   go_wp2_with fail
   go_ret
   exact⟨rfl,HB.out _⟩
  ·have ca:=h.ca (e:=2) (by omega)
   have ce:=h.ce (e:=2) (by omega)
   obtain⟨x,hx⟩:=name_itV (at_ 2)
   obtain⟨y,hy⟩:=name_itV (en 2)
   rw[hx.out]at ca ⊢
   rw[hy.out]at ce ⊢
   have HC:=hid (show decide (0<2∧x<y)=decide (x<y) from by
    by_cases hxy:x<y
    ·rw[decide_eq_true (And.intro (by omega) hxy),decide_eq_true hxy]
    ·rw[decide_eq_false (λh=>hxy h.2),decide_eq_false hxy])
   rw[HC.out]
   clear h hd h0 hx hy HC
   go_enter Tryz.func50,Tryz.ntmps50
   go_upto_region 1 with fail
   go_quiet (fail)
   go_wp2_with fail
   go_ret
   exact⟨rfl,HB.out _⟩
  ·have ca:=h.ca (e:=3) (by omega)
   have ce:=h.ce (e:=3) (by omega)
   obtain⟨x,hx⟩:=name_itV (at_ 3)
   obtain⟨y,hy⟩:=name_itV (en 3)
   rw[hx.out]at ca ⊢
   rw[hy.out]at ce ⊢
   have HC:=hid (show decide (0<3∧x<y)=decide (x<y) from by
    by_cases hxy:x<y
    ·rw[decide_eq_true (And.intro (by omega) hxy),decide_eq_true hxy]
    ·rw[decide_eq_false (λh=>hxy h.2),decide_eq_false hxy])
   rw[HC.out]
   clear h hd h0 hx hy HC
   go_enter Tryz.func50,Tryz.ntmps50
   go_upto_region 1 with fail
   go_quiet (fail)
   go_wp2_with fail
   go_ret
   exact⟨rfl,HB.out _⟩
section
variable {P:Program} {md:Region.Mode} {ops:Array Oper} {Q:Exit→Act→World→Prop} {S:World→Prop} {fuel:Nat} {listed:Array Bool} {a:Act} {w:World}
theorem take_skip (i d:Nat) (hd:ops[i]?.map (·.dst)=some (some d)) (hw:wantedNo ops i a=some false) (hs:Region.noSelect ops=true) (hf:Region.free md ops listed i=true) (hr:(Region.ready md ops listed).contains i=true)
    (hQ:∀c a w,Q (.panic c) (a.put (some d) undef) w→Q (.panic c) a w) (hS:S w)
    (h:S w→Boxed (wpAnyH P md ops Q S fuel (listed.setIfInBounds i true) (a.put (some d) undef) w)):Boxed (wpAnyH P md ops Q S (fuel+1) listed a w):=by
 unfold wantedNo at hw
 cases ho:ops[i]? with
 | none=>rw[ho]at hd;cases hd
 | some o=>
  rw[ho]at hd hw
  simp only[Option.map_some,Option.some.injEq]at hd hw
  exact⟨wpAnyH_take ho hs hf hr (λc a w h=>hQ c a w (by rw[←hd];exact h)) (.inr ⟨hw,rfl⟩) hS (by rw[hd];exact (h hS).out)⟩
end
def VarV (g:Nat) (v:Val) (s:Value) (w:World):Prop:=w.heap[g]?=some (.cells (cellsV v s) 34 (0,0))
set_option maxRecDepth 100000 in
set_option maxHeartbeats 2000000 in
theorem past_behind (a b:Val) (sa sb:Value) (g:Nat) (w:World) (hp:VarV g b sb w) (ka:KindT a) (fb:FitV b) (hgb:GlobB w) (hgt:GlobT w) :
    Calls Tryz.prog 78 #[.agg (cellsV a sa),.pointer (some ⟨g,0,none⟩)] w (ToldB (decide (0<ordV a b)) w):=by
 have hc:=hid (λ(W:World) (hb:Below w.heap.size w W)=>cmpT_any a b sa sb W ka fb (glob_under hgb hb) (globT_under hgt hb))
 unfold OrdIs at hc
 unfold ToldB
 unfold VarV at hp
 obtain⟨v,Hv⟩:=name_itV (ordV a b)
 rw[Hv.out]at hc ⊢
 clear Hv ka fb hgb hgt
 obtain⟨c1,Hc1⟩:=name6 a sa
 obtain⟨c2,Hc2⟩:=name6 b sb
 rw[Hc1.out]at hc ⊢
 rw[Hc2.out]at hc hp
 have I1:=hid (infoV6.trans (congrArg some Hc1.size.symm))
 have I2:=hid (infoV6.trans (congrArg some Hc2.size.symm))
 obtain⟨z,Hz⟩:=name_itV w.heap.size
 obtain⟨w1,HW1⟩:=name_itV (w.alloc (.cells c1 34))
 have HB:=hid (show Below w.heap.size w w1 from by rw[←HW1.out];exact (Below.refl _ _).alloc (Nat.le_refl _) _)
 have HX:=hid (show w1.heap[z]?=some (.cells c1 34 (0,0)) from by rw[←HW1.out,←Hz.out];exact heap_alloc_new w _)
 have HY:=hid ((HB.out.block g (blk_lt hp)).trans hp)
 clear hp
 go_enter Tryz.func78,Tryz.ntmps78
 go_upto_region 1 with fail
 rw[HW1.out,Hz.out]
 clear HW1
 go_wp2_with (first
  | ((with_reducible refine at_dst (some 4) ?_);refine ld_arm rfl 34 _ rfl z 0 rfl c1 _ (range_row HX.out) Tryz.underlying34 rfl I1.out ?_)
  | ((with_reducible refine at_dst (some 5) ?_);refine ld_arm rfl 34 _ rfl g 0 rfl c2 _ (range_row HY.out) Tryz.underlying34 rfl I2.out ?_))
 refine (hc.out _ HB.out).mono ?_
 rintro e w2 ⟨rfl,hb⟩
 have HB2:=hid (HB.out.trans (hb.mono HB.out.size))
 clear hb
 go_wp2_with fail
 go_ret
 exact⟨rfl,HB2.out⟩
set_option maxRecDepth 100000 in
set_option maxHeartbeats 2000000 in
theorem past_seek (a b:Val) (sa sb:Value) (g:Nat) (w:World) (hp:VarV g b sb w) (ka:KindT a) (fb:FitV b) (hgb:GlobB w) (hgt:GlobT w) :
    Calls Tryz.prog 63 #[.agg (cellsV a sa),.pointer (some ⟨g,0,none⟩)] w (ToldB (decide (0≤ordV a b)) w):=by
 have hc:=hid (λ(W:World) (hb:Below w.heap.size w W)=>cmpT_any a b sa sb W ka fb (glob_under hgb hb) (globT_under hgt hb))
 unfold OrdIs at hc
 unfold ToldB
 unfold VarV at hp
 obtain⟨v,Hv⟩:=name_itV (ordV a b)
 rw[Hv.out]at hc ⊢
 clear Hv ka fb hgb hgt
 obtain⟨c1,Hc1⟩:=name6 a sa
 obtain⟨c2,Hc2⟩:=name6 b sb
 rw[Hc1.out]at hc ⊢
 rw[Hc2.out]at hc hp
 have I1:=hid (infoV6.trans (congrArg some Hc1.size.symm))
 have I2:=hid (infoV6.trans (congrArg some Hc2.size.symm))
 obtain⟨z,Hz⟩:=name_itV w.heap.size
 obtain⟨w1,HW1⟩:=name_itV (w.alloc (.cells c1 34))
 have HB:=hid (show Below w.heap.size w w1 from by rw[←HW1.out];exact (Below.refl _ _).alloc (Nat.le_refl _) _)
 have HX:=hid (show w1.heap[z]?=some (.cells c1 34 (0,0)) from by rw[←HW1.out,←Hz.out];exact heap_alloc_new w _)
 have HY:=hid ((HB.out.block g (blk_lt hp)).trans hp)
 clear hp
 go_enter Tryz.func63,Tryz.ntmps63
 go_upto_region 1 with fail
 rw[HW1.out,Hz.out]
 clear HW1
 go_wp2_with (first
  | ((with_reducible refine at_dst (some 4) ?_);refine ld_arm rfl 34 _ rfl z 0 rfl c1 _ (range_row HX.out) Tryz.underlying34 rfl I1.out ?_)
  | ((with_reducible refine at_dst (some 5) ?_);refine ld_arm rfl 34 _ rfl g 0 rfl c2 _ (range_row HY.out) Tryz.underlying34 rfl I2.out ?_))
 refine (hc.out _ HB.out).mono ?_
 rintro e w2 ⟨rfl,hb⟩
 have HB2:=hid (HB.out.trans (hb.mono HB.out.size))
 clear hb
 go_wp2_with fail
 go_ret
 exact⟨rfl,HB2.out⟩
structure GalV (q gp gv b1 b2 b3 low:Nat) (w:World):Prop where
 past:w.cell? ⟨b1,0,none⟩=some (.func (.func gp) #[] #[.pointer (some ⟨gv,0,none⟩)])
 key:w.cell? ⟨b2,0,none⟩=some (.func (.func 52) #[.pointer (some ⟨q,0,none⟩)] #[])
 low:w.cell? ⟨b3,0,none⟩=some (.int .i64 (low:Nat))
theorem GalV.on {q gp gv b1 b2 b3 low:Nat} {w w':World} (h:GalV q gp gv b1 b2 b3 low w) (hb:Below w.heap.size w w'):GalV q gp gv b1 b2 b3 low w':=
 ⟨(hb.cell (p:=⟨b1,0,none⟩) (cell_blk h.past)).trans h.past,(hb.cell (p:=⟨b2,0,none⟩) (cell_blk h.key)).trans h.key,(hb.cell (p:=⟨b3,0,none⟩) (cell_blk h.low)).trans h.low⟩
set_option maxRecDepth 100000 in
set_option maxHeartbeats 4000000 in
theorem gallop1_any {F:Nat→Prop} {q c j:Nat} {T:List Trip} {ix:List Nat} {cs:Nat→Array Value} {S s:Value} {d d':Nat} {at_ en:Nat→Nat} {w:World} (h:CurW F q c j T ix cs S s d' at_ en w) (hdd:d'=d+1) (hd:d<3)
    (gp gv:Nat) (f:Nat→Bool) (hpast:∀(W:World),Below w.heap.size w W→∀n t A cap,(Kof T ix)[n]?=some t→Calls Tryz.prog gp #[.agg (cellsV (t.get ((wayN j).get d)) (.slice A 0 cap)),.pointer (some ⟨gv,0,none⟩)] W (ToldB (f n) W))
    (egp:∀args w,(callFunc gp args).run Tryz.prog w = .ok (.enter gp args) w) (b1 b2 b3 low:Nat) (hg:GalV q gp gv b1 b2 b3 low w) (n:Nat) (hn:low+n<ix.length) :
    Calls Tryz.prog 86 #[.int .i64 (n:Nat),.pointer (some ⟨b1,0,none⟩),.pointer (some ⟨b2,0,none⟩),.pointer (some ⟨b3,0,none⟩)] w (ToldB (f (low+n)) w):=by
 obtain⟨t,ht⟩:∃t,(Kof T ix)[low+n]?=some t:=⟨_,List.getElem?_eq_getElem (by rw[kof_len];exact hn)⟩
 have HKY:=hid (key_any h.drew hdd hd (low+n) hn t ht)
 unfold KeyIs at HKY
 have HPA:=hid (λ(W:World) (hb:Below w.heap.size w W) (A:Option Addr) (cap:Nat)=>hpast W hb (low+n) t A cap ht)
 unfold ToldB at HPA ⊢
 have HGV:=hid hg
 have HCW:=hid h
 have e1:IntKind.i64.wrap ((low:Int)+(n:Int))=((low+n:Nat):Int):=by have:=h.r.len;have:=h.r.ixo.len;rw[IntWalk.i64_in _ (by omega)];omega
 obtain⟨m,Hm⟩:=name_itV (low+n)
 rw[Hm.out]at HKY HPA e1 ⊢
 obtain⟨v,Hv⟩:=name_itV (f m)
 rw[Hv.out]at HPA ⊢
 have HE1:=hid e1
 clear hg h hdd hd hpast ht hn Hm Hv e1
 go_enter Tryz.func86,Tryz.ntmps86
 go_upto_region 1 with fail
 refine wp_region_held_drew (S:=λW'=>GalV q gp gv b1 b2 b3 low W') (by kernel_rfl) ⟨HGV.out.past,HGV.out.key,HGV.out.low⟩ (λhHeld=>?_)
 refine Boxed.out ?_
 refine tkW 0 6 (.func (.func gp) #[] #[.pointer (some ⟨gv,0,none⟩)]) hHeld (λw hSw=>?_) (λhHeld=>?_)
 ·have p:=hSw.past
  unfold runsTo
  go_simp
 try simp only[Act.put,aT,aZ,aS]
 refine tkW 1 7 (.func (.func 52) #[.pointer (some ⟨q,0,none⟩)] #[]) hHeld (λw hSw=>?_) (λhHeld=>?_)
 ·have p:=hSw.key
  unfold runsTo
  go_simp
 try simp only[Act.put,aT,aZ,aS]
 refine tkW 2 8 (.int .i64 (low:Nat)) hHeld (λw hSw=>?_) (λhHeld=>?_)
 ·have p:=hSw.low
  unfold runsTo
  go_simp
 try simp only[Act.put,aT,aZ,aS]
 refine tkW 3 9 (.int .i64 (n:Nat)) hHeld (λw hSw=>?_) (λhHeld=>?_)
 ·unfold runsTo
  go_simp
 try simp only[Act.put,aT,aZ,aS]
 refine tkW 4 10 (.int .i64 (m:Nat)) hHeld (λw hSw=>?_) (λhHeld=>?_)
 ·have p:=HE1.out
  unfold runsTo
  go_simp
 try simp only[Act.put,aT,aZ,aS]
 refine tkC 5 (λK hK=>?_)
 change Oper.wp _ ⟨some 11,_,_,_,_,_⟩ _ _ _ _
 go_simp
 refine HKY.out.mono ?_
 rintro e w2 ⟨A,cap,rfl,hb2⟩
 obtain⟨u,Hu⟩:=name_itV (cellsV (t.get ((wayN j).get d)) (.slice A 0 cap))
 have HB2:=hid (show Below w.heap.size w w2 from below_of_dr hb2)
 have HP2:=hid (HPA.out w2 HB2.out A cap)
 rw[Hu.out]at HP2 ⊢
 have HG2:=hid (HGV.out.on HB2.out)
 clear hb2 HKY HPA Hu
 dsimp only
 refine hK.out _ _ HG2.out (λhHeld=>?_)
 clear hK K
 try simp only[Act.put,aT,aZ,aS]
 refine tkC 6 (λK hK=>?_)
 change Oper.wp _ ⟨some 12,_,_,_,_,_⟩ _ _ _ _
 go_simp
 refine HP2.out.mono ?_
 rintro e w3 ⟨rfl,hb3⟩
 have HB3:=hid (HB2.out.trans (hb3.mono HB2.out.size))
 have HG3:=hid (HG2.out.on hb3)
 clear hb3 HP2
 dsimp only
 refine hK.out _ _ HG3.out (λhHeld=>?_)
 clear hK K
 try simp only[Act.put,aT,aZ,aS]
 refine tkW 7 5 (.bool v) hHeld (λw hSw=>?_) (λhHeld=>?_)
 ·unfold runsTo
  go_simp
 try simp only[Act.put,aT,aZ,aS]
 refine⟨wpAnyH_done (by kernel_rfl) ?_ _⟩
 clear hHeld
 go_wp2_with fail
 go_ret
 exact⟨rfl,HB3.out⟩
def GalIs (f:Nat→Bool) (a b:Nat) (w:World) (e:Ending) (w':World):Prop:=
 ∃m:Nat,e = .returned (.int .i64 (m:Nat))∧a≤m∧m≤b∧(∀i,a≤i→i<m→f i=false)∧(m<b→f m=true)∧Below w.heap.size w w'
theorem count_low {f:Nat→Bool} {low n:Nat} (hm:∀i i',i≤i'→i'<n→f (low+i)=true→f (low+i')=true) :
    (List.range n).countP (λi=>!f (low+i))≤n∧(∀i,i<(List.range n).countP (λi=>!f (low+i))→f (low+i)=false)∧((List.range n).countP (λi=>!f (low+i))<n→f (low+(List.range n).countP (λi=>!f (low+i)))=true):=by
 induction n with
 | zero=>exact⟨Nat.le_refl _,λi hi=>absurd hi (by simp),λh=>absurd h (by simp)⟩
 | succ n ih=>
  obtain⟨i1,i2,i3⟩:=ih (λi i' h1 h2=>hm i i' h1 (by omega))
  rw[List.range_succ,List.countP_append]
  generalize hc:(List.range n).countP (λi=>!f (low+i))=c at i1 i2 i3
  cases hf:f (low+n) with
  | true=>
   have h0:List.countP (λi=>!f (low+i)) [n]=0:=by simp[hf]
   rw[h0,Nat.add_zero]
   refine⟨by omega,i2,λ_=>?_⟩
   rcases Nat.lt_or_ge c n with h | h
   ·exact i3 h
   ·rw[show c=n by omega];exact hf
  | false=>
   have h1:List.countP (λi=>!f (low+i)) [n]=1:=by simp[hf]
   have hcn:c=n:=by
    rcases Nat.lt_or_ge c n with h | h
    ·have:=hm c n (by omega) (by omega) (i3 h)
     rw[hf]at this
     cases this
    ·omega
   rw[h1,hcn]
   refine⟨Nat.le_refl _,λi hi=>?_,λh=>absurd h (by omega)⟩
   by_cases e:i=n
   ·rw[e];exact hf
   ·exact i2 i (by omega)
set_option maxRecDepth 100000 in
set_option maxHeartbeats 8000000 in
theorem gallop_any {F:Nat→Prop} {q c j:Nat} {T:List Trip} {ix:List Nat} {cs:Nat→Array Value} {S s:Value} {d d':Nat} {at_ en:Nat→Nat} {w:World} (h:CurW F q c j T ix cs S s d' at_ en w) (hdd:d'=d+1) (hd:d<3)
    (gp gv:Nat) (f:Nat→Bool) (hpast:∀(W:World),Below w.heap.size w W→∀n t A cap,(Kof T ix)[n]?=some t→Calls Tryz.prog gp #[.agg (cellsV (t.get ((wayN j).get d)) (.slice A 0 cap)),.pointer (some ⟨gv,0,none⟩)] W (ToldB (f n) W))
    (egp:∀args w,(callFunc gp args).run Tryz.prog w = .ok (.enter gp args) w) (a b:Nat) (hmono:∀i i',a≤i→i≤i'→i'<b→f i=true→f i'=true) (hab:a≤b) (hb:b≤ix.length) :
    Calls Tryz.prog 62 #[.int .i64 (a:Nat),.int .i64 (b:Nat),.func (.func 52) #[.pointer (some ⟨q,0,none⟩)] #[],.func (.func gp) #[] #[.pointer (some ⟨gv,0,none⟩)]] w (GalIs f a b w):=by
 have HCW:=hid h
 have HPA:=hid hpast
 have HDD:=hid (And.intro hdd hd)
 have HLN:=hid (show ix.length≤65536 from by have:=h.r.len;have:=h.r.ixo.len;omega)
 have HAB:=hid (And.intro hab hb)
 have HMO:=hid hmono
 clear h hpast hdd hd hab hb hmono
 obtain⟨z,Hz⟩:=name_itV w.heap.size
 obtain⟨w1,HW1⟩:=name_itV ((w.alloc (.cells #[.func (.func 52) #[.pointer (some ⟨q,0,none⟩)] #[]] 92)).alloc (.cells #[.func (.func gp) #[] #[.pointer (some ⟨gv,0,none⟩)]] 58))
 have HB1:=hid (show Below w.heap.size w w1 from by rw[←HW1.out];exact two_new w _ _)
 have HK1:=hid (show w1.heap[z]?=some (.cells #[.func (.func 52) #[.pointer (some ⟨q,0,none⟩)] #[]] 92 (0,0)) from by rw[←HW1.out,←Hz.out];exact heap_alloc2_old w _ _)
 have HP1:=hid (show w1.heap[z+1]?=some (.cells #[.func (.func gp) #[] #[.pointer (some ⟨gv,0,none⟩)]] 58 (0,0)) from by rw[←HW1.out,←Hz.out];exact heap_alloc2_new w _ _)
 go_enter Tryz.func62,Tryz.ntmps62
 go_upto_region 1 with fail
 rw[HW1.out,Hz.out]
 clear HW1
 go_wp2_with fail
 go_loopw [9] (λs wx=>∃(st:Nat),1≤st∧s = .int .i64 (st:Nat)∧Hid (Below w1.heap.size w1 wx∧a+st / 2≤b∧(st=1∨(2≤st∧a+st / 2<b∧f (a+st / 2)=false)))) (λs _=>2*b+2-(intOf s).toNat)
 case atStart=>exact⟨1,by omega,rfl,hid ⟨Below.refl _ _,by have:=HAB.out.1;omega,.inl rfl⟩⟩
 case round=>
  obtain⟨st,hst,rfl,hM⟩:=hrel
  have HBW:=hid (show Below w.heap.size w wr from HB1.out.trans (hM.out.1.mono HB1.out.size))
  have HST:=hid hM.out.2
  have HK2:=hid ((hM.out.1.block z (blk_lt HK1.out)).trans HK1.out)
  have HP2:=hid ((hM.out.1.block (z+1) (blk_lt HP1.out)).trans HP1.out)
  have HMB:=hid hM.out.1
  clear hM
  have hsb:st≤2*65536+1:=by have:=HLN.out;have:=HAB.out;have:=HST.out.1;omega
  have w1:IntKind.i64.wrap ((a:Int)+(st:Int))=((a+st:Nat):Int):=by have:=HLN.out;have:=HAB.out;rw[IntWalk.i64_in _ (by omega)];omega
  have HW1:=hid w1
  have w2:IntKind.i64.wrap ((st:Int)*2)=((st*2:Nat):Int):=by rw[IntWalk.i64_in _ (by omega)];omega
  have HW2:=hid w2
  obtain⟨hf,Hhf⟩:=name_itV (st / 2)
  have d1:((st:Int)).tdiv 2=((hf:Nat):Int):=by rw[Int.tdiv_eq_ediv_of_nonneg (by omega),←Hhf.out];omega
  have d2:IntKind.i64.wrap ((st:Int) / 2)=((hf:Nat):Int):=by have h2:=Hhf.out;rw[IntWalk.i64_in _ (by omega)];omega
  have d3:IntKind.i64.wrap ((hf:Nat):Int)=((hf:Nat):Int):=by have h2:=Hhf.out;rw[IntWalk.i64_in _ (by omega)]
  have HDV:=hid (And.intro d1 (And.intro d2 d3))
  obtain⟨low,HLW⟩:=name_itV (a+st / 2)
  have w3:IntKind.i64.wrap ((a:Int)+(hf:Int))=((low:Nat):Int):=by have:=HLN.out;have:=HAB.out;have h2:=Hhf.out;have h3:=HLW.out;have h4:=HST.out.1;rw[IntWalk.i64_in _ (by omega)];omega
  have HW3:=hid w3
  clear w1 w2 d1 d2 d3 w3 hsb
  have k2:wr.cell? ⟨z,0,none⟩=some (.func (.func 52) #[.pointer (some ⟨q,0,none⟩)] #[]):=cell_of_heap HK2.out 0
  have p2:wr.cell? ⟨z+1,0,none⟩=some (.func (.func gp) #[] #[.pointer (some ⟨gv,0,none⟩)]):=cell_of_heap HP2.out 0
  have HKP:=hid (And.intro k2 p2)
  clear k2 p2
  obtain⟨aV,Has⟩:=name_itV (a+st)
  rw[Has.out]at HW1
  go_upto_region 2 with fail
  refine wp_region_held_drew (S:=λW'=>W'.cell? ⟨z,0,none⟩=some (.func (.func 52) #[.pointer (some ⟨q,0,none⟩)] #[])∧W'.cell? ⟨z+1,0,none⟩=some (.func (.func gp) #[] #[.pointer (some ⟨gv,0,none⟩)])) (by kernel_rfl) ⟨HKP.out.1,HKP.out.2⟩ (λhHeld=>?_)
  refine Boxed.out ?_
  by_cases hlt:aV<b
  ·have HLT:=hid hlt
   obtain⟨t,ht⟩:∃t,(Kof T ix)[aV]?=some t:=⟨_,List.getElem?_eq_getElem (by rw[kof_len];have:=HAB.out;omega)⟩
   have HKY:=hid (key_any (HCW.out.on HBW.out.drew) HDD.out.1 HDD.out.2 aV (by have:=HAB.out;omega) t ht)
   unfold KeyIs at HKY
   have HPC:=hid (λ(W:World) (hb:Below w.heap.size w W) (A:Option Addr) (cap:Nat)=>HPA.out W hb aV t A cap ht)
   unfold ToldB at HPC
   obtain⟨v,Hv⟩:=name_itV (f aV)
   rw[Hv.out]at HPC
   have HTT:=hid (decide_eq_true hlt)
   clear hlt ht
   refine tkW 0 11 (.int .i64 (a:Nat)) hHeld (λw hSw=>?_) (λhHeld=>?_)
   ·unfold runsTo
    go_simp
   try simp only[Act.put,aT,aZ,aS]
   refine tkW 1 12 (.int .i64 (st:Nat)) hHeld (λw hSw=>?_) (λhHeld=>?_)
   ·unfold runsTo
    go_simp
   try simp only[Act.put,aT,aZ,aS]
   refine tkW 2 13 (.int .i64 (aV:Nat)) hHeld (λw hSw=>?_) (λhHeld=>?_)
   ·have p:=HW1.out
    unfold runsTo
    go_simp
   try simp only[Act.put,aT,aZ,aS]
   refine tkW 3 14 (.int .i64 (b:Nat)) hHeld (λw hSw=>?_) (λhHeld=>?_)
   ·unfold runsTo
    go_simp
   try simp only[Act.put,aT,aZ,aS]
   refine tkW 4 15 (.bool true) hHeld (λw hSw=>?_) (λhHeld=>?_)
   ·have p:=HTT.out
    unfold runsTo
    go_simp
   try simp only[Act.put,aT,aZ,aS]
   refine tkW 5 16 (.bool true) hHeld (λw hSw=>?_) (λhHeld=>?_)
   ·unfold runsTo
    go_simp
   try simp only[Act.put,aT,aZ,aS]
   refine tkW 6 17 (.func (.func gp) #[] #[.pointer (some ⟨gv,0,none⟩)]) hHeld (λw hSw=>?_) (λhHeld=>?_)
   ·have p:=hSw.2
    unfold runsTo
    go_simp
   try simp only[Act.put,aT,aZ,aS]
   refine tkW 7 18 (.func (.func 52) #[.pointer (some ⟨q,0,none⟩)] #[]) hHeld (λw hSw=>?_) (λhHeld=>?_)
   ·have p:=hSw.1
    unfold runsTo
    go_simp
   try simp only[Act.put,aT,aZ,aS]
   refine tkW 8 19 (.int .i64 (a:Nat)) hHeld (λw hSw=>?_) (λhHeld=>?_)
   ·unfold runsTo
    go_simp
   try simp only[Act.put,aT,aZ,aS]
   refine tkW 9 20 (.int .i64 (st:Nat)) hHeld (λw hSw=>?_) (λhHeld=>?_)
   ·unfold runsTo
    go_simp
   try simp only[Act.put,aT,aZ,aS]
   refine tkW 10 21 (.int .i64 (aV:Nat)) hHeld (λw hSw=>?_) (λhHeld=>?_)
   ·have p:=HW1.out
    unfold runsTo
    go_simp
   try simp only[Act.put,aT,aZ,aS]
   refine tkC 11 (λK hK=>?_)
   change Oper.wp _ ⟨some 22,_,_,_,_,_⟩ _ _ _ _
   go_simp
   refine HKY.out.mono ?_
   rintro e w4 ⟨A,cap,rfl,hb4⟩
   obtain⟨u,Hu⟩:=name_itV (cellsV (t.get ((wayN j).get d)) (.slice A 0 cap))
   have HB4:=hid (show Below wr.heap.size wr w4 from below_of_dr hb4)
   have HP4:=hid (HPC.out w4 (HBW.out.trans (HB4.out.mono HBW.out.size)) A cap)
   rw[Hu.out]at HP4 ⊢
   have hHeld:w4.cell? ⟨z,0,none⟩=some (.func (.func 52) #[.pointer (some ⟨q,0,none⟩)] #[])∧w4.cell? ⟨z+1,0,none⟩=some (.func (.func gp) #[] #[.pointer (some ⟨gv,0,none⟩)]):=⟨(HB4.out.cell (p:=⟨z,0,none⟩) (cell_blk HKP.out.1)).trans HKP.out.1,(HB4.out.cell (p:=⟨z+1,0,none⟩) (cell_blk HKP.out.2)).trans HKP.out.2⟩
   clear hb4 HKY HPC Hu
   dsimp only
   refine hK.out _ _ hHeld (λhHeld=>?_)
   clear hK K
   try simp only[Act.put,aT,aZ,aS]
   refine tkC 12 (λK hK=>?_)
   change Oper.wp _ ⟨some 23,_,_,_,_,_⟩ _ _ _ _
   go_simp
   refine HP4.out.mono ?_
   rintro e w5 ⟨rfl,hb5⟩
   have HB5:=hid (HB4.out.trans (hb5.mono HB4.out.size))
   have hHeld:w5.cell? ⟨z,0,none⟩=some (.func (.func 52) #[.pointer (some ⟨q,0,none⟩)] #[])∧w5.cell? ⟨z+1,0,none⟩=some (.func (.func gp) #[] #[.pointer (some ⟨gv,0,none⟩)]):=⟨(HB5.out.cell (p:=⟨z,0,none⟩) (cell_blk HKP.out.1)).trans HKP.out.1,(HB5.out.cell (p:=⟨z+1,0,none⟩) (cell_blk HKP.out.2)).trans HKP.out.2⟩
   clear hb5 HP4 HB4
   dsimp only
   refine hK.out _ _ hHeld (λhHeld=>?_)
   clear hK K
   try simp only[Act.put,aT,aZ,aS]
   refine tkW 13 24 (.bool (!v)) hHeld (λw hSw=>?_) (λhHeld=>?_)
   ·unfold runsTo
    go_simp
   try simp only[Act.put,aT,aZ,aS]
   refine tkW 14 25 (.bool (!v)) hHeld (λw hSw=>?_) (λhHeld=>?_)
   ·unfold runsTo
    go_simp
   try simp only[Act.put,aT,aZ,aS]
   refine⟨wpAnyH_done (by kernel_rfl) ?_ _⟩
   clear hHeld
   have HB6:=hid (HMB.out.trans (HB5.out.mono HMB.out.size))
   cases v with
   | false=>
    have w2:=HW2.out
    go_wp2_with fail
    go_roundw
    case rel=>exact⟨st*2,by omega,by first | rfl | go_num,hid ⟨HB6.out,by have:=HLT.out;have h2:=Has.out;rw[Nat.mul_div_cancel _ (by omega)];omega,.inr ⟨by omega,by rw[Nat.mul_div_cancel _ (by omega),Has.out];exact HLT.out,by rw[Nat.mul_div_cancel _ (by omega),Has.out];exact Hv.out⟩⟩⟩
    case measure=>have:=HLT.out;have h2:=Has.out;simp[intOf];omega
   | true=>
    have HEX:=hid (show f (a+st / 2+(min aV b-(a+st / 2)))=true∨min aV b=b from by
     have h2:=Has.out
     have h3:=HLT.out
     left
     rw[Nat.min_eq_left (by omega),show a+st / 2+(aV-(a+st / 2))=aV by omega]
     exact Hv.out)
    have HBX:=hid (show Below w.heap.size w w5 from HBW.out.trans (HB5.out.mono HBW.out.size))
    have HCX:=hid (HCW.out.on HBX.out)
    have HKX:=hid (show w5.cell? ⟨z,0,none⟩=some (.func (.func 52) #[.pointer (some ⟨q,0,none⟩)] #[])∧w5.cell? ⟨z+1,0,none⟩=some (.func (.func gp) #[] #[.pointer (some ⟨gv,0,none⟩)]) from ⟨(HB5.out.cell (p:=⟨z,0,none⟩) (cell_blk HKP.out.1)).trans HKP.out.1,(HB5.out.cell (p:=⟨z+1,0,none⟩) (cell_blk HKP.out.2)).trans HKP.out.2⟩)
    obtain⟨wx,HWX⟩:=name_itV (w5)
    rw[HWX.out]at HBX HCX HKX ⊢
    clear HWX
    obtain⟨mn,HMN⟩:=name_itV (min aV b)
    rw[HLW.out]at HEX HST
    rw[HMN.out]at HEX
    obtain⟨zl,Hzl⟩:=name_itV wx.heap.size
    obtain⟨w7,HW7⟩:=name_itV (wx.alloc (.cells #[.int .i64 (low:Nat)] 3))
    have HB7:=hid (show Below wx.heap.size wx w7 from by rw[←HW7.out];exact (Below.refl _ _).alloc (Nat.le_refl _) _)
    have HL7:=hid (show w7.heap[zl]?=some (.cells #[.int .i64 (low:Nat)] 3 (0,0)) from by rw[←HW7.out,←Hzl.out];exact heap_alloc_new wx _)
    have d1:=HDV.out.1
    have d2:=HDV.out.2.1
    have d3:=HDV.out.2.2
    have w3:=HW3.out
    go_upto_region 5 with fail
    rw[Hzl.out,HW7.out]
    clear HW7 d1 d2 d3 w3
    have HC7:=hid (HCX.out.on HB7.out)
    have HG7:=hid (show GalV q gp gv (z+1) z zl low w7 from ⟨(HB7.out.cell (p:=⟨z+1,0,none⟩) (cell_blk HKX.out.2)).trans HKX.out.2,(HB7.out.cell (p:=⟨z,0,none⟩) (cell_blk HKX.out.1)).trans HKX.out.1,cell_of_heap HL7.out 0⟩)
    have HBW7:=hid (show Below w.heap.size w w7 from HBX.out.trans (HB7.out.mono HBX.out.size))
    have HMI:=hid (show min (aV:Int) (b:Int)=((mn:Nat):Int) from by rw[←HMN.out];omega)
    have HLM:=hid (show low≤mn∧mn≤b from by have h1:=HMN.out;have h2:=HST.out.1;have h3:=HLW.out;have h4:=Has.out;constructor<;>omega)
    obtain⟨len,Hlen⟩:=name_itV (mn-low)
    rw[Hlen.out]at HEX
    have HSU:=hid (show IntKind.i64.wrap ((mn:Int)-(low:Int))=((len:Nat):Int) from by have h1:=HLM.out;have h2:=HAB.out;have h3:=HLN.out;have h4:=Hlen.out;rw[IntWalk.i64_in _ (by omega)];omega)
    have HSE:=hid (Any.sort_Search Tryz.searchL 86 #[.pointer (some ⟨z+1,0,none⟩),.pointer (some ⟨z,0,none⟩),.pointer (some ⟨zl,0,none⟩)] len (λi=>f (low+i)) w7.drew (enters_of Tryz.func86 (by kernel_rfl) rfl) (by have h1:=HLM.out;have h2:=HAB.out;have h3:=HLN.out;have h4:=Hlen.out;omega)
     (λm os i hi=>by
      have hbg:=below_grow w7.drew m os
      have hb9:Below w.heap.size w (Go.Sort.grow (w7.drew.drewN m) os):=HBW7.out.drew.trans (hbg.mono HBW7.out.size)
      refine (Dn.calls_drawn (gallop1_any (HC7.out.drew.on hbg) HDD.out.1 HDD.out.2 gp gv f (λW hW=>HPA.out W (hb9.trans (hW.mono hb9.size))) egp (z+1) z zl low (GalV.on (w:=w7.drew) ⟨HG7.out.past,HG7.out.key,HG7.out.low⟩ hbg) i (by have h1:=HLM.out;have h2:=HAB.out;have h4:=Hlen.out;omega))).mono λe w' ⟨⟨he,hbw⟩,hdr⟩=>⟨he,?_⟩
      exact Dn.grow_of_below hbw (hdr (by rw[he];exact λh=>by cases h)))
     (λi i' h1 h2 h3=>HMO.out (low+i) (low+i') (by have h7:=HLW.out;omega) (by omega) (by have h5:=HLM.out;have h6:=HAB.out;have h4:=Hlen.out;omega) h3))
    have HCT:=hid (count_low (f:=f) (low:=low) (n:=len) (λi i' h1 h2 h3=>HMO.out (low+i) (low+i') (by have h7:=HLW.out;omega) (by omega) (by have h5:=HLM.out;have h6:=HAB.out;have h4:=Hlen.out;omega) h3))
    obtain⟨cnt,Hcnt⟩:=name_itV ((List.range len).countP (λi=>!f (low+i)))
    rw[Hcnt.out]at HSE HCT
    have HAD:=hid (show IntKind.i64.wrap ((low:Int)+(cnt:Int))=((low+cnt:Nat):Int) from by have h0:=HCT.out.1;have h1:=HLM.out;have h2:=HAB.out;have h3:=HLN.out;have h4:=Hlen.out;rw[IntWalk.i64_in _ (by omega)];omega)
    have HFI:=hid (show ∀w',Below w.heap.size w w'→GalIs f a b w (.returned (.int .i64 ((low+cnt:Nat):Int))) w' from λw' hb=>⟨low+cnt,rfl,by have h3:=HLW.out;omega,by have h0:=HCT.out.1;have h1:=HLM.out;have h4:=Hlen.out;omega,λi h1 h2=>by
     by_cases hil:i<low
     ·rcases HST.out.2 with h | h
      ·have h3:=HLW.out;omega
      ·cases hfi:f i with
       | false=>rfl
       | true=>
        have:=HMO.out i low h1 (by omega) (by have h5:=HAB.out;have h6:=h.2.1;omega) hfi
        rw[h.2.2]at this
        cases this
     ·have:=HCT.out.2.1 (i-low) (by omega)
      rwa [show low+(i-low)=i by omega]at this,λhmb=>by
     rcases Nat.lt_or_ge cnt len with h | h
     ·exact HCT.out.2.2 h
     ·have h0:=HCT.out.1
      rcases HEX.out with h1 | h1
      ·rwa [show cnt=len by omega]
      ·have h4:=Hlen.out;have h5:=HLM.out;omega,hb⟩)
    obtain⟨mm,Hmm⟩:=name_itV (low+cnt)
    rw[Hmm.out]at HAD HFI
    refine wp_region_held_drew (S:=λW'=>W'.cell? ⟨zl,0,none⟩=some (.int .i64 (low:Nat))) (by kernel_rfl) HG7.out.low (λhHeld=>?_)
    refine Boxed.out ?_
    refine tkW 0 32 (.int .i64 (low:Nat)) hHeld (λw hSw=>?_) (λhHeld=>?_)
    ·have p:=hSw
     unfold runsTo
     go_simp
    try simp only[Act.put,aT,aZ,aS]
    refine tkW 1 33 (.int .i64 (a:Nat)) hHeld (λw hSw=>?_) (λhHeld=>?_)
    ·unfold runsTo
     go_simp
    try simp only[Act.put,aT,aZ,aS]
    refine tkW 2 34 (.int .i64 (st:Nat)) hHeld (λw hSw=>?_) (λhHeld=>?_)
    ·unfold runsTo
     go_simp
    try simp only[Act.put,aT,aZ,aS]
    refine tkW 3 35 (.int .i64 (aV:Nat)) hHeld (λw hSw=>?_) (λhHeld=>?_)
    ·have p:=HW1.out
     unfold runsTo
     go_simp
    try simp only[Act.put,aT,aZ,aS]
    refine tkW 4 36 (.int .i64 (b:Nat)) hHeld (λw hSw=>?_) (λhHeld=>?_)
    ·unfold runsTo
     go_simp
    try simp only[Act.put,aT,aZ,aS]
    refine tkW 5 37 (.int .i64 (mn:Nat)) hHeld (λw hSw=>?_) (λhHeld=>?_)
    ·have p:=HMI.out
     unfold runsTo
     go_simp
    try simp only[Act.put,aT,aZ,aS]
    refine tkW 6 38 (.int .i64 (low:Nat)) hHeld (λw hSw=>?_) (λhHeld=>?_)
    ·have p:=hSw
     unfold runsTo
     go_simp
    try simp only[Act.put,aT,aZ,aS]
    refine tkW 7 39 (.int .i64 (len:Nat)) hHeld (λw hSw=>?_) (λhHeld=>?_)
    ·have p:=HSU.out
     unfold runsTo
     go_simp
    try simp only[Act.put,aT,aZ,aS]
    refine tkW 8 40 (.func (.func 86) #[] #[.pointer (some ⟨z+1,0,none⟩),.pointer (some ⟨z,0,none⟩),.pointer (some ⟨zl,0,none⟩)]) hHeld (λw hSw=>?_) (λhHeld=>?_)
    ·unfold runsTo
     go_simp
    try simp only[Act.put,aT,aZ,aS]
    refine tkC 9 (λK hK=>?_)
    change Oper.wp _ ⟨some 41,_,_,_,_,_⟩ _ _ _ _
    go_simp
    refine HSE.out.mono ?_
    rintro e w8 ⟨rfl,qq,os,hw8⟩
    have HB8:=hid (show Below w7.drew.heap.size w7.drew w8 from by rw[hw8];exact below_grow w7.drew qq os)
    have HB9:=hid (show Below w.heap.size w w8 from HBW7.out.drew.trans (HB8.out.mono HBW7.out.size))
    clear hw8 HSE
    dsimp only
    refine hK.out _ _ ((HB8.out.cell (p:=⟨zl,0,none⟩) (cell_blk HG7.out.low)).trans HG7.out.low) (λhHeld=>?_)
    clear hK K
    try simp only[Act.put,aT,aZ,aS]
    refine tkW 10 42 (.int .i64 (mm:Nat)) hHeld (λw hSw=>?_) (λhHeld=>?_)
    ·have p:=HAD.out
     unfold runsTo
     go_simp
    try simp only[Act.put,aT,aZ,aS]
    refine tkW 11 8 (.int .i64 (mm:Nat)) hHeld (λw hSw=>?_) (λhHeld=>?_)
    ·unfold runsTo
     go_simp
    try simp only[Act.put,aT,aZ,aS]
    refine⟨wpAnyH_done (by kernel_rfl) ?_ _⟩
    clear hHeld
    go_wp2_with fail
    go_ret
    exact HFI.out _ HB9.out
  ·have HEX:=hid (show f (a+st / 2+(min aV b-(a+st / 2)))=true∨min aV b=b from .inr (Nat.min_eq_right (by omega)))
   have HTT:=hid (decide_eq_false hlt)
   clear hlt
   refine tkW 0 11 (.int .i64 (a:Nat)) hHeld (λw hSw=>?_) (λhHeld=>?_)
   ·unfold runsTo
    go_simp
   try simp only[Act.put,aT,aZ,aS]
   refine tkW 1 12 (.int .i64 (st:Nat)) hHeld (λw hSw=>?_) (λhHeld=>?_)
   ·unfold runsTo
    go_simp
   try simp only[Act.put,aT,aZ,aS]
   refine tkW 2 13 (.int .i64 (aV:Nat)) hHeld (λw hSw=>?_) (λhHeld=>?_)
   ·have p:=HW1.out
    unfold runsTo
    go_simp
   try simp only[Act.put,aT,aZ,aS]
   refine tkW 3 14 (.int .i64 (b:Nat)) hHeld (λw hSw=>?_) (λhHeld=>?_)
   ·unfold runsTo
    go_simp
   try simp only[Act.put,aT,aZ,aS]
   refine tkW 4 15 (.bool false) hHeld (λw hSw=>?_) (λhHeld=>?_)
   ·have p:=HTT.out
    unfold runsTo
    go_simp
   try simp only[Act.put,aT,aZ,aS]
   refine tkW 5 16 (.bool false) hHeld (λw hSw=>?_) (λhHeld=>?_)
   ·unfold runsTo
    go_simp
   try simp only[Act.put,aT,aZ,aS]
   refine take_skip 6 17 (by kernel_rfl) (by rfl) (by kernel_rfl) (by kernel_rfl) (by kernel_rfl) (λ_ _ _ h=>h) hHeld (λhHeld=>?_)
   try simp only[Act.put,aT,aZ,aS]
   refine take_skip 7 18 (by kernel_rfl) (by rfl) (by kernel_rfl) (by kernel_rfl) (by kernel_rfl) (λ_ _ _ h=>h) hHeld (λhHeld=>?_)
   try simp only[Act.put,aT,aZ,aS]
   refine take_skip 8 19 (by kernel_rfl) (by rfl) (by kernel_rfl) (by kernel_rfl) (by kernel_rfl) (λ_ _ _ h=>h) hHeld (λhHeld=>?_)
   try simp only[Act.put,aT,aZ,aS]
   refine take_skip 9 20 (by kernel_rfl) (by rfl) (by kernel_rfl) (by kernel_rfl) (by kernel_rfl) (λ_ _ _ h=>h) hHeld (λhHeld=>?_)
   try simp only[Act.put,aT,aZ,aS]
   refine take_skip 10 21 (by kernel_rfl) (by rfl) (by kernel_rfl) (by kernel_rfl) (by kernel_rfl) (λ_ _ _ h=>h) hHeld (λhHeld=>?_)
   try simp only[Act.put,aT,aZ,aS]
   refine take_skip 11 22 (by kernel_rfl) (by rfl) (by kernel_rfl) (by kernel_rfl) (by kernel_rfl) (λ_ _ _ h=>h) hHeld (λhHeld=>?_)
   try simp only[Act.put,aT,aZ,aS]
   refine take_skip 12 23 (by kernel_rfl) (by rfl) (by kernel_rfl) (by kernel_rfl) (by kernel_rfl) (λ_ _ _ h=>h) hHeld (λhHeld=>?_)
   try simp only[Act.put,aT,aZ,aS]
   refine take_skip 13 24 (by kernel_rfl) (by rfl) (by kernel_rfl) (by kernel_rfl) (by kernel_rfl) (λ_ _ _ h=>h) hHeld (λhHeld=>?_)
   try simp only[Act.put,aT,aZ,aS]
   refine tkW 14 25 (.bool false) hHeld (λw hSw=>?_) (λhHeld=>?_)
   ·unfold runsTo
    go_simp
   try simp only[Act.put,aT,aZ,aS]
   refine⟨wpAnyH_done (by kernel_rfl) ?_ _⟩
   clear hHeld
   have HBX:=hid (show Below w.heap.size w wr.drew from HBW.out.drew)
   have HCX:=hid (HCW.out.on HBX.out)
   have HKX:=hid (show wr.drew.cell? ⟨z,0,none⟩=some (.func (.func 52) #[.pointer (some ⟨q,0,none⟩)] #[])∧wr.drew.cell? ⟨z+1,0,none⟩=some (.func (.func gp) #[] #[.pointer (some ⟨gv,0,none⟩)]) from ⟨HKP.out.1,HKP.out.2⟩)
   obtain⟨wx,HWX⟩:=name_itV (wr.drew)
   rw[HWX.out]at HBX HCX HKX ⊢
   clear HWX
   obtain⟨mn,HMN⟩:=name_itV (min aV b)
   rw[HLW.out]at HEX HST
   rw[HMN.out]at HEX
   obtain⟨zl,Hzl⟩:=name_itV wx.heap.size
   obtain⟨w7,HW7⟩:=name_itV (wx.alloc (.cells #[.int .i64 (low:Nat)] 3))
   have HB7:=hid (show Below wx.heap.size wx w7 from by rw[←HW7.out];exact (Below.refl _ _).alloc (Nat.le_refl _) _)
   have HL7:=hid (show w7.heap[zl]?=some (.cells #[.int .i64 (low:Nat)] 3 (0,0)) from by rw[←HW7.out,←Hzl.out];exact heap_alloc_new wx _)
   have d1:=HDV.out.1
   have d2:=HDV.out.2.1
   have d3:=HDV.out.2.2
   have w3:=HW3.out
   go_upto_region 5 with fail
   rw[Hzl.out,HW7.out]
   clear HW7 d1 d2 d3 w3
   have HC7:=hid (HCX.out.on HB7.out)
   have HG7:=hid (show GalV q gp gv (z+1) z zl low w7 from ⟨(HB7.out.cell (p:=⟨z+1,0,none⟩) (cell_blk HKX.out.2)).trans HKX.out.2,(HB7.out.cell (p:=⟨z,0,none⟩) (cell_blk HKX.out.1)).trans HKX.out.1,cell_of_heap HL7.out 0⟩)
   have HBW7:=hid (show Below w.heap.size w w7 from HBX.out.trans (HB7.out.mono HBX.out.size))
   have HMI:=hid (show min (aV:Int) (b:Int)=((mn:Nat):Int) from by rw[←HMN.out];omega)
   have HLM:=hid (show low≤mn∧mn≤b from by have h1:=HMN.out;have h2:=HST.out.1;have h3:=HLW.out;have h4:=Has.out;constructor<;>omega)
   obtain⟨len,Hlen⟩:=name_itV (mn-low)
   rw[Hlen.out]at HEX
   have HSU:=hid (show IntKind.i64.wrap ((mn:Int)-(low:Int))=((len:Nat):Int) from by have h1:=HLM.out;have h2:=HAB.out;have h3:=HLN.out;have h4:=Hlen.out;rw[IntWalk.i64_in _ (by omega)];omega)
   have HSE:=hid (Any.sort_Search Tryz.searchL 86 #[.pointer (some ⟨z+1,0,none⟩),.pointer (some ⟨z,0,none⟩),.pointer (some ⟨zl,0,none⟩)] len (λi=>f (low+i)) w7.drew (enters_of Tryz.func86 (by kernel_rfl) rfl) (by have h1:=HLM.out;have h2:=HAB.out;have h3:=HLN.out;have h4:=Hlen.out;omega)
    (λm os i hi=>by
     have hbg:=below_grow w7.drew m os
     have hb9:Below w.heap.size w (Go.Sort.grow (w7.drew.drewN m) os):=HBW7.out.drew.trans (hbg.mono HBW7.out.size)
     refine (Dn.calls_drawn (gallop1_any (HC7.out.drew.on hbg) HDD.out.1 HDD.out.2 gp gv f (λW hW=>HPA.out W (hb9.trans (hW.mono hb9.size))) egp (z+1) z zl low (GalV.on (w:=w7.drew) ⟨HG7.out.past,HG7.out.key,HG7.out.low⟩ hbg) i (by have h1:=HLM.out;have h2:=HAB.out;have h4:=Hlen.out;omega))).mono λe w' ⟨⟨he,hbw⟩,hdr⟩=>⟨he,?_⟩
     exact Dn.grow_of_below hbw (hdr (by rw[he];exact λh=>by cases h)))
    (λi i' h1 h2 h3=>HMO.out (low+i) (low+i') (by have h7:=HLW.out;omega) (by omega) (by have h5:=HLM.out;have h6:=HAB.out;have h4:=Hlen.out;omega) h3))
   have HCT:=hid (count_low (f:=f) (low:=low) (n:=len) (λi i' h1 h2 h3=>HMO.out (low+i) (low+i') (by have h7:=HLW.out;omega) (by omega) (by have h5:=HLM.out;have h6:=HAB.out;have h4:=Hlen.out;omega) h3))
   obtain⟨cnt,Hcnt⟩:=name_itV ((List.range len).countP (λi=>!f (low+i)))
   rw[Hcnt.out]at HSE HCT
   have HAD:=hid (show IntKind.i64.wrap ((low:Int)+(cnt:Int))=((low+cnt:Nat):Int) from by have h0:=HCT.out.1;have h1:=HLM.out;have h2:=HAB.out;have h3:=HLN.out;have h4:=Hlen.out;rw[IntWalk.i64_in _ (by omega)];omega)
   have HFI:=hid (show ∀w',Below w.heap.size w w'→GalIs f a b w (.returned (.int .i64 ((low+cnt:Nat):Int))) w' from λw' hb=>⟨low+cnt,rfl,by have h3:=HLW.out;omega,by have h0:=HCT.out.1;have h1:=HLM.out;have h4:=Hlen.out;omega,λi h1 h2=>by
    by_cases hil:i<low
    ·rcases HST.out.2 with h | h
     ·have h3:=HLW.out;omega
     ·cases hfi:f i with
      | false=>rfl
      | true=>
       have:=HMO.out i low h1 (by omega) (by have h5:=HAB.out;have h6:=h.2.1;omega) hfi
       rw[h.2.2]at this
       cases this
    ·have:=HCT.out.2.1 (i-low) (by omega)
     rwa [show low+(i-low)=i by omega]at this,λhmb=>by
    rcases Nat.lt_or_ge cnt len with h | h
    ·exact HCT.out.2.2 h
    ·have h0:=HCT.out.1
     rcases HEX.out with h1 | h1
     ·rwa [show cnt=len by omega]
     ·have h4:=Hlen.out;have h5:=HLM.out;omega,hb⟩)
   obtain⟨mm,Hmm⟩:=name_itV (low+cnt)
   rw[Hmm.out]at HAD HFI
   refine wp_region_held_drew (S:=λW'=>W'.cell? ⟨zl,0,none⟩=some (.int .i64 (low:Nat))) (by kernel_rfl) HG7.out.low (λhHeld=>?_)
   refine Boxed.out ?_
   refine tkW 0 32 (.int .i64 (low:Nat)) hHeld (λw hSw=>?_) (λhHeld=>?_)
   ·have p:=hSw
    unfold runsTo
    go_simp
   try simp only[Act.put,aT,aZ,aS]
   refine tkW 1 33 (.int .i64 (a:Nat)) hHeld (λw hSw=>?_) (λhHeld=>?_)
   ·unfold runsTo
    go_simp
   try simp only[Act.put,aT,aZ,aS]
   refine tkW 2 34 (.int .i64 (st:Nat)) hHeld (λw hSw=>?_) (λhHeld=>?_)
   ·unfold runsTo
    go_simp
   try simp only[Act.put,aT,aZ,aS]
   refine tkW 3 35 (.int .i64 (aV:Nat)) hHeld (λw hSw=>?_) (λhHeld=>?_)
   ·have p:=HW1.out
    unfold runsTo
    go_simp
   try simp only[Act.put,aT,aZ,aS]
   refine tkW 4 36 (.int .i64 (b:Nat)) hHeld (λw hSw=>?_) (λhHeld=>?_)
   ·unfold runsTo
    go_simp
   try simp only[Act.put,aT,aZ,aS]
   refine tkW 5 37 (.int .i64 (mn:Nat)) hHeld (λw hSw=>?_) (λhHeld=>?_)
   ·have p:=HMI.out
    unfold runsTo
    go_simp
   try simp only[Act.put,aT,aZ,aS]
   refine tkW 6 38 (.int .i64 (low:Nat)) hHeld (λw hSw=>?_) (λhHeld=>?_)
   ·have p:=hSw
    unfold runsTo
    go_simp
   try simp only[Act.put,aT,aZ,aS]
   refine tkW 7 39 (.int .i64 (len:Nat)) hHeld (λw hSw=>?_) (λhHeld=>?_)
   ·have p:=HSU.out
    unfold runsTo
    go_simp
   try simp only[Act.put,aT,aZ,aS]
   refine tkW 8 40 (.func (.func 86) #[] #[.pointer (some ⟨z+1,0,none⟩),.pointer (some ⟨z,0,none⟩),.pointer (some ⟨zl,0,none⟩)]) hHeld (λw hSw=>?_) (λhHeld=>?_)
   ·unfold runsTo
    go_simp
   try simp only[Act.put,aT,aZ,aS]
   refine tkC 9 (λK hK=>?_)
   change Oper.wp _ ⟨some 41,_,_,_,_,_⟩ _ _ _ _
   go_simp
   refine HSE.out.mono ?_
   rintro e w8 ⟨rfl,qq,os,hw8⟩
   have HB8:=hid (show Below w7.drew.heap.size w7.drew w8 from by rw[hw8];exact below_grow w7.drew qq os)
   have HB9:=hid (show Below w.heap.size w w8 from HBW7.out.drew.trans (HB8.out.mono HBW7.out.size))
   clear hw8 HSE
   dsimp only
   refine hK.out _ _ ((HB8.out.cell (p:=⟨zl,0,none⟩) (cell_blk HG7.out.low)).trans HG7.out.low) (λhHeld=>?_)
   clear hK K
   try simp only[Act.put,aT,aZ,aS]
   refine tkW 10 42 (.int .i64 (mm:Nat)) hHeld (λw hSw=>?_) (λhHeld=>?_)
   ·have p:=HAD.out
    unfold runsTo
    go_simp
   try simp only[Act.put,aT,aZ,aS]
   refine tkW 11 8 (.int .i64 (mm:Nat)) hHeld (λw hSw=>?_) (λhHeld=>?_)
   ·unfold runsTo
    go_simp
   try simp only[Act.put,aT,aZ,aS]
   refine⟨wpAnyH_done (by kernel_rfl) ?_ _⟩
   clear hHeld
   go_wp2_with fail
   go_ret
   exact HFI.out _ HB9.out
def pastF (K:List Trip) (p:Nat) (strict:Bool) (v:Val) (n:Nat):Bool:=
 match K[n]? with
 | some t=>if strict=true then decide (0<ordV (t.get p) v) else decide (0≤ordV (t.get p) v)
 | none=>true
theorem pastF_at {K:List Trip} {p:Nat} {strict:Bool} {v:Val} {n:Nat} {t:Trip} (h:K[n]?=some t):pastF K p strict v n=if strict=true then decide (0<ordV (t.get p) v) else decide (0≤ordV (t.get p) v):=by
 unfold pastF
 rw[h]
theorem pastF_mono {T K:List Trip} {w:Way} {pre:List Val} {u:Val} {a b s:Nat} (hK:InWay T K w) (hl:Lev K w pre u a b s) (strict:Bool) (v:Val) (i i':Nat) (h1:a≤i) (h2:i≤i') (h3:i'<b) (h:pastF K (w.get pre.length) strict v i=true):pastF K (w.get pre.length) strict v i'=true:=by
 obtain⟨x,hx⟩:=hl.at_ (show i<b by omega)
 obtain⟨y,hy⟩:=hl.at_ h3
 rw[pastF_at hx]at h
 rw[pastF_at hy]
 have bx:=(hl.span i x hx).1 ⟨by have:=hl.sa;omega,by omega⟩
 have by':=(hl.span i' y hy).1 ⟨by have:=hl.sa;omega,h3⟩
 have hle:=hK.mono hl.d3 hx hy h2 bx by'
 cases strict with
 | true=>
  rw[if_pos rfl]at h ⊢
  have h:=of_decide_eq_true h
  refine decide_eq_true ?_
  have q1:=ordV_anti (x.get (w.get pre.length)) v
  have q2:=ordV_anti (y.get (w.get pre.length)) v
  have:=ordV_pre.lt_trans (a:=v) (b:=x.get (w.get pre.length)) (d:=y.get (w.get pre.length)) (by omega) hle
  omega
 | false=>
  rw[if_neg Bool.false_ne_true]at h ⊢
  have h:=of_decide_eq_true h
  refine decide_eq_true ?_
  have q1:=ordV_anti (x.get (w.get pre.length)) v
  have q2:=ordV_anti (y.get (w.get pre.length)) v
  have:=ordV_pre.trans v (x.get (w.get pre.length)) (y.get (w.get pre.length)) (by omega) hle
  omega
theorem first_of {K:List Trip} {p a b m:Nat} {strict:Bool} {v:Val} (h1:a≤m) (h2:m≤b) (h3:∀i,a≤i→i<m→pastF K p strict v i=false) (h4:m<b→pastF K p strict v m=true) :
    FirstAt K (λt=>(if strict=true then decide (0<ordV (t.get p) v) else decide (0≤ordV (t.get p) v))=true) a b m:=
 ⟨h1,h2,λn t q1 q2 ht=>by have:=h3 n q1 q2;rw[pastF_at ht]at this;rw[this];exact Bool.false_ne_true,λt q1 ht=>by have:=h4 q1;rw[pastF_at ht]at this;exact this⟩
theorem zero88:(Tryz.prog.info? 88).map (·.size)=some 2:=by kernel_rfl
theorem trip_fit {T:List Trip} {ix:List Nat} {j:Nat} (h:IxOf (wayN j) T ix) (hs:∀t,t∈T→ScalT t) (hf:∀t,t∈T→∀n,FitV (t.get n)) {n:Nat} {t:Trip} (ht:(Kof T ix)[n]?=some t):∀p,KindT (t.get p):=λp=>by
 have hm:=((inway_of h hs).mem t).1 (List.mem_of_getElem? ht)
 exact⟨((hs t hm).get p).2.1,hf t hm p⟩
set_option maxRecDepth 100000 in
set_option maxHeartbeats 8000000 in
theorem behind_any {F:Nat→Prop} {q c j:Nat} {T:List Trip} {ix:List Nat} {cs:Nat→Array Value} {S s:Value} {d d':Nat} {at_ en:Nat→Nat} {w:World} (h:CurW F q c j T ix cs S s d' at_ en w) (hdd:d'=d+1) (hd:d<3) (hgb:GlobB w) (hgt:GlobT w)
    (x y:Nat) (hx:at_ d'=x) (hy:en d'=y) (hxy:x<y) (hyl:y≤ix.length) (t:Trip) (ht:(Kof T ix)[x]?=some t) (hmono:∀i i',x≤i→i≤i'→i'<y→pastF (Kof T ix) ((wayN j).get d) true (t.get ((wayN j).get d)) i=true→pastF (Kof T ix) ((wayN j).get d) true (t.get ((wayN j).get d)) i'=true) :
    Calls Tryz.prog 51 #[.pointer (some ⟨q,0,none⟩)] w (GalIs (pastF (Kof T ix) ((wayN j).get d) true (t.get ((wayN j).get d))) x y w):=by
 have HCW:=hid h
 have HDD:=hid (And.intro hdd hd)
 have HXY:=hid (And.intro hxy hyl)
 have HMO:=hid hmono
 have HG:=hid (And.intro hgb hgt)
 have HT:=hid ht
 have ca:=hid (λ(w':World) (h':CurW F q c j T ix cs S s d' at_ en w')=>(show w'.cell? ⟨q,6+d'*2,none⟩=some (.int .i64 (x:Nat)) from by rw[←hx];exact h'.ca (by omega)))
 have ce:=hid (λ(w':World) (h':CurW F q c j T ix cs S s d' at_ en w')=>(show w'.cell? ⟨q,6+d'*2+1,none⟩=some (.int .i64 (y:Nat)) from by rw[←hy];exact h'.ce (by omega)))
 have HD4:=hid (show d'<4 from by omega)
 have HVT:=hid (trip_fit h.r.ixo h.r.scal h.r.fit ht)
 have HKF:=hid (λ(n:Nat) (u:Trip) (hu:(Kof T ix)[n]?=some u)=>trip_fit h.r.ixo h.r.scal h.r.fit hu)
 clear h hdd hd hgb hgt hxy hyl ht hmono hx hy
 go_enter Tryz.func51,Tryz.ntmps51
 go_upto_region 1 with fail
 refine wp_region_held_drew (S:=λW'=>CurW F q c j T ix cs S s d' at_ en W') (by kernel_rfl) HCW.out.drew (λhHeld=>?_)
 refine Boxed.out ?_
 refine tkW 0 5 (.pointer (some ⟨q,0,none⟩)) hHeld (λw hSw=>?_) (λhHeld=>?_)
 ·unfold runsTo
  go_simp
 try simp only[Act.put,aT,aZ,aS]
 refine tkW 1 6 (.pointer (some ⟨q,0,none⟩)) hHeld (λw hSw=>?_) (λhHeld=>?_)
 ·unfold runsTo
  go_simp
 try simp only[Act.put,aT,aZ,aS]
 refine tkW 2 7 (.pointer (some ⟨q,0,none⟩)) hHeld (λw hSw=>?_) (λhHeld=>?_)
 ·unfold runsTo
  go_simp
 try simp only[Act.put,aT,aZ,aS]
 refine tkW 3 8 (.pointer (some ⟨q,5,none⟩)) hHeld (λw hSw=>?_) (λhHeld=>?_)
 ·unfold runsTo
  go_simp
 try simp only[Act.put,aT,aZ,aS]
 refine tkW 4 9 (.int .i64 (d':Nat)) hHeld (λw hSw=>?_) (λhHeld=>?_)
 ·have p:=hSw.c5
  unfold runsTo
  go_simp
 try simp only[Act.put,aT,aZ,aS]
 refine tkW 5 10 (.pointer (some ⟨q,0,none⟩)) hHeld (λw hSw=>?_) (λhHeld=>?_)
 ·unfold runsTo
  go_simp
 try simp only[Act.put,aT,aZ,aS]
 refine tkW 6 11 (.pointer (some ⟨q,6,none⟩)) hHeld (λw hSw=>?_) (λhHeld=>?_)
 ·unfold runsTo
  go_simp
 try simp only[Act.put,aT,aZ,aS]
 refine tkW 7 12 (.pointer (some ⟨q,6+d'*2,none⟩)) hHeld (λw hSw=>?_) (λhHeld=>?_)
 ·exact val_of (idx_lv q d' HD4.out w)
 try simp only[Act.put,aT,aZ,aS]
 refine tkW 8 13 (.agg (#[.int .i64 (x:Nat),.int .i64 (y:Nat)])) hHeld (λw hSw=>?_) (λhHeld=>?_)
 ·have q9:=run_loadAt_mid (P:=Tryz.prog) w q (6+d'*2) 88 [.int .i64 (x:Nat),.int .i64 (y:Nat)] _ (λi v hv=>by
    have hi:=(List.getElem?_eq_some_iff.1 hv).1
    rcases (show i=0∨i=1 by simp at hi;omega) with rfl | rfl
    ·injection hv with hv;rw[←hv];exact ca.out w hSw
    ·injection hv with hv;rw[←hv];exact ce.out w hSw) Tryz.underlying88 rfl zero88
  exact val_of q9
 try simp only[Act.put,aT,aZ,aS]
 obtain⟨z,Hz⟩:=name_itV w.heap.size
 have HBA:=hid (show Below w.heap.size w (w.alloc (.cells (#[.int .i64 0,.int .i64 0]) 88)).drew from ((Below.refl _ _).alloc (Nat.le_refl _) _).drew)
 have HXA:=hid (show (w.alloc (.cells (#[.int .i64 0,.int .i64 0]) 88)).drew.heap[z]?=some (.cells (#[.int .i64 0,.int .i64 0]) 88 (0,0)) from by rw[←Hz.out];exact heap_alloc_new w _)
 have HCA:=hid (HCW.out.on HBA.out)
 refine tkC 9 (λK hK=>?_)
 change Oper.wp _ ⟨some 3,_,_,_,_,_⟩ _ _ _ _
 go_simp
 refine hK.out _ _ HCA.out (λhHeld=>?_)
 clear hK K
 try simp only[Act.put,aT,aZ,aS]
 refine tkC 10 (λK hK=>?_)
 change Oper.wp _ _ _ _ _ _
 refine st_rowW 88 _ _ rfl z _ (#[.int .i64 (x:Nat),.int .i64 (y:Nat)]) 88 (by rw[←Hz.out];rfl) rfl HXA.out rfl zero88 (by kernel_rfl) (λw2 hw2 ht2=>?_)
 have HX2:=hid hw2
 have HZF:=hid (show (∀b,F b→¬b=z)∧¬q=z from ⟨λb hb e=>by have:=HCW.out.fl b hb;have h2:w.heap.size=z:=Hz.out;omega,λe=>by have:=blk_lt HCW.out.cur;have h2:w.heap.size=z:=Hz.out;omega⟩)
 have HB2:=hid (show Below w.heap.size w w2 from HBA.out.trans ⟨ht2.os,ht2.tape,ht2.output,ht2.size,λk hk=>ht2.block k (Nat.lt_of_lt_of_le hk HBA.out.size) (by rw[←Hz.out];omega)⟩)
 have HC2:=hid (HCA.out.turn ht2 HZF.out.1 HZF.out.2)
 refine hK.out _ _ HC2.out (λhHeld=>?_)
 clear hK K hw2 ht2
 try simp only[Act.put]
 refine⟨wpAnyH_done (by kernel_rfl) ?_ _⟩
 clear hHeld
 rw[Hz.out]
 have z0:w2.cell? ⟨z,0,none⟩=some (.int .i64 (x:Nat)):=cell_of_heap HX2.out 0
 go_wp2_with fail
 refine (key_any HC2.out HDD.out.1 HDD.out.2 x (by have:=HXY.out;omega) t HT.out).mono ?_
 rintro e w3 ⟨A0,cap0,rfl,hb3⟩
 have HB3:=hid (HB2.out.trans (hb3.mono HB2.out.size))
 have HC3:=hid (HC2.out.on hb3)
 have HX3:=hid ((hb3.block z (blk_lt HX2.out)).trans HX2.out)
 obtain⟨u,Hu⟩:=name_itV (cellsV (t.get ((wayN j).get d)) (.slice A0 0 cap0))
 have ZU:=hid (show u.size=6 from by rw[←Hu.out];rfl)
 have IU:=hid (infoV6.trans (congrArg some ZU.out.symm))
 have OU:=hid (show u.all (·.oneCell')=true from by rw[←Hu.out];kernel_rfl)
 rw[Hu.out]
 clear hb3 z0
 obtain⟨zv,Hzv⟩:=name_itV w3.heap.size
 have HXV:=hid (show (w3.alloc (.cells (#[.int .i64 0,.bool false,.int .i64 0,.string ⟨#[]⟩,.string ⟨#[]⟩,.slice none 0 0]) 34)).heap[zv]?=some (.cells (#[.int .i64 0,.bool false,.int .i64 0,.string ⟨#[]⟩,.string ⟨#[]⟩,.slice none 0 0]) 34 (0,0)) from by rw[←Hzv.out];exact heap_alloc_new w3 _)
 go_upto_region 3 with ((with_reducible refine at_st 4 ?_);refine st_row rfl 34 _ _ rfl zv (#[.int .i64 0,.bool false,.int .i64 0,.string ⟨#[]⟩,.string ⟨#[]⟩,.slice none 0 0]) u 34 (by rw[←Hzv.out];rfl) rfl HXV.out ZU.out IU.out OU.out ?_;intro w4 hw4 ht4)
 rw[Hzv.out]
 have HB34:=hid (show Below w3.heap.size w3 w4 from box_below (by rw[Hzv.out];exact ht4))
 have HB4:=hid (HB3.out.trans (HB34.out.mono HB3.out.size))
 have HC4:=hid (HC3.out.on HB34.out)
 have HV4:=hid (show VarV zv (t.get ((wayN j).get d)) (.slice A0 0 cap0) w4 from by unfold VarV;rw[Hu.out];exact hw4)
 have HX4:=hid ((HB34.out.block z (blk_lt HX3.out)).trans HX3.out)
 clear hw4 ht4
 have z0:w4.cell? ⟨z,0,none⟩=some (.int .i64 (x:Nat)):=cell_of_heap HX4.out 0
 have z1:w4.cell? ⟨z,1,none⟩=some (.int .i64 (y:Nat)):=cell_of_heap HX4.out 1
 have HGA:=hid (gallop_any HC4.out HDD.out.1 HDD.out.2 78 zv (pastF (Kof T ix) ((wayN j).get d) true (t.get ((wayN j).get d))) (λW hW n v A cap hv=>by
  rw[pastF_at hv,if_pos rfl]
  exact past_behind (v.get ((wayN j).get d)) (t.get ((wayN j).get d)) _ _ zv W ((hW.block zv (blk_lt HV4.out)).trans HV4.out) (HKF.out n v hv _) (HVT.out _).fit (glob_under HG.out.1 (HB4.out.trans (hW.mono HB4.out.size))) (globT_under HG.out.2 (HB4.out.trans (hW.mono HB4.out.size)))) (enters_of Tryz.func78 (by kernel_rfl) rfl) x y HMO.out (by have:=HXY.out;omega) HXY.out.2)
 go_wp2_with fail
 refine HGA.out.mono ?_
 rintro e w5 ⟨m,rfl,h1,h2,h3,h4,hb5⟩
 have HFI:=hid (show GalIs (pastF (Kof T ix) ((wayN j).get d) true (t.get ((wayN j).get d))) x y w (.returned (.int .i64 (m:Nat))) w5 from ⟨m,rfl,h1,h2,h3,h4,HB4.out.trans (hb5.mono HB4.out.size)⟩)
 clear h1 h2 h3 h4 hb5 z0 z1
 go_wp2_with fail
 go_ret
 exact HFI.out
def CurRd (F:Nat→Prop) (w:World) (q j:Nat) (T:List Trip) (c:CurA):Prop:=
 ∃(cc:Nat) (ix:List Nat) (cs:Nat→Array Value) (S s:Value) (at_ en:Nat→Nat),CurW F q cc j T ix cs S s c.way.length at_ en w∧CurN (Kof T ix) (wayN j) c at_ en
def CurDo (F:Nat→Prop) (q j:Nat) (T:List Trip) (r:CurA×Bool) (w:World) (e:Ending) (w':World):Prop:=e = .returned (.bool r.2)∧CurRd F w' q j T r.1∧Turn (λb=>b=q) w w'
section
variable {F:Nat→Prop} {q c j:Nat} {T:List Trip} {ix:List Nat} {cs:Nat→Array Value} {S s:Value} {d:Nat} {at_ en:Nat→Nat} {w w':World}
theorem CurW.setD (h:CurW F q c j T ix cs S s d at_ en w) (d2:Nat):CurW F q c j T ix cs S s d2 at_ en (w.setCell ⟨q,5,none⟩ (.int .i64 (d2:Nat))):=by
 have ht:=(Turn.refl (λb=>b=q) w).setCell (p:=⟨q,5,none⟩) (.inr rfl) (.int .i64 (d2:Nat))
 refine⟨h.r.keep λb hb=>ht.block b (h.fl b hb) (λe=>h.fq (by have e:b=q:=e;rw[←e];exact hb)),heap_setCell_same w q 5 _ _ _ h.cur,h.fq,λb hb=>Nat.lt_of_lt_of_le (h.fl b hb) ht.size⟩
theorem CurW.setA (h:CurW F q c j T ix cs S s d at_ en w) {e:Nat} (he:e<4) (x:Nat):CurW F q c j T ix cs S s d (upd at_ e x) en (w.setCell ⟨q,6+e*2,none⟩ (.int .i64 (x:Nat))):=by
 have ht:=(Turn.refl (λb=>b=q) w).setCell (p:=⟨q,6+e*2,none⟩) (.inr rfl) (.int .i64 (x:Nat))
 refine⟨h.r.keep λb hb=>ht.block b (h.fl b hb) (λe=>h.fq (by have e:b=q:=e;rw[←e];exact hb)),?_,h.fq,λb hb=>Nat.lt_of_lt_of_le (h.fl b hb) ht.size⟩
 rcases (show e=0∨e=1∨e=2∨e=3 by omega) with rfl | rfl | rfl | rfl<;>exact heap_setCell_same w q _ _ _ _ h.cur
theorem CurW.setL (h:CurW F q c j T ix cs S s d at_ en w) {e:Nat} (he:e<4) (x y:Nat):CurW F q c j T ix cs S s d (upd at_ e x) (upd en e y) ((w.setCell ⟨q,6+e*2,none⟩ (.int .i64 (x:Nat))).setCell ⟨q,6+e*2+1,none⟩ (.int .i64 (y:Nat))):=by
 have h1:=h.setA he x
 have ht:=(Turn.refl (λb=>b=q) (w.setCell ⟨q,6+e*2,none⟩ (.int .i64 (x:Nat)))).setCell (p:=⟨q,6+e*2+1,none⟩) (.inr rfl) (.int .i64 (y:Nat))
 refine⟨h1.r.keep λb hb=>ht.block b (h1.fl b hb) (λe=>h.fq (by have e:b=q:=e;rw[←e];exact hb)),?_,h.fq,λb hb=>Nat.lt_of_lt_of_le (h1.fl b hb) ht.size⟩
 rcases (show e=0∨e=1∨e=2∨e=3 by omega) with rfl | rfl | rfl | rfl<;>exact heap_setCell_same _ q _ _ _ _ h1.cur
end
set_option maxRecDepth 100000 in
set_option maxHeartbeats 2000000 in
theorem up_any {F:Nat→Prop} {q j:Nat} {T:List Trip} {c:CurA} {w:World} (h:CurRd F w q j T c) :
    Calls Tryz.prog 17 #[.pointer (some ⟨q,0,none⟩)] w (CurDo F q j T (upA c) w):=by
 obtain⟨cc,ix,cs,S,s,at_,en,hw,hn⟩:=h
 have c5:=hw.c5
 obtain⟨d,hd⟩:=name_itV c.way.length
 rw[hd.out]at c5
 by_cases h0:d=0
 ·subst h0
  have HR:=hid (show CurDo F q j T (upA c) w (.returned (.bool false)) w from by rw[up_none hd.out];exact⟨rfl,⟨cc,ix,cs,S,s,at_,en,hw,hn⟩,Turn.refl _ _⟩)
  clear hw hn hd
  go_enter Tryz.func17,Tryz.ntmps17
  go_wp2_with fail
  go_ret
  exact HR.out
 ·obtain⟨e,he⟩:∃e,d=e+1:=⟨d-1,by omega⟩
  have f5:w.frozen? ⟨q,5,none⟩=false:=Lib.frozen_of_heap hw.cur 5
  have d3:=hn.d3
  have w1:IntKind.i64.wrap ((d:Int)-1)=((e:Nat):Int):=by rw[IntWalk.i64_in _ (by rw[hd.out]at d3;omega)];omega
  have t1:((d:Int)==0)=false:=by simpa using h0
  have HR:=hid (show CurDo F q j T (upA c) w (.returned (.bool true)) (w.setCell ⟨q,5,none⟩ (.int .i64 (e:Nat))) from by
   obtain⟨e1,e2⟩:=hn.up (by rw[hd.out];omega)
   rw[e1]
   exact⟨rfl,⟨cc,ix,cs,S,s,at_,en,by have:=hw.setD e;rwa [show e=c.way.dropLast.length by rw[List.length_dropLast,hd.out];omega]at this ⊢,e2⟩,(Turn.refl (λb=>b=q) w).setCell (p:=⟨q,5,none⟩) (.inr rfl) _⟩)
  clear hw hn hd h0 he d3
  go_enter Tryz.func17,Tryz.ntmps17
  go_wp2_with fail
  go_ret
  exact HR.out
set_option maxRecDepth 100000 in
theorem depth_any {F:Nat→Prop} {q j:Nat} {T:List Trip} {c:CurA} {w:World} (h:CurRd F w q j T c) :
    Calls Tryz.prog 11 #[.pointer (some ⟨q,0,none⟩)] w λe w'=>e = .returned (.int .i64 (c.way.length:Nat))∧w'=w:=by
 obtain⟨cc,ix,cs,S,s,at_,en,hw,hn⟩:=h
 have c5:=hw.c5
 obtain⟨d,hd⟩:=name_itV c.way.length
 rw[hd.out]at c5 ⊢
 clear hw hn hd
 go_enter Tryz.func11,Tryz.ntmps11
 go_wp2_with fail
 go_ret
 exact⟨rfl,rfl⟩
set_option maxRecDepth 100000 in
theorem len_any {F:Nat→Prop} {c:Nat} {T:List Trip} {w:World} (h:StoreAt F w c T) :
    Calls Tryz.prog 33 #[.pointer (some ⟨c,0,none⟩)] w λe w'=>e = .returned (.int .i64 (T.length:Nat))∧w'=w:=by
 obtain⟨S,ss,cs,h1,h2,_⟩:=h.cells
 obtain⟨A,cap,rfl,_⟩:=h2.form
 have c0:w.cell? ⟨c,0,none⟩=some (.slice A T.length cap):=cell_of_heap h1 0
 obtain⟨n,hn⟩:=name_itV T.length
 rw[hn.out]at c0 ⊢
 clear h h1 h2 hn
 go_enter Tryz.func33,Tryz.ntmps33
 go_wp2_with fail
 go_ret
 exact⟨rfl,rfl⟩
end Go.Proofs.YtijciakkfpjjbaaGreatDoor
