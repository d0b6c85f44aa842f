/- The amount that digits say, in words. -/
import Derived.Test.YtefhfadjajcmkaaGreatDoorK4
import Derived.Test.YtefhfadjajcmkaaGreatDoorK1
import Derived.Test.YtefhfadjajcmkaaGreatDoorK2
import Derived.Test.YtefhfadjajcmkaaGreatDoorSH
import Derived.Lib.AtoiErrMem
set_option linter.unusedVariables false
set_option linter.unusedSimpArgs false
set_option maxRecDepth 100000
set_option maxHeartbeats 8000000
namespace Go.Proofs.YtefhfadjajcmkaaGreatDoor
open Go Go.RowKit
open Go.Lib (hid cell_of_heap)
theorem ret_i {a b:Int} (h:a=b):Ending.returned (.int .i64 a) = .returned (.int .i64 b):=by rw[h]
theorem rank2_any (k:Int) (w:World):Calls Tryz.prog 180 #[.int .i64 1,.int .i64 k] w λe w'=>e = .returned (.int .i64 (rankS k))∧w'=w:=by
 by_cases h5:k=5
 ·subst h5
  go_enter Tryz.func180,Tryz.ntmps180
  go_wp2_with fail
  go_ret
  exact⟨rfl,rfl⟩
 by_cases h6:k=6
 ·subst h6
  go_enter Tryz.func180,Tryz.ntmps180
  go_wp2_with fail
  go_ret
  exact⟨rfl,rfl⟩
 by_cases h7:k=7
 ·subst h7
  go_enter Tryz.func180,Tryz.ntmps180
  go_wp2_with fail
  go_ret
  exact⟨rfl,rfl⟩
 by_cases h9:k=9
 ·subst h9
  go_enter Tryz.func180,Tryz.ntmps180
  go_wp2_with fail
  go_ret
  exact⟨rfl,rfl⟩
 by_cases h8:k=8
 ·subst h8
  go_enter Tryz.func180,Tryz.ntmps180
  go_wp2_with fail
  go_ret
  exact⟨rfl,rfl⟩
 by_cases h10:k=10
 ·subst h10
  go_enter Tryz.func180,Tryz.ntmps180
  go_wp2_with fail
  go_ret
  exact⟨rfl,rfl⟩
 by_cases h4:k=4
 ·subst h4
  go_enter Tryz.func180,Tryz.ntmps180
  go_wp2_with fail
  go_ret
  exact⟨rfl,rfl⟩
 by_cases h1:k=1
 ·subst h1
  go_enter Tryz.func180,Tryz.ntmps180
  go_wp2_with fail
  go_ret
  exact⟨rfl,rfl⟩
 by_cases h2:k=2
 ·subst h2
  go_enter Tryz.func180,Tryz.ntmps180
  go_wp2_with fail
  go_ret
  exact⟨rfl,rfl⟩
 by_cases h3:k=3
 ·subst h3
  go_enter Tryz.func180,Tryz.ntmps180
  go_wp2_with fail
  go_ret
  exact⟨rfl,rfl⟩
 by_cases h0:k=0
 ·subst h0
  go_enter Tryz.func180,Tryz.ntmps180
  go_wp2_with fail
  go_ret
  exact⟨rfl,rfl⟩
 have hr:=hid (show (11:Int)=rankS k from by unfold rankS;rw[if_neg h5,if_neg h6,if_neg h7,if_neg h9,if_neg h8,if_neg h10,if_neg h4,if_neg h1,if_neg h2,if_neg h3,if_neg h0])
 have e5:(k==5)=false:=by simpa using h5
 have e6:(k==6)=false:=by simpa using h6
 have e7:(k==7)=false:=by simpa using h7
 have e9:(k==9)=false:=by simpa using h9
 have e8:(k==8)=false:=by simpa using h8
 have e10:(k==10)=false:=by simpa using h10
 have e4:(k==4)=false:=by simpa using h4
 have e1:(k==1)=false:=by simpa using h1
 have e2:(k==2)=false:=by simpa using h2
 have e3:(k==3)=false:=by simpa using h3
 have e0:(k==0)=false:=by simpa using h0
 clear h5 h6 h7 h9 h8 h10 h4 h1 h2 h3 h0
 go_enter Tryz.func180,Tryz.ntmps180
 go_wp2_with fail
 go_ret
 exact⟨ret_i hr.out,rfl⟩
def signV (a b:Bool):Int:=if a=true then -1 else if b=true then 1 else 0
theorem sign_any (a b:Bool) (w:World):Calls Tryz.prog 181 #[.bool a,.bool b] w λe w'=>e = .returned (.int .i64 (signV a b))∧w'=w:=by
 cases a<;>cases b
 all_goals
  go_enter Tryz.func181,Tryz.ntmps181
  go_wp2_with fail
  go_ret
  exact⟨rfl,rfl⟩
def DecIs (v:Val) (w:World) (e:Ending) (w':World):Prop:=e = .returned (.string (exactT v))∧Below w.heap.size w w'
theorem dec2_any (v:Val) (s:Value) (h0:-9223372036854775808≤v.num) (h1:v.num≤9223372036854775807) (ht:v.text.size≤4000000000000) (w:World) :
    Calls Tryz.prog 183 #[.agg (cellsV v s)] w (DecIs v w):=by
 have hof:=hid (λW:World=>refOfInt_any v.num h0 h1 W)
 have hck:=hid (λW:World=>refDec_any v.text ht W)
 have hex:=hid (show exactT v=if v.kind=2 then ofIntT v.num else if decB v.text=true then v.text else zeroT from rfl)
 obtain⟨x,Hx⟩:=name_itV (exactT v)
 have HE:=hid (show ∀w',Below w.heap.size w w'→DecIs v w (.returned (.string x)) w' from λw' hb=>⟨by rw[Hx.out],hb⟩)
 obtain⟨o,Ho⟩:=name_itV (ofIntT v.num)
 rw[Hx.out,Ho.out]at hex
 have HX2:=hid (λh:v.kind=2=>(show x=o from by rw[hex.out,if_pos h]))
 have HXT:=hid (λ(h:v.kind≠2) (hd:decB v.text=true)=>(show x=v.text from by rw[hex.out,if_neg h,if_pos hd]))
 have HXF:=hid (λ(h:v.kind≠2) (hd:decB v.text=false)=>(show x=⟨#[48,46,48]⟩ from by rw[hex.out,if_neg h,if_neg (by rw[hd];exact Bool.false_ne_true)];rfl))
 clear hex
 have hof2:=hid (λW:World=>(show Calls Tryz.prog 254 #[.int .i64 v.num] W (λe w'=>e = .returned (.string o)∧Below W.heap.size W w') from by rw[←Ho.out];exact hof.out W))
 clear hof Hx Ho
 cases v with
 | mk k b n t x' l=>
 unfold cellsV
 simp only[Val.kind,Val.truth,Val.num,Val.text,Val.extra]at hof2 hck HX2 HXT HXF ⊢
 clear h0 h1 ht
 go_enter Tryz.func183,Tryz.ntmps183
 by_cases hk:k=2
 ·have hx:=hid (HX2.out hk)
  subst hk
  go_wp2_with fail
  refine (hof2.out _).mono ?_
  rintro e w1 ⟨rfl,hb⟩
  have HB:=hid (((Below.refl w.heap.size w).alloc (Nat.le_refl _) (.cells #[.int .i64 2,.bool b,.int .i64 n,.string t,.string x',s] 39)).trans (hb.mono (by simp)))
  clear hb
  go_wp2_with fail
  go_ret
  have:=HE.out _ HB.out
  rw[hx.out]at this
  exact this
 ·have e2:(k==2)=false:=by simpa using hk
  have hx1:=hid (HXT.out hk)
  have hx0:=hid (HXF.out hk)
  clear hk HX2 HXT HXF
  go_wp2_with fail
  refine (hck.out _).mono ?_
  rintro e w1 ⟨rfl,hb⟩
  have c3:w1.cell? ⟨w.heap.size,3,none⟩=some (.string t):=(hb.cell (p:=⟨w.heap.size,3,none⟩) (by simp)).trans (cell_of_heap (heap_alloc_new w _) 3)
  have HB:=hid (((Below.refl w.heap.size w).alloc (Nat.le_refl _) (.cells #[.int .i64 k,.bool b,.int .i64 n,.string t,.string x',s] 39)).trans (hb.mono (by simp)))
  clear hb
  obtain⟨bd,Hbd⟩:=name_itV (decB t)
  rw[Hbd.out]
  cases bd with
  | true=>
   have hd:=Hbd.out
   have hx2:=hid (show x=t from hx1.out hd)
   clear hd
   go_wp2_with fail
   go_ret
   have:=HE.out _ HB.out
   rw[hx2.out]at this
   exact this
  | false=>
   have hd:=Hbd.out
   have hx2:=hid (show x=⟨#[48,46,48]⟩ from hx0.out hd)
   clear hd
   go_wp2_with fail
   go_ret
   have:=HE.out _ HB.out
   rw[hx2.out]at this
   exact this
def OrdIs (a b:Val) (w:World) (e:Ending) (w':World):Prop:=e = .returned (.int .i64 (ordV a b))∧Below w.heap.size w w'
theorem signV_lt (x y:Int) (h:x≠y):signV (decide (x<y)) true=cmpI x y:=by
 unfold signV cmpI
 by_cases h1:x<y
 ·rw[decide_eq_true h1,if_pos rfl,if_pos h1]
 ·rw[decide_eq_false h1,if_neg Bool.false_ne_true,if_pos rfl,if_neg h1,if_pos (by omega)]
theorem signV_int (x y:Int):signV (decide (x<y)) (decide (y<x))=cmpI x y:=by
 unfold signV cmpI
 by_cases h1:x<y
 ·rw[decide_eq_true h1,if_pos rfl,if_pos h1]
 ·rw[decide_eq_false h1,if_neg Bool.false_ne_true,if_neg h1]
  by_cases h2:y<x
  ·rw[decide_eq_true h2,if_pos rfl,if_pos h2]
  ·rw[decide_eq_false h2,if_neg Bool.false_ne_true,if_neg h2]
theorem refOrder_rank (a b:Val) (sa sb:Value) (w:World) (hne:rankS a.kind≠rankS b.kind) :
    Calls Tryz.prog 116 #[.int .i64 1,.agg (cellsV a sa),.agg (cellsV b sb)] w (OrdIs a b w):=by
 have hr1:=hid (λW:World=>rank2_any a.kind W)
 have hr2:=hid (λW:World=>rank2_any b.kind W)
 have hv:=hid (show ordV a b=signV (decide (rankS a.kind<rankS b.kind)) true from by rw[ordV_rank hne,signV_lt _ _ hne])
 obtain⟨v,Hv⟩:=name_itV (ordV a b)
 have HE:=hid (show ∀w',Below w.heap.size w w'→OrdIs a b w (.returned (.int .i64 v)) w' from λw' hb=>⟨by rw[Hv.out],hb⟩)
 obtain⟨r1,H1⟩:=name_itV (rankS a.kind)
 obtain⟨r2,H2⟩:=name_itV (rankS b.kind)
 rw[Hv.out,H1.out,H2.out]at hv
 rw[H1.out]at hr1 hne
 rw[H2.out]at hr2 hne
 clear Hv H1 H2
 have hsg:=hid (λW:World=>(show Calls Tryz.prog 181 #[.bool (decide (r1<r2)),.bool true] W (λe w'=>e = .returned (.int .i64 v)∧w'=W) from by rw[hv.out];exact sign_any _ _ W))
 have hn:(r1 != r2)=true:=by simpa using hne
 clear hne hv
 cases a with
 | mk k1 b1 n1 t1 x1 l1=>
 cases b with
 | mk k2 b2 n2 t2 x2 l2=>
 unfold cellsV
 simp only[Val.kind,Val.truth,Val.num,Val.text,Val.extra]at hr1 hr2 ⊢
 go_enter Tryz.func116,Tryz.ntmps116
 obtain⟨z,Hz⟩:=name_itV w.heap.size
 obtain⟨w1,HW1⟩:=name_itV ((w.alloc (.cells #[.int .i64 k1,.bool b1,.int .i64 n1,.string t1,.string x1,sa] 39)).alloc (.cells #[.int .i64 k2,.bool b2,.int .i64 n2,.string t2,.string x2,sb] 39))
 have HB:=hid (show Below w.heap.size w w1 from by rw[←HW1.out];exact two_new w _ _)
 have HX:=hid (show w1.heap[z]?=some (.cells #[.int .i64 k1,.bool b1,.int .i64 n1,.string t1,.string x1,sa] 39 (0,0)) from by rw[←HW1.out,←Hz.out];exact heap_alloc2_old w _ _)
 have HY:=hid (show w1.heap[z+1]?=some (.cells #[.int .i64 k2,.bool b2,.int .i64 n2,.string t2,.string x2,sb] 39 (0,0)) from by rw[←HW1.out,←Hz.out];exact heap_alloc2_new w _ _)
 have p0:w1.cell? ⟨z,0,none⟩=some (.int .i64 k1):=cell_of_heap HX.out 0
 have q0:w1.cell? ⟨z+1,0,none⟩=some (.int .i64 k2):=cell_of_heap HY.out 0
 go_upto_region 1 with fail
 rw[HW1.out,Hz.out]
 clear HW1
 go_wp2_with fail
 refine (hr1.out w1).mono ?_
 rintro e w2 ⟨rfl,rfl⟩
 go_wp2_with fail
 refine (hr2.out _).mono ?_
 rintro e w3 ⟨rfl,rfl⟩
 go_wp2_with fail
 refine (hsg.out _).mono ?_
 rintro e w4 ⟨rfl,rfl⟩
 go_wp2_with fail
 go_ret
 exact HE.out _ HB.out
theorem refOrder_thing6 (a b:Val) (sa sb:Value) (w:World) (ha:a.kind=6) (hb:b.kind=6) :
    Calls Tryz.prog 116 #[.int .i64 1,.agg (cellsV a sa),.agg (cellsV b sb)] w (OrdIs a b w):=by
 have hr1:=hid (λW:World=>(show Calls Tryz.prog 180 #[.int .i64 1,.int .i64 6] W (λe w'=>e = .returned (.int .i64 2)∧w'=W) from rank2_any 6 W))
 have hv:=hid (show ordV a b=signV (decide (a.num<b.num)) (decide (b.num<a.num)) from by rw[ordV_thing (.inl ha) (hb.trans ha.symm),signV_int])
 obtain⟨v,Hv⟩:=name_itV (ordV a b)
 have HE:=hid (show ∀w',Below w.heap.size w w'→OrdIs a b w (.returned (.int .i64 v)) w' from λw' hb=>⟨by rw[Hv.out],hb⟩)
 rw[Hv.out]at hv
 have hsg:=hid (λW:World=>(show Calls Tryz.prog 181 #[.bool (decide (a.num<b.num)),.bool (decide (b.num<a.num))] W (λe w'=>e = .returned (.int .i64 v)∧w'=W) from by rw[hv.out];exact sign_any _ _ W))
 clear Hv hv
 cases a with
 | mk k1 b1 n1 t1 x1 l1=>
 cases b with
 | mk k2 b2 n2 t2 x2 l2=>
 simp only[Val.kind]at ha hb
 subst ha
 subst hb
 unfold cellsV
 simp only[Val.kind,Val.truth,Val.num,Val.text,Val.extra]at hsg ⊢
 obtain⟨z,Hz⟩:=name_itV w.heap.size
 obtain⟨w1,HW1⟩:=name_itV ((w.alloc (.cells #[.int .i64 6,.bool b1,.int .i64 n1,.string t1,.string x1,sa] 39)).alloc (.cells #[.int .i64 6,.bool b2,.int .i64 n2,.string t2,.string x2,sb] 39))
 have HB:=hid (show Below w.heap.size w w1 from by rw[←HW1.out];exact two_new w _ _)
 have HX:=hid (show w1.heap[z]?=some (.cells #[.int .i64 6,.bool b1,.int .i64 n1,.string t1,.string x1,sa] 39 (0,0)) from by rw[←HW1.out,←Hz.out];exact heap_alloc2_old w _ _)
 have HY:=hid (show w1.heap[z+1]?=some (.cells #[.int .i64 6,.bool b2,.int .i64 n2,.string t2,.string x2,sb] 39 (0,0)) from by rw[←HW1.out,←Hz.out];exact heap_alloc2_new w _ _)
 have p0:w1.cell? ⟨z,0,none⟩=some (.int .i64 6):=cell_of_heap HX.out 0
 have q0:w1.cell? ⟨z+1,0,none⟩=some (.int .i64 6):=cell_of_heap HY.out 0
 have p2:w1.cell? ⟨z,2,none⟩=some (.int .i64 n1):=cell_of_heap HX.out 2
 have q2:w1.cell? ⟨z+1,2,none⟩=some (.int .i64 n2):=cell_of_heap HY.out 2
 go_enter Tryz.func116,Tryz.ntmps116
 go_upto_region 1 with fail
 rw[HW1.out,Hz.out]
 clear HW1
 go_wp2_with fail
 refine (hr1.out w1).mono ?_
 rintro e w2 ⟨rfl,rfl⟩
 go_wp2_with fail
 refine (hr1.out _).mono ?_
 rintro e w3 ⟨rfl,rfl⟩
 go_wp2_with fail
 refine (hsg.out _).mono ?_
 rintro e w4 ⟨rfl,rfl⟩
 go_wp2_with fail
 go_ret
 exact HE.out _ HB.out
theorem refOrder_thing7 (a b:Val) (sa sb:Value) (w:World) (ha:a.kind=7) (hb:b.kind=7) :
    Calls Tryz.prog 116 #[.int .i64 1,.agg (cellsV a sa),.agg (cellsV b sb)] w (OrdIs a b w):=by
 have hr1:=hid (λW:World=>(show Calls Tryz.prog 180 #[.int .i64 1,.int .i64 7] W (λe w'=>e = .returned (.int .i64 3)∧w'=W) from rank2_any 7 W))
 have hv:=hid (show ordV a b=signV (decide (a.num<b.num)) (decide (b.num<a.num)) from by rw[ordV_thing (.inr ha) (hb.trans ha.symm),signV_int])
 obtain⟨v,Hv⟩:=name_itV (ordV a b)
 have HE:=hid (show ∀w',Below w.heap.size w w'→OrdIs a b w (.returned (.int .i64 v)) w' from λw' hb=>⟨by rw[Hv.out],hb⟩)
 rw[Hv.out]at hv
 have hsg:=hid (λW:World=>(show Calls Tryz.prog 181 #[.bool (decide (a.num<b.num)),.bool (decide (b.num<a.num))] W (λe w'=>e = .returned (.int .i64 v)∧w'=W) from by rw[hv.out];exact sign_any _ _ W))
 clear Hv hv
 cases a with
 | mk k1 b1 n1 t1 x1 l1=>
 cases b with
 | mk k2 b2 n2 t2 x2 l2=>
 simp only[Val.kind]at ha hb
 subst ha
 subst hb
 unfold cellsV
 simp only[Val.kind,Val.truth,Val.num,Val.text,Val.extra]at hsg ⊢
 obtain⟨z,Hz⟩:=name_itV w.heap.size
 obtain⟨w1,HW1⟩:=name_itV ((w.alloc (.cells #[.int .i64 7,.bool b1,.int .i64 n1,.string t1,.string x1,sa] 39)).alloc (.cells #[.int .i64 7,.bool b2,.int .i64 n2,.string t2,.string x2,sb] 39))
 have HB:=hid (show Below w.heap.size w w1 from by rw[←HW1.out];exact two_new w _ _)
 have HX:=hid (show w1.heap[z]?=some (.cells #[.int .i64 7,.bool b1,.int .i64 n1,.string t1,.string x1,sa] 39 (0,0)) from by rw[←HW1.out,←Hz.out];exact heap_alloc2_old w _ _)
 have HY:=hid (show w1.heap[z+1]?=some (.cells #[.int .i64 7,.bool b2,.int .i64 n2,.string t2,.string x2,sb] 39 (0,0)) from by rw[←HW1.out,←Hz.out];exact heap_alloc2_new w _ _)
 have p0:w1.cell? ⟨z,0,none⟩=some (.int .i64 7):=cell_of_heap HX.out 0
 have q0:w1.cell? ⟨z+1,0,none⟩=some (.int .i64 7):=cell_of_heap HY.out 0
 have p2:w1.cell? ⟨z,2,none⟩=some (.int .i64 n1):=cell_of_heap HX.out 2
 have q2:w1.cell? ⟨z+1,2,none⟩=some (.int .i64 n2):=cell_of_heap HY.out 2
 go_enter Tryz.func116,Tryz.ntmps116
 go_upto_region 1 with fail
 rw[HW1.out,Hz.out]
 clear HW1
 go_wp2_with fail
 refine (hr1.out w1).mono ?_
 rintro e w2 ⟨rfl,rfl⟩
 go_wp2_with fail
 refine (hr1.out _).mono ?_
 rintro e w3 ⟨rfl,rfl⟩
 go_wp2_with fail
 refine (hsg.out _).mono ?_
 rintro e w4 ⟨rfl,rfl⟩
 go_wp2_with fail
 go_ret
 exact HE.out _ HB.out
theorem refOrder_bool (a b:Val) (sa sb:Value) (w:World) (ha:a.kind=1) (hb:b.kind=1) :
    Calls Tryz.prog 116 #[.int .i64 1,.agg (cellsV a sa),.agg (cellsV b sb)] w (OrdIs a b w):=by
 have hr1:=hid (λW:World=>(show Calls Tryz.prog 180 #[.int .i64 1,.int .i64 1] W (λe w'=>e = .returned (.int .i64 8)∧w'=W) from rank2_any 1 W))
 have hv:=hid (show ordV a b=signV (!a.truth&&b.truth) (a.truth && !b.truth) from by
  rw[ordV_bool ha hb]
  cases a.truth<;>cases b.truth<;>rfl)
 obtain⟨v,Hv⟩:=name_itV (ordV a b)
 have HE:=hid (show ∀w',Below w.heap.size w w'→OrdIs a b w (.returned (.int .i64 v)) w' from λw' hb=>⟨by rw[Hv.out],hb⟩)
 rw[Hv.out]at hv
 have hsg:=hid (λW:World=>(show Calls Tryz.prog 181 #[.bool (!a.truth&&b.truth),.bool (a.truth && !b.truth)] W (λe w'=>e = .returned (.int .i64 v)∧w'=W) from by rw[hv.out];exact sign_any _ _ W))
 clear Hv hv
 cases a with
 | mk k1 b1 n1 t1 x1 l1=>
 cases b with
 | mk k2 b2 n2 t2 x2 l2=>
 simp only[Val.kind]at ha hb
 subst ha
 subst hb
 unfold cellsV
 simp only[Val.kind,Val.truth,Val.num,Val.text,Val.extra]at hsg ⊢
 obtain⟨z,Hz⟩:=name_itV w.heap.size
 obtain⟨w1,HW1⟩:=name_itV ((w.alloc (.cells #[.int .i64 1,.bool b1,.int .i64 n1,.string t1,.string x1,sa] 39)).alloc (.cells #[.int .i64 1,.bool b2,.int .i64 n2,.string t2,.string x2,sb] 39))
 have HB:=hid (show Below w.heap.size w w1 from by rw[←HW1.out];exact two_new w _ _)
 have HX:=hid (show w1.heap[z]?=some (.cells #[.int .i64 1,.bool b1,.int .i64 n1,.string t1,.string x1,sa] 39 (0,0)) from by rw[←HW1.out,←Hz.out];exact heap_alloc2_old w _ _)
 have HY:=hid (show w1.heap[z+1]?=some (.cells #[.int .i64 1,.bool b2,.int .i64 n2,.string t2,.string x2,sb] 39 (0,0)) from by rw[←HW1.out,←Hz.out];exact heap_alloc2_new w _ _)
 have p0:w1.cell? ⟨z,0,none⟩=some (.int .i64 1):=cell_of_heap HX.out 0
 have q0:w1.cell? ⟨z+1,0,none⟩=some (.int .i64 1):=cell_of_heap HY.out 0
 have p1:w1.cell? ⟨z,1,none⟩=some (.bool b1):=cell_of_heap HX.out 1
 have q1:w1.cell? ⟨z+1,1,none⟩=some (.bool b2):=cell_of_heap HY.out 1
 clear HX HY
 go_enter Tryz.func116,Tryz.ntmps116
 go_upto_region 1 with fail
 rw[HW1.out,Hz.out]
 clear HW1
 go_wp2_with fail
 refine (hr1.out w1).mono ?_
 rintro e w2 ⟨rfl,rfl⟩
 go_wp2_with fail
 refine (hr1.out _).mono ?_
 rintro e w3 ⟨rfl,rfl⟩
 cases b1<;>cases b2
 all_goals
  go_wp2_with fail
  refine (hsg.out _).mono ?_
  rintro e w4 ⟨rfl,rfl⟩
  go_wp2_with fail
  go_ret
  exact HE.out _ HB.out
theorem rank_bare {k:Int} (h:bareK k=false) (h3:k≠3):rankS k≠9∧rankS k≠1∧rankS k≠2∧rankS k≠3∧rankS k≠8:=by
 unfold bareK at h
 have hk:=of_decide_eq_false h
 rcases rank_inv k with h1 | h1 | h1
 ·omega
 ·rw[h1];decide
 ·refine⟨h1.1,?_,?_,?_,?_⟩<;>(intro e;rw[e]at h1;have:=h1.2.2;revert this;unfold kindR;simp;omega)
theorem sign_text (x y:ByteArray):signV (Op.bytesLess x.toList y.toList) (!Op.bytesLess x.toList y.toList && !x.toList==y.toList)=cmpS x.data.toList y.data.toList:=by
 rw[ByteArray.toList_eq,ByteArray.toList_eq]
 unfold cmpS signV
 cases h1:Op.bytesLess x.data.toList y.data.toList with
 | true=>rfl
 | false=>
  by_cases h2:x.data.toList=y.data.toList
  ·rw[h2,less_irr]
   simp
  ·have h3:Op.bytesLess y.data.toList x.data.toList=true:=by
     cases h4:Op.bytesLess y.data.toList x.data.toList with
     | true=>rfl
     | false=>exact absurd (less_total _ _ h1 h4) h2
   have h5:(x.data.toList==y.data.toList)=false:=beq_eq_false_iff_ne.2 h2
   rw[h3,h5]
   rfl
theorem ord_text2 {a b:Val} (h:rankS a.kind=rankS b.kind) (ha:bareK a.kind=false) (ha3:a.kind≠3) (ht:a.text=b.text):ordV a b=signV (Op.bytesLess a.extra.toList b.extra.toList) (!Op.bytesLess a.extra.toList b.extra.toList && !a.extra.toList==b.extra.toList):=by
 rw[ordV_text h ha ha3,ht,cmpS_self,thenC_zero,sign_text]
theorem ord_text1 {a b:Val} (h:rankS a.kind=rankS b.kind) (ha:bareK a.kind=false) (ha3:a.kind≠3) (ht:a.text≠b.text):ordV a b=signV (Op.bytesLess a.text.toList b.text.toList) true:=by
 have hne:cmpS a.text.data.toList b.text.data.toList≠0:=λe=>ht (bytes_eq ((cmpS_lin.eqv _ _).1 e))
 rw[ordV_text h ha ha3,thenC_ne hne,ByteArray.toList_eq,ByteArray.toList_eq]
 unfold cmpS at hne ⊢
 unfold signV
 by_cases h1:Op.bytesLess a.text.data.toList b.text.data.toList=true
 ·rw[if_pos h1,if_pos h1]
 ·rw[if_neg h1]at hne ⊢
  rw[if_neg h1,if_pos rfl]
  by_cases h2:Op.bytesLess b.text.data.toList a.text.data.toList=true
  ·rw[if_pos h2]
  ·rw[if_neg h2]at hne;exact absurd rfl hne
theorem refOrder_text1 (a b:Val) (sa sb:Value) (w:World) (h:rankS a.kind=rankS b.kind) (ha:bareK a.kind=false) (ha3:a.kind≠3) (ht:a.text≠b.text) :
    Calls Tryz.prog 116 #[.int .i64 1,.agg (cellsV a sa),.agg (cellsV b sb)] w (OrdIs a b w):=by
 have hr1:=hid (λW:World=>rank2_any a.kind W)
 have hr2:=hid (λW:World=>rank2_any b.kind W)
 obtain⟨v,Hv⟩:=name_itV (ordV a b)
 have HE:=hid (show ∀w',Below w.heap.size w w'→OrdIs a b w (.returned (.int .i64 v)) w' from λw' hb=>⟨by rw[Hv.out],hb⟩)
 have hrk:=hid (show rankS a.kind≠9∧rankS a.kind≠1∧rankS a.kind≠2∧rankS a.kind≠3∧rankS a.kind≠8 from rank_bare ha ha3)
 rw[←h]at hr2
 obtain⟨r,Hr⟩:=name_itV (rankS a.kind)
 rw[Hr.out]at hr1 hr2 hrk
 have r9:(r==9)=false:=by simpa using hrk.out.1
 have r1:(r==1)=false:=by simpa using hrk.out.2.1
 have r2:(r==2)=false:=by simpa using hrk.out.2.2.1
 have r3:(r==3)=false:=by simpa using hrk.out.2.2.2.1
 have r8:(r==8)=false:=by simpa using hrk.out.2.2.2.2
 clear Hr
 have hte:=strV_ne ht
 have hv:=hid (show ordV a b=signV (Op.bytesLess a.text.toList b.text.toList) true from ord_text1 h ha ha3 ht)
 rw[Hv.out]at hv
 have hsg:=hid (λW:World=>(show Calls Tryz.prog 181 #[.bool (Op.bytesLess a.text.toList b.text.toList),.bool true] W (λe w'=>e = .returned (.int .i64 v)∧w'=W) from by rw[hv.out];exact sign_any _ _ W))
 clear ht Hv hv h ha ha3
 cases a with
 | mk k1 b1 n1 t1 x1 l1=>
 cases b with
 | mk k2 b2 n2 t2 x2 l2=>
 unfold cellsV
 simp only[Val.kind,Val.truth,Val.num,Val.text,Val.extra]at hr1 hr2 hte hsg ⊢
 obtain⟨z,Hz⟩:=name_itV w.heap.size
 obtain⟨w1,HW1⟩:=name_itV ((w.alloc (.cells #[.int .i64 k1,.bool b1,.int .i64 n1,.string t1,.string x1,sa] 39)).alloc (.cells #[.int .i64 k2,.bool b2,.int .i64 n2,.string t2,.string x2,sb] 39))
 have HB:=hid (show Below w.heap.size w w1 from by rw[←HW1.out];exact two_new w _ _)
 have HX:=hid (show w1.heap[z]?=some (.cells #[.int .i64 k1,.bool b1,.int .i64 n1,.string t1,.string x1,sa] 39 (0,0)) from by rw[←HW1.out,←Hz.out];exact heap_alloc2_old w _ _)
 have HY:=hid (show w1.heap[z+1]?=some (.cells #[.int .i64 k2,.bool b2,.int .i64 n2,.string t2,.string x2,sb] 39 (0,0)) from by rw[←HW1.out,←Hz.out];exact heap_alloc2_new w _ _)
 have p0:w1.cell? ⟨z,0,none⟩=some (.int .i64 k1):=cell_of_heap HX.out 0
 have q0:w1.cell? ⟨z+1,0,none⟩=some (.int .i64 k2):=cell_of_heap HY.out 0
 have p3:w1.cell? ⟨z,3,none⟩=some (.string t1):=cell_of_heap HX.out 3
 have q3:w1.cell? ⟨z+1,3,none⟩=some (.string t2):=cell_of_heap HY.out 3
 have p4:w1.cell? ⟨z,4,none⟩=some (.string x1):=cell_of_heap HX.out 4
 have q4:w1.cell? ⟨z+1,4,none⟩=some (.string x2):=cell_of_heap HY.out 4
 go_enter Tryz.func116,Tryz.ntmps116
 go_upto_region 1 with fail
 rw[HW1.out,Hz.out]
 clear HW1
 go_wp2_with fail
 refine (hr1.out w1).mono ?_
 rintro e w2 ⟨rfl,rfl⟩
 go_wp2_with fail
 refine (hr2.out _).mono ?_
 rintro e w3 ⟨rfl,rfl⟩
 go_wp2_with fail
 refine (hsg.out _).mono ?_
 rintro e w4 ⟨rfl,rfl⟩
 go_wp2_with fail
 go_ret
 exact HE.out _ HB.out
theorem refOrder_text2 (a b:Val) (sa sb:Value) (w:World) (h:rankS a.kind=rankS b.kind) (ha:bareK a.kind=false) (ha3:a.kind≠3) (ht:a.text=b.text) :
    Calls Tryz.prog 116 #[.int .i64 1,.agg (cellsV a sa),.agg (cellsV b sb)] w (OrdIs a b w):=by
 have hr1:=hid (λW:World=>rank2_any a.kind W)
 have hr2:=hid (λW:World=>rank2_any b.kind W)
 obtain⟨v,Hv⟩:=name_itV (ordV a b)
 have HE:=hid (show ∀w',Below w.heap.size w w'→OrdIs a b w (.returned (.int .i64 v)) w' from λw' hb=>⟨by rw[Hv.out],hb⟩)
 have hrk:=hid (show rankS a.kind≠9∧rankS a.kind≠1∧rankS a.kind≠2∧rankS a.kind≠3∧rankS a.kind≠8 from rank_bare ha ha3)
 rw[←h]at hr2
 obtain⟨r,Hr⟩:=name_itV (rankS a.kind)
 rw[Hr.out]at hr1 hr2 hrk
 have r9:(r==9)=false:=by simpa using hrk.out.1
 have r1:(r==1)=false:=by simpa using hrk.out.2.1
 have r2:(r==2)=false:=by simpa using hrk.out.2.2.1
 have r3:(r==3)=false:=by simpa using hrk.out.2.2.2.1
 have r8:(r==8)=false:=by simpa using hrk.out.2.2.2.2
 clear Hr
 have hv:=hid (show ordV a b=signV (Op.bytesLess a.extra.toList b.extra.toList) (!Op.bytesLess a.extra.toList b.extra.toList && !a.extra.toList==b.extra.toList) from ord_text2 h ha ha3 ht)
 rw[Hv.out]at hv
 have hsg:=hid (λW:World=>(show Calls Tryz.prog 181 #[.bool (Op.bytesLess a.extra.toList b.extra.toList),.bool (!Op.bytesLess a.extra.toList b.extra.toList && !a.extra.toList==b.extra.toList)] W (λe w'=>e = .returned (.int .i64 v)∧w'=W) from by rw[hv.out];exact sign_any _ _ W))
 clear Hv hv h ha ha3
 cases a with
 | mk k1 b1 n1 t1 x1 l1=>
 cases b with
 | mk k2 b2 n2 t2 x2 l2=>
 unfold cellsV
 simp only[Val.kind,Val.truth,Val.num,Val.text,Val.extra]at hr1 hr2 ht hsg ⊢
 subst ht
 obtain⟨z,Hz⟩:=name_itV w.heap.size
 obtain⟨w1,HW1⟩:=name_itV ((w.alloc (.cells #[.int .i64 k1,.bool b1,.int .i64 n1,.string t1,.string x1,sa] 39)).alloc (.cells #[.int .i64 k2,.bool b2,.int .i64 n2,.string t1,.string x2,sb] 39))
 have HB:=hid (show Below w.heap.size w w1 from by rw[←HW1.out];exact two_new w _ _)
 have HX:=hid (show w1.heap[z]?=some (.cells #[.int .i64 k1,.bool b1,.int .i64 n1,.string t1,.string x1,sa] 39 (0,0)) from by rw[←HW1.out,←Hz.out];exact heap_alloc2_old w _ _)
 have HY:=hid (show w1.heap[z+1]?=some (.cells #[.int .i64 k2,.bool b2,.int .i64 n2,.string t1,.string x2,sb] 39 (0,0)) from by rw[←HW1.out,←Hz.out];exact heap_alloc2_new w _ _)
 have p0:w1.cell? ⟨z,0,none⟩=some (.int .i64 k1):=cell_of_heap HX.out 0
 have q0:w1.cell? ⟨z+1,0,none⟩=some (.int .i64 k2):=cell_of_heap HY.out 0
 have p3:w1.cell? ⟨z,3,none⟩=some (.string t1):=cell_of_heap HX.out 3
 have q3:w1.cell? ⟨z+1,3,none⟩=some (.string t1):=cell_of_heap HY.out 3
 have p4:w1.cell? ⟨z,4,none⟩=some (.string x1):=cell_of_heap HX.out 4
 have q4:w1.cell? ⟨z+1,4,none⟩=some (.string x2):=cell_of_heap HY.out 4
 go_enter Tryz.func116,Tryz.ntmps116
 go_upto_region 1 with fail
 rw[HW1.out,Hz.out]
 clear HW1
 go_wp2_with fail
 refine (hr1.out w1).mono ?_
 rintro e w2 ⟨rfl,rfl⟩
 go_wp2_with fail
 refine (hr2.out _).mono ?_
 rintro e w3 ⟨rfl,rfl⟩
 go_wp2_with fail
 refine (hsg.out _).mono ?_
 rintro e w4 ⟨rfl,rfl⟩
 go_wp2_with fail
 go_ret
 exact HE.out _ HB.out
end Go.Proofs.YtefhfadjajcmkaaGreatDoor
namespace Go.Proofs.YtefhfadjajcmkaaGreatDoor
open Go
open Go.Lib (hid cell_of_heap)
theorem decB_zeroT:decB zeroT=true:=by
 have h:zeroT=ofIntT 0:=by
  unfold zeroT ofIntT Lib.itoa
  rw[if_neg (by decide),show (0:Int).toNat=0 from rfl,Lib.decDigits_one (by decide)]
  rfl
 rw[h]
 exact decB_ofInt (by decide) (by decide)
theorem decB_exact {v:Val} (h0:-9223372036854775808≤v.num) (h1:v.num≤9223372036854775807):decB (exactT v)=true:=by
 unfold exactT
 by_cases hk:v.kind=2
 ·rw[if_pos hk];exact decB_ofInt h0 h1
 ·rw[if_neg hk]
  by_cases hd:decB v.text=true
  ·rw[if_pos hd];exact hd
  ·rw[if_neg hd];exact decB_zeroT
end Go.Proofs.YtefhfadjajcmkaaGreatDoor
namespace Go.Proofs.YtefhfadjajcmkaaGreatDoor
open Go Go.RowKit
open Go.Lib (hid cell_of_heap)
structure Eq6 (c:Array Value) (v:Val) (s:Value):Prop where
 out:cellsV v s=c
theorem name6 (v:Val) (s:Value):∃c,Eq6 c v s:=⟨_,⟨rfl⟩⟩
theorem Eq6.size {c:Array Value} {v:Val} {s:Value} (h:Eq6 c v s):c.size=6:=by rw[←h.out];rfl
theorem refOrder_22 (a b:Val) (sa sb:Value) (w:World) (ha:a.kind=2) (hb:b.kind=2) (ha0:-9223372036854775808≤a.num) (ha1:a.num≤9223372036854775807) (hb0:-9223372036854775808≤b.num) (hb1:b.num≤9223372036854775807) (hta:a.text.size≤4000000000000) (htb:b.text.size≤4000000000000) :
    Calls Tryz.prog 116 #[.int .i64 1,.agg (cellsV a sa),.agg (cellsV b sb)] w (OrdIs a b w):=by
 have hr1:=hid (λW:World=>(show Calls Tryz.prog 180 #[.int .i64 1,.int .i64 2] W (λe w'=>e = .returned (.int .i64 9)∧w'=W) from rank2_any 2 W))
 have hd1:=hid (λW:World=>dec2_any a sa ha0 ha1 hta W)
 have hd2:=hid (λW:World=>dec2_any b sb hb0 hb1 htb W)
 have hcm:=hid (λW:World=>refCompareD_any (exactT a) (exactT b) (decB_exact ha0 ha1) (decB_exact hb0 hb1) W)
 obtain⟨X1,HX1⟩:=name_itV (exactT a)
 obtain⟨X2,HX2⟩:=name_itV (exactT b)
 have hd1:=hid (λW:World=>(hd1.out W).mono λe w' (h:DecIs a W e w')=>(show e = .returned (.string X1)∧Below W.heap.size W w' from by rw[←HX1.out];exact h))
 have hd2:=hid (λW:World=>(hd2.out W).mono λe w' (h:DecIs b W e w')=>(show e = .returned (.string X2)∧Below W.heap.size W w' from by rw[←HX2.out];exact h))
 have HV:=hid (show ordV a b=cmpD (exactT a) (exactT b) from by rw[ordV_num (.inl ha) (.inl hb),ha,hb,cmpI_self,if_neg (by decide),thenC_zero,thenC_zr])
 rw[HX1.out,HX2.out]at hcm HV
 have hk1:(cellsV a sa)[0]?=some (.int .i64 2):=by rw[←ha];rfl
 have hk2:(cellsV b sb)[0]?=some (.int .i64 2):=by rw[←hb];rfl
 obtain⟨c1,Hc1⟩:=name6 a sa
 obtain⟨c2,Hc2⟩:=name6 b sb
 rw[Hc1.out]at hd1 hk1 ⊢
 rw[Hc2.out]at hd2 hk2 ⊢
 have Q1:=hid Hc1.size
 have Q2:=hid Hc2.size
 obtain⟨z,Hz⟩:=name_itV w.heap.size
 obtain⟨w1,HW1⟩:=name_itV ((w.alloc (.cells c1 39)).alloc (.cells c2 39))
 have HB:=hid (show Below w.heap.size w w1 from by rw[←HW1.out];exact two_new w _ _)
 have HX:=hid (show w1.heap[z]?=some (.cells c1 39 (0,0)) from by rw[←HW1.out,←Hz.out];exact heap_alloc2_old w _ _)
 have HY:=hid (show w1.heap[z+1]?=some (.cells c2 39 (0,0)) from by rw[←HW1.out,←Hz.out];exact heap_alloc2_new w _ _)
 have p0:w1.cell? ⟨z,0,none⟩=some (.int .i64 2):=(cell_of_row _ _ _ _ _ _ HX.out).trans hk1
 have q0:w1.cell? ⟨z+1,0,none⟩=some (.int .i64 2):=(cell_of_row _ _ _ _ _ _ HY.out).trans hk2
 have HK1:=hid hk1
 have HK2:=hid hk2
 clear p0 q0
 have p0:w1.cell? ⟨z,0,none⟩=some (.int .i64 2):=(cell_of_row _ _ _ _ _ _ HX.out).trans hk1
 have q0:w1.cell? ⟨z+1,0,none⟩=some (.int .i64 2):=(cell_of_row _ _ _ _ _ _ HY.out).trans hk2
 clear hk1 hk2 ha hb ha0 ha1 hb0 hb1 hta htb
 go_enter Tryz.func116,Tryz.ntmps116
 go_upto_region 1 with fail
 rw[HW1.out,Hz.out]
 clear HW1
 go_wp2_with fail
 refine (hr1.out w1).mono ?_
 rintro e w2 ⟨rfl,rfl⟩
 go_wp2_with fail
 refine (hr1.out _).mono ?_
 rintro e w3 ⟨rfl,rfl⟩
 go_upto_region 7 with fail
 have s1:=hid (show w3.drew.heap[z]?=some (.cells c1 39 (0,0))∧w3.drew.heap[z+1]?=some (.cells c2 39 (0,0)) from ⟨HX.out,HY.out⟩)
 refine wp_region_held_drew (S:=λW'=>W'.heap[z]?=some (.cells c1 39 (0,0))∧W'.heap[z+1]?=some (.cells c2 39 (0,0))) (by kernel_rfl) s1.out (λhH=>?_)
 refine Boxed.out ?_
 refine tkW 0 28 (.agg c1) hH (λw hSw=>?_) (λhH=>?_)
 ·exact val_of (ld_run hSw.1 39 _ Tryz.underlying39 rfl (by rw[Q1.out];kernel_rfl))
 simp only[Act.put,aT,aZ,aS]
 refine tkW 2 30 (.agg c2) hH (λw hSw=>?_) (λhH=>?_)
 ·exact val_of (ld_run hSw.2 39 _ Tryz.underlying39 rfl (by rw[Q2.out];kernel_rfl))
 simp only[Act.put,aT,aZ,aS]
 refine tkC 1 (λK hK=>?_)
 change Oper.wp _ ⟨some 29,_,_,_,_,_⟩ _ _ _ _
 go_simp
 refine (hd1.out w3.drew).mono ?_
 rintro e w4 ⟨rfl,hb4⟩
 have HB4:=hid (show Below w3.heap.size w3 w4 from below_of_dr hb4)
 have HS4:=hid (show w4.heap[z]?=some (.cells c1 39 (0,0))∧w4.heap[z+1]?=some (.cells c2 39 (0,0)) from ⟨(HB4.out.block z (blk_lt HX.out)).trans HX.out,(HB4.out.block (z+1) (blk_lt HY.out)).trans HY.out⟩)
 clear hb4
 dsimp only
 refine hK.out _ _ HS4.out (λhH=>?_)
 clear hK K
 try simp only[Act.put,aT,aZ,aS]
 refine tkC 3 (λK hK=>?_)
 change Oper.wp _ ⟨some 31,_,_,_,_,_⟩ _ _ _ _
 go_simp
 refine (hd2.out w4).mono ?_
 rintro e w5 ⟨rfl,hb5⟩
 have HB5:=hid (HB4.out.trans (hb5.mono HB4.out.size))
 have HS5:=hid (show w5.heap[z]?=some (.cells c1 39 (0,0))∧w5.heap[z+1]?=some (.cells c2 39 (0,0)) from ⟨(HB5.out.block z (blk_lt HX.out)).trans HX.out,(HB5.out.block (z+1) (blk_lt HY.out)).trans HY.out⟩)
 clear hb5
 dsimp only
 refine hK.out _ _ HS5.out (λhH=>?_)
 clear hK K
 try simp only[Act.put,aT,aZ,aS]
 refine tkC 4 (λK hK=>?_)
 change Oper.wp _ ⟨some 32,_,_,_,_,_⟩ _ _ _ _
 go_simp
 refine (hcm.out w5).mono ?_
 rintro e w6 ⟨rfl,hb6⟩
 have HB6:=hid (HB5.out.trans (hb6.mono HB5.out.size))
 have HS6:=hid (show w6.heap[z]?=some (.cells c1 39 (0,0))∧w6.heap[z+1]?=some (.cells c2 39 (0,0)) from ⟨(HB6.out.block z (blk_lt HX.out)).trans HX.out,(HB6.out.block (z+1) (blk_lt HY.out)).trans HY.out⟩)
 clear hb6
 obtain⟨c,Hc⟩:=name_itV (cmpD X1 X2)
 rw[Hc.out]
 dsimp only
 refine hK.out _ _ HS6.out (λhH=>?_)
 clear hK K
 try simp only[Act.put,aT,aZ,aS]
 refine tkV 5 9 (.int .i64 c) hH (λhH=>?_)
 simp only[Act.put,aT,aZ,aS]
 refine⟨wpAnyH_done (by kernel_rfl) ?_ _⟩
 clear hH
 have p0:w6.cell? ⟨z,0,none⟩=some (.int .i64 2):=(cell_of_row _ _ _ _ _ _ HS6.out.1).trans HK1.out
 have q0:w6.cell? ⟨z+1,0,none⟩=some (.int .i64 2):=(cell_of_row _ _ _ _ _ _ HS6.out.2).trans HK2.out
 have HB7:=hid (HB.out.trans (HB6.out.mono HB.out.size))
 rw[Hc.out]at HV
 have hsg:=hid (λW:World=>sign_any false false W)
 clear Hc
 by_cases hc:c=0
 ·subst hc
  have hv:=hid (show ordV a b=0 from HV.out)
  go_wp2_with fail
  refine (hsg.out _).mono ?_
  rintro e w7 ⟨rfl,rfl⟩
  go_wp2_with fail
  go_ret
  exact⟨by rw[hv.out];rfl,HB7.out⟩
 ·have e1:(c==0)=false:=by simpa using hc
  have hv:=hid (show ordV a b=c from HV.out)
  clear hc
  go_wp2_with fail
  go_ret
  exact⟨by rw[hv.out];rfl,HB7.out⟩
theorem refOrder_23 (a b:Val) (sa sb:Value) (w:World) (ha:a.kind=2) (hb:b.kind=3) (ha0:-9223372036854775808≤a.num) (ha1:a.num≤9223372036854775807) (hb0:-9223372036854775808≤b.num) (hb1:b.num≤9223372036854775807) (hta:a.text.size≤4000000000000) (htb:b.text.size≤4000000000000) :
    Calls Tryz.prog 116 #[.int .i64 1,.agg (cellsV a sa),.agg (cellsV b sb)] w (OrdIs a b w):=by
 have hr1:=hid (λW:World=>(show Calls Tryz.prog 180 #[.int .i64 1,.int .i64 2] W (λe w'=>e = .returned (.int .i64 9)∧w'=W) from rank2_any 2 W))
 have hr2:=hid (λW:World=>(show Calls Tryz.prog 180 #[.int .i64 1,.int .i64 3] W (λe w'=>e = .returned (.int .i64 9)∧w'=W) from rank2_any 3 W))
 have hd1:=hid (λW:World=>dec2_any a sa ha0 ha1 hta W)
 have hd2:=hid (λW:World=>dec2_any b sb hb0 hb1 htb W)
 have hcm:=hid (λW:World=>refCompareD_any (exactT a) (exactT b) (decB_exact ha0 ha1) (decB_exact hb0 hb1) W)
 obtain⟨X1,HX1⟩:=name_itV (exactT a)
 obtain⟨X2,HX2⟩:=name_itV (exactT b)
 have hd1:=hid (λW:World=>(hd1.out W).mono λe w' (h:DecIs a W e w')=>(show e = .returned (.string X1)∧Below W.heap.size W w' from by rw[←HX1.out];exact h))
 have hd2:=hid (λW:World=>(hd2.out W).mono λe w' (h:DecIs b W e w')=>(show e = .returned (.string X2)∧Below W.heap.size W w' from by rw[←HX2.out];exact h))
 have HV:=hid (show ordV a b=thenC (cmpD (exactT a) (exactT b)) (-1) from by rw[ordV_num (.inl ha) (.inr hb),ha,hb];rfl)
 rw[HX1.out,HX2.out]at hcm HV
 have hk1:(cellsV a sa)[0]?=some (.int .i64 2):=by rw[←ha];rfl
 have hk2:(cellsV b sb)[0]?=some (.int .i64 3):=by rw[←hb];rfl
 obtain⟨c1,Hc1⟩:=name6 a sa
 obtain⟨c2,Hc2⟩:=name6 b sb
 rw[Hc1.out]at hd1 hk1 ⊢
 rw[Hc2.out]at hd2 hk2 ⊢
 have Q1:=hid Hc1.size
 have Q2:=hid Hc2.size
 obtain⟨z,Hz⟩:=name_itV w.heap.size
 obtain⟨w1,HW1⟩:=name_itV ((w.alloc (.cells c1 39)).alloc (.cells c2 39))
 have HB:=hid (show Below w.heap.size w w1 from by rw[←HW1.out];exact two_new w _ _)
 have HX:=hid (show w1.heap[z]?=some (.cells c1 39 (0,0)) from by rw[←HW1.out,←Hz.out];exact heap_alloc2_old w _ _)
 have HY:=hid (show w1.heap[z+1]?=some (.cells c2 39 (0,0)) from by rw[←HW1.out,←Hz.out];exact heap_alloc2_new w _ _)
 have p0:w1.cell? ⟨z,0,none⟩=some (.int .i64 2):=(cell_of_row _ _ _ _ _ _ HX.out).trans hk1
 have q0:w1.cell? ⟨z+1,0,none⟩=some (.int .i64 3):=(cell_of_row _ _ _ _ _ _ HY.out).trans hk2
 have HK1:=hid hk1
 have HK2:=hid hk2
 clear p0 q0
 have p0:w1.cell? ⟨z,0,none⟩=some (.int .i64 2):=(cell_of_row _ _ _ _ _ _ HX.out).trans hk1
 have q0:w1.cell? ⟨z+1,0,none⟩=some (.int .i64 3):=(cell_of_row _ _ _ _ _ _ HY.out).trans hk2
 clear hk1 hk2 ha hb ha0 ha1 hb0 hb1 hta htb
 go_enter Tryz.func116,Tryz.ntmps116
 go_upto_region 1 with fail
 rw[HW1.out,Hz.out]
 clear HW1
 go_wp2_with fail
 refine (hr1.out w1).mono ?_
 rintro e w2 ⟨rfl,rfl⟩
 go_wp2_with fail
 refine (hr2.out _).mono ?_
 rintro e w3 ⟨rfl,rfl⟩
 go_upto_region 7 with fail
 have s1:=hid (show w3.drew.heap[z]?=some (.cells c1 39 (0,0))∧w3.drew.heap[z+1]?=some (.cells c2 39 (0,0)) from ⟨HX.out,HY.out⟩)
 refine wp_region_held_drew (S:=λW'=>W'.heap[z]?=some (.cells c1 39 (0,0))∧W'.heap[z+1]?=some (.cells c2 39 (0,0))) (by kernel_rfl) s1.out (λhH=>?_)
 refine Boxed.out ?_
 refine tkW 0 28 (.agg c1) hH (λw hSw=>?_) (λhH=>?_)
 ·exact val_of (ld_run hSw.1 39 _ Tryz.underlying39 rfl (by rw[Q1.out];kernel_rfl))
 simp only[Act.put,aT,aZ,aS]
 refine tkW 2 30 (.agg c2) hH (λw hSw=>?_) (λhH=>?_)
 ·exact val_of (ld_run hSw.2 39 _ Tryz.underlying39 rfl (by rw[Q2.out];kernel_rfl))
 simp only[Act.put,aT,aZ,aS]
 refine tkC 1 (λK hK=>?_)
 change Oper.wp _ ⟨some 29,_,_,_,_,_⟩ _ _ _ _
 go_simp
 refine (hd1.out w3.drew).mono ?_
 rintro e w4 ⟨rfl,hb4⟩
 have HB4:=hid (show Below w3.heap.size w3 w4 from below_of_dr hb4)
 have HS4:=hid (show w4.heap[z]?=some (.cells c1 39 (0,0))∧w4.heap[z+1]?=some (.cells c2 39 (0,0)) from ⟨(HB4.out.block z (blk_lt HX.out)).trans HX.out,(HB4.out.block (z+1) (blk_lt HY.out)).trans HY.out⟩)
 clear hb4
 dsimp only
 refine hK.out _ _ HS4.out (λhH=>?_)
 clear hK K
 try simp only[Act.put,aT,aZ,aS]
 refine tkC 3 (λK hK=>?_)
 change Oper.wp _ ⟨some 31,_,_,_,_,_⟩ _ _ _ _
 go_simp
 refine (hd2.out w4).mono ?_
 rintro e w5 ⟨rfl,hb5⟩
 have HB5:=hid (HB4.out.trans (hb5.mono HB4.out.size))
 have HS5:=hid (show w5.heap[z]?=some (.cells c1 39 (0,0))∧w5.heap[z+1]?=some (.cells c2 39 (0,0)) from ⟨(HB5.out.block z (blk_lt HX.out)).trans HX.out,(HB5.out.block (z+1) (blk_lt HY.out)).trans HY.out⟩)
 clear hb5
 dsimp only
 refine hK.out _ _ HS5.out (λhH=>?_)
 clear hK K
 try simp only[Act.put,aT,aZ,aS]
 refine tkC 4 (λK hK=>?_)
 change Oper.wp _ ⟨some 32,_,_,_,_,_⟩ _ _ _ _
 go_simp
 refine (hcm.out w5).mono ?_
 rintro e w6 ⟨rfl,hb6⟩
 have HB6:=hid (HB5.out.trans (hb6.mono HB5.out.size))
 have HS6:=hid (show w6.heap[z]?=some (.cells c1 39 (0,0))∧w6.heap[z+1]?=some (.cells c2 39 (0,0)) from ⟨(HB6.out.block z (blk_lt HX.out)).trans HX.out,(HB6.out.block (z+1) (blk_lt HY.out)).trans HY.out⟩)
 clear hb6
 obtain⟨c,Hc⟩:=name_itV (cmpD X1 X2)
 rw[Hc.out]
 dsimp only
 refine hK.out _ _ HS6.out (λhH=>?_)
 clear hK K
 try simp only[Act.put,aT,aZ,aS]
 refine tkV 5 9 (.int .i64 c) hH (λhH=>?_)
 simp only[Act.put,aT,aZ,aS]
 refine⟨wpAnyH_done (by kernel_rfl) ?_ _⟩
 clear hH
 have p0:w6.cell? ⟨z,0,none⟩=some (.int .i64 2):=(cell_of_row _ _ _ _ _ _ HS6.out.1).trans HK1.out
 have q0:w6.cell? ⟨z+1,0,none⟩=some (.int .i64 3):=(cell_of_row _ _ _ _ _ _ HS6.out.2).trans HK2.out
 have HB7:=hid (HB.out.trans (HB6.out.mono HB.out.size))
 rw[Hc.out]at HV
 have hsg:=hid (λW:World=>sign_any true false W)
 clear Hc
 by_cases hc:c=0
 ·subst hc
  have hv:=hid (show ordV a b = -1 from HV.out)
  go_wp2_with fail
  refine (hsg.out _).mono ?_
  rintro e w7 ⟨rfl,rfl⟩
  go_wp2_with fail
  go_ret
  exact⟨by rw[hv.out];rfl,HB7.out⟩
 ·have e1:(c==0)=false:=by simpa using hc
  have hv:=hid (show ordV a b=c from HV.out.trans (thenC_ne hc))
  clear hc
  go_wp2_with fail
  go_ret
  exact⟨by rw[hv.out];rfl,HB7.out⟩
theorem refOrder_32 (a b:Val) (sa sb:Value) (w:World) (ha:a.kind=3) (hb:b.kind=2) (ha0:-9223372036854775808≤a.num) (ha1:a.num≤9223372036854775807) (hb0:-9223372036854775808≤b.num) (hb1:b.num≤9223372036854775807) (hta:a.text.size≤4000000000000) (htb:b.text.size≤4000000000000) :
    Calls Tryz.prog 116 #[.int .i64 1,.agg (cellsV a sa),.agg (cellsV b sb)] w (OrdIs a b w):=by
 have hr1:=hid (λW:World=>(show Calls Tryz.prog 180 #[.int .i64 1,.int .i64 3] W (λe w'=>e = .returned (.int .i64 9)∧w'=W) from rank2_any 3 W))
 have hr2:=hid (λW:World=>(show Calls Tryz.prog 180 #[.int .i64 1,.int .i64 2] W (λe w'=>e = .returned (.int .i64 9)∧w'=W) from rank2_any 2 W))
 have hd1:=hid (λW:World=>dec2_any a sa ha0 ha1 hta W)
 have hd2:=hid (λW:World=>dec2_any b sb hb0 hb1 htb W)
 have hcm:=hid (λW:World=>refCompareD_any (exactT a) (exactT b) (decB_exact ha0 ha1) (decB_exact hb0 hb1) W)
 obtain⟨X1,HX1⟩:=name_itV (exactT a)
 obtain⟨X2,HX2⟩:=name_itV (exactT b)
 have hd1:=hid (λW:World=>(hd1.out W).mono λe w' (h:DecIs a W e w')=>(show e = .returned (.string X1)∧Below W.heap.size W w' from by rw[←HX1.out];exact h))
 have hd2:=hid (λW:World=>(hd2.out W).mono λe w' (h:DecIs b W e w')=>(show e = .returned (.string X2)∧Below W.heap.size W w' from by rw[←HX2.out];exact h))
 have HV:=hid (show ordV a b=thenC (cmpD (exactT a) (exactT b)) (1) from by rw[ordV_num (.inr ha) (.inl hb),ha,hb];rfl)
 rw[HX1.out,HX2.out]at hcm HV
 have hk1:(cellsV a sa)[0]?=some (.int .i64 3):=by rw[←ha];rfl
 have hk2:(cellsV b sb)[0]?=some (.int .i64 2):=by rw[←hb];rfl
 obtain⟨c1,Hc1⟩:=name6 a sa
 obtain⟨c2,Hc2⟩:=name6 b sb
 rw[Hc1.out]at hd1 hk1 ⊢
 rw[Hc2.out]at hd2 hk2 ⊢
 have Q1:=hid Hc1.size
 have Q2:=hid Hc2.size
 obtain⟨z,Hz⟩:=name_itV w.heap.size
 obtain⟨w1,HW1⟩:=name_itV ((w.alloc (.cells c1 39)).alloc (.cells c2 39))
 have HB:=hid (show Below w.heap.size w w1 from by rw[←HW1.out];exact two_new w _ _)
 have HX:=hid (show w1.heap[z]?=some (.cells c1 39 (0,0)) from by rw[←HW1.out,←Hz.out];exact heap_alloc2_old w _ _)
 have HY:=hid (show w1.heap[z+1]?=some (.cells c2 39 (0,0)) from by rw[←HW1.out,←Hz.out];exact heap_alloc2_new w _ _)
 have p0:w1.cell? ⟨z,0,none⟩=some (.int .i64 3):=(cell_of_row _ _ _ _ _ _ HX.out).trans hk1
 have q0:w1.cell? ⟨z+1,0,none⟩=some (.int .i64 2):=(cell_of_row _ _ _ _ _ _ HY.out).trans hk2
 have HK1:=hid hk1
 have HK2:=hid hk2
 clear p0 q0
 have p0:w1.cell? ⟨z,0,none⟩=some (.int .i64 3):=(cell_of_row _ _ _ _ _ _ HX.out).trans hk1
 have q0:w1.cell? ⟨z+1,0,none⟩=some (.int .i64 2):=(cell_of_row _ _ _ _ _ _ HY.out).trans hk2
 clear hk1 hk2 ha hb ha0 ha1 hb0 hb1 hta htb
 go_enter Tryz.func116,Tryz.ntmps116
 go_upto_region 1 with fail
 rw[HW1.out,Hz.out]
 clear HW1
 go_wp2_with fail
 refine (hr1.out w1).mono ?_
 rintro e w2 ⟨rfl,rfl⟩
 go_wp2_with fail
 refine (hr2.out _).mono ?_
 rintro e w3 ⟨rfl,rfl⟩
 go_upto_region 7 with fail
 have s1:=hid (show w3.drew.heap[z]?=some (.cells c1 39 (0,0))∧w3.drew.heap[z+1]?=some (.cells c2 39 (0,0)) from ⟨HX.out,HY.out⟩)
 refine wp_region_held_drew (S:=λW'=>W'.heap[z]?=some (.cells c1 39 (0,0))∧W'.heap[z+1]?=some (.cells c2 39 (0,0))) (by kernel_rfl) s1.out (λhH=>?_)
 refine Boxed.out ?_
 refine tkW 0 28 (.agg c1) hH (λw hSw=>?_) (λhH=>?_)
 ·exact val_of (ld_run hSw.1 39 _ Tryz.underlying39 rfl (by rw[Q1.out];kernel_rfl))
 simp only[Act.put,aT,aZ,aS]
 refine tkW 2 30 (.agg c2) hH (λw hSw=>?_) (λhH=>?_)
 ·exact val_of (ld_run hSw.2 39 _ Tryz.underlying39 rfl (by rw[Q2.out];kernel_rfl))
 simp only[Act.put,aT,aZ,aS]
 refine tkC 1 (λK hK=>?_)
 change Oper.wp _ ⟨some 29,_,_,_,_,_⟩ _ _ _ _
 go_simp
 refine (hd1.out w3.drew).mono ?_
 rintro e w4 ⟨rfl,hb4⟩
 have HB4:=hid (show Below w3.heap.size w3 w4 from below_of_dr hb4)
 have HS4:=hid (show w4.heap[z]?=some (.cells c1 39 (0,0))∧w4.heap[z+1]?=some (.cells c2 39 (0,0)) from ⟨(HB4.out.block z (blk_lt HX.out)).trans HX.out,(HB4.out.block (z+1) (blk_lt HY.out)).trans HY.out⟩)
 clear hb4
 dsimp only
 refine hK.out _ _ HS4.out (λhH=>?_)
 clear hK K
 try simp only[Act.put,aT,aZ,aS]
 refine tkC 3 (λK hK=>?_)
 change Oper.wp _ ⟨some 31,_,_,_,_,_⟩ _ _ _ _
 go_simp
 refine (hd2.out w4).mono ?_
 rintro e w5 ⟨rfl,hb5⟩
 have HB5:=hid (HB4.out.trans (hb5.mono HB4.out.size))
 have HS5:=hid (show w5.heap[z]?=some (.cells c1 39 (0,0))∧w5.heap[z+1]?=some (.cells c2 39 (0,0)) from ⟨(HB5.out.block z (blk_lt HX.out)).trans HX.out,(HB5.out.block (z+1) (blk_lt HY.out)).trans HY.out⟩)
 clear hb5
 dsimp only
 refine hK.out _ _ HS5.out (λhH=>?_)
 clear hK K
 try simp only[Act.put,aT,aZ,aS]
 refine tkC 4 (λK hK=>?_)
 change Oper.wp _ ⟨some 32,_,_,_,_,_⟩ _ _ _ _
 go_simp
 refine (hcm.out w5).mono ?_
 rintro e w6 ⟨rfl,hb6⟩
 have HB6:=hid (HB5.out.trans (hb6.mono HB5.out.size))
 have HS6:=hid (show w6.heap[z]?=some (.cells c1 39 (0,0))∧w6.heap[z+1]?=some (.cells c2 39 (0,0)) from ⟨(HB6.out.block z (blk_lt HX.out)).trans HX.out,(HB6.out.block (z+1) (blk_lt HY.out)).trans HY.out⟩)
 clear hb6
 obtain⟨c,Hc⟩:=name_itV (cmpD X1 X2)
 rw[Hc.out]
 dsimp only
 refine hK.out _ _ HS6.out (λhH=>?_)
 clear hK K
 try simp only[Act.put,aT,aZ,aS]
 refine tkV 5 9 (.int .i64 c) hH (λhH=>?_)
 simp only[Act.put,aT,aZ,aS]
 refine⟨wpAnyH_done (by kernel_rfl) ?_ _⟩
 clear hH
 have p0:w6.cell? ⟨z,0,none⟩=some (.int .i64 3):=(cell_of_row _ _ _ _ _ _ HS6.out.1).trans HK1.out
 have q0:w6.cell? ⟨z+1,0,none⟩=some (.int .i64 2):=(cell_of_row _ _ _ _ _ _ HS6.out.2).trans HK2.out
 have HB7:=hid (HB.out.trans (HB6.out.mono HB.out.size))
 rw[Hc.out]at HV
 have hsg:=hid (λW:World=>sign_any false true W)
 clear Hc
 by_cases hc:c=0
 ·subst hc
  have hv:=hid (show ordV a b=1 from HV.out)
  go_wp2_with fail
  refine (hsg.out _).mono ?_
  rintro e w7 ⟨rfl,rfl⟩
  go_wp2_with fail
  go_ret
  exact⟨by rw[hv.out];rfl,HB7.out⟩
 ·have e1:(c==0)=false:=by simpa using hc
  have hv:=hid (show ordV a b=c from HV.out.trans (thenC_ne hc))
  clear hc
  go_wp2_with fail
  go_ret
  exact⟨by rw[hv.out];rfl,HB7.out⟩
theorem refOrder_33 (a b:Val) (sa sb:Value) (w:World) (ha:a.kind=3) (hb:b.kind=3) (ha0:-9223372036854775808≤a.num) (ha1:a.num≤9223372036854775807) (hb0:-9223372036854775808≤b.num) (hb1:b.num≤9223372036854775807) (hta:a.text.size≤4000000000000) (htb:b.text.size≤4000000000000) :
    Calls Tryz.prog 116 #[.int .i64 1,.agg (cellsV a sa),.agg (cellsV b sb)] w (OrdIs a b w):=by
 have hr1:=hid (λW:World=>(show Calls Tryz.prog 180 #[.int .i64 1,.int .i64 3] W (λe w'=>e = .returned (.int .i64 9)∧w'=W) from rank2_any 3 W))
 have hd1:=hid (λW:World=>dec2_any a sa ha0 ha1 hta W)
 have hd2:=hid (λW:World=>dec2_any b sb hb0 hb1 htb W)
 have hcm:=hid (λW:World=>refCompareD_any (exactT a) (exactT b) (decB_exact ha0 ha1) (decB_exact hb0 hb1) W)
 obtain⟨X1,HX1⟩:=name_itV (exactT a)
 obtain⟨X2,HX2⟩:=name_itV (exactT b)
 have hd1:=hid (λW:World=>(hd1.out W).mono λe w' (h:DecIs a W e w')=>(show e = .returned (.string X1)∧Below W.heap.size W w' from by rw[←HX1.out];exact h))
 have hd2:=hid (λW:World=>(hd2.out W).mono λe w' (h:DecIs b W e w')=>(show e = .returned (.string X2)∧Below W.heap.size W w' from by rw[←HX2.out];exact h))
 have HV:=hid (show ordV a b=thenC (cmpD (exactT a) (exactT b)) (cmpS a.text.data.toList b.text.data.toList) from by rw[ordV_num (.inr ha) (.inr hb),ha,hb];rfl)
 rw[HX1.out,HX2.out]at hcm HV
 have hk1:(cellsV a sa)[0]?=some (.int .i64 3):=by rw[←ha];rfl
 have hk2:(cellsV b sb)[0]?=some (.int .i64 3):=by rw[←hb];rfl
 have hx1:(cellsV a sa)[3]?=some (.string a.text):=rfl
 have hx2:(cellsV b sb)[3]?=some (.string b.text):=rfl
 obtain⟨ta,Hta⟩:=name_itV a.text
 obtain⟨tb,Htb⟩:=name_itV b.text
 rw[Hta.out,Htb.out]at HV
 rw[Hta.out]at hx1
 rw[Htb.out]at hx2
 have hx1:=hid hx1
 have hx2:=hid hx2
 obtain⟨c1,Hc1⟩:=name6 a sa
 obtain⟨c2,Hc2⟩:=name6 b sb
 rw[Hc1.out]at hd1 hk1 ⊢
 rw[Hc2.out]at hd2 hk2 ⊢
 have HT1:=hid hx1.out
 have HT2:=hid hx2.out
 rw[Hc1.out]at HT1
 rw[Hc2.out]at HT2
 have Q1:=hid Hc1.size
 have Q2:=hid Hc2.size
 obtain⟨z,Hz⟩:=name_itV w.heap.size
 obtain⟨w1,HW1⟩:=name_itV ((w.alloc (.cells c1 39)).alloc (.cells c2 39))
 have HB:=hid (show Below w.heap.size w w1 from by rw[←HW1.out];exact two_new w _ _)
 have HX:=hid (show w1.heap[z]?=some (.cells c1 39 (0,0)) from by rw[←HW1.out,←Hz.out];exact heap_alloc2_old w _ _)
 have HY:=hid (show w1.heap[z+1]?=some (.cells c2 39 (0,0)) from by rw[←HW1.out,←Hz.out];exact heap_alloc2_new w _ _)
 have p0:w1.cell? ⟨z,0,none⟩=some (.int .i64 3):=(cell_of_row _ _ _ _ _ _ HX.out).trans hk1
 have q0:w1.cell? ⟨z+1,0,none⟩=some (.int .i64 3):=(cell_of_row _ _ _ _ _ _ HY.out).trans hk2
 have HK1:=hid hk1
 have HK2:=hid hk2
 clear p0 q0
 have p0:w1.cell? ⟨z,0,none⟩=some (.int .i64 3):=(cell_of_row _ _ _ _ _ _ HX.out).trans hk1
 have q0:w1.cell? ⟨z+1,0,none⟩=some (.int .i64 3):=(cell_of_row _ _ _ _ _ _ HY.out).trans hk2
 clear hk1 hk2 ha hb ha0 ha1 hb0 hb1 hta htb
 go_enter Tryz.func116,Tryz.ntmps116
 go_upto_region 1 with fail
 rw[HW1.out,Hz.out]
 clear HW1
 go_wp2_with fail
 refine (hr1.out w1).mono ?_
 rintro e w2 ⟨rfl,rfl⟩
 go_wp2_with fail
 refine (hr1.out _).mono ?_
 rintro e w3 ⟨rfl,rfl⟩
 go_upto_region 7 with fail
 have s1:=hid (show w3.drew.heap[z]?=some (.cells c1 39 (0,0))∧w3.drew.heap[z+1]?=some (.cells c2 39 (0,0)) from ⟨HX.out,HY.out⟩)
 refine wp_region_held_drew (S:=λW'=>W'.heap[z]?=some (.cells c1 39 (0,0))∧W'.heap[z+1]?=some (.cells c2 39 (0,0))) (by kernel_rfl) s1.out (λhH=>?_)
 refine Boxed.out ?_
 refine tkW 0 28 (.agg c1) hH (λw hSw=>?_) (λhH=>?_)
 ·exact val_of (ld_run hSw.1 39 _ Tryz.underlying39 rfl (by rw[Q1.out];kernel_rfl))
 simp only[Act.put,aT,aZ,aS]
 refine tkW 2 30 (.agg c2) hH (λw hSw=>?_) (λhH=>?_)
 ·exact val_of (ld_run hSw.2 39 _ Tryz.underlying39 rfl (by rw[Q2.out];kernel_rfl))
 simp only[Act.put,aT,aZ,aS]
 refine tkC 1 (λK hK=>?_)
 change Oper.wp _ ⟨some 29,_,_,_,_,_⟩ _ _ _ _
 go_simp
 refine (hd1.out w3.drew).mono ?_
 rintro e w4 ⟨rfl,hb4⟩
 have HB4:=hid (show Below w3.heap.size w3 w4 from below_of_dr hb4)
 have HS4:=hid (show w4.heap[z]?=some (.cells c1 39 (0,0))∧w4.heap[z+1]?=some (.cells c2 39 (0,0)) from ⟨(HB4.out.block z (blk_lt HX.out)).trans HX.out,(HB4.out.block (z+1) (blk_lt HY.out)).trans HY.out⟩)
 clear hb4
 dsimp only
 refine hK.out _ _ HS4.out (λhH=>?_)
 clear hK K
 try simp only[Act.put,aT,aZ,aS]
 refine tkC 3 (λK hK=>?_)
 change Oper.wp _ ⟨some 31,_,_,_,_,_⟩ _ _ _ _
 go_simp
 refine (hd2.out w4).mono ?_
 rintro e w5 ⟨rfl,hb5⟩
 have HB5:=hid (HB4.out.trans (hb5.mono HB4.out.size))
 have HS5:=hid (show w5.heap[z]?=some (.cells c1 39 (0,0))∧w5.heap[z+1]?=some (.cells c2 39 (0,0)) from ⟨(HB5.out.block z (blk_lt HX.out)).trans HX.out,(HB5.out.block (z+1) (blk_lt HY.out)).trans HY.out⟩)
 clear hb5
 dsimp only
 refine hK.out _ _ HS5.out (λhH=>?_)
 clear hK K
 try simp only[Act.put,aT,aZ,aS]
 refine tkC 4 (λK hK=>?_)
 change Oper.wp _ ⟨some 32,_,_,_,_,_⟩ _ _ _ _
 go_simp
 refine (hcm.out w5).mono ?_
 rintro e w6 ⟨rfl,hb6⟩
 have HB6:=hid (HB5.out.trans (hb6.mono HB5.out.size))
 have HS6:=hid (show w6.heap[z]?=some (.cells c1 39 (0,0))∧w6.heap[z+1]?=some (.cells c2 39 (0,0)) from ⟨(HB6.out.block z (blk_lt HX.out)).trans HX.out,(HB6.out.block (z+1) (blk_lt HY.out)).trans HY.out⟩)
 clear hb6
 obtain⟨c,Hc⟩:=name_itV (cmpD X1 X2)
 rw[Hc.out]
 dsimp only
 refine hK.out _ _ HS6.out (λhH=>?_)
 clear hK K
 try simp only[Act.put,aT,aZ,aS]
 refine tkV 5 9 (.int .i64 c) hH (λhH=>?_)
 simp only[Act.put,aT,aZ,aS]
 refine⟨wpAnyH_done (by kernel_rfl) ?_ _⟩
 clear hH
 have p0:w6.cell? ⟨z,0,none⟩=some (.int .i64 3):=(cell_of_row _ _ _ _ _ _ HS6.out.1).trans HK1.out
 have q0:w6.cell? ⟨z+1,0,none⟩=some (.int .i64 3):=(cell_of_row _ _ _ _ _ _ HS6.out.2).trans HK2.out
 have HB7:=hid (HB.out.trans (HB6.out.mono HB.out.size))
 rw[Hc.out]at HV
 have hsg:=hid (λW:World=>sign_any false false W)
 have hst:=hid (λW:World=>sign_any (Op.bytesLess ta.toList tb.toList) (!Op.bytesLess ta.toList tb.toList && !ta.toList==tb.toList) W)
 have p3:w6.cell? ⟨z,3,none⟩=some (.string ta):=(cell_of_row _ _ _ _ _ _ HS6.out.1).trans HT1.out
 have q3:w6.cell? ⟨z+1,3,none⟩=some (.string tb):=(cell_of_row _ _ _ _ _ _ HS6.out.2).trans HT2.out
 have HST:=hid (sign_text ta tb)
 obtain⟨sv,Hsv⟩:=name_itV (signV (Op.bytesLess ta.toList tb.toList) (!Op.bytesLess ta.toList tb.toList && !ta.toList==tb.toList))
 rw[Hsv.out]at hst HST
 clear Hc
 by_cases hc:c=0
 ·subst hc
  have hv:=hid (show ordV a b=sv from HV.out.trans HST.out.symm)
  go_wp2_with fail
  refine (hsg.out _).mono ?_
  rintro e w7 ⟨rfl,rfl⟩
  have sg0:signV false false=0:=rfl
  go_wp2_with fail
  refine (hst.out _).mono ?_
  rintro e w7 ⟨rfl,rfl⟩
  go_wp2_with fail
  go_ret
  exact⟨by rw[hv.out];rfl,HB7.out⟩
 ·have e1:(c==0)=false:=by simpa using hc
  have hv:=hid (show ordV a b=c from HV.out.trans (thenC_ne hc))
  clear hc
  go_wp2_with fail
  go_ret
  exact⟨by rw[hv.out];rfl,HB7.out⟩
structure FitV (v:Val):Prop where
 n0:-9223372036854775808≤v.num
 n1:v.num≤9223372036854775807
 ts:v.text.size≤4000000000000
theorem refOrder_any (a b:Val) (sa sb:Value) (w:World) (h5:a.kind≠5) (ha:FitV a) (hb:FitV b) :
    Calls Tryz.prog 116 #[.int .i64 1,.agg (cellsV a sa),.agg (cellsV b sb)] w (OrdIs a b w):=by
 by_cases hne:rankS a.kind=rankS b.kind
 ·by_cases hbare:bareK a.kind=false∧a.kind≠3
  ·by_cases ht:a.text=b.text
   ·exact refOrder_text2 a b sa sb w hne hbare.1 hbare.2 ht
   ·exact refOrder_text1 a b sa sb w hne hbare.1 hbare.2 ht
  ·have hk:a.kind=1∨a.kind=2∨a.kind=3∨a.kind=6∨a.kind=7:=by
     by_cases h3:a.kind=3
     ·omega
     ·have hb2:bareK a.kind=true:=by
        cases h:bareK a.kind with
        | true=>rfl
        | false=>exact absurd ⟨h,h3⟩ hbare
      unfold bareK at hb2
      have:=of_decide_eq_true hb2
      omega
   rcases rank_same hne with e | e | e
   ·rcases hk with h | h | h | h | h
    ·exact refOrder_bool a b sa sb w h (e▸h)
    ·exact refOrder_22 a b sa sb w h (e▸h) ha.n0 ha.n1 hb.n0 hb.n1 ha.ts hb.ts
    ·exact refOrder_33 a b sa sb w h (e▸h) ha.n0 ha.n1 hb.n0 hb.n1 ha.ts hb.ts
    ·exact refOrder_thing6 a b sa sb w h (e▸h)
    ·exact refOrder_thing7 a b sa sb w h (e▸h)
   ·rcases e with⟨e1 | e1,e2 | e2⟩
    ·exact refOrder_22 a b sa sb w e1 e2 ha.n0 ha.n1 hb.n0 hb.n1 ha.ts hb.ts
    ·exact refOrder_23 a b sa sb w e1 e2 ha.n0 ha.n1 hb.n0 hb.n1 ha.ts hb.ts
    ·exact refOrder_32 a b sa sb w e1 e2 ha.n0 ha.n1 hb.n0 hb.n1 ha.ts hb.ts
    ·exact refOrder_33 a b sa sb w e1 e2 ha.n0 ha.n1 hb.n0 hb.n1 ha.ts hb.ts
   ·exfalso
    have h:=e.1
    rcases hk with h2 | h2 | h2 | h2 | h2<;>(rw[h2]at h;revert h;decide)
 ·exact refOrder_rank a b sa sb w hne
theorem nanS_any (x:ByteArray) (w:World):Calls Tryz.prog 214 #[.string x] w λe w'=>e = .returned (.bool false)∧w'=w:=by
 go_enter Tryz.func214,Tryz.ntmps214
 go_wp2_with fail
 go_ret
 exact⟨by simp,rfl⟩
theorem nan64_any (x:Int) (w:World):Calls Tryz.prog 215 #[.int .i64 x] w λe w'=>e = .returned (.bool false)∧w'=w:=by
 go_enter Tryz.func215,Tryz.ntmps215
 go_wp2_with fail
 go_ret
 exact⟨by simp,rfl⟩
theorem cmp64_any (x y:Int) (w:World):Calls Tryz.prog 133 #[.int .i64 x,.int .i64 y] w λe w'=>e = .returned (.int .i64 (cmpI x y))∧w'=w:=by
 have hn:=hid nan64_any
 go_enter Tryz.func133,Tryz.ntmps133
 go_wp2_with (go_at_call 215;(with_reducible refine (hn.out _ _).mono ?_);rintro e w' ⟨rfl,rfl⟩)
 all_goals (go_ret;refine⟨ret_i ?_,rfl⟩;unfold cmpI;(repeat' split)<;>first | rfl | (exfalso;omega))
theorem truthP_any (b:Bool) (w:World):Calls Tryz.prog 134 #[.bool b] w λe w'=>e = .returned (.int .i64 (if b=true then 1 else 0))∧w'=w:=by
 cases b
 all_goals
  go_enter Tryz.func134,Tryz.ntmps134
  go_wp2_with fail
  go_ret
  exact⟨rfl,rfl⟩
theorem cmpStr_any (x y:ByteArray) (w:World):Calls Tryz.prog 130 #[.string x,.string y] w λe w'=>e = .returned (.int .i64 (cmpS x.data.toList y.data.toList))∧w'=w:=by
 have hn:=hid nanS_any
 have hs:=hid (sign_text x y)
 obtain⟨v,Hv⟩:=name_itV (cmpS x.data.toList y.data.toList)
 rw[Hv.out]at hs ⊢
 cases h1:Op.bytesLess x.toList y.toList with
 | true=>
  rw[h1]at hs
  go_enter Tryz.func130,Tryz.ntmps130
  go_wp2_with (go_at_call 214;(with_reducible refine (hn.out _ _).mono ?_);rintro e w' ⟨rfl,rfl⟩)
  go_ret
  exact⟨by rw[←hs.out];rfl,rfl⟩
 | false=>
  cases h2:(x.toList==y.toList) with
  | true=>
   rw[h1,h2]at hs
   go_enter Tryz.func130,Tryz.ntmps130
   go_wp2_with (go_at_call 214;(with_reducible refine (hn.out _ _).mono ?_);rintro e w' ⟨rfl,rfl⟩)
   go_ret
   exact⟨by rw[←hs.out];rfl,rfl⟩
  | false=>
   rw[h1,h2]at hs
   go_enter Tryz.func130,Tryz.ntmps130
   go_wp2_with (go_at_call 214;(with_reducible refine (hn.out _ _).mono ?_);rintro e w' ⟨rfl,rfl⟩)
   go_ret
   exact⟨by rw[←hs.out];rfl,rfl⟩
theorem exact_any (v:Val) (s:Value) (h0:-9223372036854775808≤v.num) (h1:v.num≤9223372036854775807) (ht:v.text.size≤4000000000000) (w:World) (hgb:GlobB w) (hgt:GlobT w) :
    Calls Tryz.prog 213 #[.agg (cellsV v s)] w (DecIs v w):=by
 have hof:=hid (λ(W:World) (hW:Below w.heap.size w W)=>ofInt_any v.num h0 h1 W (globT_under hgt hW))
 have hck:=hid (λ(W:World) (hW:Below w.heap.size w W)=>dec_any v.text (by omega) W (glob_under hgb hW))
 have hex:=hid (show exactT v=if v.kind=2 then ofIntT v.num else if decB v.text=true then v.text else zeroT from rfl)
 obtain⟨x,Hx⟩:=name_itV (exactT v)
 have HE:=hid (show ∀w',Below w.heap.size w w'→DecIs v w (.returned (.string x)) w' from λw' hb=>⟨by rw[Hx.out],hb⟩)
 obtain⟨o,Ho⟩:=name_itV (ofIntT v.num)
 rw[Hx.out,Ho.out]at hex
 have HX2:=hid (λh:v.kind=2=>(show x=o from by rw[hex.out,if_pos h]))
 have HXT:=hid (λ(h:v.kind≠2) (hd:decB v.text=true)=>(show x=v.text from by rw[hex.out,if_neg h,if_pos hd]))
 have HXF:=hid (λ(h:v.kind≠2) (hd:decB v.text=false)=>(show x=⟨#[48,46,48]⟩ from by rw[hex.out,if_neg h,if_neg (by rw[hd];exact Bool.false_ne_true)];rfl))
 clear hex
 have hof2:=hid (λ(W:World) (hW:Below w.heap.size w W)=>(show Calls Tryz.prog 266 #[.int .i64 v.num] W (λe w'=>e = .returned (.string o)∧Below W.heap.size W w') from by rw[←Ho.out];exact hof.out W hW))
 clear hof Hx Ho
 cases v with
 | mk k b n t x' l=>
 unfold cellsV
 simp only[Val.kind,Val.truth,Val.num,Val.text,Val.extra]at hof2 hck HX2 HXT HXF ⊢
 clear h0 h1 ht hgb hgt
 go_enter Tryz.func213,Tryz.ntmps213
 by_cases hk:k=2
 ·have hx:=hid (HX2.out hk)
  subst hk
  go_wp2_with fail
  refine (hof2.out _ ((Below.refl _ _).alloc (Nat.le_refl _) _)).mono ?_
  rintro e w1 ⟨rfl,hb⟩
  have HB:=hid (((Below.refl w.heap.size w).alloc (Nat.le_refl _) (.cells #[.int .i64 2,.bool b,.int .i64 n,.string t,.string x',s] 39)).trans (hb.mono (by simp)))
  clear hb
  go_wp2_with fail
  go_ret
  have:=HE.out _ HB.out
  rw[hx.out]at this
  exact this
 ·have e2:(k==2)=false:=by simpa using hk
  have hx1:=hid (HXT.out hk)
  have hx0:=hid (HXF.out hk)
  clear hk HX2 HXT HXF
  go_wp2_with fail
  refine (hck.out _ ((Below.refl _ _).alloc (Nat.le_refl _) _)).mono ?_
  rintro e w1 ⟨rfl,hb⟩
  have c3:w1.cell? ⟨w.heap.size,3,none⟩=some (.string t):=(hb.cell (p:=⟨w.heap.size,3,none⟩) (by simp)).trans (cell_of_heap (heap_alloc_new w _) 3)
  have HB:=hid (((Below.refl w.heap.size w).alloc (Nat.le_refl _) (.cells #[.int .i64 k,.bool b,.int .i64 n,.string t,.string x',s] 39)).trans (hb.mono (by simp)))
  clear hb
  obtain⟨bd,Hbd⟩:=name_itV (decB t)
  rw[Hbd.out]
  cases bd with
  | true=>
   have hd:=Hbd.out
   have hx2:=hid (show x=t from hx1.out hd)
   clear hd
   go_wp2_with fail
   go_ret
   have:=HE.out _ HB.out
   rw[hx2.out]at this
   exact this
  | false=>
   have hd:=Hbd.out
   have hx2:=hid (show x=⟨#[48,46,48]⟩ from hx0.out hd)
   clear hd
   go_wp2_with fail
   go_ret
   have:=HE.out _ HB.out
   rw[hx2.out]at this
   exact this
def RankIs (k:Int) (w:World) (e:Ending) (w':World):Prop:=e = .returned (.int .i64 (rankS k))∧Below w.heap.size w w'
theorem rankP_any (v:Val) (s:Value) (w:World):Calls Tryz.prog 127 #[.int .i64 1,.agg (cellsV v s)] w (RankIs v.kind w):=by
 have hb:=hid (λo:Obj=>show Below w.heap.size w (w.alloc o) from (Below.refl _ _).alloc (Nat.le_refl _) _)
 cases v with
 | mk k b n t x l=>
 unfold cellsV
 simp only[Val.kind,Val.truth,Val.num,Val.text,Val.extra]
 by_cases h5:k=5
 ·subst h5
  go_enter Tryz.func127,Tryz.ntmps127
  go_wp2_with fail
  go_ret
  exact⟨rfl,hb.out _⟩
 by_cases h6:k=6
 ·subst h6
  go_enter Tryz.func127,Tryz.ntmps127
  go_wp2_with fail
  go_ret
  exact⟨rfl,hb.out _⟩
 by_cases h7:k=7
 ·subst h7
  go_enter Tryz.func127,Tryz.ntmps127
  go_wp2_with fail
  go_ret
  exact⟨rfl,hb.out _⟩
 by_cases h9:k=9
 ·subst h9
  go_enter Tryz.func127,Tryz.ntmps127
  go_wp2_with fail
  go_ret
  exact⟨rfl,hb.out _⟩
 by_cases h8:k=8
 ·subst h8
  go_enter Tryz.func127,Tryz.ntmps127
  go_wp2_with fail
  go_ret
  exact⟨rfl,hb.out _⟩
 by_cases h10:k=10
 ·subst h10
  go_enter Tryz.func127,Tryz.ntmps127
  go_wp2_with fail
  go_ret
  exact⟨rfl,hb.out _⟩
 by_cases h4:k=4
 ·subst h4
  go_enter Tryz.func127,Tryz.ntmps127
  go_wp2_with fail
  go_ret
  exact⟨rfl,hb.out _⟩
 by_cases h1:k=1
 ·subst h1
  go_enter Tryz.func127,Tryz.ntmps127
  go_wp2_with fail
  go_ret
  exact⟨rfl,hb.out _⟩
 by_cases h2:k=2
 ·subst h2
  go_enter Tryz.func127,Tryz.ntmps127
  go_wp2_with fail
  go_ret
  exact⟨rfl,hb.out _⟩
 by_cases h3:k=3
 ·subst h3
  go_enter Tryz.func127,Tryz.ntmps127
  go_wp2_with fail
  go_ret
  exact⟨rfl,hb.out _⟩
 by_cases h0:k=0
 ·subst h0
  go_enter Tryz.func127,Tryz.ntmps127
  go_wp2_with fail
  go_ret
  exact⟨rfl,hb.out _⟩
 have hr:=hid (show (11:Int)=rankS k from by unfold rankS;rw[if_neg h5,if_neg h6,if_neg h7,if_neg h9,if_neg h8,if_neg h10,if_neg h4,if_neg h1,if_neg h2,if_neg h3,if_neg h0])
 have e5:(k==5)=false:=by simpa using h5
 have e6:(k==6)=false:=by simpa using h6
 have e7:(k==7)=false:=by simpa using h7
 have e9:(k==9)=false:=by simpa using h9
 have e8:(k==8)=false:=by simpa using h8
 have e10:(k==10)=false:=by simpa using h10
 have e4:(k==4)=false:=by simpa using h4
 have e1:(k==1)=false:=by simpa using h1
 have e2:(k==2)=false:=by simpa using h2
 have e3:(k==3)=false:=by simpa using h3
 have e0:(k==0)=false:=by simpa using h0
 clear h5 h6 h7 h9 h8 h10 h4 h1 h2 h3 h0
 go_enter Tryz.func127,Tryz.ntmps127
 go_wp2_with fail
 go_ret
 exact⟨ret_i hr.out,hb.out _⟩
theorem cellsU_size (f:Nat→Nat):(cellsU f).size=16:=by unfold cellsU;simp
theorem cellsU_one (f:Nat→Nat):(cellsU f).all (·.oneCell')=true:=by
 rw[Array.all_eq_true_iff_forall_mem]
 intro v hv
 unfold cellsU at hv
 obtain⟨i,hi,rfl⟩:=Array.mem_ofFn.1 hv
 rfl
def cellsN (n:Bool) (f:Nat→Nat):Array Value:=#[.bool n]++cellsU f
theorem cellsN_size (n:Bool) (f:Nat→Nat):(cellsN n f).size=17:=by unfold cellsN;rw[Array.size_append,cellsU_size];rfl
structure EqN (c:Array Value) (n:Bool) (f:Nat→Nat):Prop where
 out:cellsN n f=c
theorem nameN (n:Bool) (f:Nat→Nat):∃c,EqN c n f:=⟨_,⟨rfl⟩⟩
structure EqU (c:Array Value) (f:Nat→Nat):Prop where
 out:cellsU f=c
theorem nameU (f:Nat→Nat):∃c,EqU c f:=⟨_,⟨rfl⟩⟩
theorem parse_digits (l:List UInt8):∀acc:Nat,l.all digB=true→acc*10 ^ l.length+digV l<1844674407370955161→Lib.parseUintM (2 ^ 64-1) acc l = .ok (acc*10 ^ l.length+digV l):=by
 induction l with
 | nil=>intro acc _ _;simp[Lib.parseUintM,digV]
 | cons c r ih=>
  intro acc hd hb
  rw[List.all_cons,Bool.and_eq_true,digB_iff]at hd
  have e:acc*10 ^ (c::r).length+digV (c::r)=(acc*10+(c.toNat-48))*10 ^ r.length+digV r:=by
   have h1:=dig_append [c] r
   have h2:digV [c]=c.toNat-48:=by show 0*10+(c.toNat-48)=_;omega
   rw[List.singleton_append,h2]at h1
   rw[h1,List.length_cons,Nat.pow_succ,Nat.add_mul,Nat.mul_assoc,Nat.mul_comm 10,Nat.add_assoc]
  rw[e]at hb ⊢
  have hp:1≤10 ^ r.length:=Nat.one_le_pow _ _ (by decide)
  have h3:(acc*10+(c.toNat-48))*1≤(acc*10+(c.toNat-48))*10 ^ r.length:=Nat.mul_le_mul_left _ hp
  have h64:2 ^ 64-1=18446744073709551615:=by decide
  unfold Lib.parseUintM
  rw[if_pos hd.1,if_neg (by omega),if_neg (by omega)]
  exact ih _ hd.2 hb
theorem dig_cons (c:UInt8) (r:List UInt8):digV (c::r)=(c.toNat-48)*10 ^ r.length+digV r:=by
 have h1:=dig_append [c] r
 have h2:digV [c]=c.toNat-48:=by show 0*10+(c.toNat-48)=_;omega
 rw[List.singleton_append,h2]at h1
 exact h1
theorem dig_lt (l:List UInt8) (h:l.all digB=true):digV l<10 ^ l.length:=by
 induction l with
 | nil=>simp[digV]
 | cons c r ih=>
  rw[List.all_cons,Bool.and_eq_true,digB_iff]at h
  have h1:=ih h.2
  rw[dig_cons,List.length_cons,Nat.pow_succ]
  have h2:(c.toNat-48)*10 ^ r.length≤9*10 ^ r.length:=Nat.mul_le_mul_right _ (by omega)
  omega
theorem parse_nine {l:List UInt8} (h:l.all digB=true) (h0:0<l.length) (h9:l.length≤9):Lib.parseUintB 64 l = .ok (digV l):=by
 unfold Lib.parseUintB
 rw[if_neg (λe=>by rw[e]at h0;simp at h0)]
 have h1:=dig_lt l h
 have h2:10 ^ l.length≤10 ^ 9:=Nat.pow_le_pow_right (by decide) h9
 have h3:(10:Nat) ^ 9=1000000000:=by decide
 have h4:=parse_digits l 0 h (by omega)
 rw[Nat.zero_mul,Nat.zero_add]at h4
 exact h4
theorem pu_any (s:ByteArray) (hs:s.data.toList.all digB=true) (h0:0<s.size) (h9:s.size≤9) (w:World) :
    Calls Tryz.prog 347 #[.string s,.int .i64 10,.int .i64 64] w λe w'=>e = .returned (.tuple #[.int .u64 (digV s.data.toList:Int),.nilIface])∧Below w.heap.size w w':=
 (Any.strconv_ParseUint_10_at64_ok Tryz.laysPu14 s (by omega) (digV s.data.toList) (parse_nine hs h0 h9) w).mono λe w' ⟨h1,h2⟩=>⟨h1,by
  rcases h2 with rfl | rfl
  ·exact Below.refl _ _
  ·exact Lib.bytesWorld_below _ _ _⟩
theorem cellsU_set (f:Nat→Nat) {i:Nat} (hi:i<16) (m:Nat):(cellsU f).setIfInBounds i (.int .u64 (m:Int))=cellsU (λj=>if j=i then m else f j):=by
 apply Array.ext_getElem?
 intro j
 rcases Nat.lt_or_ge j 16 with hj | hj
 ·have e1:=cellsU_at f hj
  have e2:=cellsU_at (λj=>if j=i then m else f j) hj
  rw[Array.getElem?_setIfInBounds,e1,e2,cellsU_size]
  by_cases e:i=j
  ·subst e
   rw[if_pos rfl,if_pos hi,if_pos rfl]
  ·rw[if_neg e,if_neg (λe2=>e e2.symm)]
 ·rw[Array.getElem?_eq_none (by rw[Array.size_setIfInBounds,cellsU_size];exact hj),Array.getElem?_eq_none (by rw[cellsU_size];exact hj)]
theorem ext_from {s:ByteArray} (k:Nat):(s.extract k s.size).data.toList=s.data.toList.drop k:=by
 rw[ByteArray.data_extract,Array.toList_extract,List.extract_eq_take_drop]
 have hl:s.size=s.data.toList.length:=(data_len s).symm
 rw[hl]
 apply List.take_of_length_le
 rw[List.length_drop]
 exact Nat.le_refl _
theorem ext_to {s:ByteArray} (k:Nat):(s.extract 0 k).data.toList=s.data.toList.take k:=by
 rw[ByteArray.data_extract,Array.toList_extract,List.extract_eq_take_drop,Nat.sub_zero,List.drop_zero]
def WordsIs (l:List UInt8) (w:World) (e:Ending) (w':World):Prop:=∃f:Nat→Nat,e = .returned (.agg (cellsU f))∧Below w.heap.size w w'∧(∀i,i<16→f i<bW)∧pv f 16=digV l
structure WordM (w:World) (z:Nat) (l:List UInt8) (i:Nat) (r:ByteArray) (f:Nat→Nat) (wx:World):Prop where
 hb:Below w.heap.size w wx
 hz:w.heap.size=z
 h0:wx.heap[z]?=some (.cells (cellsU (λ_=>0)) 291 (0,0))
 h1:wx.heap[z+1]?=some (.cells (cellsU f) 291 (0,0))
 lo:∀j,j<i→f j<bW
 hi:∀j,i≤j→f j=0
 dig:r.data.toList.all digB=true
 sz:r.size+9*i≤144∨r.size=0
 val:pv f i+digV r.data.toList*bW ^ i=digV l
theorem pv_zeros {f:Nat→Nat} {i:Nat} (h:∀j,i≤j→f j=0):∀n,pv f (i+n)=pv f i:=by
 intro n
 induction n with
 | zero=>rfl
 | succ n ih=>
  show pv f (i+n)+f (i+n)*bW ^ (i+n)=pv f i
  rw[ih,h (i+n) (by omega)]
  simp
theorem wordsOf_any (s:ByteArray) (hs:s.data.toList.all digB=true) (hsz:s.size≤144) (w:World) :
    Calls Tryz.prog 328 #[.string s] w (WordsIs s.data.toList w):=by
 obtain⟨z,Hz⟩:=name_itV w.heap.size
 obtain⟨w1,HW1⟩:=name_itV ((w.alloc (.cells #[.int .u64 0,.int .u64 0,.int .u64 0,.int .u64 0,.int .u64 0,.int .u64 0,.int .u64 0,.int .u64 0,.int .u64 0,.int .u64 0,.int .u64 0,.int .u64 0,.int .u64 0,.int .u64 0,.int .u64 0,.int .u64 0] 291)).alloc (.cells #[.int .u64 0,.int .u64 0,.int .u64 0,.int .u64 0,.int .u64 0,.int .u64 0,.int .u64 0,.int .u64 0,.int .u64 0,.int .u64 0,.int .u64 0,.int .u64 0,.int .u64 0,.int .u64 0,.int .u64 0,.int .u64 0] 291))
 have hzero:(#[.int .u64 0,.int .u64 0,.int .u64 0,.int .u64 0,.int .u64 0,.int .u64 0,.int .u64 0,.int .u64 0,.int .u64 0,.int .u64 0,.int .u64 0,.int .u64 0,.int .u64 0,.int .u64 0,.int .u64 0,.int .u64 0]:Array Value)=cellsU (λ_=>0):=by kernel_rfl
 have HM:=hid (show WordM w z s.data.toList 0 s (λ_=>0) w1 from {
  hb:=by rw[←HW1.out];exact two_new w _ _
  hz:=Hz.out
  h0:=by
   rw[←HW1.out,←Hz.out,hzero,Below.heap_alloc _ _ _ (by simp)]
   exact heap_alloc_new w _
  h1:=by
   rw[←HW1.out,←Hz.out,hzero]
   have:=heap_alloc_new (w.alloc (.cells (cellsU (λ_=>0)) 291)) (.cells (cellsU (λ_=>0)) 291)
   simpa using this
  lo:=λj hj=>absurd hj (Nat.not_lt_zero _)
  hi:=λ_ _=>rfl
  dig:=hs
  sz:=.inl (by omega)
  val:=by simp[pv] })
 clear hs hzero
 go_enter Tryz.func328,Tryz.ntmps328
 go_upto_region 2 with fail
 rw[HW1.out,Hz.out]
 go_wp2_with fail
 go_loopw [0,4] (λs0 s4 wx=>∃(i:Nat) (r:ByteArray) (f:Nat→Nat),i≤16∧r.size≤144∧s0 = .string r∧s4 = .int .i64 (i:Nat)∧Hid (WordM w z s.data.toList i r f wx)) (λ_ s4 _=>16-(intOf s4).toNat)
 case atStart=>exact⟨0,s,_,by omega,hsz,rfl,rfl,HM⟩
 case round=>
  obtain⟨i,r,f,hi,hrs,rfl,rfl,hM⟩:=hrel
  by_cases h0:0<r.size
  ·have hi15:i<16:=by have:=hM.out.sz;omega
   have e1:(0:Int)<(r.size:Int):=by omega
   have e2:(0:Int)≤i:=by omega
   have e3:(i:Int)<16:=by omega
   have w0:IntKind.i64.wrap ((r.size:Int)-9)=(r.size:Int)-9:=IntWalk.i64_in _ (by omega)
   have w1':IntKind.i64.wrap ((i:Int)+1)=(i:Int)+1:=IntWalk.i64_in _ (by omega)
   obtain⟨k,Hk⟩:=name_itV (r.size-9)
   have hkr:k≤r.size:=by rw[←Hk.out];omega
   have hmx:max ((r.size:Int)-9) 0=(k:Int):=by rw[←Hk.out];omega
   obtain⟨c,Hc⟩:=name_itV (r.extract k r.size)
   have hcl:c.size=r.size-k:=by rw[←Hc.out];simp
   have hpu:=hid (pu_any c (by
    rw[←Hc.out,ext_from,List.all_eq_true]
    exact λx hx=>List.all_eq_true.1 hM.out.dig x (List.mem_of_mem_drop hx)) (by rw[hcl,←Hk.out];omega) (by rw[hcl,←Hk.out];omega) wr)
   obtain⟨m,Hm⟩:=name_itV (digV c.data.toList)
   rw[Hm.out]at hpu
   have HCV:=hid (show m=digV (r.data.toList.drop (r.data.toList.length-9)) from by rw[←Hm.out,←Hc.out,ext_from,data_len,Hk.out])
   obtain⟨r',Hr'⟩:=name_itV (r.extract 0 k)
   have HRV:=hid (show r'.data.toList=r.data.toList.take (r.data.toList.length-9) from by rw[←Hr'.out,ext_to,data_len,Hk.out])
   have HRS:=hid (show r'.size=k from by rw[←Hr'.out];simp;omega)
   have HKL:=hid (show k=r.size-9 from Hk.out.symm)
   have hcE:=Hc.out
   have hrE:=Hr'.out
   have a2:=add_zero_at' (z+1) i
   clear hcl
   go_wp2_with fail
   refine hpu.out.mono ?_
   rintro e w2 ⟨rfl,hb2⟩
   have HB2:=hid hb2
   have HH1:=hid ((hb2.block (z+1) (blk_lt hM.out.h1)).trans hM.out.h1)
   have HH0:=hid ((hb2.block z (blk_lt hM.out.h0)).trans hM.out.h0)
   have c1:w2.cell? ⟨z+1,i,none⟩=some (.int .u64 (f i:Int)):=(cell_of_heap HH1.out i).trans (cellsU_at f hi15)
   have f1:w2.frozen? ⟨z+1,i,none⟩=false:=frozen_of_row _ _ _ _ _ HH1.out
   clear hb2
   go_wp2_with fail
   go_roundw
   case measure=>simp[intOf];omega
   case rel=>
    have hbw:0<bW:=by decide
    refine⟨i+1,r',λj=>if j=i then m else f j,by omega,by rw[HRS.out];omega,rfl,by go_num,hid ?_⟩
    have hlt:m<bW:=by
     rw[HCV.out]
     refine Nat.lt_of_lt_of_le (dig_lt _ ?_) (show 10 ^ _≤10 ^ 9 from Nat.pow_le_pow_right (by decide) (by rw[List.length_drop];omega))
     rw[List.all_eq_true]
     exact λx hx=>List.all_eq_true.1 hM.out.dig x (List.mem_of_mem_drop hx)
    exact {
     hb:=hM.out.hb.trans (((HB2.out.mono hM.out.hb.size)).setCell (by show w.heap.size≤z+1;have:=hM.out.hz;omega) _)
     hz:=hM.out.hz
     h0:=by rw[heap_setCell_other _ _ _ _ (by show z≠z+1;omega)];exact HH0.out
     h1:=by rw[heap_setCell_same _ _ _ _ _ _ HH1.out,cellsU_set f hi15]
     lo:=λj hj=>by
      by_cases e:j=i
      ·simp only[if_pos e];exact hlt
      ·simp only[if_neg e];exact hM.out.lo j (by omega)
     hi:=λj hj=>by
      simp only[if_neg (show j≠i by omega)]
      exact hM.out.hi j (by omega)
     dig:=by
      rw[HRV.out,List.all_eq_true]
      exact λx hx=>List.all_eq_true.1 hM.out.dig x (List.mem_of_mem_take hx)
     sz:=by rw[HRS.out];have:=HKL.out;have:=hM.out.sz;omega
     val:=by
      rw[HRV.out]
      exact pv_chunk (by rw[←hM.out.val];congr 1;exact pv_congr (λj hj=>if_neg (by omega))) (by
       show (if i=i then m else f i)=_
       rw[if_pos rfl]
       exact HCV.out) }
  ·have hr0:r.size=0:=by omega
   have e1:¬(0:Int)<(r.size:Int):=by omega
   have hir0:r.data.toList=[]:=List.eq_nil_of_length_eq_zero ((data_len r).trans hr0)
   have HV:=hid (show pv f 16=digV s.data.toList from by
    have h1:=hM.out.val
    rw[hir0]at h1
    have h2:=pv_zeros hM.out.hi (16-i)
    rw[show i+(16-i)=16 by omega]at h2
    rw[h2,←h1]
    simp[digV])
   have HF:=hid (show ∀j,j<16→f j<bW from λj hj=>by
    rcases Nat.lt_or_ge j i with h | h
    ·exact hM.out.lo j h
    ·rw[hM.out.hi j h];decide)
   clear h0 hir0
   go_wp2_with (first
    | (refine wpList_load_row rfl 291 _ rfl (z+1) rfl 291 (cellsU f) (0,0) (.array 16 225) hM.out.h1 (by kernel_rfl) rfl (by rw[cellsU_size];kernel_rfl) ?_)
    | (refine st_row rfl 291 _ _ rfl z (cellsU (λ_=>0)) (cellsU f) 291 rfl rfl hM.out.h0 (by rw[cellsU_size,cellsU_size]) (by rw[cellsU_size];kernel_rfl) (cellsU_one f) ?_;intro wf hgf htf))
   refine bodyPost_ret (v:=.agg (cellsU f)) (results_cell_row (p:=2) (ty:=291) (by kernel_rfl) _ _ z 291 (cellsU f) (0,0) (.array 16 225) rfl hgf (by kernel_rfl) rfl (by rw[cellsU_size];kernel_rfl)) rfl ⟨f,rfl,?_,HF.out,HV.out⟩
   exact hM.out.hb.trans (htf.below (λb _ h=>by have:=hM.out.hz;omega) hM.out.hb.size)
end Go.Proofs.YtefhfadjajcmkaaGreatDoor
