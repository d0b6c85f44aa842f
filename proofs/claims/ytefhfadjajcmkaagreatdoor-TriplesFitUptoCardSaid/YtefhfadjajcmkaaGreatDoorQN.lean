/- What a script, a list of triples in memory read as: printed by gen_Y3.py. -/
import Derived.Test.YtefhfadjajcmkaaGreatDoorQK
import Derived.Test.YtefhfadjajcmkaaGreatDoorQ0
import Derived.Deep.DeepCutAuto
import Derived.Test.YtefhfadjajcmkaaGreatDoorQ9
import Derived.Lib.AppendStr
import Derived.Test.YtefhfadjajcmkaaGreatDoorQJ
import Derived.Test.YtefhfadjajcmkaaGreatDoorQ3
import Derived.Test.YtefhfadjajcmkaaGreatDoorBulk
import Derived.Deep.Slices
import Derived.Lib.SmallJoins
set_option linter.unusedVariables false
set_option linter.unusedSimpArgs false
namespace Go.Proofs.YtefhfadjajcmkaaGreatDoor
open Go Go.RowKit
open Go.Lib (hid cell_of_heap)
def CopyIs (l:List Val) (w:World) (e:Ending) (w':World):Prop:=∃s,e = .returned s∧Below w.heap.size w w'∧LOwn w' (λb=>w.heap.size≤b∧b<w'.heap.size) l s
def CopyVIs (v:Val) (w:World) (e:Ending) (w':World):Prop:=∃s,e = .returned (.agg (cellsV v s))∧Below w.heap.size w w'∧LOwn w' (λb=>w.heap.size≤b∧b<w'.heap.size) v.list s
set_option maxRecDepth 100000 in
set_option maxHeartbeats 1000000 in
theorem copy_step (v:Val) {F:Nat→Prop} (A:Option Addr) (cap:Nat) (w:World) (hF:∀g,F g→g<w.heap.size) (hA:LRd w F v.list A v.list.length)
    (hrow:∀w',LRd w' F v.list A v.list.length→(∀g,F g→g<w'.heap.size)→Calls Tryz.prog 110 #[.slice A v.list.length cap] w' (CopyIs v.list w')) :
    Calls Tryz.prog 44 #[.agg (cellsV v (.slice A v.list.length cap))] w (CopyVIs v w):=by
 obtain⟨k,t,n,s,x,l⟩:=v
 unfold cellsV
 simp only[Val.kind,Val.truth,Val.num,Val.text,Val.extra,Val.list]at hA hrow ⊢
 have HN:=hid (two_new w (.cells #[.int .i64 k,.bool t,.int .i64 n,.string s,.string x,.slice A l.length cap] 39) (.cells #[.int .i64 0,.bool false,.int .i64 0,.string ⟨#[]⟩,.string ⟨#[]⟩,.slice none 0 0] 39))
 have hs2:((w.alloc (.cells #[.int .i64 k,.bool t,.int .i64 n,.string s,.string x,.slice A l.length cap] 39)).alloc (.cells #[.int .i64 0,.bool false,.int .i64 0,.string ⟨#[]⟩,.string ⟨#[]⟩,.slice none 0 0] 39)).heap.size=w.heap.size+2:=by simp
 have hb1:((w.alloc (.cells #[.int .i64 k,.bool t,.int .i64 n,.string s,.string x,.slice A l.length cap] 39)).alloc (.cells #[.int .i64 0,.bool false,.int .i64 0,.string ⟨#[]⟩,.string ⟨#[]⟩,.slice none 0 0] 39)).heap[w.heap.size]?=some (.cells #[.int .i64 k,.bool t,.int .i64 n,.string s,.string x,.slice A l.length cap] 39 (0,0)):=by
  rw[Below.heap_alloc _ _ _ (by simp)]
  exact heap_alloc_new w _
 have hb2:((w.alloc (.cells #[.int .i64 k,.bool t,.int .i64 n,.string s,.string x,.slice A l.length cap] 39)).alloc (.cells #[.int .i64 0,.bool false,.int .i64 0,.string ⟨#[]⟩,.string ⟨#[]⟩,.slice none 0 0] 39)).heap[w.heap.size+1]?=some (.cells #[.int .i64 0,.bool false,.int .i64 0,.string ⟨#[]⟩,.string ⟨#[]⟩,.slice none 0 0] 39 (0,0)):=by
  have:=heap_alloc_new (w.alloc (.cells #[.int .i64 k,.bool t,.int .i64 n,.string s,.string x,.slice A l.length cap] 39)) (.cells #[.int .i64 0,.bool false,.int .i64 0,.string ⟨#[]⟩,.string ⟨#[]⟩,.slice none 0 0] 39)
  simpa using this
 obtain⟨z,HZ⟩:=name_itV w.heap.size
 obtain⟨W2,HW2⟩:=name_itV ((w.alloc (.cells #[.int .i64 k,.bool t,.int .i64 n,.string s,.string x,.slice A l.length cap] 39)).alloc (.cells #[.int .i64 0,.bool false,.int .i64 0,.string ⟨#[]⟩,.string ⟨#[]⟩,.slice none 0 0] 39))
 rw[HW2.out]at HN hs2 hb1 hb2
 have HC:=hid (hrow W2 (hA.under HN.out hF) (λg hg=>by have:=hF g hg;have:=HN.out.size;omega))
 rw[HZ.out]at HN hs2 hb1 hb2
 have HB1:=hid hb1
 have HB2:=hid hb2
 have HS2:=hid hs2
 have c5:W2.cell? ⟨z,5,none⟩=some (.slice A l.length cap):=cell_of_heap hb1 5
 clear hA hrow hF hb1 hb2 hs2
 go_enter Tryz.func44,Tryz.ntmps44
 go_upto_region 1 with fail
 rw[HW2.out,HZ.out]
 go_wp2_with fail
 refine HC.out.mono ?_
 rintro e w5 ⟨s',rfl,hb5,hl5⟩
 obtain⟨A',cp',rfl⟩:=hl5.form
 have HL5:=hid hl5
 have HB5:=hid hb5
 have hz5:z+2≤w5.heap.size:=by have:=hb5.size;have:=HS2.out;omega
 have HB15:=hid ((hb5.block z (by have:=HS2.out;omega)).trans HB1.out)
 have HB25:=hid ((hb5.block (z+1) (by have:=HS2.out;omega)).trans HB2.out)
 have d0:w5.cell? ⟨z,0,none⟩=some (.int .i64 k):=cell_of_heap HB15.out 0
 have d5:w5.cell? ⟨z,5,none⟩=some (.slice A l.length cap):=cell_of_heap HB15.out 5
 have f5:w5.frozen? ⟨z,5,none⟩=false:=Lib.frozen_of_heap HB15.out 5
 have hb6:=heap_setCell_same w5 z 5 _ 39 (.slice A' l.length cp') HB15.out
 have hb62:(w5.setCell ⟨z,5,none⟩ (.slice A' l.length cp')).heap[z+1]?=_:=(Below.heap_setCell w5 ⟨z,5,none⟩ (.slice A' l.length cp') (z+1) (by simp)).trans HB25.out
 have ht6:=(Turn.refl (λb=>b=z∨b=z+1) w5).setCell (p:=⟨z,5,none⟩) (.inr (.inl rfl)) (.slice A' l.length cp')
 obtain⟨W6,HW6⟩:=name_itV (w5.setCell ⟨z,5,none⟩ (.slice A' l.length cp'))
 rw[HW6.out]at hb6 hb62 ht6
 have g0:W6.cell? ⟨z,0,none⟩=some (.int .i64 k):=cell_of_heap hb6 0
 have g1:W6.cell? ⟨z,1,none⟩=some (.bool t):=cell_of_heap hb6 1
 have g2:W6.cell? ⟨z,2,none⟩=some (.int .i64 n):=cell_of_heap hb6 2
 have g3:W6.cell? ⟨z,3,none⟩=some (.string s):=cell_of_heap hb6 3
 have g4:W6.cell? ⟨z,4,none⟩=some (.string x):=cell_of_heap hb6 4
 have g5:W6.cell? ⟨z,5,none⟩=some (.slice A' l.length cp'):=cell_of_heap hb6 5
 have r0:W6.cell? ⟨z+1,0,none⟩=some (.int .i64 0):=cell_of_heap hb62 0
 have y0:W6.frozen? ⟨z+1,0,none⟩=false:=Lib.frozen_of_heap hb62 0
 have r1:W6.cell? ⟨z+1,1,none⟩=some (.bool false):=cell_of_heap hb62 1
 have y1:W6.frozen? ⟨z+1,1,none⟩=false:=Lib.frozen_of_heap hb62 1
 have r2:W6.cell? ⟨z+1,2,none⟩=some (.int .i64 0):=cell_of_heap hb62 2
 have y2:W6.frozen? ⟨z+1,2,none⟩=false:=Lib.frozen_of_heap hb62 2
 have r3:W6.cell? ⟨z+1,3,none⟩=some (.string ⟨#[]⟩):=cell_of_heap hb62 3
 have y3:W6.frozen? ⟨z+1,3,none⟩=false:=Lib.frozen_of_heap hb62 3
 have r4:W6.cell? ⟨z+1,4,none⟩=some (.string ⟨#[]⟩):=cell_of_heap hb62 4
 have y4:W6.frozen? ⟨z+1,4,none⟩=false:=Lib.frozen_of_heap hb62 4
 have r5:W6.cell? ⟨z+1,5,none⟩=some (.slice none 0 0):=cell_of_heap hb62 5
 have y5:W6.frozen? ⟨z+1,5,none⟩=false:=Lib.frozen_of_heap hb62 5
 have HB6:=hid hb6
 have HB62:=hid hb62
 have HT6:=hid ht6
 clear hb5 hl5 hb6 hb62 ht6 c5
 go_upto_region 2 with fail
 rw[HW6.out]
 go_wp2_with fail
 have hz9:((((((W6.setCell ⟨z+1,0,none⟩ (.int .i64 k)).setCell ⟨z+1,1,none⟩ (.bool t)).setCell ⟨z+1,2,none⟩ (.int .i64 n)).setCell ⟨z+1,3,none⟩ (.string s)).setCell ⟨z+1,4,none⟩ (.string x)).setCell ⟨z+1,5,none⟩ (.slice A' l.length cp')).heap[z+1]?=some (.cells #[.int .i64 k,.bool t,.int .i64 n,.string s,.string x,.slice A' l.length cp'] 39 (0,0)):=(heap_setCell_same _ (z+1) 5 _ 39 _ (heap_setCell_same _ (z+1) 4 _ 39 _ (heap_setCell_same _ (z+1) 3 _ 39 _ (heap_setCell_same _ (z+1) 2 _ 39 _ (heap_setCell_same _ (z+1) 1 _ 39 _ (heap_setCell_same _ (z+1) 0 _ 39 _ HB62.out))))))
 have ht9:Turn (λb=>b=z∨b=z+1) w5 ((((((W6.setCell ⟨z+1,0,none⟩ (.int .i64 k)).setCell ⟨z+1,1,none⟩ (.bool t)).setCell ⟨z+1,2,none⟩ (.int .i64 n)).setCell ⟨z+1,3,none⟩ (.string s)).setCell ⟨z+1,4,none⟩ (.string x)).setCell ⟨z+1,5,none⟩ (.slice A' l.length cp')):=((((((HT6.out.setCell (p:=⟨z+1,0,none⟩) (.inr (.inr rfl)) _).setCell (p:=⟨z+1,1,none⟩) (.inr (.inr rfl)) _).setCell (p:=⟨z+1,2,none⟩) (.inr (.inr rfl)) _).setCell (p:=⟨z+1,3,none⟩) (.inr (.inr rfl)) _).setCell (p:=⟨z+1,4,none⟩) (.inr (.inr rfl)) _).setCell (p:=⟨z+1,5,none⟩) (.inr (.inr rfl)) _)
 obtain⟨W9,HW9⟩:=name_itV ((((((W6.setCell ⟨z+1,0,none⟩ (.int .i64 k)).setCell ⟨z+1,1,none⟩ (.bool t)).setCell ⟨z+1,2,none⟩ (.int .i64 n)).setCell ⟨z+1,3,none⟩ (.string s)).setCell ⟨z+1,4,none⟩ (.string x)).setCell ⟨z+1,5,none⟩ (.slice A' l.length cp'))
 rw[HW9.out]at hz9 ht9 ⊢
 have q0:W9.cell? ⟨z+1,0,none⟩=some (.int .i64 k):=cell_of_heap hz9 0
 have q1:W9.cell? ⟨z+1,1,none⟩=some (.bool t):=cell_of_heap hz9 1
 have q2:W9.cell? ⟨z+1,2,none⟩=some (.int .i64 n):=cell_of_heap hz9 2
 have q3:W9.cell? ⟨z+1,3,none⟩=some (.string s):=cell_of_heap hz9 3
 have q4:W9.cell? ⟨z+1,4,none⟩=some (.string x):=cell_of_heap hz9 4
 have q5:W9.cell? ⟨z+1,5,none⟩=some (.slice A' l.length cp'):=cell_of_heap hz9 5
 have HT9:=hid ht9
 clear ht9 hz9 r0 r1 r2 r3 r4 r5 y0 y1 y2 y3 y4 y5 g0 g1 g2 g3 g4 g5 d0 d5 f5
 go_wp2_with fail
 refine bodyPost_ret (v:=.agg #[.int .i64 k,.bool t,.int .i64 n,.string s,.string x,.slice A' l.length cp']) (by simp[results,Tryz.results44,go_sem,q0,q1,q2,q3,q4,q5]) rfl ⟨.slice A' l.length cp',rfl,?_,?_⟩
 ·rw[HZ.out]
  exact (HN.out.trans (HB5.out.mono (by have:=HS2.out;omega))).trans (HT9.out.below (λi _ h=>by omega) (by omega))
 ·have h1:=HL5.out.turn HT9.out (λb hb h=>by have:=HS2.out;omega)
  refine h1.mono (λb hb=>⟨?_,?_⟩)
  ·have:=HS2.out;have:=HZ.out;omega
  ·have:=HT9.out.size;omega
theorem infoVal:(Tryz.prog.info? 39).map (λi=>(i.zero,i.size,i.bytes))=some (some (.agg #[.int .i64 0,.bool false,.int .i64 0,.string ⟨#[]⟩,.string ⟨#[]⟩,.slice none 0 0]),6,80):=by kernel_rfl
theorem one_val (x:Val) (B:Option Addr) (n c:Nat):∀u∈(cellsV x (.slice B n c)).toList,u.oneCell'=true:=by
 intro u hu
 simp[cellsV]at hu
 rcases hu with h | h | h | h | h | h<;>subst h<;>rfl
set_option maxRecDepth 100000 in
set_option maxHeartbeats 1000000 in
theorem copy_any (N:Nat):∀(l:List Val) (_:sizeL l<N) (_:sizeL l≤100000000) (F:Nat→Prop) (A:Option Addr) (n cap:Nat) (w:World) (_:∀g,F g→g<w.heap.size) (_:LRd w F l A n),
    Calls Tryz.prog 110 #[.slice A n cap] w (CopyIs l w):=by
 induction N with
 | zero=>exact λ_ h=>absurd h (Nat.not_lt_zero _)
 | succ N ih=>
  intro l hN hs F A n cap w hF hl
  have HL:=hid hl
  have HF:=hid hF
  have IH:=hid ih
  have hl1:n≤l.length:=Nat.le_of_eq hl.1
  have hl2:l.length≤n:=Nat.le_of_eq hl.1.symm
  have hll:=len_le_size l
  clear hl hF ih
  go_enter Tryz.func110,Tryz.ntmps110
  go_wp2_with fail
  go_loopw [3,4] (λs3 s4 wr=>∃k:Nat,k≤n∧s4 = .int .i64 (k:Nat)∧Below w.heap.size w wr∧LOwn wr (λb=>w.heap.size≤b∧b<wr.heap.size) (l.take k) s3) (λ_ s4 _=>n-(intOf s4).toNat)
  case atStart=>exact⟨0,by omega,rfl,Below.refl _ _,LOwn.nil _ _⟩
  case round=>
   obtain⟨k,hk,rfl,hbz,hown⟩:=hrel
   have HBZ:=hid hbz
   have HOWN:=hid hown
   have HL2:=hid (HL.out.under hbz HF.out)
   have hws:w.heap.size≤wr.heap.size:=hbz.size
   have htkl:(l.take k).length=k:=by simp;omega
   have HTKL:=hid htkl
   obtain⟨A3,c3,h3⟩:=hown.form
   rw[htkl]at h3
   subst h3
   clear hbz hown htkl
   by_cases hlt:k<n
   ·obtain⟨x,hx⟩:∃x,l[k]?=some x:=⟨l[k]'(by omega),List.getElem?_eq_getElem _⟩
    have hxm:=sizeV_mem (List.mem_of_getElem? hx)
    have hxl:=sizeL_list x
    obtain⟨ad,sx,rfl,_,⟨Bx,cx,rfl,_,hlx⟩,_,d0,d1,d2,d3,d4,d5⟩:=HL2.out.cellsAt hx
    have HC:=hid (copy_step x Bx cx wr (F:=F) (λg hg=>Nat.lt_of_lt_of_le (HF.out g hg) hws) hlx (λw' h1 h2=>IH.out x.list (by omega) (by omega) F Bx _ cx w' h2 h1))
    have HX:=hid hx
    have e1:(0:Int)≤k:=by omega
    have e2:(k:Int)<n:=by omega
    clear hx hxm hxl hlx
    unfold cellsV at HC
    obtain⟨lx,HLX⟩:=name_itV x.list.length
    rw[HLX.out]at d5 HC
    go_wp2_with fail
    refine HC.out.mono ?_
    rintro e w5 ⟨s',rfl,hb5,hl5⟩
    obtain⟨A',cp',rfl⟩:=hl5.form
    unfold cellsV
    rw[HLX.out]
    have HL5:=hid hl5
    have HB5:=hid hb5
    obtain⟨cs,Fs,hrow,h6,hFw,hFs,hdis,hr⟩:=HOWN.out.turn (Turn.of_below hb5) (λb hb h=>by omega)
    rw[HTKL.out]at hrow
    have HROW:=hid hrow
    have hs5:wr.heap.size≤w5.heap.size:=hb5.size
    have HREST:=hid (And.intro h6 (And.intro hFw (And.intro hFs (And.intro hdis hr))))
    rw[HLX.out]at HL5
    clear hb5 hl5 hrow h6 hFw hFs hdis hr
    go_wp2_with (at_builtin;refine app_new rfl _ _ 37 rfl 0 39 (.agg #[.int .i64 0,.bool false,.int .i64 0,.string ⟨#[]⟩,.string ⟨#[]⟩,.slice none 0 0]) 6 80 Tryz.underlying37 infoVal rfl (by decide) _ _ _ rfl HROW.out (Nat.zero_le _) _ 1 1 rfl rfl (one_val x A' lx cp') (by omega) (by omega) (by decide) ?_)
    intro g4 c4 w6 ho6 hg6 hl6
    have HO6:=hid ho6
    have HG6:=hid (show w5.grownBy w6 (Value.slice A3 k c3).ownBlock from hg6)
    have HL6:=hid (show (Value.slice A3 k c3).ownBlock=some g4∨w5.heap.size≤g4 from hl6)
    clear ho6 hg6 hl6
    go_wp2_with fail
    go_roundw
    case rel=>
     obtain⟨h6,hFw,hFs,hdis,hr⟩:=HREST.out
     have hxl5:=HL5.out
     rw[←HLX.out]at hxl5
     have ho6:=HO6.out
     have hg4:g4<w6.heap.size:=(ho6.lt g4 rfl).2
     have hs6:w5.heap.size≤w6.heap.size:=HG6.out.size
     have hown4:∀b,some b=(Value.slice A3 k c3).ownBlock→w.heap.size≤b:=λb hb=>(hFw b hb.symm).1
     have hsn:=own_snoc (w5:=w5) (w6:=w6) (F:=λb=>w.heap.size≤b∧b<wr.heap.size) (G:=λb=>wr.heap.size≤b∧b<w5.heap.size) (l:=l.take k) (x:=x) (s:=.slice A3 k c3) (sx:=.slice A' x.list.length cp') (g4:=g4) (c4:=c4) (cs:=cs) (Fs:=Fs) h6 hFw hFs hdis hr hxl5
      (λb hb h=>by obtain⟨_,h1⟩:=hb;obtain⟨h2,_⟩:=h;omega) (λb hb=>by obtain⟨_,h1⟩:=hb;omega) (λb hb=>hb.2) (by
      rw[HTKL.out]
      unfold cellsV
      rw[HLX.out]
      exact ho6) HG6.out HL6.out
     rw[HTKL.out]at hsn
     refine⟨k+1,by omega,by go_num,(HBZ.out.trans (HB5.out.mono hws)).trans ((Turn.of_grown HG6.out).below (λb _ hb=>hown4 b hb) (by omega)),?_⟩
     rw[take_oneMore HX.out]
     refine hsn.mono (λb hb=>?_)
     rcases hb with hb | hb | hb
     ·exact⟨hb.1,by omega⟩
     ·exact⟨by omega,by omega⟩
     ·subst hb
      refine⟨?_,hg4⟩
      rcases HL6.out with h | h
      ·exact hown4 b h.symm
      ·omega
    case measure=>simp[intOf];omega
   ·have hke:k=n:=by omega
    subst hke
    have htk:l.take k=l:=List.take_of_length_le (by omega)
    have HTK:=hid htk
    clear htk
    go_wp2_with fail
    go_ret
    exact⟨_,rfl,HBZ.out,by have h:=HOWN.out;rw[HTK.out]at h;exact h⟩
end Go.Proofs.YtefhfadjajcmkaaGreatDoor
namespace Go.Proofs.YtefhfadjajcmkaaGreatDoor
open Go Go.RowKit Go.Maps Go.WideMaps
open Go.Lib (hid cell_of_heap)
structure Grown (v v':Value) (w w':World):Prop where
 turn:Turn (λi=>some i=v.ownBlock) w w'
 lies:v'.ownBlock=v.ownBlock∨∀g,v'.ownBlock=some g→w.heap.size≤g
theorem Grown.refl (v:Value) (w:World):Grown v v w w:=⟨Turn.refl _ _,.inl rfl⟩
theorem Grown.trans {v v1 v2:Value} {w w1 w2:World} (h:Grown v v1 w w1) (k:Grown v1 v2 w1 w2):Grown v v2 w w2:=by
 refine⟨h.turn.andThen k.turn (λi hi hs=>?_),?_⟩
 ·rcases h.lies with e | e
  ·rw[←e];exact hs
  ·have:=e i hs.symm;omega
 ·rcases k.lies with e | e
  ·rcases h.lies with e2 | e2
   ·exact .inl (e.trans e2)
   ·exact .inr (λg hg=>e2 g (by rw[←e];exact hg))
  ·exact .inr (λg hg=>Nat.le_trans h.turn.size (e g hg))
theorem Grown.below {v:Value} {w w':World} (h:Below w.heap.size w w'):Grown v v w w':=⟨(Turn.of_below h).mono (λi hi hs=>by omega),.inl rfl⟩
def BRd (w:World) (G:Nat) (s:Value) (R:List UInt8):Prop:=
 ∃ad cap,s = .slice (some ad) R.length cap∧R.length≤cap∧ad.block=G∧∀i c,R[i]?=some c→w.cell? (ad.add i)=some (.int .u8 (c.toNat:Int))
theorem BRd.keep {w w':World} {G:Nat} {s:Value} {R:List UInt8} (h:BRd w G s R) (hk:w'.heap[G]?=w.heap[G]?):BRd w' G s R:=by
 obtain⟨ad,cap,e,hc,hb,hr⟩:=h
 exact⟨ad,cap,e,hc,hb,λi c hi=>(World.cell?_of_block (by rw[block_of_add,hb];exact hk)).trans (hr i c hi)⟩
mutual
def i64V:Val→Prop
 | .mk _ _ n _ _ l=>(-9223372036854775808≤n∧n≤9223372036854775807)∧i64L l
def i64L:List Val→Prop
 | []=>True
 | v::r=>i64V v∧i64L r
end
section
variable {w:World} {h rb G:Nat} {R:List UInt8} {k:Int} {b:Bool} {n:Int} {t x:ByteArray} {l:List Val} {s:Value} {wr:World}
end
end Go.Proofs.YtefhfadjajcmkaaGreatDoor
namespace Go.Proofs.YtefhfadjajcmkaaGreatDoor
open Go Go.ChangeShapes Go.WideShapes Go.ChangeAt Go.RowKit Go.Joins
open Go.Lib (hid cell_of_heap)
theorem cellAdd (a:Addr) (i j:Nat):(a.add i).add j=a.add (i+j):=Go.Deep.add_add a i j
theorem trod_six {H:Type} {enc:TypeId×Value→H} {P:Program} {w:World} {base:Nat} {spare:Nat→Bool} {held:Bool} {t:TypeId} {f0 f1 f2 f3 f4 f5:Field} {fuel:Nat} {cs:List Value} {x:DataW H×List MemPlace} (ht:P.underlying t=some (.struct #[f0,f1,f2,f3,f4,f5])) (ce:P.cellsOf t=6)
    (o0:f0.offset=0) (o1:f1.offset=1) (o2:f2.offset=2) (o3:f3.offset=3) (o4:f4.offset=4) (o5:f5.offset=5) (c0:P.cellsOf f0.type=1) (c1:P.cellsOf f1.type=1) (c2:P.cellsOf f2.type=1) (c3:P.cellsOf f3.type=1) (c4:P.cellsOf f4.type=1) (c5:P.cellsOf f5.type=1)
    (h:DataW.trod enc P w base spare held fuel t cs=some x) :
    ∃(v0 v1 v2 v3 v4 v5:Value) (y0 y1 y2 y3 y4 y5:DataW H×List MemPlace) (k:Nat),cs=[v0,v1,v2,v3,v4,v5]∧x.1 = .agg [y0.1,y1.1,y2.1,y3.1,y4.1,y5.1]∧DataW.trod enc P w base spare held k f0.type [v0]=some y0∧DataW.trod enc P w base spare held k f1.type [v1]=some y1∧DataW.trod enc P w base spare held k f2.type [v2]=some y2∧DataW.trod enc P w base spare held k f3.type [v3]=some y3∧DataW.trod enc P w base spare held k f4.type [v4]=some y4∧DataW.trod enc P w base spare held k f5.type [v5]=some y5:=by
 obtain⟨xs,k,hk,hxy,hcl,hxl,hf⟩:=DataW.trod_struct ht h
 rw[ce]at hcl
 match xs,hxl,cs,hcl with
 | [y0,y1,y2,y3,y4,y5],_,[v0,v1,v2,v3,v4,v5],_=>
  have g0:=hf 0 f0 rfl
  have g1:=hf 1 f1 rfl
  have g2:=hf 2 f2 rfl
  have g3:=hf 3 f3 rfl
  have g4:=hf 4 f4 rfl
  have g5:=hf 5 f5 rfl
  simp[o0,o1,o2,o3,o4,o5,c0,c1,c2,c3,c4,c5]at g0 g1 g2 g3 g4 g5
  exact⟨v0,v1,v2,v3,v4,v5,y0,y1,y2,y3,y4,y5,k,rfl,by rw[hxy];rfl,g0,g1,g2,g3,g4,g5⟩
set_option maxRecDepth 100000 in
theorem val_cells {H:Type} {enc:TypeId×Value→H} {W:World} {N:Nat} {held:Bool} {n:Nat} {cs:List Value} {d:DataW H} {p:List MemPlace}
    (ih:∀{fuel:Nat} {v:Value} {d:DataW H} {p:List MemPlace},Rows.uptoBulk d≤N→DataW.trod enc Tryz.prog W 0 (λ_=>true) held fuel 37 [v]=some (d,p) →
     ∃A n cap l,v = .slice A n cap∧n≤cap∧LRd W (λg=>g<W.heap.size) l A n∧i64L l∧sizeL l<Rows.uptoBulk d)
    (hN:Rows.uptoBulk d≤N+1) (h:DataW.trod enc Tryz.prog W 0 (λ_=>true) held n 39 cs=some (d,p)) :
    ∃x,cs.toArray.size=6∧VRd W (λg=>g<W.heap.size) x (.agg cs.toArray)∧i64V x∧sizeV x≤Rows.uptoBulk d:=by
 obtain⟨v0,v1,v2,v3,v4,v5,y0,y1,y2,y3,y4,y5,k,rfl,hxy,g0,g1,g2,g3,g4,g5⟩:=trod_six Tryz.underlying39 (by kernel_rfl) rfl rfl rfl rfl rfl rfl (by kernel_rfl) (by kernel_rfl) (by kernel_rfl) (by kernel_rfl) (by kernel_rfl) (by kernel_rfl) h
 obtain⟨k0,e0,d0,w0⟩:=DataW.trod_int (by kernel_rfl:Tryz.prog.underlying 3=some (.int .i64)) g0
 obtain⟨k1,e1,d1⟩:=DataW.trod_bool (by kernel_rfl:Tryz.prog.underlying 4=some .bool) g1
 obtain⟨k2,e2,d2,w2⟩:=DataW.trod_int (by kernel_rfl:Tryz.prog.underlying 2=some (.int .i64)) g2
 obtain⟨k3,e3,d3,w3⟩:=DataW.trod_string (by kernel_rfl:Tryz.prog.underlying 9=some .string) g3
 obtain⟨k4,e4,d4,w4⟩:=DataW.trod_string (by kernel_rfl:Tryz.prog.underlying 9=some .string) g4
 injection e0 with e0 _
 injection e1 with e1 _
 injection e2 with e2 _
 injection e3 with e3 _
 injection e4 with e4 _
 subst e0 e1 e2 e3 e4 d0 d1 d2 d3 d4
 obtain⟨y5,p5⟩:=y5
 simp only at hxy
 subst hxy
 have hbulk:6+k3.size+k4.size+Rows.uptoBulk y5≤Rows.uptoBulk (DataW.agg [.lit (.int .i64 k0),.lit (.bool k1),.lit (.int .i64 k2),.lit (.string k3.data.toList),.lit (.string k4.data.toList),y5]):=by
  have z3:k3.data.toList.length=k3.size:=by rw[Array.length_toList];rfl
  have z4:k4.data.toList.length=k4.size:=by rw[Array.length_toList];rfl
  simp only[Rows.uptoBulk,Rows.uptoBulkAll]
  omega
 obtain⟨A,m,cap,l,e5,hcap,hl,h64,hsz⟩:=ih (by omega) g5
 subst e5
 have hm:m=l.length:=hl.1
 subst hm
 have h2:-9223372036854775808≤k2∧k2≤9223372036854775807:=by simpa [Lit.wf,IntKind.min,IntKind.max,IntKind.signed,IntKind.bits] using w2
 refine⟨.mk k0 k1 k2 k3 k4 l,rfl,VRd.of_list (v:=.mk k0 k1 k2 k3 k4 l) hcap hl,⟨h2,h64⟩,?_⟩
 simp only[sizeV]
 omega
set_option maxRecDepth 100000 in
theorem vals_open {H:Type} {enc:TypeId×Value→H} {W:World} {held:Bool} (N:Nat):∀{fuel:Nat} {v:Value} {d:DataW H} {p:List MemPlace},Rows.uptoBulk d≤N→DataW.trod enc Tryz.prog W 0 (λ_=>true) held fuel 37 [v]=some (d,p) →
      ∃A n cap l,v = .slice A n cap∧n≤cap∧LRd W (λg=>g<W.heap.size) l A n∧i64L l∧sizeL l<Rows.uptoBulk d:=by
 induction N with
 | zero=>intro fuel v d p hN;have:=bulks.one_le d;omega
 | succ N ih=>
  intro fuel v d p hN h
  rcases Go.Deep.open_slice Tryz.underlying37 h with⟨h3,hd⟩ | ⟨a,len,cap,m,n,D,Pl,h3,_,hlc,hcm,hm,hd,hel⟩
  ·injection h3 with h3 _
   subst h3
   exact⟨none,0,0,[],rfl,Nat.le_refl _,LRd.nil 0 rfl,trivial,by simp only[sizeL];exact bulks.one_le d⟩
  ·injection h3 with h3 _
   subst h3
   have hml:len≤m:=by rw[hm];split<;>omega
   injection hd with hd _
   subst hd
   have hb:=bulks.slice_elems ((List.range len).map D) ((List.range (m-len)).map λj=>D (len+j))
   have hDi:∀i,i<len→Rows.uptoBulk (D i)≤N:=λi hi=>by
    have:=bulks.part_le (List.mem_map.2 ⟨i,List.mem_range.2 hi,rfl⟩:D i∈(List.range len).map D)
    omega
   have each:∀i,i<len→∃q:Val×Array Value,q.2.size=6∧(∀j,j<6→W.cell? (a.add (i*6+j))=q.2[j]?)∧VRd W (λg=>g<W.heap.size) q.1 (.agg q.2)∧i64V q.1∧sizeV q.1≤Rows.uptoBulk (D i):=λi hi=>by
    obtain⟨cs',c1,c2⟩:=hel i (by omega)
    rw[show Tryz.prog.cellsOf 39=6 by kernel_rfl]at c1
    obtain⟨_,hlen,hcell⟩:=World.cells?_some c1
    obtain⟨x,x1,x2,x3,x4⟩:=val_cells (λhN h=>ih hN h) (Nat.le_succ_of_le (hDi i hi)) c2
    exact⟨(x,cs'.toArray),x1,λj hj=>by rw[←cellAdd,hcell j hj];simp,x2,x3,x4⟩
   have hex:∃q:Nat→Val×Array Value,∀i,i<len→(q i).2.size=6∧(∀j,j<6→W.cell? (a.add (i*6+j))=(q i).2[j]?)∧VRd W (λg=>g<W.heap.size) (q i).1 (.agg (q i).2)∧i64V (q i).1∧sizeV (q i).1≤Rows.uptoBulk (D i):=by
    classical
    exact⟨λi=>if hi:i<len then Classical.choose (each i hi) else (.mk 0 false 0 ⟨#[]⟩ ⟨#[]⟩ [],#[]),λi hi=>by simp only[dif_pos hi];exact Classical.choose_spec (each i hi)⟩
   obtain⟨q,hq⟩:=hex
   refine⟨some a,len,cap,(List.range len).map λi=>(q i).1,rfl,hlc,⟨by simp,λhn=>⟨a,rfl,?_,λi x hx=>?_⟩⟩,?_,?_⟩
   ·obtain⟨cs',c1,_⟩:=hel 0 (by omega)
    rw[show Tryz.prog.cellsOf 39=6 by kernel_rfl]at c1
    obtain⟨_,hlen,hcell⟩:=World.cells?_some c1
    have h0:=hcell 0 (by omega)
    rw[List.getElem?_eq_getElem (by omega)]at h0
    have:=World.block_lt_of_cell? W _ h0
    simpa [Addr.add] using this
   ·rw[List.getElem?_map]at hx
    have hil:i<len:=by
     rcases Nat.lt_or_ge i len with h' | h'
     ·exact h'
     ·rw[List.getElem?_eq_none (by simpa using h')]at hx;cases hx
    rw[List.getElem?_range hil]at hx
    injection hx with hx
    subst hx
    obtain⟨q1,q2,q3,_⟩:=hq i hil
    exact⟨_,q1,q2,q3⟩
   ·have:∀L:List Nat,(∀i,i∈L→i<len)→i64L (L.map λi=>(q i).1):=λL=>by
      induction L with
      | nil=>intro _;trivial
      | cons x r ihl=>intro hL;exact⟨(hq x (hL x (List.mem_cons_self ..))).2.2.2.1,ihl λi hi=>hL i (List.mem_cons_of_mem _ hi)⟩
    exact this _ λi hi=>List.mem_range.1 hi
   ·have:∀L:List Nat,(∀i,i∈L→i<len)→sizeL (L.map λi=>(q i).1)≤Rows.uptoBulkAll (L.map D):=λL=>by
      induction L with
      | nil=>intro _;simp[sizeL]
      | cons x r ihl=>
       intro hL
       have h1:=(hq x (hL x (List.mem_cons_self ..))).2.2.2.2
       have h2:=ihl λi hi=>hL i (List.mem_cons_of_mem _ hi)
       simp only[List.map_cons,sizeL,Rows.uptoBulkAll]
       omega
    have:=this (List.range len) λi hi=>List.mem_range.1 hi
    omega
theorem trod_op {H:Type} {enc:TypeId×Value→H} {P:Program} {w:World} {base:Nat} {spare:Nat→Bool} {held:Bool} {t:TypeId} {f0 f1:Field} {fuel:Nat} {cs:List Value} {x:DataW H×List MemPlace} (ht:P.underlying t=some (.struct #[f0,f1])) (ce:P.cellsOf t=7)
    (o0:f0.offset=0) (o1:f1.offset=1) (c0:P.cellsOf f0.type=1) (c1:P.cellsOf f1.type=6)
    (h:DataW.trod enc P w base spare held fuel t cs=some x) :
    ∃(v0 v1 v2 v3 v4 v5 v6:Value) (y0 y1:DataW H×List MemPlace) (k:Nat),cs=[v0,v1,v2,v3,v4,v5,v6]∧x.1 = .agg [y0.1,y1.1]∧DataW.trod enc P w base spare held k f0.type [v0]=some y0∧DataW.trod enc P w base spare held k f1.type [v1,v2,v3,v4,v5,v6]=some y1:=by
 obtain⟨xs,k,hk,hxy,hcl,hxl,hf⟩:=DataW.trod_struct ht h
 rw[ce]at hcl
 match xs,hxl,cs,hcl with
 | [y0,y1],_,[v0,v1,v2,v3,v4,v5,v6],_=>
  have g0:=hf 0 f0 rfl
  have g1:=hf 1 f1 rfl
  simp[o0,o1,c0,c1]at g0 g1
  exact⟨v0,v1,v2,v3,v4,v5,v6,y0,y1,k,rfl,by rw[hxy];rfl,g0,g1⟩
theorem trod_tr {H:Type} {enc:TypeId×Value→H} {P:Program} {w:World} {base:Nat} {spare:Nat→Bool} {held:Bool} {t:TypeId} {f0 f1 f2:Field} {fuel:Nat} {cs:List Value} {x:DataW H×List MemPlace} (ht:P.underlying t=some (.struct #[f0,f1,f2])) (ce:P.cellsOf t=18)
    (o0:f0.offset=0) (o1:f1.offset=6) (o2:f2.offset=12) (c0:P.cellsOf f0.type=6) (c1:P.cellsOf f1.type=6) (c2:P.cellsOf f2.type=6)
    (h:DataW.trod enc P w base spare held fuel t cs=some x) :
    ∃(v0 v1 v2 v3 v4 v5 v6 v7 v8 v9 v10 v11 v12 v13 v14 v15 v16 v17:Value) (y0 y1 y2:DataW H×List MemPlace) (k:Nat),cs=[v0,v1,v2,v3,v4,v5,v6,v7,v8,v9,v10,v11,v12,v13,v14,v15,v16,v17]∧x.1 = .agg [y0.1,y1.1,y2.1]∧DataW.trod enc P w base spare held k f0.type [v0,v1,v2,v3,v4,v5]=some y0∧DataW.trod enc P w base spare held k f1.type [v6,v7,v8,v9,v10,v11]=some y1∧DataW.trod enc P w base spare held k f2.type [v12,v13,v14,v15,v16,v17]=some y2:=by
 obtain⟨xs,k,hk,hxy,hcl,hxl,hf⟩:=DataW.trod_struct ht h
 rw[ce]at hcl
 match xs,hxl,cs,hcl with
 | [y0,y1,y2],_,[v0,v1,v2,v3,v4,v5,v6,v7,v8,v9,v10,v11,v12,v13,v14,v15,v16,v17],_=>
  have g0:=hf 0 f0 rfl
  have g1:=hf 1 f1 rfl
  have g2:=hf 2 f2 rfl
  simp[o0,o1,o2,c0,c1,c2]at g0 g1 g2
  exact⟨v0,v1,v2,v3,v4,v5,v6,v7,v8,v9,v10,v11,v12,v13,v14,v15,v16,v17,y0,y1,y2,k,rfl,by rw[hxy];rfl,g0,g1,g2⟩
theorem trod_four {H:Type} {enc:TypeId×Value→H} {P:Program} {w:World} {base:Nat} {spare:Nat→Bool} {held:Bool} {t:TypeId} {f0 f1 f2 f3:Field} {fuel:Nat} {cs:List Value} {x:DataW H×List MemPlace} (ht:P.underlying t=some (.struct #[f0,f1,f2,f3])) (ce:P.cellsOf t=4)
    (o0:f0.offset=0) (o1:f1.offset=1) (o2:f2.offset=2) (o3:f3.offset=3) (c0:P.cellsOf f0.type=1) (c1:P.cellsOf f1.type=1) (c2:P.cellsOf f2.type=1) (c3:P.cellsOf f3.type=1)
    (h:DataW.trod enc P w base spare held fuel t cs=some x) :
    ∃(v0 v1 v2 v3:Value) (y0 y1 y2 y3:DataW H×List MemPlace) (k:Nat),cs=[v0,v1,v2,v3]∧x.1 = .agg [y0.1,y1.1,y2.1,y3.1]∧DataW.trod enc P w base spare held k f0.type [v0]=some y0∧DataW.trod enc P w base spare held k f1.type [v1]=some y1∧DataW.trod enc P w base spare held k f2.type [v2]=some y2∧DataW.trod enc P w base spare held k f3.type [v3]=some y3:=by
 obtain⟨xs,k,hk,hxy,hcl,hxl,hf⟩:=DataW.trod_struct ht h
 rw[ce]at hcl
 match xs,hxl,cs,hcl with
 | [y0,y1,y2,y3],_,[v0,v1,v2,v3],_=>
  have g0:=hf 0 f0 rfl
  have g1:=hf 1 f1 rfl
  have g2:=hf 2 f2 rfl
  have g3:=hf 3 f3 rfl
  simp[o0,o1,o2,o3,c0,c1,c2,c3]at g0 g1 g2 g3
  exact⟨v0,v1,v2,v3,y0,y1,y2,y3,k,rfl,by rw[hxy];rfl,g0,g1,g2,g3⟩
def sumBy {α : Type} (f:α → Nat) (l:List α):Nat:=(l.map f).sum
set_option maxRecDepth 100000 in
theorem slice_of {α : Type} [Inhabited α] {H:Type} {enc:TypeId×Value→H} {W:World} {held:Bool} {R:Lies α} {sz N:Nat} {T E:TypeId} {Q:α → Prop} {wt:α → Nat} (hT:Tryz.prog.underlying T=some (.slice E)) (hE:Tryz.prog.cellsOf E=sz) (hsz:0<sz)
    (each:∀{fuel:Nat} {cs:List Value} {d:DataW H} {p:List MemPlace},Rows.uptoBulk d≤N→DataW.trod enc Tryz.prog W 0 (λ_=>true) held fuel E cs=some (d,p)→∃x:α,cs.toArray.size=sz∧R W (λg=>g<W.heap.size) x cs.toArray∧Q x∧wt x≤Rows.uptoBulk d)
    {fuel:Nat} {v:Value} {d:DataW H} {p:List MemPlace} (hN:Rows.uptoBulk d≤N) (h:DataW.trod enc Tryz.prog W 0 (λ_=>true) held fuel T [v]=some (d,p)) :
    ∃l:List α,SlR sz R W (λg=>g<W.heap.size) l v∧(∀x,x∈l→Q x)∧sumBy wt l<Rows.uptoBulk d∧l.length<Rows.uptoBulk d:=by
 rcases Go.Deep.open_slice hT h with⟨h3,hd⟩ | ⟨a,len,cap,m,n,D,Pl,h3,_,hlc,hcm,hm,hd,hel⟩
 ·injection h3 with h3 _
  subst h3
  have h1:=bulks.one_le d
  exact⟨[],SlR.nil ..,λx hx=>(List.not_mem_nil hx).elim,by show 0<_;omega,by show 0<_;omega⟩
 ·injection h3 with h3 _
  subst h3
  have hml:len≤m:=by rw[hm];split<;>omega
  injection hd with hd _
  subst hd
  have hb:=bulks.slice_elems ((List.range len).map D) ((List.range (m-len)).map λj=>D (len+j))
  have hb2:=bulks.slice_le ((List.range len).map D) ((List.range (m-len)).map λj=>D (len+j))
  have hDi:∀i,i<len→Rows.uptoBulk (D i)≤N:=λi hi=>by
   have:=bulks.part_le (List.mem_map.2 ⟨i,List.mem_range.2 hi,rfl⟩:D i∈(List.range len).map D)
   omega
  have ev:∀i,i<len→∃q:α × Array Value,q.2.size=sz∧(∀j,j<sz→W.cell? (a.add (i*sz+j))=q.2[j]?)∧R W (λg=>g<W.heap.size) q.1 q.2∧Q q.1∧wt q.1≤Rows.uptoBulk (D i):=λi hi=>by
   obtain⟨cs',c1,c2⟩:=hel i (by omega)
   rw[hE]at c1
   obtain⟨_,hlen,hcell⟩:=World.cells?_some c1
   obtain⟨x,x1,x2,x3,x4⟩:=each (hDi i hi) c2
   exact⟨(x,cs'.toArray),x1,λj hj=>by rw[←cellAdd,hcell j hj];simp,x2,x3,x4⟩
  have hex:∃q:Nat → α × Array Value,∀i,i<len→(q i).2.size=sz∧(∀j,j<sz→W.cell? (a.add (i*sz+j))=(q i).2[j]?)∧R W (λg=>g<W.heap.size) (q i).1 (q i).2∧Q (q i).1∧wt (q i).1≤Rows.uptoBulk (D i):=by
   classical
   exact⟨λi=>if hi:i<len then Classical.choose (ev i hi) else (default,#[]),λi hi=>by simp only[dif_pos hi];exact Classical.choose_spec (ev i hi)⟩
  obtain⟨q,hq⟩:=hex
  have hll:((List.range len).map λi=>(q i).1).length=len:=by simp
  refine⟨(List.range len).map λi=>(q i).1,⟨some a,cap,by rw[hll],by rw[hll];exact hlc,rfl,λhn=>⟨a,rfl,?_,λi x hx=>?_⟩⟩,?_,?_,?_⟩
  ·obtain⟨cs',c1,_⟩:=hel 0 (by rw[hll]at hn;omega)
   rw[hE]at c1
   obtain⟨_,hlen,hcell⟩:=World.cells?_some c1
   have h0:=hcell 0 hsz
   rw[List.getElem?_eq_getElem (by omega)]at h0
   have:=World.block_lt_of_cell? W _ h0
   simpa [Addr.add] using this
  ·rw[List.getElem?_map]at hx
   have hil:i<len:=by
    rcases Nat.lt_or_ge i len with h' | h'
    ·exact h'
    ·rw[List.getElem?_eq_none (by simpa using h')]at hx;cases hx
   rw[List.getElem?_range hil]at hx
   injection hx with hx
   subst hx
   obtain⟨q1,q2,q3,_⟩:=hq i hil
   exact⟨_,q1,q2,q3⟩
  ·intro x hx
   obtain⟨i,hi,rfl⟩:=List.mem_map.1 hx
   exact (hq i (List.mem_range.1 hi)).2.2.2.1
  ·have:∀L:List Nat,(∀i,i∈L→i<len)→sumBy wt (L.map λi=>(q i).1)≤Rows.uptoBulkAll (L.map D):=λL=>by
     induction L with
     | nil=>intro _;simp[sumBy]
     | cons x r ihl=>
      intro hL
      have h1:=(hq x (hL x (List.mem_cons_self ..))).2.2.2.2
      have h2:=ihl λi hi=>hL i (List.mem_cons_of_mem _ hi)
      simp only[sumBy,List.map_cons,List.sum_cons,Rows.uptoBulkAll]at h2 ⊢
      omega
   have:=this (List.range len) λi hi=>List.mem_range.1 hi
   omega
  ·rw[hll]
   have hh:((List.range len).map D).length=len:=by simp
   omega
instance:Inhabited Val:=⟨.mk 0 false 0 ⟨#[]⟩ ⟨#[]⟩ []⟩
instance:Inhabited Trip:=⟨⟨default,default,default⟩⟩
section
variable {H:Type} {enc:TypeId×Value→H} {W:World} {held:Bool} {fuel:Nat} {d:DataW H} {p:List MemPlace}
theorem val_of_cells {cs:List Value} (hN:Rows.uptoBulk d≤1048576) (h:DataW.trod enc Tryz.prog W 0 (λ_=>true) held fuel 39 cs=some (d,p)) :
    ∃x:Val,OkV x∧∃s,cs.toArray=cellsV x s∧VRd W (λg=>g<W.heap.size) x (.agg (cellsV x s)):=by
 obtain⟨x,x1,x2,x3,x4⟩:=val_cells (N:=1048576) (λhN h=>vals_open 1048576 hN h) (by omega) h
 obtain⟨A,cap,hu,_,_⟩:=x2.inv
 injection hu with hu
 have hi:-9223372036854775808≤x.num∧x.num≤9223372036854775807:=by
  cases x with
  | mk k b n t y l=>
   simp only[i64V]at x3
   exact x3.1
 exact⟨x,⟨by omega,hi.1,hi.2⟩,_,hu,by rw[←hu];exact x2⟩
set_option maxRecDepth 100000 in
theorem tr_el {cs:List Value} (hN:Rows.uptoBulk d≤1048576) (h:DataW.trod enc Tryz.prog W 0 (λ_=>true) held fuel 41 cs=some (d,p)) :
    ∃x:Trip,cs.toArray.size=18∧TrR W (λg=>g<W.heap.size) x cs.toArray∧OkT x∧(λ_:Trip=>0) x≤Rows.uptoBulk d:=by
 obtain⟨v0,v1,v2,v3,v4,v5,v6,v7,v8,v9,v10,v11,v12,v13,v14,v15,v16,v17,y0,y1,y2,k,rfl,hxy,g0,g1,g2⟩:=trod_tr Tryz.underlying41 (by kernel_rfl) rfl rfl rfl (by kernel_rfl) (by kernel_rfl) (by kernel_rfl) h
 obtain⟨y0,p0⟩:=y0
 obtain⟨y1,p1⟩:=y1
 obtain⟨y2,p2⟩:=y2
 simp only at hxy
 subst hxy
 have hb:Rows.uptoBulk y0+Rows.uptoBulk y1+Rows.uptoBulk y2≤Rows.uptoBulk (DataW.agg [y0,y1,y2]):=by
  simp only[Rows.uptoBulk,Rows.uptoBulkAll]
  omega
 obtain⟨x,o0,s0,e0,r0⟩:=val_of_cells (by omega) g0
 obtain⟨y,o1,s1,e1,r1⟩:=val_of_cells (by omega) g1
 obtain⟨z,o2,s2,e2,r2⟩:=val_of_cells (by omega) g2
 refine⟨⟨x,y,z⟩,rfl,⟨λi=>if i=0 then s0 else if i=1 then s1 else s2,?_,λi hi=>?_⟩,⟨o0,o1,o2⟩,Nat.zero_le _⟩
 ·show _=cellsV x s0++cellsV y s1++cellsV z s2
  rw[←e0,←e1,←e2]
  rfl
 ·rcases (show i=0∨i=1∨i=2 by omega) with rfl | rfl | rfl
  ·exact r0
  ·exact r1
  ·exact r2
set_option maxRecDepth 100000 in
theorem pat_el {cs:List Value} (hN:Rows.uptoBulk d≤1048576) (h:DataW.trod enc Tryz.prog W 0 (λ_=>true) held fuel 45 cs=some (d,p)) :
    ∃x:Trip,cs.toArray.size=18∧TrR W (λg=>g<W.heap.size) x cs.toArray∧OkT x∧(λ_:Trip=>0) x≤Rows.uptoBulk d:=by
 obtain⟨v0,v1,v2,v3,v4,v5,v6,v7,v8,v9,v10,v11,v12,v13,v14,v15,v16,v17,y0,y1,y2,k,rfl,hxy,g0,g1,g2⟩:=trod_tr Tryz.underlying45 (by kernel_rfl) rfl rfl rfl (by kernel_rfl) (by kernel_rfl) (by kernel_rfl) h
 obtain⟨y0,p0⟩:=y0
 obtain⟨y1,p1⟩:=y1
 obtain⟨y2,p2⟩:=y2
 simp only at hxy
 subst hxy
 have hb:Rows.uptoBulk y0+Rows.uptoBulk y1+Rows.uptoBulk y2≤Rows.uptoBulk (DataW.agg [y0,y1,y2]):=by
  simp only[Rows.uptoBulk,Rows.uptoBulkAll]
  omega
 obtain⟨x,o0,s0,e0,r0⟩:=val_of_cells (by omega) g0
 obtain⟨y,o1,s1,e1,r1⟩:=val_of_cells (by omega) g1
 obtain⟨z,o2,s2,e2,r2⟩:=val_of_cells (by omega) g2
 refine⟨⟨x,y,z⟩,rfl,⟨λi=>if i=0 then s0 else if i=1 then s1 else s2,?_,λi hi=>?_⟩,⟨o0,o1,o2⟩,Nat.zero_le _⟩
 ·show _=cellsV x s0++cellsV y s1++cellsV z s2
  rw[←e0,←e1,←e2]
  rfl
 ·rcases (show i=0∨i=1∨i=2 by omega) with rfl | rfl | rfl
  ·exact r0
  ·exact r1
  ·exact r2
set_option maxRecDepth 100000 in
theorem op_el {cs:List Value} (hN:Rows.uptoBulk d≤1048576) (h:DataW.trod enc Tryz.prog W 0 (λ_=>true) held fuel 423 cs=some (d,p)) :
    ∃x:Int×Val,cs.toArray.size=7∧OpR W (λg=>g<W.heap.size) x cs.toArray∧OkV x.2∧(λ_:Int×Val=>0) x≤Rows.uptoBulk d:=by
 obtain⟨v0,v1,v2,v3,v4,v5,v6,y0,y1,k,rfl,hxy,g0,g1⟩:=trod_op Tryz.underlying423 (by kernel_rfl) rfl rfl (by kernel_rfl) (by kernel_rfl) h
 obtain⟨i0,e0,d0,_⟩:=DataW.trod_int (by kernel_rfl:Tryz.prog.underlying 3=some (.int .i64)) g0
 injection e0 with e0 _
 subst e0 d0
 obtain⟨y1,p1⟩:=y1
 simp only at hxy
 subst hxy
 have hb:Rows.uptoBulk y1≤Rows.uptoBulk (DataW.agg [.lit (.int .i64 i0),y1]):=by
  simp only[Rows.uptoBulk,Rows.uptoBulkAll]
  omega
 obtain⟨x,o1,s1,e1,r1⟩:=val_of_cells (by omega) g1
 refine⟨(i0,x),rfl,⟨s1,?_,r1⟩,o1,Nat.zero_le _⟩
 show _=#[.int .i64 i0]++cellsV x s1
 rw[←e1]
 rfl
theorem triples_of {v:Value} (hN:Rows.uptoBulk d≤1048576) (h:DataW.trod enc Tryz.prog W 0 (λ_=>true) held fuel 22 [v]=some (d,p)) :
    ∃l:List Trip,SlR 18 TrR W (λg=>g<W.heap.size) l v∧(∀x,x∈l→OkT x)∧sumBy (λ_=>0) l<Rows.uptoBulk d∧l.length<Rows.uptoBulk d:=
 slice_of (Q:=OkT) Tryz.underlying22 (by kernel_rfl) (by decide) (λhN h=>tr_el hN h) hN h
end
set_option maxRecDepth 100000 in
theorem script_open {H:Type} {enc:TypeId×Value→H} {W:World} {base:Nat} {v:Value} {d:DataW H} {p:List MemPlace} (hk:Rows.uptoBulk d≤1048576) (hv:Value.okWide Tryz.prog W .any base 26 v)
    (h:DataW.Trod enc Tryz.prog W 0 (λ_=>true) true 26 v d p) :
    ∃(A1 A2 A3:Option Addr) (nL c1 nP c2 nD c3:Nat) (ord:ByteArray) (L P:List Trip) (D:List (Int×Val)),v = .agg #[.slice A1 nL c1,.slice A2 nP c2,.string ord,.slice A3 nD c3]∧(∀t,t∈L→OkT t)∧(∀t,t∈P→OkT t)∧(∀o,o∈D→OkV o.2) ∧
     SRd 18 TrR W (λb=>b<W.heap.size) L A1 nL∧SRd 18 TrR W (λb=>b<W.heap.size) P A2 nP∧SRd 7 OpR W (λb=>b<W.heap.size) D A3 nD∧nL≤100000000∧nP≤100000000∧nD≤100000000∧ord.size≤2000000:=by
 obtain⟨cs,rfl,hsz⟩:=okWide_struct Tryz.underlying26 hv
 obtain⟨fuel,hf⟩:=h
 obtain⟨v0,v1,v2,v3,y0,y1,y2,y3,k,hcs,hxy,g0,g1,g2,g3⟩:=trod_four Tryz.underlying26 (by kernel_rfl) rfl rfl rfl rfl (by kernel_rfl) (by kernel_rfl) (by kernel_rfl) (by kernel_rfl) hf
 obtain⟨y0,p0⟩:=y0
 obtain⟨y1,p1⟩:=y1
 obtain⟨y3,p3⟩:=y3
 obtain⟨s,e2,d2,_⟩:=DataW.trod_string (by kernel_rfl:Tryz.prog.underlying 9=some .string) g2
 injection e2 with e2 _
 subst e2 d2
 simp only at hxy
 subst hxy
 have hss:s.data.toList.length=s.size:=by rw[Array.length_toList];rfl
 simp only[Rows.uptoBulk,Rows.uptoBulkAll]at hk
 obtain⟨L,⟨A1,c1,rfl,_,l1⟩,l2,_,l4⟩:=triples_of (by omega) g0
 obtain⟨P,⟨A2,c2,rfl,_,m1⟩,m2,_,m4⟩:=slice_of (Q:=OkT) (wt:=λ_=>0) (R:=TrR) (N:=1048576) Tryz.underlying23 (by kernel_rfl) (by decide) (λhN h=>pat_el hN h) (by omega) g1
 obtain⟨D,⟨A3,c3,rfl,_,n1⟩,n2,_,n4⟩:=slice_of (Q:=λo:Int×Val=>OkV o.2) (wt:=λ_=>0) (R:=OpR) (N:=1048576) Tryz.underlying24 (by kernel_rfl) (by decide) (λhN h=>op_el hN h) (by omega) g3
 have hcs2:cs.toList=[.slice A1 L.length c1,.slice A2 P.length c2,.string s,.slice A3 D.length c3]:=hcs
 have hcs3:cs=#[.slice A1 L.length c1,.slice A2 P.length c2,.string s,.slice A3 D.length c3]:=by
  rw[←Array.toList_inj,hcs2]
 subst hcs3
 exact⟨A1,A2,A3,L.length,c1,P.length,c2,D.length,c3,s,L,P,D,rfl,l2,m2,n2,l1,m1,n1,by omega,by omega,by omega,by omega⟩
end Go.Proofs.YtefhfadjajcmkaaGreatDoor
