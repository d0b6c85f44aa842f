/- May a value be: the reference's may. Printed by gen_VL.py. -/
import Derived.Test.YtefhfadjajcmkaaGreatDoorK4
import Derived.BigRegion
set_option linter.unusedVariables false
set_option linter.unusedSimpArgs false
set_option maxRecDepth 100000
set_option maxHeartbeats 8000000
namespace Go.Proofs.YtefhfadjajcmkaaGreatDoor
open Go Go.RowKit
open Go.Lib (hid cell_of_heap)
theorem below_new3 (w:World) (a b c:Obj):Below w.heap.size w (((w.alloc a).alloc b).alloc c):=(((Below.refl _ _).alloc (Nat.le_refl _) _).alloc (by simp) _).alloc (by simp;omega) _
theorem as_none_none (y:Value) (w:World):(Instr.typeAssert (.iface 233 y) 20 233 true).run Tryz.prog w = .ok (.tuple #[y,.bool true]) w:=by kernel_rfl
theorem as_boolean_none (y:Value) (w:World):(Instr.typeAssert (.iface 194 y) 20 233 true).run Tryz.prog w = .ok (.tuple #[.agg #[],.bool false]) w:=by kernel_rfl
theorem as_boolean_boolean (y:Value) (w:World):(Instr.typeAssert (.iface 194 y) 20 194 true).run Tryz.prog w = .ok (.tuple #[y,.bool true]) w:=by kernel_rfl
theorem as_whole_none (y:Value) (w:World):(Instr.typeAssert (.iface 188 y) 20 233 true).run Tryz.prog w = .ok (.tuple #[.agg #[],.bool false]) w:=by kernel_rfl
theorem as_whole_boolean (y:Value) (w:World):(Instr.typeAssert (.iface 188 y) 20 194 true).run Tryz.prog w = .ok (.tuple #[.bool false,.bool false]) w:=by kernel_rfl
theorem as_whole_whole (y:Value) (w:World):(Instr.typeAssert (.iface 188 y) 20 188 true).run Tryz.prog w = .ok (.tuple #[y,.bool true]) w:=by kernel_rfl
theorem as_broken_none (y:Value) (w:World):(Instr.typeAssert (.iface 189 y) 20 233 true).run Tryz.prog w = .ok (.tuple #[.agg #[],.bool false]) w:=by kernel_rfl
theorem as_broken_boolean (y:Value) (w:World):(Instr.typeAssert (.iface 189 y) 20 194 true).run Tryz.prog w = .ok (.tuple #[.bool false,.bool false]) w:=by kernel_rfl
theorem as_broken_whole (y:Value) (w:World):(Instr.typeAssert (.iface 189 y) 20 188 true).run Tryz.prog w = .ok (.tuple #[.int .i64 0,.bool false]) w:=by kernel_rfl
theorem as_broken_broken (y:Value) (w:World):(Instr.typeAssert (.iface 189 y) 20 189 true).run Tryz.prog w = .ok (.tuple #[y,.bool true]) w:=by kernel_rfl
theorem as_words_none (y:Value) (w:World):(Instr.typeAssert (.iface 234 y) 20 233 true).run Tryz.prog w = .ok (.tuple #[.agg #[],.bool false]) w:=by kernel_rfl
theorem as_words_boolean (y:Value) (w:World):(Instr.typeAssert (.iface 234 y) 20 194 true).run Tryz.prog w = .ok (.tuple #[.bool false,.bool false]) w:=by kernel_rfl
theorem as_words_whole (y:Value) (w:World):(Instr.typeAssert (.iface 234 y) 20 188 true).run Tryz.prog w = .ok (.tuple #[.int .i64 0,.bool false]) w:=by kernel_rfl
theorem as_words_broken (y:Value) (w:World):(Instr.typeAssert (.iface 234 y) 20 189 true).run Tryz.prog w = .ok (.tuple #[.string ⟨#[]⟩,.bool false]) w:=by kernel_rfl
theorem as_words_words (y:Value) (w:World):(Instr.typeAssert (.iface 234 y) 20 234 true).run Tryz.prog w = .ok (.tuple #[y,.bool true]) w:=by kernel_rfl
theorem as_list_none (y:Value) (w:World):(Instr.typeAssert (.iface 191 y) 20 233 true).run Tryz.prog w = .ok (.tuple #[.agg #[],.bool false]) w:=by kernel_rfl
theorem as_list_boolean (y:Value) (w:World):(Instr.typeAssert (.iface 191 y) 20 194 true).run Tryz.prog w = .ok (.tuple #[.bool false,.bool false]) w:=by kernel_rfl
theorem as_list_whole (y:Value) (w:World):(Instr.typeAssert (.iface 191 y) 20 188 true).run Tryz.prog w = .ok (.tuple #[.int .i64 0,.bool false]) w:=by kernel_rfl
theorem as_list_broken (y:Value) (w:World):(Instr.typeAssert (.iface 191 y) 20 189 true).run Tryz.prog w = .ok (.tuple #[.string ⟨#[]⟩,.bool false]) w:=by kernel_rfl
theorem as_list_words (y:Value) (w:World):(Instr.typeAssert (.iface 191 y) 20 234 true).run Tryz.prog w = .ok (.tuple #[.string ⟨#[]⟩,.bool false]) w:=by kernel_rfl
theorem as_list_list (y:Value) (w:World):(Instr.typeAssert (.iface 191 y) 20 191 true).run Tryz.prog w = .ok (.tuple #[y,.bool true]) w:=by kernel_rfl
theorem as_thing_none (y:Value) (w:World):(Instr.typeAssert (.iface 193 y) 20 233 true).run Tryz.prog w = .ok (.tuple #[.agg #[],.bool false]) w:=by kernel_rfl
theorem as_thing_boolean (y:Value) (w:World):(Instr.typeAssert (.iface 193 y) 20 194 true).run Tryz.prog w = .ok (.tuple #[.bool false,.bool false]) w:=by kernel_rfl
theorem as_thing_whole (y:Value) (w:World):(Instr.typeAssert (.iface 193 y) 20 188 true).run Tryz.prog w = .ok (.tuple #[.int .i64 0,.bool false]) w:=by kernel_rfl
theorem as_thing_broken (y:Value) (w:World):(Instr.typeAssert (.iface 193 y) 20 189 true).run Tryz.prog w = .ok (.tuple #[.string ⟨#[]⟩,.bool false]) w:=by kernel_rfl
theorem as_thing_words (y:Value) (w:World):(Instr.typeAssert (.iface 193 y) 20 234 true).run Tryz.prog w = .ok (.tuple #[.string ⟨#[]⟩,.bool false]) w:=by kernel_rfl
theorem as_thing_list (y:Value) (w:World):(Instr.typeAssert (.iface 193 y) 20 191 true).run Tryz.prog w = .ok (.tuple #[.slice none 0 0,.bool false]) w:=by kernel_rfl
theorem as_thing_thing (y:Value) (w:World):(Instr.typeAssert (.iface 193 y) 20 193 true).run Tryz.prog w = .ok (.tuple #[y,.bool true]) w:=by kernel_rfl
theorem as_literal_none (y:Value) (w:World):(Instr.typeAssert (.iface 237 y) 20 233 true).run Tryz.prog w = .ok (.tuple #[.agg #[],.bool false]) w:=by kernel_rfl
theorem as_literal_boolean (y:Value) (w:World):(Instr.typeAssert (.iface 237 y) 20 194 true).run Tryz.prog w = .ok (.tuple #[.bool false,.bool false]) w:=by kernel_rfl
theorem as_literal_whole (y:Value) (w:World):(Instr.typeAssert (.iface 237 y) 20 188 true).run Tryz.prog w = .ok (.tuple #[.int .i64 0,.bool false]) w:=by kernel_rfl
theorem as_literal_broken (y:Value) (w:World):(Instr.typeAssert (.iface 237 y) 20 189 true).run Tryz.prog w = .ok (.tuple #[.string ⟨#[]⟩,.bool false]) w:=by kernel_rfl
theorem as_literal_words (y:Value) (w:World):(Instr.typeAssert (.iface 237 y) 20 234 true).run Tryz.prog w = .ok (.tuple #[.string ⟨#[]⟩,.bool false]) w:=by kernel_rfl
theorem as_literal_list (y:Value) (w:World):(Instr.typeAssert (.iface 237 y) 20 191 true).run Tryz.prog w = .ok (.tuple #[.slice none 0 0,.bool false]) w:=by kernel_rfl
theorem as_literal_thing (y:Value) (w:World):(Instr.typeAssert (.iface 237 y) 20 193 true).run Tryz.prog w = .ok (.tuple #[.int .i64 0,.bool false]) w:=by kernel_rfl
theorem as_literal_literal (y:Value) (w:World):(Instr.typeAssert (.iface 237 y) 20 237 true).run Tryz.prog w = .ok (.tuple #[y,.bool true]) w:=by kernel_rfl
theorem as_other_none (y:Value) (w:World):(Instr.typeAssert (.iface 238 y) 20 233 true).run Tryz.prog w = .ok (.tuple #[.agg #[],.bool false]) w:=by kernel_rfl
theorem as_other_boolean (y:Value) (w:World):(Instr.typeAssert (.iface 238 y) 20 194 true).run Tryz.prog w = .ok (.tuple #[.bool false,.bool false]) w:=by kernel_rfl
theorem as_other_whole (y:Value) (w:World):(Instr.typeAssert (.iface 238 y) 20 188 true).run Tryz.prog w = .ok (.tuple #[.int .i64 0,.bool false]) w:=by kernel_rfl
theorem as_other_broken (y:Value) (w:World):(Instr.typeAssert (.iface 238 y) 20 189 true).run Tryz.prog w = .ok (.tuple #[.string ⟨#[]⟩,.bool false]) w:=by kernel_rfl
theorem as_other_words (y:Value) (w:World):(Instr.typeAssert (.iface 238 y) 20 234 true).run Tryz.prog w = .ok (.tuple #[.string ⟨#[]⟩,.bool false]) w:=by kernel_rfl
theorem as_other_list (y:Value) (w:World):(Instr.typeAssert (.iface 238 y) 20 191 true).run Tryz.prog w = .ok (.tuple #[.slice none 0 0,.bool false]) w:=by kernel_rfl
theorem as_other_thing (y:Value) (w:World):(Instr.typeAssert (.iface 238 y) 20 193 true).run Tryz.prog w = .ok (.tuple #[.int .i64 0,.bool false]) w:=by kernel_rfl
theorem as_other_literal (y:Value) (w:World):(Instr.typeAssert (.iface 238 y) 20 237 true).run Tryz.prog w = .ok (.tuple #[.agg #[.string ⟨#[]⟩,.string ⟨#[]⟩],.bool false]) w:=by kernel_rfl
theorem as_other_other (y:Value) (w:World):(Instr.typeAssert (.iface 238 y) 20 238 true).run Tryz.prog w = .ok (.tuple #[y,.bool true]) w:=by kernel_rfl
structure ChkM (w:World) (h:Nat) (k:Int) (b:Bool) (n:Int) (t x:ByteArray) (s:Value) (d:Nat) (b':Bool) (n':Int) (t' x':ByteArray) (wr:World):Prop where
 below:Below w.heap.size w wr
 val:wr.heap[h]?=some (.cells #[.int .i64 k,.bool b,.int .i64 n,.string t,.string x,s] 39 (0,0))
 dp:wr.heap[h+1]?=some (.cells #[.int .i64 (d:Int)] 3 (0,0))
 bare:wr.heap[h+1+1]?=some (.cells #[.int .i64 k,.bool b',.int .i64 n',.string t',.string x',.slice none 0 0] 39 (0,0))
 size:h+3≤wr.heap.size
 low:w.heap.size≤h
section
variable {w:World} {h:Nat} {k:Int} {b:Bool} {n:Int} {t x:ByteArray} {s:Value} {d:Nat} {b':Bool} {n':Int} {t' x':ByteArray} {wr:World}
theorem ChkM.on (c:ChkM w h k b n t x s d b' n' t' x' wr) {w2:World} (hb:Below wr.heap.size wr w2):ChkM w h k b n t x s d b' n' t' x' w2:=
 ⟨c.below.trans (hb.mono c.below.size),(hb.block h (by have:=c.size;omega)).trans c.val,(hb.block (h+1) (by have:=c.size;omega)).trans c.dp,(hb.block (h+1+1) (by have:=c.size;omega)).trans c.bare,Nat.le_trans c.size hb.size,c.low⟩
theorem ChkM.alloc (c:ChkM w h k b n t x s d b' n' t' x' wr) (ob:Obj):ChkM w h k b n t x s d b' n' t' x' (wr.alloc ob):=c.on ((Below.refl _ _).alloc (Nat.le_refl _) _)
theorem ChkM.drew (c:ChkM w h k b n t x s d b' n' t' x' wr):ChkM w h k b n t x s d b' n' t' x' wr.drew:=c.on (below_drewN (Below.refl _ _) 1)
theorem ChkM.set (c:ChkM w h k b n t x s d b' n' t' x' wr) (j:Nat) (v:Value) {b2:Bool} {n2:Int} {t2 x2:ByteArray}
    (e:(#[.int .i64 k,.bool b',.int .i64 n',.string t',.string x',.slice none 0 0]:Array Value).setIfInBounds j v=#[.int .i64 k,.bool b2,.int .i64 n2,.string t2,.string x2,.slice none 0 0]):ChkM w h k b n t x s d b2 n2 t2 x2 (wr.setCell ⟨h+1+1,j,none⟩ v):=
 ⟨c.below.setCell (p:=⟨h+1+1,j,none⟩) (by have:=c.low;show _≤h+1+1;omega) v,(Below.heap_setCell _ _ _ _ (by show h≠h+1+1;omega)).trans c.val,(Below.heap_setCell _ _ _ _ (by show h+1≠h+1+1;omega)).trans c.dp,by
  rw[←e];exact heap_setCell_same _ _ j _ _ v c.bare,by simpa using c.size,c.low⟩
end
theorem may_0 (b:Bool) (n:Int) (t x:ByteArray) (l:List Val) (d:Nat):mayV (.mk 0 b n t x l) d=cmpB 0 b n t x l false 0 ⟨#[]⟩ ⟨#[]⟩:=by unfold mayV;rfl
theorem may_1 (b:Bool) (n:Int) (t x:ByteArray) (l:List Val) (d:Nat):mayV (.mk 1 b n t x l) d=cmpB 1 b n t x l b 0 ⟨#[]⟩ ⟨#[]⟩:=by unfold mayV;rfl
theorem may_2 (b:Bool) (n:Int) (t x:ByteArray) (l:List Val) (d:Nat):mayV (.mk 2 b n t x l) d=cmpB 2 b n t x l false n ⟨#[]⟩ ⟨#[]⟩:=by unfold mayV;rfl
theorem may_3 (b:Bool) (n:Int) (t x:ByteArray) (l:List Val) (d:Nat):mayV (.mk 3 b n t x l) d=(decB t&&cmpB 3 b n t x l false 0 t ⟨#[]⟩):=by unfold mayV;rfl
theorem may_4 (b:Bool) (n:Int) (t x:ByteArray) (l:List Val) (d:Nat):mayV (.mk 4 b n t x l) d=(decide (t.size≤1048576)&&cmpB 4 b n t x l false 0 t ⟨#[]⟩):=by unfold mayV;rfl
theorem may_8 (b:Bool) (n:Int) (t x:ByteArray) (l:List Val) (d:Nat):mayV (.mk 8 b n t x l) d=(iriB t&&cmpB 8 b n t x l false 0 t ⟨#[]⟩):=by unfold mayV;rfl
theorem may_9 (b:Bool) (n:Int) (t x:ByteArray) (l:List Val) (d:Nat):mayV (.mk 9 b n t x l) d=(nameB t&&cmpB 9 b n t x l false 0 t ⟨#[]⟩):=by unfold mayV;rfl
theorem may_5 (b:Bool) (n:Int) (t x:ByteArray) (l:List Val) (d:Nat):mayV (.mk 5 b n t x l) d=(decide (l.length≤4096)&&(decide (d<60)&&(mayL l (d+1)&&cmpB 5 b n t x l false 0 ⟨#[]⟩ ⟨#[]⟩))):=by unfold mayV;rfl
theorem may_6 (b:Bool) (n:Int) (t x:ByteArray) (l:List Val) (d:Nat):mayV (.mk 6 b n t x l) d=(decide (0≤n)&&cmpB 6 b n t x l false n ⟨#[]⟩ ⟨#[]⟩):=by unfold mayV;rfl
theorem may_7 (b:Bool) (n:Int) (t x:ByteArray) (l:List Val) (d:Nat):mayV (.mk 7 b n t x l) d=(decide (0≤n)&&cmpB 7 b n t x l false n ⟨#[]⟩ ⟨#[]⟩):=by unfold mayV;rfl
theorem may_10 (b:Bool) (n:Int) (t x:ByteArray) (l:List Val) (d:Nat):mayV (.mk 10 b n t x l) d=(decide (t.size≤1048576)&&(iriB x&&cmpB 10 b n t x l false 0 t x)):=by unfold mayV;rfl
theorem chk_any (N:Nat):∀(v:Val) (_:sizeV v<N) (_:sizeV v≤10000000000000000) (d:Nat) (_:d≤60) (F:Nat→Prop) (u:Value) (w:World) (_:∀g,F g→g<w.heap.size) (_:VRd w F v u) (_:GlobB w),
    Calls Tryz.prog 117 #[u,.int .i64 (d:Int)] w (ToldB (mayV v d) w):=by
 induction N with
 | zero=>exact λ_ h=>absurd h (Nat.not_lt_zero _)
 | succ N ih=>
  intro v hN hs d hd F u w hF hv hg
  obtain⟨A,cap,rfl,hcap,hl⟩:=hv.inv
  have IH:=hid ih
  have HL:=hid hl
  have HF:=hid hF
  have HG:=hid hg
  clear ih hl hF hg hv
  obtain⟨s,HS⟩:=name_itV (Value.slice A v.list.length cap)
  have HP:=hid (λW=>part_any v s W)
  rw[HS.out]
  obtain⟨mv,HMV⟩:=name_itV (mayV v d)
  rw[HMV.out]
  cases v with
  | mk k b n t x l=>
  obtain⟨pv,HPV⟩:=name_itV (partV (.mk k b n t x l) s)
  unfold PartIs cellsV at HP
  unfold cellsV
  rw[HPV.out]at HP
  simp only[Val.kind,Val.truth,Val.num,Val.text,Val.extra,Val.list]at HP HL HS hcap ⊢
  have hts:t.size≤9223372036854775807∧x.size≤9223372036854775807∧l.length≤10000000000000000∧sizeL l<N∧sizeL l≤10000000000000000:=by
   simp only[sizeV]at hs hN
   have:=len_le_size l
   omega
  obtain⟨hts,hxs,hll,hlN,hls⟩:=hts
  clear hN hs
  go_enter Tryz.func117,Tryz.ntmps117
  go_wp2_with fail
  obtain⟨h,Hh⟩:=name_itV w.heap.size
  have hcm:=hid (show ChkM w h k b n t x s d false 0 ⟨#[]⟩ ⟨#[]⟩ (((w.alloc (.cells #[.int .i64 k,.bool b,.int .i64 n,.string t,.string x,s] 39)).alloc (.cells #[.int .i64 (d:Int)] 3)).alloc (.cells #[.int .i64 k,.bool false,.int .i64 0,.string ⟨#[]⟩,.string ⟨#[]⟩,.slice none 0 0] 39)) from by
   rw[←Hh.out]
   refine⟨below_new3 w _ _ _,?_,?_,?_,by simp,Nat.le_refl _⟩
   ·rw[Below.heap_alloc _ _ _ (by simp;omega),Below.heap_alloc _ _ _ (by simp)];exact heap_alloc_new w _
   ·rw[Below.heap_alloc _ _ _ (by simp)]
    have:=heap_alloc_new (w.alloc (.cells #[.int .i64 k,.bool b,.int .i64 n,.string t,.string x,s] 39)) (.cells #[.int .i64 (d:Int)] 3)
    rwa [show (w.alloc (.cells #[.int .i64 k,.bool b,.int .i64 n,.string t,.string x,s] 39)).heap.size=w.heap.size+1 by simp]at this
   ·have:=heap_alloc_new ((w.alloc (.cells #[.int .i64 k,.bool b,.int .i64 n,.string t,.string x,s] 39)).alloc (.cells #[.int .i64 (d:Int)] 3)) (.cells #[.int .i64 k,.bool false,.int .i64 0,.string ⟨#[]⟩,.string ⟨#[]⟩,.slice none 0 0] 39)
    rwa [show ((w.alloc (.cells #[.int .i64 k,.bool b,.int .i64 n,.string t,.string x,s] 39)).alloc (.cells #[.int .i64 (d:Int)] 3)).heap.size=w.heap.size+1+1 by simp]at this)
  rw[Hh.out]
  obtain⟨w0,Hw0⟩:=name_itV (((w.alloc (.cells #[.int .i64 k,.bool b,.int .i64 n,.string t,.string x,s] 39)).alloc (.cells #[.int .i64 (d:Int)] 3)).alloc (.cells #[.int .i64 k,.bool false,.int .i64 0,.string ⟨#[]⟩,.string ⟨#[]⟩,.slice none 0 0] 39))
  rw[Hw0.out]at hcm ⊢
  refine (HP.out _).mono ?_
  rintro e w1 ⟨rfl,hb1⟩
  have HC:=hid (hcm.out.on hb1)
  clear hb1 hcm HP
  have cv0:w1.cell? ⟨h,0,none⟩=some (.int .i64 k):=cell_of_heap HC.out.val 0
  have cd:w1.cell? ⟨h+1,0,none⟩=some (.int .i64 (d:Int)):=cell_of_heap HC.out.dp 0
  have cb1:w1.cell? ⟨h+1+1,1,none⟩=some (.bool false):=cell_of_heap HC.out.bare 1
  have cb2:w1.cell? ⟨h+1+1,2,none⟩=some (.int .i64 0):=cell_of_heap HC.out.bare 2
  have cb3:w1.cell? ⟨h+1+1,3,none⟩=some (.string ⟨#[]⟩):=cell_of_heap HC.out.bare 3
  have cb4:w1.cell? ⟨h+1+1,4,none⟩=some (.string ⟨#[]⟩):=cell_of_heap HC.out.bare 4
  have fb1:w1.frozen? ⟨h+1+1,1,none⟩=false:=Lib.frozen_of_heap HC.out.bare 1
  have fb2:w1.frozen? ⟨h+1+1,2,none⟩=false:=Lib.frozen_of_heap HC.out.bare 2
  have fb3:w1.frozen? ⟨h+1+1,3,none⟩=false:=Lib.frozen_of_heap HC.out.bare 3
  have fb4:w1.frozen? ⟨h+1+1,4,none⟩=false:=Lib.frozen_of_heap HC.out.bare 4
  go_upto_block 0 with fail
  go_cut [] (λwx=>Hid (∃b' n' t' x',ChkM w h k b n t x s d b' n' t' x' wx∧mv=cmpB k b n t x l b' n' t' x'))
  case first=>
   by_cases h0:k=0
   ·subst h0
    have hpv:pv = .iface 233 (.agg #[]):=by rw[←HPV.out];rfl
    subst hpv
    have hmv:=hid (show mv=cmpB 0 b n t x l false 0 ⟨#[]⟩ ⟨#[]⟩ from by rw[←HMV.out];exact may_0 b n t x l d)
    have a_none:=as_none_none (.agg #[])
    clear HPV HMV
    go_wp2_with fail
    go_meet
    exact hid ⟨_,_,_,_,HC.out.alloc _,hmv.out⟩
   ·have e0:((k:Int)==0)=false:=beq_eq_false_iff_ne.2 h0
    by_cases h1:k=1
    ·subst h1
     have hpv:pv = .iface 194 (.bool b):=by rw[←HPV.out];rfl
     subst hpv
     have hmv:=hid (show mv=cmpB 1 b n t x l b 0 ⟨#[]⟩ ⟨#[]⟩ from by rw[←HMV.out];exact may_1 b n t x l d)
     have a_none:=as_boolean_none (.bool b)
     have a_boolean:=as_boolean_boolean (.bool b)
     clear HPV HMV
     go_wp2_with fail
     go_meet
     exact hid ⟨_,_,_,_,HC.out.set 1 _ rfl,hmv.out⟩
    ·have e1:((k:Int)==1)=false:=beq_eq_false_iff_ne.2 h1
     by_cases h2:k=2
     ·subst h2
      have hpv:pv = .iface 188 (.int .i64 n):=by rw[←HPV.out];rfl
      subst hpv
      have hmv:=hid (show mv=cmpB 2 b n t x l false n ⟨#[]⟩ ⟨#[]⟩ from by rw[←HMV.out];exact may_2 b n t x l d)
      have a_none:=as_whole_none (.int .i64 n)
      have a_boolean:=as_whole_boolean (.int .i64 n)
      have a_whole:=as_whole_whole (.int .i64 n)
      clear HPV HMV
      go_wp2_with fail
      go_meet
      exact hid ⟨_,_,_,_,HC.out.set 2 _ rfl,hmv.out⟩
     ·have e2:((k:Int)==2)=false:=beq_eq_false_iff_ne.2 h2
      by_cases h3:k=3
      ·subst h3
       have hpv:pv = .iface 189 (.string t):=by rw[←HPV.out];rfl
       subst hpv
       have hmv:=hid (show mv=(decB t&&cmpB 3 b n t x l false 0 t ⟨#[]⟩) from by rw[←HMV.out];exact may_3 b n t x l d)
       have a_none:=as_broken_none (.string t)
       have a_boolean:=as_broken_boolean (.string t)
       have a_whole:=as_broken_whole (.string t)
       have a_broken:=as_broken_broken (.string t)
       clear HPV HMV
       have hdec:=hid (dec_any t hts w1 (glob_under HG.out HC.out.below))
       obtain⟨r,Hr⟩:=name_itV (decB t)
       rw[Hr.out]at hdec hmv
       cases r with
       | false=>
        have hmf:=hid (show false=mv from by rw[hmv.out];rfl)
        go_wp2_with fail;refine hdec.out.mono ?_;rintro e w2 ⟨rfl,hb2⟩
        have HC2:=hid (HC.out.on hb2)
        clear hb2
        go_wp2_with fail
        go_ret
        exact⟨ret_b hmf.out,HC2.out.below⟩
       | true=>
        go_wp2_with fail;refine hdec.out.mono ?_;rintro e w2 ⟨rfl,hb2⟩
        have HC2:=hid (HC.out.on hb2)
        clear hb2 cb3 fb3
        have cb3:w2.cell? ⟨h+1+1,3,none⟩=some (.string ⟨#[]⟩):=cell_of_heap HC2.out.bare 3
        have fb3:w2.frozen? ⟨h+1+1,3,none⟩=false:=Lib.frozen_of_heap HC2.out.bare 3
        go_wp2_with fail
        go_meet
        exact hid ⟨_,_,_,_,HC2.out.set 3 _ rfl,hmv.out⟩
      ·have e3:((k:Int)==3)=false:=beq_eq_false_iff_ne.2 h3
       by_cases h4:k=4
       ·subst h4
        have hpv:pv = .iface 234 (.string t):=by rw[←HPV.out];rfl
        subst hpv
        have hmv:=hid (show mv=(decide (t.size≤1048576)&&cmpB 4 b n t x l false 0 t ⟨#[]⟩) from by rw[←HMV.out];exact may_4 b n t x l d)
        have a_none:=as_words_none (.string t)
        have a_boolean:=as_words_boolean (.string t)
        have a_whole:=as_words_whole (.string t)
        have a_broken:=as_words_broken (.string t)
        have a_words:=as_words_words (.string t)
        clear HPV HMV
        by_cases hsz:t.size≤1048576
        ·have z1:(t.size:Int)≤1048576:=by omega
         have hmt:=hid (show mv=cmpB 4 b n t x l false 0 t ⟨#[]⟩ from by rw[hmv.out,decide_eq_true hsz];rfl)
         go_wp2_with fail
         go_meet
         exact hid ⟨_,_,_,_,HC.out.set 3 _ rfl,hmt.out⟩
        ·have z1:¬(t.size:Int)≤1048576:=by omega
         have hmf:=hid (show false=mv from by rw[hmv.out];rw[decide_eq_false hsz];rfl)
         go_wp2_with fail
         go_ret
         exact⟨ret_b hmf.out,HC.out.below⟩
       ·have e4:((k:Int)==4)=false:=beq_eq_false_iff_ne.2 h4
        by_cases h8:k=8
        ·subst h8
         have hpv:pv = .iface 234 (.string t):=by rw[←HPV.out];rfl
         subst hpv
         have hmv:=hid (show mv=(iriB t&&cmpB 8 b n t x l false 0 t ⟨#[]⟩) from by rw[←HMV.out];exact may_8 b n t x l d)
         have a_none:=as_words_none (.string t)
         have a_boolean:=as_words_boolean (.string t)
         have a_whole:=as_words_whole (.string t)
         have a_broken:=as_words_broken (.string t)
         have a_words:=as_words_words (.string t)
         clear HPV HMV
         have hx:=hid (iri_any t hts w1)
         obtain⟨r,Hr⟩:=name_itV (iriB t)
         rw[Hr.out]at hx hmv
         cases r with
         | false=>
          have hmf:=hid (show false=mv from by rw[hmv.out];rfl)
          go_wp2_with fail;refine hx.out.mono ?_;rintro e w2 ⟨rfl,rfl⟩
          go_wp2_with fail
          go_ret
          exact⟨ret_b hmf.out,HC.out.below⟩
         | true=>
          go_wp2_with fail;refine hx.out.mono ?_;rintro e w2 ⟨rfl,rfl⟩
          go_wp2_with fail
          go_meet
          exact hid ⟨_,_,_,_,HC.out.set 3 _ rfl,hmv.out⟩
        ·have e8:((k:Int)==8)=false:=beq_eq_false_iff_ne.2 h8
         by_cases h9:k=9
         ·subst h9
          have hpv:pv = .iface 234 (.string t):=by rw[←HPV.out];rfl
          subst hpv
          have hmv:=hid (show mv=(nameB t&&cmpB 9 b n t x l false 0 t ⟨#[]⟩) from by rw[←HMV.out];exact may_9 b n t x l d)
          have a_none:=as_words_none (.string t)
          have a_boolean:=as_words_boolean (.string t)
          have a_whole:=as_words_whole (.string t)
          have a_broken:=as_words_broken (.string t)
          have a_words:=as_words_words (.string t)
          clear HPV HMV
          have hx:=hid (name_any t hts w1)
          obtain⟨r,Hr⟩:=name_itV (nameB t)
          rw[Hr.out]at hx hmv
          cases r with
          | false=>
           have hmf:=hid (show false=mv from by rw[hmv.out];rfl)
           go_wp2_with fail;refine hx.out.mono ?_;rintro e w2 ⟨rfl,rfl⟩
           go_wp2_with fail
           go_ret
           exact⟨ret_b hmf.out,HC.out.below⟩
          | true=>
           go_wp2_with fail;refine hx.out.mono ?_;rintro e w2 ⟨rfl,rfl⟩
           go_wp2_with fail
           go_meet
           exact hid ⟨_,_,_,_,HC.out.set 3 _ rfl,hmv.out⟩
         ·have e9:((k:Int)==9)=false:=beq_eq_false_iff_ne.2 h9
          by_cases h5:k=5
          ·subst h5
           have hpv:pv = .iface 191 (s):=by rw[←HPV.out];rfl
           subst hpv
           have hmv:=hid (show mv=(decide (l.length≤4096)&&(decide (d<60)&&(mayL l (d+1)&&cmpB 5 b n t x l false 0 ⟨#[]⟩ ⟨#[]⟩))) from by rw[←HMV.out];exact may_5 b n t x l d)
           have a_none:=as_list_none (s)
           have a_boolean:=as_list_boolean (s)
           have a_whole:=as_list_whole (s)
           have a_broken:=as_list_broken (s)
           have a_words:=as_list_words (s)
           have a_list:=as_list_list (s)
           clear HPV HMV
           have hs5:=HS.out
           subst hs5
           by_cases hl1:l.length≤4096
           ·have z1:¬(4096:Int)<(l.length:Int):=by omega
            by_cases hd1:d<60
            ·have z2:¬(60:Int)≤(d:Int):=by omega
             have hct:=hid (cont_any l (d+1) (.func (.func 189) #[] #[.pointer (some ⟨h+1,0,none⟩)]) A l.length cap w1 (idx_any l d hd1 ⟨h+1,0,none⟩ F A l.length cap w1 (λg hg=>Nat.lt_of_lt_of_le (HF.out g hg) HC.out.below.size) (HL.out.under HC.out.below HF.out) hl1 cd (by have:=HC.out.size;show h+1<_;omega)
              (λy hy u W hW hv=>IH.out y (by have:=sizeV_mem hy;omega) (by have:=sizeV_mem hy;omega) (d+1) (by omega) F u W (λg hg=>Nat.lt_of_lt_of_le (HF.out g hg) (Nat.le_trans HC.out.below.size hW.size)) hv (glob_under HG.out (HC.out.below.trans (hW.mono HC.out.below.size))))))
             obtain⟨r,Hr⟩:=name_itV (mayL l (d+1))
             rw[Hr.out]at hct hmv
             cases r with
             | false=>
              have hmf:=hid (show false=mv from by rw[hmv.out];simp)
              go_wp2_with fail;refine hct.out.mono ?_;rintro e w2 ⟨rfl,hb2⟩
              have HC2:=hid (HC.out.on hb2)
              clear hb2
              go_wp2_with fail
              go_ret
              exact⟨ret_b hmf.out,HC2.out.below⟩
             | true=>
              have hmt:=hid (show mv=cmpB 5 b n t x l false 0 ⟨#[]⟩ ⟨#[]⟩ from by rw[hmv.out,decide_eq_true hl1,decide_eq_true hd1];rfl)
              go_wp2_with fail;refine hct.out.mono ?_;rintro e w2 ⟨rfl,hb2⟩
              have HC2:=hid (HC.out.on hb2)
              clear hb2
              go_wp2_with fail
              go_meet
              exact hid ⟨_,_,_,_,HC2.out,hmt.out⟩
            ·have z2:(60:Int)≤(d:Int):=by omega
             have hmf:=hid (show false=mv from by rw[hmv.out];rw[decide_eq_false hd1];simp)
             go_wp2_with fail
             go_ret
             exact⟨ret_b hmf.out,HC.out.below⟩
           ·have z1:(4096:Int)<(l.length:Int):=by omega
            have hmf:=hid (show false=mv from by rw[hmv.out];rw[decide_eq_false hl1];rfl)
            go_wp2_with fail
            go_ret
            exact⟨ret_b hmf.out,HC.out.below⟩
          ·have e5:((k:Int)==5)=false:=beq_eq_false_iff_ne.2 h5
           by_cases h6:k=6
           ·subst h6
            have hpv:pv = .iface 193 (.int .i64 n):=by rw[←HPV.out];rfl
            subst hpv
            have hmv:=hid (show mv=(decide (0≤n)&&cmpB 6 b n t x l false n ⟨#[]⟩ ⟨#[]⟩) from by rw[←HMV.out];exact may_6 b n t x l d)
            have a_none:=as_thing_none (.int .i64 n)
            have a_boolean:=as_thing_boolean (.int .i64 n)
            have a_whole:=as_thing_whole (.int .i64 n)
            have a_broken:=as_thing_broken (.int .i64 n)
            have a_words:=as_thing_words (.int .i64 n)
            have a_list:=as_thing_list (.int .i64 n)
            have a_thing:=as_thing_thing (.int .i64 n)
            clear HPV HMV
            by_cases hn0:0≤n
            ·have z1:¬n<0:=by omega
             have hmt:=hid (show mv=cmpB 6 b n t x l false n ⟨#[]⟩ ⟨#[]⟩ from by rw[hmv.out,decide_eq_true hn0];rfl)
             go_wp2_with fail
             go_meet
             exact hid ⟨_,_,_,_,HC.out.set 2 _ rfl,hmt.out⟩
            ·have z1:n<0:=by omega
             have hmf:=hid (show false=mv from by rw[hmv.out];rw[decide_eq_false hn0];rfl)
             go_wp2_with fail
             go_ret
             exact⟨ret_b hmf.out,HC.out.below⟩
           ·have e6:((k:Int)==6)=false:=beq_eq_false_iff_ne.2 h6
            by_cases h7:k=7
            ·subst h7
             have hpv:pv = .iface 193 (.int .i64 n):=by rw[←HPV.out];rfl
             subst hpv
             have hmv:=hid (show mv=(decide (0≤n)&&cmpB 7 b n t x l false n ⟨#[]⟩ ⟨#[]⟩) from by rw[←HMV.out];exact may_7 b n t x l d)
             have a_none:=as_thing_none (.int .i64 n)
             have a_boolean:=as_thing_boolean (.int .i64 n)
             have a_whole:=as_thing_whole (.int .i64 n)
             have a_broken:=as_thing_broken (.int .i64 n)
             have a_words:=as_thing_words (.int .i64 n)
             have a_list:=as_thing_list (.int .i64 n)
             have a_thing:=as_thing_thing (.int .i64 n)
             clear HPV HMV
             by_cases hn0:0≤n
             ·have z1:¬n<0:=by omega
              have hmt:=hid (show mv=cmpB 7 b n t x l false n ⟨#[]⟩ ⟨#[]⟩ from by rw[hmv.out,decide_eq_true hn0];rfl)
              go_wp2_with fail
              go_meet
              exact hid ⟨_,_,_,_,HC.out.set 2 _ rfl,hmt.out⟩
             ·have z1:n<0:=by omega
              have hmf:=hid (show false=mv from by rw[hmv.out];rw[decide_eq_false hn0];rfl)
              go_wp2_with fail
              go_ret
              exact⟨ret_b hmf.out,HC.out.below⟩
            ·have e7:((k:Int)==7)=false:=beq_eq_false_iff_ne.2 h7
             by_cases h10:k=10
             ·subst h10
              have hpv:pv = .iface 237 (.agg #[.string t,.string x]):=by rw[←HPV.out];rfl
              subst hpv
              have hmv:=hid (show mv=(decide (t.size≤1048576)&&(iriB x&&cmpB 10 b n t x l false 0 t x)) from by rw[←HMV.out];exact may_10 b n t x l d)
              have a_none:=as_literal_none (.agg #[.string t,.string x])
              have a_boolean:=as_literal_boolean (.agg #[.string t,.string x])
              have a_whole:=as_literal_whole (.agg #[.string t,.string x])
              have a_broken:=as_literal_broken (.agg #[.string t,.string x])
              have a_words:=as_literal_words (.agg #[.string t,.string x])
              have a_list:=as_literal_list (.agg #[.string t,.string x])
              have a_thing:=as_literal_thing (.agg #[.string t,.string x])
              have a_literal:=as_literal_literal (.agg #[.string t,.string x])
              clear HPV HMV
              obtain⟨w2,Hw2⟩:=name_itV (w1.alloc (.cells #[.string t,.string x] 237))
              obtain⟨g,Hg⟩:=name_itV w1.heap.size
              have HC2:=hid (HC.out.alloc (.cells #[.string t,.string x] 237))
              rw[Hw2.out]at HC2
              have hblk:=hid (heap_alloc_new w1 (.cells #[.string t,.string x] 237))
              rw[Hw2.out,Hg.out]at hblk
              have hgh:=hid (show h+1+1<g from by rw[←Hg.out];have:=HC.out.size;omega)
              have hx:=hid (iri_any x hxs w2)
              obtain⟨r,Hr⟩:=name_itV (iriB x)
              rw[Hr.out]at hx hmv
              have l0:w2.cell? ⟨g,0,none⟩=some (.string t):=cell_of_heap hblk.out 0
              have l1:w2.cell? ⟨g,1,none⟩=some (.string x):=cell_of_heap hblk.out 1
              have db3:w2.cell? ⟨h+1+1,3,none⟩=some (.string ⟨#[]⟩):=cell_of_heap HC2.out.bare 3
              have df3:w2.frozen? ⟨h+1+1,3,none⟩=false:=Lib.frozen_of_heap HC2.out.bare 3
              have db4:w2.cell? ⟨h+1+1,4,none⟩=some (.string ⟨#[]⟩):=cell_of_heap HC2.out.bare 4
              have df4:w2.frozen? ⟨h+1+1,4,none⟩=false:=Lib.frozen_of_heap HC2.out.bare 4
              have dv0:w2.cell? ⟨h,0,none⟩=some (.int .i64 10):=cell_of_heap HC2.out.val 0
              clear cb1 cb2 cb3 cb4 fb1 fb2 fb3 fb4 cv0 cd
              by_cases hsz:t.size≤1048576
              ·have z1:¬(1048576:Int)<(t.size:Int):=by omega
               go_upto_region 40 with fail
               rw[Hw2.out,Hg.out]
               cases r with
               | false=>
                have hmf:=hid (show false=mv from by rw[hmv.out];rw[decide_eq_true hsz];rfl)
                go_wp2_with fail;refine hx.out.mono ?_;rintro e w3 ⟨rfl,rfl⟩
                go_wp2_with fail
                go_ret
                exact⟨ret_b hmf.out,HC2.out.below⟩
               | true=>
                have hmt:=hid (show mv=cmpB 10 b n t x l false 0 t x from by rw[hmv.out,decide_eq_true hsz];rfl)
                go_wp2_with fail;refine hx.out.mono ?_;rintro e w3 ⟨rfl,rfl⟩
                go_wp2_with fail
                go_region
                go_wp2_with fail
                go_meet
                exact hid ⟨_,_,_,_,((HC2.out.set 3 _ rfl).set 4 _ rfl).drew,hmt.out⟩
              ·have z1:(1048576:Int)<(t.size:Int):=by omega
               have hmf:=hid (show false=mv from by rw[hmv.out];rw[decide_eq_false hsz];rfl)
               go_upto_region 40 with fail
               rw[Hw2.out,Hg.out]
               go_wp2_with fail
               go_ret
               exact⟨ret_b hmf.out,HC2.out.below⟩
             ·have e10:((k:Int)==10)=false:=beq_eq_false_iff_ne.2 h10
              have hpv:pv = .iface 238 (.int .i64 k):=by rw[←HPV.out];unfold partV;simp only[Val.kind,h0,h1,h2,h3,h4,h8,h9,h5,h6,h7,h10,if_false]
              subst hpv
              have hmf:=hid (show false=mv from by rw[←HMV.out];unfold mayV;simp only[h0,h1,h2,h3,h4,h8,h9,h5,h6,h7,h10,if_false])
              have a_none:=as_other_none (.int .i64 k)
              have a_boolean:=as_other_boolean (.int .i64 k)
              have a_whole:=as_other_whole (.int .i64 k)
              have a_broken:=as_other_broken (.int .i64 k)
              have a_words:=as_other_words (.int .i64 k)
              have a_list:=as_other_list (.int .i64 k)
              have a_thing:=as_other_thing (.int .i64 k)
              have a_literal:=as_other_literal (.int .i64 k)
              have a_other:=as_other_other (.int .i64 k)
              clear HPV HMV h0 h1 h2 h3 h4 h8 h9 h5 h6 h7 h10
              go_wp2_with fail
              go_ret
              exact⟨ret_b hmf.out,HC.out.below⟩
  case rest=>
   obtain⟨b',n',t',x',hc,hm⟩:=hcut.out
   have hs5:=HS.out
   subst hs5
   have HC2:=hid hc
   have HM:=hid hm
   clear hc hm hcut HC cv0 cd cb1 cb2 cb3 cb4 fb1 fb2 fb3 fb4
   have v0:wc.cell? ⟨h,0,none⟩=some (.int .i64 k):=cell_of_heap HC2.out.val 0
   have v1:wc.cell? ⟨h,1,none⟩=some (.bool b):=cell_of_heap HC2.out.val 1
   have v2:wc.cell? ⟨h,2,none⟩=some (.int .i64 n):=cell_of_heap HC2.out.val 2
   have v3:wc.cell? ⟨h,3,none⟩=some (.string t):=cell_of_heap HC2.out.val 3
   have v4:wc.cell? ⟨h,4,none⟩=some (.string x):=cell_of_heap HC2.out.val 4
   have v5:wc.cell? ⟨h,5,none⟩=some (.slice A l.length cap):=cell_of_heap HC2.out.val 5
   have u1:wc.cell? ⟨h+1+1,1,none⟩=some (.bool b'):=cell_of_heap HC2.out.bare 1
   have u2:wc.cell? ⟨h+1+1,2,none⟩=some (.int .i64 n'):=cell_of_heap HC2.out.bare 2
   have u3:wc.cell? ⟨h+1+1,3,none⟩=some (.string t'):=cell_of_heap HC2.out.bare 3
   have u4:wc.cell? ⟨h+1+1,4,none⟩=some (.string x'):=cell_of_heap HC2.out.bare 4
   obtain⟨ln,HLN⟩:=name_itV l.length
   have hfin:=hid (show mv=((b==b')&&(decide (n=n')&&(decide (t=t')&&(decide (x=x')&&(decide (ln=0) || decide (k=5)))))) from by rw[HM.out,←HLN.out];rfl)
   rw[HLN.out]at v5
   clear hcap HM
   by_cases q1:b=b'
   ·have e1:(b==b')=true:=by rw[q1];simp
    by_cases q2:n=n'
    ·have e2:(n==n')=true:=by rw[q2];simp
     by_cases q3:t=t'
     ·have e3:(t.toList==t'.toList)=true:=by rw[q3];simp
      by_cases q4:x=x'
      ·have e4:(x.toList==x'.toList)=true:=by rw[q4];simp
       by_cases q5:ln=0
       ·have e5:((ln:Int)==0)=true:=by rw[q5];rfl
        have hf:=hid (show true=mv from by rw[hfin.out,e1,decide_eq_true q2,decide_eq_true q3,decide_eq_true q4,decide_eq_true q5];rfl)
        clear q1 q2 q3 q4 q5
        go_wp2_with fail
        go_ret
        exact⟨ret_b hf.out,HC2.out.below⟩
       ·have e5:((ln:Int)==0)=false:=beq_eq_false_iff_ne.2 (by omega)
        have hf:=hid (show ((k:Int)==5)=mv from by
         rw[hfin.out,e1,decide_eq_true q2,decide_eq_true q3,decide_eq_true q4,decide_eq_false q5]
         by_cases q6:k=5
         ·rw[q6];rfl
         ·rw[decide_eq_false q6,beq_eq_false_iff_ne.2 q6];rfl)
        clear q1 q2 q3 q4 q5
        go_wp2_with fail
        go_ret
        exact⟨ret_b hf.out,HC2.out.below⟩
      ·have e4:(x.toList==x'.toList)=false:=strV_ne q4
       have hf:=hid (show false=mv from by rw[hfin.out,decide_eq_false q4];simp)
       clear q1 q2 q3 q4
       go_wp2_with fail
       go_ret
       exact⟨ret_b hf.out,HC2.out.below⟩
     ·have e3:(t.toList==t'.toList)=false:=strV_ne q3
      have hf:=hid (show false=mv from by rw[hfin.out,decide_eq_false q3];simp)
      clear q1 q2 q3
      go_wp2_with fail
      go_ret
      exact⟨ret_b hf.out,HC2.out.below⟩
    ·have e2:(n==n')=false:=beq_eq_false_iff_ne.2 q2
     have hf:=hid (show false=mv from by rw[hfin.out,decide_eq_false q2];simp)
     clear q1 q2
     go_wp2_with fail
     go_ret
     exact⟨ret_b hf.out,HC2.out.below⟩
   ·have e1:(b==b')=false:=beq_eq_false_iff_ne.2 q1
    have hf:=hid (show false=mv from by rw[hfin.out,e1];rfl)
    clear q1
    go_wp2_with fail
    go_ret
    exact⟨ret_b hf.out,HC2.out.below⟩
theorem check_any (v:Val) (hs:sizeV v≤10000000000000000) (F:Nat→Prop) (u:Value) (w:World) (hF:∀g,F g→g<w.heap.size) (hv:VRd w F v u) (hg:GlobB w) :
    Calls Tryz.prog 57 #[u] w (ToldB (mayV v 0) w):=by
 obtain⟨A,cap,hu,hcap,hl⟩:=hv.inv
 have hck:=hid (λo:Obj=>chk_any (sizeV v+1) v (by omega) hs 0 (by omega) F u (w.alloc o) (λg hg=>by have:=hF g hg;simp;omega) (hv.under ((Below.refl _ _).alloc (Nat.le_refl _) _) hF) (glob_under hg ((Below.refl _ _).alloc (Nat.le_refl _) _)))
 subst hu
 obtain⟨s,HS⟩:=name_itV (Value.slice A v.list.length cap)
 obtain⟨mv,HMV⟩:=name_itV (mayV v 0)
 rw[HMV.out]at hck
 rw[HMV.out]
 rw[HS.out]at hck ⊢
 clear hl hcap hg
 cases v with
 | mk k b n t x l=>
 unfold cellsV at hck ⊢
 simp only[Val.kind,Val.truth,Val.num,Val.text,Val.extra]at hck ⊢
 clear hv hF
 go_enter Tryz.func57,Tryz.ntmps57
 go_wp2_with fail
 refine (hck.out _).mono ?_
 rintro e w1 ⟨rfl,hb⟩
 have HB:=hid (((Below.refl w.heap.size w).alloc (Nat.le_refl _) (.cells #[.int .i64 k,.bool b,.int .i64 n,.string t,.string x,s] 39)).trans (hb.mono (by simp)))
 clear hb
 go_wp2_with fail
 go_ret
 exact⟨rfl,HB.out⟩
theorem eqN0 (n:Int):decide (n=0) = !(n != 0):=by by_cases h:n=0<;>simp[h]
theorem eqT0 (t:ByteArray):decide (t=⟨#[]⟩) = !(!t.toList.isEmpty):=by
 rw[Bool.not_not]
 by_cases h:t=⟨#[]⟩
 ·rw[decide_eq_true h,h,Lib.toList_data];rfl
 ·rw[decide_eq_false h]
  cases he:t.toList with
  | nil=>exact absurd (by apply ByteArray.ext;rw[←Array.toList_inj];rw[←Lib.toList_data,he]) h
  | cons a l=>rfl
theorem eqL0 (n:Nat):decide (n=0) = !decide (0<n):=by by_cases h:n=0<;>simp[h];omega
theorem cmp_bare (k:Int) (b:Bool) (n:Int) (t x:ByteArray) (l:List Val) (hk:decide (k=5)=false):cmpB k b n t x l false 0 ⟨#[]⟩ ⟨#[]⟩=(!b&&(!(n != 0)&&(!(!t.toList.isEmpty)&&(!(!x.toList.isEmpty) && !decide (0<l.length))))):=by
 unfold cmpB;rw[eqN0,eqT0,eqT0,eqL0,hk];cases b<;>simp
theorem cmp_b (k:Int) (b:Bool) (n:Int) (t x:ByteArray) (l:List Val) (hk:decide (k=5)=false):cmpB k b n t x l b 0 ⟨#[]⟩ ⟨#[]⟩=(!(n != 0)&&(!(!t.toList.isEmpty)&&(!(!x.toList.isEmpty) && !decide (0<l.length)))):=by
 unfold cmpB;rw[eqN0,eqT0,eqT0,eqL0,hk];cases b<;>simp
theorem cmp_n (k:Int) (b:Bool) (n:Int) (t x:ByteArray) (l:List Val) (hk:decide (k=5)=false):cmpB k b n t x l false n ⟨#[]⟩ ⟨#[]⟩=(!b&&(!(!t.toList.isEmpty)&&(!(!x.toList.isEmpty) && !decide (0<l.length)))):=by
 unfold cmpB;rw[eqT0,eqT0,eqL0,hk];cases b<;>simp
theorem cmp_t (k:Int) (b:Bool) (n:Int) (t x:ByteArray) (l:List Val) (hk:decide (k=5)=false):cmpB k b n t x l false 0 t ⟨#[]⟩=(!b&&(!(n != 0)&&(!(!x.toList.isEmpty) && !decide (0<l.length)))):=by
 unfold cmpB;rw[eqN0,eqT0,eqL0,hk];cases b<;>simp
theorem cmp_tx (k:Int) (b:Bool) (n:Int) (t x:ByteArray) (l:List Val) (hk:decide (k=5)=false):cmpB k b n t x l false 0 t x=(!b&&(!(n != 0) && !decide (0<l.length))):=by
 unfold cmpB;rw[eqN0,eqL0,hk];cases b<;>simp
theorem cmp_5 (b:Bool) (n:Int) (t x:ByteArray) (l:List Val):cmpB 5 b n t x l false 0 ⟨#[]⟩ ⟨#[]⟩=(!b&&(!(n != 0)&&(!(!t.toList.isEmpty) && !(!x.toList.isEmpty)))):=by
 unfold cmpB;rw[eqN0,eqT0,eqT0];cases b<;>simp
theorem may_any (N:Nat):∀(v:Val) (_:sizeV v<N) (_:sizeV v≤10000000000) (d:Nat) (_:d≤60) (F:Nat→Prop) (u:Value) (w:World) (_:∀g,F g→g<w.heap.size) (_:VRd w F v u),
    Calls Tryz.prog 119 #[u,.int .i64 (d:Int)] w (ToldB (mayV v d) w):=by
 induction N with
 | zero=>exact λ_ h=>absurd h (Nat.not_lt_zero _)
 | succ N ih=>
  intro v hN hs d hd F u w hF hv
  obtain⟨A,cap,rfl,hcap,hl⟩:=hv.inv
  have IH:=hid ih
  have HL:=hid hl
  have HF:=hid hF
  clear ih hl hF hv
  obtain⟨mv,HMV⟩:=name_itV (mayV v d)
  rw[HMV.out]
  cases v with
  | mk k b n t x l=>
  unfold cellsV
  simp only[Val.kind,Val.truth,Val.num,Val.text,Val.extra,Val.list]at HL hcap ⊢
  have hts:t.size≤1000000000000∧x.size≤1000000000000∧l.length≤10000000000∧sizeL l<N∧sizeL l≤10000000000:=by
   simp only[sizeV]at hs hN
   have:=len_le_size l
   omega
  obtain⟨hts,hxs,hll,hlN,hls⟩:=hts
  clear hN hs
  obtain⟨ln,HLN⟩:=name_itV l.length
  rw[HLN.out]at HL hcap hll ⊢
  have z0:¬(60:Int)<(d:Int):=by omega
  obtain⟨bn,Hbn⟩:=name_itV (n != 0)
  obtain⟨bt,Hbt⟩:=name_itV (!t.toList.isEmpty)
  obtain⟨bx,Hbx⟩:=name_itV (!x.toList.isEmpty)
  obtain⟨bl,Hbl⟩:=name_itV (decide (0<ln))
  obtain⟨w0,Hw0⟩:=name_itV (w.alloc (.cells #[.int .i64 k,.bool b,.int .i64 n,.string t,.string x,.slice A ln cap] 39))
  obtain⟨h,Hh⟩:=name_itV w.heap.size
  have hb0:=hid (show Below w.heap.size w w0 from by rw[←Hw0.out];exact (Below.refl _ _).alloc (Nat.le_refl _) _)
  have hblk:=hid (show w0.heap[h]?=some (.cells #[.int .i64 k,.bool b,.int .i64 n,.string t,.string x,.slice A ln cap] 39 (0,0)) from by rw[←Hw0.out,←Hh.out];exact heap_alloc_new w _)
  have hhs:=hid (show h<w0.heap.size from by rw[←Hw0.out,←Hh.out];simp)
  go_enter Tryz.func119,Tryz.ntmps119
  go_upto_block 0 with fail
  rw[Hw0.out,Hh.out,Hbn.out,Hbt.out,Hbx.out,Hbl.out]
  have c2:w0.cell? ⟨h,2,none⟩=some (.int .i64 n):=cell_of_heap hblk.out 2
  have c3:w0.cell? ⟨h,3,none⟩=some (.string t):=cell_of_heap hblk.out 3
  have c4:w0.cell? ⟨h,4,none⟩=some (.string x):=cell_of_heap hblk.out 4
  have c5:w0.cell? ⟨h,5,none⟩=some (.slice A ln cap):=cell_of_heap hblk.out 5
  by_cases h0:k=0
  ·subst h0
   have hmv:=hid (show mv=(!b&&(!bn&&(!bt&&(!bx && !bl)))) from by rw[←HMV.out,may_0,cmp_bare 0 b n t x l rfl,Hbn.out,Hbt.out,Hbx.out,HLN.out,Hbl.out])
   clear HMV
   cases b with
   | true=>
    have hmf:=hid (show false=mv from by rw[hmv.out];simp)
    go_wp2_with fail
    go_ret
    exact⟨ret_b hmf.out,hb0.out⟩
   | false=>
    cases bn with
    | true=>
     have hmf:=hid (show false=mv from by rw[hmv.out];simp)
     go_wp2_with fail
     go_ret
     exact⟨ret_b hmf.out,hb0.out⟩
    | false=>
     cases bt with
     | true=>
      have hmf:=hid (show false=mv from by rw[hmv.out];simp)
      go_wp2_with fail
      go_ret
      exact⟨ret_b hmf.out,hb0.out⟩
     | false=>
      cases bx with
      | true=>
       have hmf:=hid (show false=mv from by rw[hmv.out];simp)
       go_wp2_with fail
       go_ret
       exact⟨ret_b hmf.out,hb0.out⟩
      | false=>
       cases bl with
       | true=>
        have hmf:=hid (show false=mv from by rw[hmv.out];simp)
        go_wp2_with fail
        go_ret
        exact⟨ret_b hmf.out,hb0.out⟩
       | false=>
        have hmf:=hid (show true=mv from by rw[hmv.out];simp)
        go_wp2_with fail
        go_ret
        exact⟨ret_b hmf.out,hb0.out⟩
  ·have e0:((k:Int)==0)=false:=beq_eq_false_iff_ne.2 h0
   by_cases h1:k=1
   ·subst h1
    have hmv:=hid (show mv=(!bn&&(!bt&&(!bx && !bl))) from by rw[←HMV.out,may_1,cmp_b 1 b n t x l rfl,Hbn.out,Hbt.out,Hbx.out,HLN.out,Hbl.out])
    clear HMV
    cases bn with
    | true=>
     have hmf:=hid (show false=mv from by rw[hmv.out];simp)
     go_wp2_with fail
     go_ret
     exact⟨ret_b hmf.out,hb0.out⟩
    | false=>
     cases bt with
     | true=>
      have hmf:=hid (show false=mv from by rw[hmv.out];simp)
      go_wp2_with fail
      go_ret
      exact⟨ret_b hmf.out,hb0.out⟩
     | false=>
      cases bx with
      | true=>
       have hmf:=hid (show false=mv from by rw[hmv.out];simp)
       go_wp2_with fail
       go_ret
       exact⟨ret_b hmf.out,hb0.out⟩
      | false=>
       cases bl with
       | true=>
        have hmf:=hid (show false=mv from by rw[hmv.out];simp)
        go_wp2_with fail
        go_ret
        exact⟨ret_b hmf.out,hb0.out⟩
       | false=>
        have hmf:=hid (show true=mv from by rw[hmv.out];simp)
        go_wp2_with fail
        go_ret
        exact⟨ret_b hmf.out,hb0.out⟩
   ·have e1:((k:Int)==1)=false:=beq_eq_false_iff_ne.2 h1
    by_cases h2:k=2
    ·subst h2
     have hmv:=hid (show mv=(!b&&(!bt&&(!bx && !bl))) from by rw[←HMV.out,may_2,cmp_n 2 b n t x l rfl,Hbt.out,Hbx.out,HLN.out,Hbl.out])
     clear HMV
     cases b with
     | true=>
      have hmf:=hid (show false=mv from by rw[hmv.out];simp)
      go_wp2_with fail
      go_ret
      exact⟨ret_b hmf.out,hb0.out⟩
     | false=>
      cases bt with
      | true=>
       have hmf:=hid (show false=mv from by rw[hmv.out];simp)
       go_wp2_with fail
       go_ret
       exact⟨ret_b hmf.out,hb0.out⟩
      | false=>
       cases bx with
       | true=>
        have hmf:=hid (show false=mv from by rw[hmv.out];simp)
        go_wp2_with fail
        go_ret
        exact⟨ret_b hmf.out,hb0.out⟩
       | false=>
        cases bl with
        | true=>
         have hmf:=hid (show false=mv from by rw[hmv.out];simp)
         go_wp2_with fail
         go_ret
         exact⟨ret_b hmf.out,hb0.out⟩
        | false=>
         have hmf:=hid (show true=mv from by rw[hmv.out];simp)
         go_wp2_with fail
         go_ret
         exact⟨ret_b hmf.out,hb0.out⟩
    ·have e2:((k:Int)==2)=false:=beq_eq_false_iff_ne.2 h2
     by_cases h3:k=3
     ·subst h3
      have hmv:=hid (show mv=(decB t&&(!b&&(!bn&&(!bx && !bl)))) from by rw[←HMV.out,may_3,cmp_t 3 b n t x l rfl,Hbn.out,Hbx.out,HLN.out,Hbl.out])
      clear HMV
      cases b with
      | true=>
       have hmf:=hid (show false=mv from by rw[hmv.out];simp)
       go_wp2_with fail
       go_ret
       exact⟨ret_b hmf.out,hb0.out⟩
      | false=>
       cases bn with
       | true=>
        have hmf:=hid (show false=mv from by rw[hmv.out];simp)
        go_wp2_with fail
        go_ret
        exact⟨ret_b hmf.out,hb0.out⟩
       | false=>
        cases bx with
        | true=>
         have hmf:=hid (show false=mv from by rw[hmv.out];simp)
         go_wp2_with fail
         go_ret
         exact⟨ret_b hmf.out,hb0.out⟩
        | false=>
         cases bl with
         | true=>
          have hmf:=hid (show false=mv from by rw[hmv.out];simp)
          go_wp2_with fail
          go_ret
          exact⟨ret_b hmf.out,hb0.out⟩
         | false=>
          have hcl:=hid (refDec_any t (by omega) w0)
          obtain⟨r,Hr⟩:=name_itV (decB t)
          rw[Hr.out]at hcl hmv
          cases r with
          | false=>
           have hmf:=hid (show false=mv from by rw[hmv.out];simp)
           go_wp2_with fail;refine hcl.out.mono ?_;rintro e w2 ⟨rfl,hb2⟩
           have HB2:=hid (hb0.out.trans (hb2.mono hb0.out.size))
           clear hb2
           go_wp2_with fail
           go_ret
           exact⟨ret_b hmf.out,HB2.out⟩
          | true=>
           have hmf:=hid (show true=mv from by rw[hmv.out];simp)
           go_wp2_with fail;refine hcl.out.mono ?_;rintro e w2 ⟨rfl,hb2⟩
           have HB2:=hid (hb0.out.trans (hb2.mono hb0.out.size))
           clear hb2
           go_wp2_with fail
           go_ret
           exact⟨ret_b hmf.out,HB2.out⟩
     ·have e3:((k:Int)==3)=false:=beq_eq_false_iff_ne.2 h3
      by_cases h4:k=4
      ·subst h4
       have hmv:=hid (show mv=(decide (t.size≤1048576)&&(!b&&(!bn&&(!bx && !bl)))) from by rw[←HMV.out,may_4,cmp_t 4 b n t x l rfl,Hbn.out,Hbx.out,HLN.out,Hbl.out])
       clear HMV
       cases b with
       | true=>
        have hmf:=hid (show false=mv from by rw[hmv.out];simp)
        go_wp2_with fail
        go_ret
        exact⟨ret_b hmf.out,hb0.out⟩
       | false=>
        cases bn with
        | true=>
         have hmf:=hid (show false=mv from by rw[hmv.out];simp)
         go_wp2_with fail
         go_ret
         exact⟨ret_b hmf.out,hb0.out⟩
        | false=>
         cases bx with
         | true=>
          have hmf:=hid (show false=mv from by rw[hmv.out];simp)
          go_wp2_with fail
          go_ret
          exact⟨ret_b hmf.out,hb0.out⟩
         | false=>
          cases bl with
          | true=>
           have hmf:=hid (show false=mv from by rw[hmv.out];simp)
           go_wp2_with fail
           go_ret
           exact⟨ret_b hmf.out,hb0.out⟩
          | false=>
           by_cases ht0:t.size≤1048576
           ·have z1:(t.size:Int)≤1048576:=by omega
            rw[decide_eq_true ht0]at hmv
            have hmf:=hid (show true=mv from by rw[hmv.out];simp)
            go_wp2_with fail
            go_ret
            exact⟨ret_b hmf.out,hb0.out⟩
           ·have z1:¬(t.size:Int)≤1048576:=by omega
            rw[decide_eq_false ht0]at hmv
            have hmf:=hid (show false=mv from by rw[hmv.out];simp)
            go_wp2_with fail
            go_ret
            exact⟨ret_b hmf.out,hb0.out⟩
      ·have e4:((k:Int)==4)=false:=beq_eq_false_iff_ne.2 h4
       by_cases h8:k=8
       ·subst h8
        have hmv:=hid (show mv=(iriB t&&(!b&&(!bn&&(!bx && !bl)))) from by rw[←HMV.out,may_8,cmp_t 8 b n t x l rfl,Hbn.out,Hbx.out,HLN.out,Hbl.out])
        clear HMV
        cases b with
        | true=>
         have hmf:=hid (show false=mv from by rw[hmv.out];simp)
         go_wp2_with fail
         go_ret
         exact⟨ret_b hmf.out,hb0.out⟩
        | false=>
         cases bn with
         | true=>
          have hmf:=hid (show false=mv from by rw[hmv.out];simp)
          go_wp2_with fail
          go_ret
          exact⟨ret_b hmf.out,hb0.out⟩
         | false=>
          cases bx with
          | true=>
           have hmf:=hid (show false=mv from by rw[hmv.out];simp)
           go_wp2_with fail
           go_ret
           exact⟨ret_b hmf.out,hb0.out⟩
          | false=>
           cases bl with
           | true=>
            have hmf:=hid (show false=mv from by rw[hmv.out];simp)
            go_wp2_with fail
            go_ret
            exact⟨ret_b hmf.out,hb0.out⟩
           | false=>
            have hcl:=hid (refIri_any t w0)
            obtain⟨r,Hr⟩:=name_itV (iriB t)
            rw[Hr.out]at hcl hmv
            cases r with
            | false=>
             have hmf:=hid (show false=mv from by rw[hmv.out];simp)
             go_wp2_with fail;refine hcl.out.mono ?_;rintro e w2 ⟨rfl,rfl⟩
             go_wp2_with fail
             go_ret
             exact⟨ret_b hmf.out,hb0.out⟩
            | true=>
             have hmf:=hid (show true=mv from by rw[hmv.out];simp)
             go_wp2_with fail;refine hcl.out.mono ?_;rintro e w2 ⟨rfl,rfl⟩
             go_wp2_with fail
             go_ret
             exact⟨ret_b hmf.out,hb0.out⟩
       ·have e8:((k:Int)==8)=false:=beq_eq_false_iff_ne.2 h8
        by_cases h9:k=9
        ·subst h9
         have hmv:=hid (show mv=(nameB t&&(!b&&(!bn&&(!bx && !bl)))) from by rw[←HMV.out,may_9,cmp_t 9 b n t x l rfl,Hbn.out,Hbx.out,HLN.out,Hbl.out])
         clear HMV
         cases b with
         | true=>
          have hmf:=hid (show false=mv from by rw[hmv.out];simp)
          go_wp2_with fail
          go_ret
          exact⟨ret_b hmf.out,hb0.out⟩
         | false=>
          cases bn with
          | true=>
           have hmf:=hid (show false=mv from by rw[hmv.out];simp)
           go_wp2_with fail
           go_ret
           exact⟨ret_b hmf.out,hb0.out⟩
          | false=>
           cases bx with
           | true=>
            have hmf:=hid (show false=mv from by rw[hmv.out];simp)
            go_wp2_with fail
            go_ret
            exact⟨ret_b hmf.out,hb0.out⟩
           | false=>
            cases bl with
            | true=>
             have hmf:=hid (show false=mv from by rw[hmv.out];simp)
             go_wp2_with fail
             go_ret
             exact⟨ret_b hmf.out,hb0.out⟩
            | false=>
             have hcl:=hid (refName_any t w0)
             obtain⟨r,Hr⟩:=name_itV (nameB t)
             rw[Hr.out]at hcl hmv
             cases r with
             | false=>
              have hmf:=hid (show false=mv from by rw[hmv.out];simp)
              go_wp2_with fail;refine hcl.out.mono ?_;rintro e w2 ⟨rfl,rfl⟩
              go_wp2_with fail
              go_ret
              exact⟨ret_b hmf.out,hb0.out⟩
             | true=>
              have hmf:=hid (show true=mv from by rw[hmv.out];simp)
              go_wp2_with fail;refine hcl.out.mono ?_;rintro e w2 ⟨rfl,rfl⟩
              go_wp2_with fail
              go_ret
              exact⟨ret_b hmf.out,hb0.out⟩
        ·have e9:((k:Int)==9)=false:=beq_eq_false_iff_ne.2 h9
         by_cases h5:k=5
         ·subst h5
          have hmv:=hid (show mv=(decide (ln≤4096)&&(decide (d<60)&&(mayL l (d+1)&&(!b&&(!bn&&(!bt && !bx)))))) from by rw[←HMV.out,may_5,cmp_5 b n t x l,Hbn.out,Hbt.out,Hbx.out,HLN.out])
          clear HMV
          cases b with
          | true=>
           have hmf:=hid (show false=mv from by rw[hmv.out];simp)
           go_wp2_with fail
           go_ret
           exact⟨ret_b hmf.out,hb0.out⟩
          | false=>
           cases bn with
           | true=>
            have hmf:=hid (show false=mv from by rw[hmv.out];simp)
            go_wp2_with fail
            go_ret
            exact⟨ret_b hmf.out,hb0.out⟩
           | false=>
            cases bt with
            | true=>
             have hmf:=hid (show false=mv from by rw[hmv.out];simp)
             go_wp2_with fail
             go_ret
             exact⟨ret_b hmf.out,hb0.out⟩
            | false=>
             cases bx with
             | true=>
              have hmf:=hid (show false=mv from by rw[hmv.out];simp)
              go_wp2_with fail
              go_ret
              exact⟨ret_b hmf.out,hb0.out⟩
             | false=>
              by_cases hl1:ln≤4096
              ·have z1:¬(4096:Int)<(ln:Int):=by omega
               rw[decide_eq_true hl1]at hmv
               obtain⟨d1,Hd1⟩:=name_itV (d+1)
               have hd1:d1≤61:=by rw[←Hd1.out];omega
               have w1:IntKind.i64.wrap ((d:Int)+1)=(d1:Int):=by rw[IntWalk.i64_in _ (by omega),←Hd1.out];push_cast;rfl
               have w2:(d:Int)+1=(d1:Int):=by rw[←Hd1.out];push_cast;rfl
               by_cases hd2:d<60
               ·have z2:¬(60:Int)<(d1:Int):=by rw[←w2];omega
                rw[decide_eq_true hd2,Hd1.out]at hmv
                have hmv2:=hid (show mv=mayL l d1 from by rw[hmv.out];simp)
                clear hmv hd2
                go_wp2_with fail
                go_loopw [10] (λs10 wr=>∃i:Nat,i≤ln∧s10 = .int .i64 (i:Nat)∧Hid (((l.take i).all λv=>mayV v d1)=true)∧Hid (Below w0.heap.size w0 wr)) (λs10 _=>ln-(intOf s10).toNat)
                case atStart=>exact⟨0,by omega,rfl,hid (by simp),hid (Below.refl _ _)⟩
                case round=>
                 obtain⟨i,hi,rfl,hall,hB⟩:=hrel
                 have HBw:=hid (hb0.out.trans (hB.out.mono hb0.out.size))
                 have r5:wr.cell? ⟨h,5,none⟩=some (.slice A ln cap):=cell_of_heap ((hB.out.block h hhs.out).trans hblk.out) 5
                 by_cases hlt:i<ln
                 ·obtain⟨y,hy⟩:∃y,l[i]?=some y:=⟨l[i]'(by rw[HLN.out];exact hlt),List.getElem?_eq_getElem _⟩
                  have HR:=hid (HL.out.under HBw.out HF.out)
                  obtain⟨ad,s,rfl,hFa,⟨B,capy,rfl,hcapy,hly⟩,hvy,e0,e1,e2,e3,e4,e5⟩:=HR.out.cellsAt hy
                  have HY:=hid hy
                  have hmem:=hid (List.mem_of_getElem? hy)
                  have hsy:=sizeV_mem hmem.out
                  have hih:=hid (IH.out y (by omega) (by omega) d1 (by omega) F _ wr (λg hg=>Nat.lt_of_lt_of_le (HF.out g hg) HBw.out.size) hvy)
                  unfold cellsV at hih
                  have hmore:=hid (λ(h:mayV y d1=true)=>show ((l.take (i+1)).all λv=>mayV v d1)=true from by
                   rw[take_oneMore HY.out,List.all_append,hall.out];simp[h])
                  have hstop:=hid (λ(h:mayV y d1=false)=>show mayL l d1=false from by
                   rw[mayL_all,List.all_eq_false]
                   exact⟨y,hmem.out,by simp[h]⟩)
                  obtain⟨r,Hr⟩:=name_itV (mayV y d1)
                  rw[Hr.out]at hih hmore hstop
                  have q1:(0:Int)≤i:=by omega
                  have q2:(i:Int)<ln:=by omega
                  clear hy hly hvy hFa hsy
                  go_wp2_with fail
                  refine hih.out.mono ?_
                  rintro e w2 ⟨rfl,hb2⟩
                  have HB2:=hid (hB.out.trans (hb2.mono hB.out.size))
                  clear hb2
                  cases r with
                  | true=>
                   have HM:=hid (hmore.out rfl)
                   have w3:IntKind.i64.wrap ((i:Int)+1)=(i:Int)+1:=IntWalk.i64_in _ (by omega)
                   go_wp2_with fail
                   go_roundw
                   case rel=>exact⟨i+1,by omega,by go_num,HM,HB2⟩
                   case measure=>simp[intOf];omega
                  | false=>
                   have HS:=hid (show false=mv from by rw[hmv2.out,hstop.out rfl])
                   have HB3:=hid (hb0.out.trans (HB2.out.mono hb0.out.size))
                   go_wp2_with fail
                   go_ret
                   exact⟨ret_b HS.out,HB3.out⟩
                 ·have hie:i=ln:=by omega
                  have HS:=hid (show true=mv from by
                   have:=hall.out
                   rw[List.take_of_length_le (by rw[hie,HLN.out];exact Nat.le_refl _)]at this
                   rw[hmv2.out,mayL_all];exact this.symm)
                  clear hie
                  go_wp2_with fail
                  go_ret
                  exact⟨ret_b HS.out,HBw.out⟩
               ·have z2:(60:Int)<(d1:Int):=by rw[←w2];omega
                rw[decide_eq_false hd2]at hmv
                have hmf:=hid (show false=mv from by rw[hmv.out];simp)
                go_wp2_with fail
                go_ret
                exact⟨ret_b hmf.out,hb0.out⟩
              ·have z1:(4096:Int)<(ln:Int):=by omega
               rw[decide_eq_false hl1]at hmv
               have hmf:=hid (show false=mv from by rw[hmv.out];simp)
               go_wp2_with fail
               go_ret
               exact⟨ret_b hmf.out,hb0.out⟩
         ·have e5:((k:Int)==5)=false:=beq_eq_false_iff_ne.2 h5
          by_cases h6:k=6
          ·subst h6
           have hmv:=hid (show mv=(decide (0≤n)&&(!b&&(!bt&&(!bx && !bl)))) from by rw[←HMV.out,may_6,cmp_n 6 b n t x l rfl,Hbt.out,Hbx.out,HLN.out,Hbl.out])
           clear HMV
           cases b with
           | true=>
            have hmf:=hid (show false=mv from by rw[hmv.out];simp)
            go_wp2_with fail
            go_ret
            exact⟨ret_b hmf.out,hb0.out⟩
           | false=>
            by_cases hn0:0≤n
            ·rw[decide_eq_true hn0]at hmv
             cases bt with
             | true=>
              have hmf:=hid (show false=mv from by rw[hmv.out];simp)
              go_wp2_with fail
              go_ret
              exact⟨ret_b hmf.out,hb0.out⟩
             | false=>
              cases bx with
              | true=>
               have hmf:=hid (show false=mv from by rw[hmv.out];simp)
               go_wp2_with fail
               go_ret
               exact⟨ret_b hmf.out,hb0.out⟩
              | false=>
               cases bl with
               | true=>
                have hmf:=hid (show false=mv from by rw[hmv.out];simp)
                go_wp2_with fail
                go_ret
                exact⟨ret_b hmf.out,hb0.out⟩
               | false=>
                have hmf:=hid (show true=mv from by rw[hmv.out];simp)
                go_wp2_with fail
                go_ret
                exact⟨ret_b hmf.out,hb0.out⟩
            ·rw[decide_eq_false hn0]at hmv
             have hmf:=hid (show false=mv from by rw[hmv.out];simp)
             go_wp2_with fail
             go_ret
             exact⟨ret_b hmf.out,hb0.out⟩
          ·have e6:((k:Int)==6)=false:=beq_eq_false_iff_ne.2 h6
           by_cases h7:k=7
           ·subst h7
            have hmv:=hid (show mv=(decide (0≤n)&&(!b&&(!bt&&(!bx && !bl)))) from by rw[←HMV.out,may_7,cmp_n 7 b n t x l rfl,Hbt.out,Hbx.out,HLN.out,Hbl.out])
            clear HMV
            cases b with
            | true=>
             have hmf:=hid (show false=mv from by rw[hmv.out];simp)
             go_wp2_with fail
             go_ret
             exact⟨ret_b hmf.out,hb0.out⟩
            | false=>
             by_cases hn0:0≤n
             ·rw[decide_eq_true hn0]at hmv
              cases bt with
              | true=>
               have hmf:=hid (show false=mv from by rw[hmv.out];simp)
               go_wp2_with fail
               go_ret
               exact⟨ret_b hmf.out,hb0.out⟩
              | false=>
               cases bx with
               | true=>
                have hmf:=hid (show false=mv from by rw[hmv.out];simp)
                go_wp2_with fail
                go_ret
                exact⟨ret_b hmf.out,hb0.out⟩
               | false=>
                cases bl with
                | true=>
                 have hmf:=hid (show false=mv from by rw[hmv.out];simp)
                 go_wp2_with fail
                 go_ret
                 exact⟨ret_b hmf.out,hb0.out⟩
                | false=>
                 have hmf:=hid (show true=mv from by rw[hmv.out];simp)
                 go_wp2_with fail
                 go_ret
                 exact⟨ret_b hmf.out,hb0.out⟩
             ·rw[decide_eq_false hn0]at hmv
              have hmf:=hid (show false=mv from by rw[hmv.out];simp)
              go_wp2_with fail
              go_ret
              exact⟨ret_b hmf.out,hb0.out⟩
           ·have e7:((k:Int)==7)=false:=beq_eq_false_iff_ne.2 h7
            by_cases h10:k=10
            ·subst h10
             have hmv:=hid (show mv=(decide (t.size≤1048576)&&(iriB x&&(!b&&(!bn && !bl)))) from by rw[←HMV.out,may_10,cmp_tx 10 b n t x l rfl,Hbn.out,HLN.out,Hbl.out])
             clear HMV
             cases b with
             | true=>
              have hmf:=hid (show false=mv from by rw[hmv.out];simp)
              go_wp2_with fail
              go_ret
              exact⟨ret_b hmf.out,hb0.out⟩
             | false=>
              cases bn with
              | true=>
               have hmf:=hid (show false=mv from by rw[hmv.out];simp)
               go_wp2_with fail
               go_ret
               exact⟨ret_b hmf.out,hb0.out⟩
              | false=>
               cases bl with
               | true=>
                have hmf:=hid (show false=mv from by rw[hmv.out];simp)
                go_wp2_with fail
                go_ret
                exact⟨ret_b hmf.out,hb0.out⟩
               | false=>
                by_cases ht0:t.size≤1048576
                ·have z1:(t.size:Int)≤1048576:=by omega
                 rw[decide_eq_true ht0]at hmv
                 have hcl:=hid (refIri_any x w0)
                 obtain⟨r,Hr⟩:=name_itV (iriB x)
                 rw[Hr.out]at hcl hmv
                 cases r with
                 | false=>
                  have hmf:=hid (show false=mv from by rw[hmv.out];simp)
                  go_wp2_with fail;refine hcl.out.mono ?_;rintro e w2 ⟨rfl,rfl⟩
                  go_wp2_with fail
                  go_ret
                  exact⟨ret_b hmf.out,hb0.out⟩
                 | true=>
                  have hmf:=hid (show true=mv from by rw[hmv.out];simp)
                  go_wp2_with fail;refine hcl.out.mono ?_;rintro e w2 ⟨rfl,rfl⟩
                  go_wp2_with fail
                  go_ret
                  exact⟨ret_b hmf.out,hb0.out⟩
                ·have z1:¬(t.size:Int)≤1048576:=by omega
                 rw[decide_eq_false ht0]at hmv
                 have hmf:=hid (show false=mv from by rw[hmv.out];simp)
                 go_wp2_with fail
                 go_ret
                 exact⟨ret_b hmf.out,hb0.out⟩
            ·have e10:((k:Int)==10)=false:=beq_eq_false_iff_ne.2 h10
             have hmf:=hid (show false=mv from by rw[←HMV.out];unfold mayV;simp only[h0,h1,h2,h3,h4,h8,h9,h5,h6,h7,h10,if_false])
             clear h0 h1 h2 h3 h4 h8 h9 h5 h6 h7 h10
             go_wp2_with fail
             go_ret
             exact⟨ret_b hmf.out,hb0.out⟩
theorem refMay_any (v:Val) (hs:sizeV v≤10000000000) (F:Nat→Prop) (u:Value) (w:World) (hF:∀g,F g→g<w.heap.size) (hv:VRd w F v u) :
    Calls Tryz.prog 59 #[u] w (ToldB (mayV v 0) w):=by
 obtain⟨A,cap,hu,hcap,hl⟩:=hv.inv
 have hck:=hid (λo:Obj=>may_any (sizeV v+1) v (by omega) hs 0 (by omega) F u (w.alloc o) (λg hg=>by have:=hF g hg;simp;omega) (hv.under ((Below.refl _ _).alloc (Nat.le_refl _) _) hF))
 subst hu
 obtain⟨s,HS⟩:=name_itV (Value.slice A v.list.length cap)
 obtain⟨mv,HMV⟩:=name_itV (mayV v 0)
 rw[HMV.out]at hck
 rw[HMV.out]
 rw[HS.out]at hck ⊢
 clear hl hcap
 cases v with
 | mk k b n t x l=>
 unfold cellsV at hck ⊢
 simp only[Val.kind,Val.truth,Val.num,Val.text,Val.extra]at hck ⊢
 clear hv hF
 go_enter Tryz.func59,Tryz.ntmps59
 go_wp2_with fail
 refine (hck.out _).mono ?_
 rintro e w1 ⟨rfl,hb⟩
 have HB:=hid (((Below.refl w.heap.size w).alloc (Nat.le_refl _) (.cells #[.int .i64 k,.bool b,.int .i64 n,.string t,.string x,s] 39)).trans (hb.mono (by simp)))
 clear hb
 go_wp2_with fail
 go_ret
 exact⟨rfl,HB.out⟩
end Go.Proofs.YtefhfadjajcmkaaGreatDoor
