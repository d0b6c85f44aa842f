/- The program's decimals: what is told of digits (plain). -/
import Derived.Test.YtefhfadjajcmkaaGreatDoorK0
import Derived.Deep.RegionLaw
import Derived.Test.YtefhfadjajcmkaaGreatDoorShelf
set_option linter.unusedVariables false
set_option linter.unusedSimpArgs false
set_option maxRecDepth 100000
set_option maxHeartbeats 8000000
namespace Go.Proofs.YtefhfadjajcmkaaGreatDoor
open Go Go.RowKit Go.Maps Go.WideMaps
open Go.Lib (hid cell_of_heap)
def sgnB (s:ByteArray):Bool:=s.data.toList.head?==some 45
def sgnY (s:ByteArray):Bool:=s.data.toList.head?==some 45 || s.data.toList.head?==some 43
def sgnT (s:ByteArray):ByteArray:=cond (sgnY s) (s.extract 1 s.size) s
def pointF:List UInt8→Nat→Option Nat→Option (Option Nat)
 | [],_,p=>some p
 | c::l,i,p=>cond (c==46&&p.isNone) (pointF l (i+1) (some i)) (cond (digN c.toNat) (pointF l (i+1) p) none)
def digsD:List UInt8→List Nat
 | []=>[]
 | c::l=>digsD l++cond (c==46) [] [c.toNat-48]
theorem drop_at {l:List UInt8} {k:Nat} {c:UInt8} (h:l[k]?=some c):l.drop k=c::l.drop (k+1):=by
 obtain⟨hk,rfl⟩:=List.getElem?_eq_some_iff.1 h
 exact List.drop_eq_getElem_cons hk
theorem pf_pt {l:List UInt8} {k:Nat} (h:l[k]?=some 46):pointF (l.drop k) k none=pointF (l.drop (k+1)) (k+1) (some k):=by
 rw[drop_at h];rfl
theorem pf_dig {l:List UInt8} {k:Nat} {c:UInt8} {p:Option Nat} (h:l[k]?=some c) (hc:digN c.toNat=true):pointF (l.drop k) k p=pointF (l.drop (k+1)) (k+1) p:=by
 rw[drop_at h]
 have h46:(c==46)=false:=by
  refine beq_eq_false_iff_ne.2 λe=>?_
  rw[e]at hc;cases hc
 simp[pointF,h46,hc]
theorem pf_no {l:List UInt8} {k:Nat} {c:UInt8} {p:Option Nat} (h:l[k]?=some c) (hc:digN c.toNat=false) (hp:c≠46∨∃i,p=some i):pointF (l.drop k) k p=none:=by
 rw[drop_at h]
 have h46:(c==46&&p.isNone)=false:=by
  rcases hp with hp | ⟨i,rfl⟩
  ·rw[beq_eq_false_iff_ne.2 hp];rfl
  ·simp
 simp[pointF,h46,hc]
theorem pf_end {l:List UInt8} {k:Nat} {p:Option Nat} (h:l.length≤k):pointF (l.drop k) k p=some p:=by
 rw[List.drop_of_length_le h];rfl
def ptI:Option Nat→Int
 | none=>-1
 | some i=>i
def scaleP (n:Nat):Option Nat→Nat
 | none=>0
 | some i=>n-1-i
def parseT (s:ByteArray):Option (Bool×List Nat×Nat):=
 match pointF (sgnT s).data.toList 0 none with
 | none=>none
 | some p=>cond (decide ((sgnT s).size=0) || (p==some 0) || (p==some ((sgnT s).size-1))) none
     (some (sgnB s,digsD (sgnT s).data.toList,scaleP (sgnT s).size p))
theorem parse_none {s:ByteArray} (h:pointF (sgnT s).data.toList 0 none=none):parseT s=none:=by unfold parseT;rw[h]
theorem infoInt:(Tryz.prog.info? 3).map (λi=>(i.zero,i.size,i.bytes))=some (some (.int .i64 0),1,8):=by kernel_rfl
theorem sgn_min {s:ByteArray} (h:0<s.size) (h1:s[0].toNat=45):sgnB s=true∧sgnY s=true∧sgnT s=s.extract 1 s.size:=by
 have h2:s[0]=45:=UInt8.toNat_inj.1 h1
 have h3:=head_data h
 unfold sgnT sgnY sgnB
 rw[h3,h2]
 exact⟨rfl,rfl,rfl⟩
theorem sgn_plus {s:ByteArray} (h:0<s.size) (h1:s[0].toNat=43):sgnB s=false∧sgnY s=true∧sgnT s=s.extract 1 s.size:=by
 have h2:s[0]=43:=UInt8.toNat_inj.1 h1
 have h3:=head_data h
 unfold sgnT sgnY sgnB
 rw[h3,h2]
 exact⟨rfl,rfl,rfl⟩
theorem sgn_none {s:ByteArray} (h:0<s.size) (h1:s[0].toNat≠45) (h2:s[0].toNat≠43):sgnB s=false∧sgnY s=false∧sgnT s=s:=by
 have a1:s[0]≠45:=λe=>h1 (by rw[e];rfl)
 have a2:s[0]≠43:=λe=>h2 (by rw[e];rfl)
 have h3:=head_data h
 unfold sgnT sgnY sgnB
 rw[h3]
 have b1:(some s[0]==some (45:UInt8))=false:=by simpa using a1
 have b2:(some s[0]==some (43:UInt8))=false:=by simpa using a2
 rw[b1,b2]
 exact⟨rfl,rfl,rfl⟩
theorem sgn_empty {s:ByteArray} (h:¬0<s.size):sgnB s=false∧sgnY s=false∧sgnT s=s:=by
 have h3:s.data.toList=[]:=List.eq_nil_of_length_eq_zero (by rw[data_len];omega)
 unfold sgnT sgnY sgnB
 rw[h3]
 exact⟨rfl,rfl,rfl⟩
theorem sgn_size (s:ByteArray):(sgnT s).size≤s.size:=by
 unfold sgnT
 cases sgnY s
 ·exact Nat.le_refl _
 ·simp
def signW (s:ByteArray) (w:World):World:=(w.alloc (.cells #[.bool false,.slice none 0 0,.int .i64 0] 277)).alloc (.cells #[.bool (sgnB s),.slice none 0 0,.int .i64 0] 277)
def ParsedIs (s:ByteArray) (w:World) (e:Ending) (w':World):Prop:=Below w.heap.size w w' ∧
 match parseT s with
 | none=>e = .returned (.tuple #[.agg #[.bool false,.slice none 0 0,.int .i64 0],.bool false])
 | some (neg,D,S)=>∃A cap,e = .returned (.tuple #[.agg #[.bool neg,.slice A D.length cap,.int .i64 (S:Int)],.bool true])∧IntsAt w' A D
structure MidN (w:World) (b:Nat) (sg:Bool) (D:List Nat) (v:Value) (S:Nat) (wr:World):Prop where
 below:Below w.heap.size w wr
 res:wr.heap[b]?=some (.cells #[.bool false,.slice none 0 0,.int .i64 0] 277 (0,0))
 num:wr.heap[b+1]?=some (.cells #[.bool sg,v,.int .i64 (S:Int)] 277 (0,0))
 row:wr.ownsRow (b+2) 3 1 v D.length (D.map λ(x:Nat)=>Value.int .i64 (x:Int))
 size:b+2≤wr.heap.size
theorem ints_own {w:World} {base:Nat} {D:List Nat} {A:Option Addr} {cp:Nat} (h:w.ownsRow base 3 1 (.slice A D.length cp) D.length (D.map λ(x:Nat)=>Value.int .i64 (x:Int))):IntsAt w A D:=by
 intro i x hx
 have h2:=h
 rcases h.2 with⟨h0,_⟩ | ⟨g,cap,cur,h0,_⟩
 ·injection h0 with _ hn _
  have hl:=(List.getElem?_eq_some_iff.1 hx).1
  rw[hn]at hl
  exact absurd hl (Nat.not_lt_zero _)
 ·have hA:A=some ⟨g,0,none⟩:=by injection h0
  exact⟨_,hA,by have:=(h2.lt g (by rw[h0];rfl)).2;unfold Addr.add;split<;>exact this,h2.cells (g:=g) (by rw[h0];rfl) i _ (by rw[List.getElem?_map,hx];rfl)⟩
theorem pf_all {l:List UInt8}:∀{i:Nat} {p q:Option Nat},pointF l i p=some q→∀c∈l,c=46∨digN c.toNat=true:=by
 induction l with
 | nil=>intro i p q _ c hc;cases hc
 | cons d l ih=>
  intro i p q h c hc
  unfold pointF at h
  cases h1:(d==46&&p.isNone) with
  | true=>
   rw[h1]at h
   rcases List.mem_cons.1 hc with rfl | hc
   ·exact .inl (beq_iff_eq.1 (Bool.and_eq_true_iff.1 h1).1)
   ·exact ih h c hc
  | false=>
   rw[h1]at h
   cases h2:digN d.toNat with
   | true=>
    rw[h2]at h
    rcases List.mem_cons.1 hc with rfl | hc
    ·exact .inr h2
    ·exact ih h c hc
   | false=>rw[h2]at h;cases h
theorem digs_pt {l:List UInt8} {k:Nat} (h:l[k]?=some 46):digsD (l.drop k)=digsD (l.drop (k+1)):=by
 rw[drop_at h];simp[digsD]
theorem digs_dig {l:List UInt8} {k:Nat} {c:UInt8} (h:l[k]?=some c) (hc:c≠46):digsD (l.drop k)=digsD (l.drop (k+1))++[c.toNat-48]:=by
 rw[drop_at h];simp[digsD,beq_eq_false_iff_ne.2 hc]
theorem digs_length (l:List UInt8):(digsD l).length≤l.length:=by
 induction l with
 | nil=>simp[digsD]
 | cons c l ih=>
  unfold digsD
  cases h:c==46<;>simp<;>omega
theorem three_set {w:World} {b C:Nat} {c0 c1 c2:Value} (v0 v1 v2:Value) (h:w.heap[b]?=some (.cells #[c0,c1,c2] C (0,0))):(((w.setCell ⟨b,0,none⟩ v0).setCell ⟨b,1,none⟩ v1).setCell ⟨b,2,none⟩ v2).heap[b]?=some (.cells #[v0,v1,v2] C (0,0)):=
 heap_setCell_same _ b 2 _ C _ (heap_setCell_same _ b 1 _ C _ (heap_setCell_same w b 0 _ C _ h))
theorem three_below {w0 w:World} {k b:Nat} (v0 v1 v2:Value) (h:Below k w0 w) (hb:k≤b):Below k w0 (((w.setCell ⟨b,0,none⟩ v0).setCell ⟨b,1,none⟩ v1).setCell ⟨b,2,none⟩ v2):=
 ((h.setCell (p:=⟨b,0,none⟩) hb _).setCell (p:=⟨b,1,none⟩) hb _).setCell (p:=⟨b,2,none⟩) hb _
theorem parsed_any (s:ByteArray) (hs:s.size≤4000000000000) (w:World):Calls Tryz.prog 289 #[.string s] w (ParsedIs s w):=by
 go_enter Tryz.func289,Tryz.ntmps289
 go_upto_region 2 with fail
 go_cut [20] (λs20 wx=>s20 = .bool (sgnY s)∧wx=(w.alloc (.cells #[.bool false,.slice none 0 0,.int .i64 0] 277)).alloc (.cells #[.bool false,.slice none 0 0,.int .i64 0] 277))
 case first=>
  by_cases h0:0<s.size
  ·by_cases h1:s[0].toNat=45
   ·have hh:=hid (sgn_min h0 h1)
    have e1:((s[0].toNat:Int)==45)=true:=by simp;omega
    clear h1
    go_wp2_with fail
    go_meet
    exact⟨by rw[hh.out.2.1],rfl⟩
   ·have e1:((s[0].toNat:Int)==45)=false:=by simp;omega
    by_cases h2:s[0].toNat=43
    ·have hh:=hid (sgn_plus h0 h2)
     have e2:((s[0].toNat:Int)==43)=true:=by simp;omega
     clear h1 h2
     go_wp2_with fail
     go_meet
     exact⟨by rw[hh.out.2.1],rfl⟩
    ·have hh:=hid (sgn_none h0 h1 h2)
     have e2:((s[0].toNat:Int)==43)=false:=by simp;omega
     clear h1 h2
     go_wp2_with fail
     go_meet
     exact⟨by rw[hh.out.2.1],rfl⟩
  ·have hh:=hid (sgn_empty h0)
   go_wp2_with fail
   go_meet
   exact⟨by rw[hh.out.2.1],rfl⟩
 case rest=>
  obtain⟨h20,rfl⟩:=hcut
  have HT:=hid (show (sgnT s).size≤4000000000000 from Nat.le_trans (sgn_size s) hs)
  go_upto_if 20 with fail
  go_cut [0] (λs0 wx=>s0 = .string (sgnT s)∧wx=signW s w)
  case first=>
   by_cases hy:sgnY s=true
   ·have h0:0<s.size:=by
      refine Classical.byContradiction λh=>?_
      rw[(sgn_empty h).2.1]at hy;cases hy
    rw[hy]at h20
    subst h20
    have hm:=hid (show Value.bool ((s[0].toNat:Int)==45) = .bool (sgnB s) from by
     by_cases h1:s[0].toNat=45
     ·rw[(sgn_min h0 h1).1,h1];rfl
     ·by_cases h2:s[0].toNat=43
      ·rw[(sgn_plus h0 h2).1,h2];rfl
      ·rw[(sgn_none h0 h1 h2).2.1]at hy;cases hy)
    have ht:=hid (show sgnT s=s.extract 1 s.size from by unfold sgnT;rw[hy];rfl)
    clear hy
    go_wp2_with fail
    go_meet
    exact⟨by rw[ht.out],by unfold signW;rw[←hm.out]⟩
   ·have hy:sgnY s=false:=by simpa using hy
    have ht:=hid (show sgnT s=s from by unfold sgnT;rw[hy];rfl)
    have hb:=hid (show sgnB s=false from by
     unfold sgnY at hy
     unfold sgnB
     exact (Bool.or_eq_false_iff.1 hy).1)
    rw[hy]at h20
    subst h20
    clear hy
    go_wp2_with fail
    go_meet
    exact⟨by rw[ht.out],by unfold signW;rw[hb.out]⟩
  case rest=>
   obtain⟨h0,hw⟩:=hcut
   subst h0
   have HW:=hid hw
   clear hw h20
   have HS:=hid (show wc.heap.size=w.heap.size+2 by rw[HW.out];simp[signW])
   have HB:=hid (show Below w.heap.size w wc by
    rw[HW.out]
    exact ((Below.refl w.heap.size w).alloc (Nat.le_refl _) _).alloc (by simp) _)
   have HBa:=hid (show wc.heap[w.heap.size]?=some (.cells #[.bool false,.slice none 0 0,.int .i64 0] 277 (0,0)) by
    rw[HW.out]
    unfold signW
    rw[Below.heap_alloc _ _ _ (by simp)]
    exact heap_alloc_new w _)
   have HBb:=hid (show wc.heap[w.heap.size+1]?=some (.cells #[.bool (sgnB s),.slice none 0 0,.int .i64 0] 277 (0,0)) by
    rw[HW.out]
    unfold signW
    have:=heap_alloc_new (w.alloc (.cells #[.bool false,.slice none 0 0,.int .i64 0] 277)) (.cells #[.bool (sgnB s),.slice none 0 0,.int .i64 0] 277)
    rw[show (w.alloc (.cells #[.bool false,.slice none 0 0,.int .i64 0] 277)).heap.size=w.heap.size+1 by simp]at this
    exact this)
   have f2:wc.frozen? ⟨w.heap.size,0,none⟩=false:=Lib.frozen_of_heap HBa.out 0
   have f21:wc.frozen? ⟨w.heap.size,1,none⟩=false:=Lib.frozen_of_heap HBa.out 1
   have f22:wc.frozen? ⟨w.heap.size,2,none⟩=false:=Lib.frozen_of_heap HBa.out 2
   have c20:wc.cell? ⟨w.heap.size,0,none⟩=some (.bool false):=cell_of_heap HBa.out 0
   have c21:wc.cell? ⟨w.heap.size,1,none⟩=some (.slice none 0 0):=cell_of_heap HBa.out 1
   have c22:wc.cell? ⟨w.heap.size,2,none⟩=some (.int .i64 0):=cell_of_heap HBa.out 2
   obtain⟨b,HBn⟩:=name_itV w.heap.size
   obtain⟨t,HTn⟩:=name_itV (sgnT s)
   have hts:=HT.out
   rw[HTn.out]at hts
   rw[HTn.out]
   rw[HBn.out]at HS HBa HBb f2 f21 f22 c20 c21 c22
   rw[HBn.out]
   clear hs
   go_wp2_with fail
   go_loop [5,6] (λs5 s6=>∃(k:Nat) (p:Option Nat),k≤t.size∧s5 = .int .i64 (ptI p)∧s6 = .int .i64 (k:Nat)∧Hid (pointF t.data.toList 0 none=pointF (t.data.toList.drop k) k p∧∀i,p=some i→i<k)) (λ_ s6=>t.size-(intOf s6).toNat)
   case atStart=>exact⟨0,none,by omega,rfl,rfl,hid ⟨rfl,λi h=>by cases h⟩⟩
   case round=>
    obtain⟨k,p,hk,rfl,rfl,hall⟩:=hrel
    by_cases hlt:k<t.size
    ·have hc:=hid (data_at t k hlt)
     obtain⟨x,hx⟩:∃x:Nat,t[k].toNat=x:=⟨_,rfl⟩
     have HX:=hid hx
     have hxb:x<256:=by rw[←hx];exact t[k].toNat_lt
     by_cases hd:digN x=true
     ·have h48:48≤x∧x≤57:=by unfold digN at hd;exact of_decide_eq_true hd
      have e1:((x:Int)==46)=false:=by simp;omega
      have HD:=hid hd
      have hyes:=hid (show pointF t.data.toList 0 none=pointF (t.data.toList.drop (k+1)) (k+1) p from by rw[hall.out.1];exact pf_dig hc.out (by rw[HX.out];exact HD.out))
      have hlt2:=hid (show ∀i,p=some i→i<k+1 from λi h=>Nat.lt_succ_of_lt (hall.out.2 i h))
      clear hd
      go_wp2_with fail;refine (digit_any _ (by omega) _).mono ?_;rintro e w' ⟨rfl,rfl⟩
      rw[HD.out]
      go_wp2_with fail
      go_round
      case rel=>exact⟨k+1,p,by omega,rfl,by go_num,hid ⟨hyes.out,hlt2.out⟩⟩
      case measure=>simp[intOf];omega
     ·have hd:digN x=false:=by simpa using hd
      have HD:=hid hd
      clear hd
      obtain⟨q,HQ⟩:=name_itV (ptI p)
      rw[HQ.out]
      by_cases hp:x=46∧p=none
      ·obtain⟨rfl,rfl⟩:=hp
       have hq:q<0:=by rw[←HQ.out];decide
       have e2:decide (q<0)=true:=decide_eq_true hq
       have hc46:t[k]=46:=UInt8.toNat_inj.1 HX.out
       have hyes:=hid (show pointF t.data.toList 0 none=pointF (t.data.toList.drop (k+1)) (k+1) (some k) from by rw[hall.out.1];exact pf_pt (by rw[hc.out,hc46]))
       clear hq hc46
       go_wp2_with fail
       go_round
       case rel=>exact⟨k+1,some k,by omega,rfl,by go_num,hid ⟨hyes.out,λi h=>by injection h with h;omega⟩⟩
       case measure=>simp[intOf];omega
      ·have hno:=hid (show parseT s=none from parse_none (by
         rw[HTn.out,hall.out.1]
         refine pf_no hc.out (by rw[HX.out];exact HD.out) ?_
         cases p with
         | none=>exact .inl λe=>hp ⟨by rw[←HX.out,e];rfl,rfl⟩
         | some i=>exact .inr ⟨i,rfl⟩))
       have HP:=hid hp
       clear hp
       by_cases h46:x=46
       ·have hq:¬q<0:=by
          rw[←HQ.out]
          cases p with
          | none=>exact absurd ⟨h46,rfl⟩ HP.out
          | some i=>simp[ptI]
        have e2:decide (q<0)=false:=decide_eq_false hq
        subst h46
        clear hq
        go_wp2_with fail;refine (digit_any _ (by omega) _).mono ?_;rintro e w' ⟨rfl,rfl⟩
        rw[HD.out]
        go_wp2_with fail
        have h3:=three_set (.bool false) (.slice none 0 0) (.int .i64 0) HBa.out
        have h4:=hid (three_below (b:=b) (.bool false) (.slice none 0 0) (.int .i64 0) HB.out (by rw[HBn.out];exact Nat.le_refl b))
        obtain⟨W9,HW9⟩:=name_itV (((w'.setCell ⟨b,0,none⟩ (.bool false)).setCell ⟨b,1,none⟩ (.slice none 0 0)).setCell ⟨b,2,none⟩ (.int .i64 0))
        rw[HW9.out]at h3 h4 ⊢
        have r0:W9.cell? ⟨b,0,none⟩=some (.bool false):=cell_of_heap h3 0
        have r1:W9.cell? ⟨b,1,none⟩=some (.slice none 0 0):=cell_of_heap h3 1
        have r2:W9.cell? ⟨b,2,none⟩=some (.int .i64 0):=cell_of_heap h3 2
        exact bodyPost_ret (v:=.tuple #[.agg #[.bool false,.slice none 0 0,.int .i64 0],.bool false]) (by simp[results,Tryz.results289,go_sem,r0,r1,r2]) rfl ⟨h4.out,by rw[hno.out]⟩
       ·have e1:((x:Int)==46)=false:=by simp;omega
        clear h46
        go_wp2_with fail;refine (digit_any _ (by omega) _).mono ?_;rintro e w' ⟨rfl,rfl⟩
        rw[HD.out]
        go_wp2_with fail
        have h3:=three_set (.bool false) (.slice none 0 0) (.int .i64 0) HBa.out
        have h4:=hid (three_below (b:=b) (.bool false) (.slice none 0 0) (.int .i64 0) HB.out (by rw[HBn.out];exact Nat.le_refl b))
        obtain⟨W9,HW9⟩:=name_itV (((w'.setCell ⟨b,0,none⟩ (.bool false)).setCell ⟨b,1,none⟩ (.slice none 0 0)).setCell ⟨b,2,none⟩ (.int .i64 0))
        rw[HW9.out]at h3 h4 ⊢
        have r0:W9.cell? ⟨b,0,none⟩=some (.bool false):=cell_of_heap h3 0
        have r1:W9.cell? ⟨b,1,none⟩=some (.slice none 0 0):=cell_of_heap h3 1
        have r2:W9.cell? ⟨b,2,none⟩=some (.int .i64 0):=cell_of_heap h3 2
        exact bodyPost_ret (v:=.tuple #[.agg #[.bool false,.slice none 0 0,.int .i64 0],.bool false]) (by simp[results,Tryz.results289,go_sem,r0,r1,r2]) rfl ⟨h4.out,by rw[hno.out]⟩
    ·have hkn:k=t.size:=by omega
     have hp:=hid (show pointF (sgnT s).data.toList 0 none=some p from by rw[HTn.out,hall.out.1];exact pf_end (by rw[data_len];omega))
     have hpk:=hid (show ∀i,p=some i→i<t.size from by rw[←hkn];exact hall.out.2)
     subst hkn
     clear hall
     obtain⟨q,HQ⟩:=name_itV (ptI p)
     rw[HQ.out]
     obtain⟨cB,HC⟩:=name_itV (decide (t.size=0) || (p==some 0) || (p==some (t.size-1)))
     go_upto_region 13 with fail
     go_cut [61] (λs61 wx=>s61 = .bool cB∧wx=wc)
     case first=>
      by_cases a0:t.size=0
      ·have e1:((t.size:Int)==0)=true:=beq_iff_eq.2 (by omega)
       have hc:=hid (show cB=true from by rw[←HC.out,decide_eq_true a0];rfl)
       clear a0
       go_wp2_with fail
       go_meet
       exact⟨by rw[hc.out],rfl⟩
      ·have e1:((t.size:Int)==0)=false:=beq_eq_false_iff_ne.2 (by omega)
       by_cases a1:p=some 0
       ·have e2:(q==0)=true:=by rw[←HQ.out,a1];rfl
        have hc:=hid (show cB=true from by rw[←HC.out,a1];simp)
        clear a1
        go_wp2_with fail
        go_meet
        exact⟨by rw[hc.out],rfl⟩
       ·have e2:(q==0)=false:=by
          rw[←HQ.out]
          cases p with
          | none=>rfl
          | some i=>
           have:i≠0:=λh=>a1 (by rw[h])
           exact beq_eq_false_iff_ne.2 (by show (i:Int)≠0;omega)
        have w1:IntKind.i64.wrap ((t.size:Int)-1)=t.size-1:=IntWalk.i64_in _ (by omega)
        have hc:=hid (show (q==(t.size:Int)-1)=cB from by
         rw[←HC.out,←HQ.out,decide_eq_false a0]
         cases p with
         | none=>exact beq_eq_false_iff_ne.2 (by show (-1:Int)≠(t.size:Int)-1;omega)
         | some i=>
          have h1:(some i==some 0)=false:=by simpa using λh:i=0=>a1 (by rw[h])
          rw[h1]
          by_cases h2:i=t.size-1
          ·subst h2
           simp[ptI];omega
          ·have h3:(some i==some (t.size-1))=false:=by simpa using h2
           rw[h3]
           simp[ptI];omega)
        clear a1 a0
        go_wp2_with fail
        go_meet
        exact⟨by rw[hc.out],rfl⟩
     case rest=>
      obtain⟨h61,rfl⟩:=hcut
      cases cB with
      | true=>
       subst h61
       have hno:=hid (show parseT s=none from by unfold parseT;rw[hp.out,HTn.out];simp only;rw[HC.out];rfl)
       go_wp2_with fail
       have h3:=three_set (.bool false) (.slice none 0 0) (.int .i64 0) HBa.out
       have h4:=hid (three_below (b:=b) (.bool false) (.slice none 0 0) (.int .i64 0) HB.out (by rw[HBn.out];exact Nat.le_refl b))
       obtain⟨W9,HW9⟩:=name_itV (((wc.setCell ⟨b,0,none⟩ (.bool false)).setCell ⟨b,1,none⟩ (.slice none 0 0)).setCell ⟨b,2,none⟩ (.int .i64 0))
       rw[HW9.out]at h3 h4 ⊢
       have r0:W9.cell? ⟨b,0,none⟩=some (.bool false):=cell_of_heap h3 0
       have r1:W9.cell? ⟨b,1,none⟩=some (.slice none 0 0):=cell_of_heap h3 1
       have r2:W9.cell? ⟨b,2,none⟩=some (.int .i64 0):=cell_of_heap h3 2
       exact bodyPost_ret (v:=.tuple #[.agg #[.bool false,.slice none 0 0,.int .i64 0],.bool false]) (by simp[results,Tryz.results289,go_sem,r0,r1,r2]) rfl ⟨h4.out,by rw[hno.out]⟩
      | false=>
       subst h61
       have hyes:=hid (show parseT s=some (sgnB s,digsD t.data.toList,scaleP t.size p) from by
        unfold parseT;rw[hp.out,HTn.out];simp only;rw[HC.out];rfl)
       have hn0:0<t.size:=by
        rcases Nat.eq_zero_or_pos t.size with h | h
        ·have:=HC.out
         rw[decide_eq_true h]at this
         cases this
        ·exact h
       have hall:=hid (pf_all hp.out)
       rw[HTn.out]at hall
       have w1:IntKind.i64.wrap ((t.size:Int)-1)=t.size-1:=IntWalk.i64_in _ (by omega)
       go_wp2_with fail
       go_loopw [7] (λs7 wr=>∃(i:Nat) (v:Value),i≤t.size∧s7 = .int .i64 ((i:Int)-1)∧Hid (MidN w b (sgnB s) (digsD (t.data.toList.drop i)) v 0 wr)) (λs7 _=>(intOf s7+1).toNat)
       case atStart=>
        refine⟨t.size,.slice none 0 0,Nat.le_refl _,rfl,hid ⟨HB.out,HBa.out,HBb.out,?_,by rw[HS.out];exact Nat.le_refl _⟩⟩
        rw[List.drop_of_length_le (by rw[data_len];exact Nat.le_refl _)]
        exact World.ownsRow_nil wc (b+2) 3 1
       case round=>
        obtain⟨i,v,hi,rfl,hm⟩:=hrel
        have hwb:=hm.out.size
        by_cases hi0:i=0
        ·subst hi0
         have hd0:=hid (show digsD (t.data.toList.drop 0)=digsD t.data.toList from by rw[List.drop_zero])
         obtain⟨D,HDD⟩:=name_itV (digsD t.data.toList)
         obtain⟨S,HSS⟩:=name_itV (scaleP t.size p)
         rw[hd0.out,HDD.out]at hm
         rw[HDD.out,HSS.out]at hyes
         have hbw:=hid (show w.heap.size≤b by rw[HBn.out];exact Nat.le_refl b)
         clear f2 f21 f22 c20 c21 c22
         go_upto_if 85 with fail
         go_cut [7] (λ_ wx=>MidN w b (sgnB s) D v S wx)
         case first=>
          cases p with
          | none=>
           have hq:q = -1:=HQ.out.symm
           subst hq
           have hS:=hid (show S=0 from HSS.out.symm)
           go_wp2_with fail
           go_meet
           rw[hS.out]
           exact hm.out
          | some i=>
           have hq:q=(i:Int):=HQ.out.symm
           subst hq
           have hil:=hpk.out i rfl
           have e2:decide (0≤(i:Int))=true:=decide_eq_true (by omega)
           have hS:=hid (show t.size-1-i=S from HSS.out)
           have w5:IntKind.i64.wrap ((t.size:Int)-1-i)=(S:Int):=by rw[IntWalk.i64_in _ (by omega)];have:=hS.out;omega
           have d2:wr.cell? ⟨b+1,2,none⟩=some (.int .i64 0):=cell_of_heap hm.out.num 2
           have f9:wr.frozen? ⟨b+1,2,none⟩=false:=Lib.frozen_of_heap hm.out.num 2
           go_wp2_with fail
           go_meet
           exact⟨hm.out.below.setCell (p:=⟨b+1,2,none⟩) (by show w.heap.size≤b+1;have:=hbw.out;omega) _,by rw[heap_setCell_other _ _ _ _ (by show b≠b+1;omega)];exact hm.out.res,heap_setCell_same wr (b+1) 2 _ 277 _ hm.out.num,ownsRow_setCell_other hm.out.row (a:=⟨b+1,2,none⟩) (own_ne hm.out.row hm.out.num (by decide)) _,by have:=hm.out.size;simp;omega⟩
         case rest=>
          obtain⟨A,cp,rfl⟩:=slice_form hcut.row
          obtain⟨n,HN⟩:=name_itV D.length
          have HM:=hid hcut
          rw[HN.out]at HM
          have d0:wc.cell? ⟨b+1,0,none⟩=some (.bool (sgnB s)):=cell_of_heap HM.out.num 0
          have d1:wc.cell? ⟨b+1,1,none⟩=some (.slice A n cp):=cell_of_heap HM.out.num 1
          have d2:wc.cell? ⟨b+1,2,none⟩=some (.int .i64 (S:Int)):=cell_of_heap HM.out.num 2
          have f2:wc.frozen? ⟨b,0,none⟩=false:=Lib.frozen_of_heap HM.out.res 0
          have f21:wc.frozen? ⟨b,1,none⟩=false:=Lib.frozen_of_heap HM.out.res 1
          have f22:wc.frozen? ⟨b,2,none⟩=false:=Lib.frozen_of_heap HM.out.res 2
          have c20:wc.cell? ⟨b,0,none⟩=some (.bool false):=cell_of_heap HM.out.res 0
          have c21:wc.cell? ⟨b,1,none⟩=some (.slice none 0 0):=cell_of_heap HM.out.res 1
          have c22:wc.cell? ⟨b,2,none⟩=some (.int .i64 0):=cell_of_heap HM.out.res 2
          clear hcut
          go_wp2_with fail
          have h3:=three_set (.bool (sgnB s)) (.slice A n cp) (.int .i64 (S:Int)) HM.out.res
          have h4:=hid (three_below (b:=b) (.bool (sgnB s)) (.slice A n cp) (.int .i64 (S:Int)) HM.out.below hbw.out)
          have h5:=hid (show (((wc.setCell ⟨b,0,none⟩ (.bool (sgnB s))).setCell ⟨b,1,none⟩ (.slice A n cp)).setCell ⟨b,2,none⟩ (.int .i64 (S:Int))).ownsRow (b+2) 3 1 (.slice A n cp) D.length (D.map λ(x:Nat)=>Value.int .i64 (x:Int)) from by
           have hn:(Value.slice A n cp).ownBlock≠some b:=own_ne HM.out.row HM.out.res (by decide)
           exact ownsRow_setCell_other (ownsRow_setCell_other (ownsRow_setCell_other HM.out.row (a:=⟨b,0,none⟩) hn _) (a:=⟨b,1,none⟩) hn _) (a:=⟨b,2,none⟩) hn _)
          obtain⟨W9,HW9⟩:=name_itV (((wc.setCell ⟨b,0,none⟩ (.bool (sgnB s))).setCell ⟨b,1,none⟩ (.slice A n cp)).setCell ⟨b,2,none⟩ (.int .i64 (S:Int)))
          rw[HW9.out]at h3 h4 h5 ⊢
          have r0:W9.cell? ⟨b,0,none⟩=some (.bool (sgnB s)):=cell_of_heap h3 0
          have r1:W9.cell? ⟨b,1,none⟩=some (.slice A n cp):=cell_of_heap h3 1
          have r2:W9.cell? ⟨b,2,none⟩=some (.int .i64 (S:Int)):=cell_of_heap h3 2
          refine bodyPost_ret (v:=.tuple #[.agg #[.bool (sgnB s),.slice A n cp,.int .i64 (S:Int)],.bool true]) (by simp[results,Tryz.results289,go_sem,r0,r1,r2]) rfl ⟨h4.out,?_⟩
          rw[hyes.out]
          have h6:=h5.out
          rw[←HN.out]at h6 ⊢
          exact⟨A,cp,rfl,ints_own h6⟩
        ·obtain⟨k,rfl⟩:∃k,i=k+1:=⟨i-1,by omega⟩
         have hk1:((k+1:Nat):Int)-1=(k:Int):=by push_cast;omega
         rw[hk1]
         have hc:=hid (data_at t k (by omega))
         obtain⟨x,hx⟩:∃x:Nat,t[k].toNat=x:=⟨_,rfl⟩
         have HX:=hid hx
         have hxb:x<256:=by rw[←hx];exact t[k].toNat_lt
         have e1:(0:Int)≤k:=by omega
         have w2:IntKind.i64.wrap ((k:Int)-1)=k-1:=IntWalk.i64_in _ (by omega)
         by_cases h46:x=46
         ·subst h46
          have hd:=hid (show digsD (t.data.toList.drop k)=digsD (t.data.toList.drop (k+1)) from digs_pt (by rw[hc.out,UInt8.toNat_inj.1 (show t[k].toNat=(46:UInt8).toNat from HX.out)]))
          go_wp2_with fail
          go_roundw
          case rel=>exact⟨k,v,by omega,rfl,hid (by rw[hd.out];exact hm.out)⟩
          case measure=>simp[intOf]
         ·have hd:=hid (show digsD (t.data.toList.drop k)=digsD (t.data.toList.drop (k+1))++[x-48] from by rw[←HX.out];exact digs_dig hc.out (λe=>h46 (by rw[←HX.out,e];rfl)))
          have h48:48≤x:=by
           rcases hall.out _ (List.mem_of_getElem? hc.out) with e | e
           ·exact absurd (by rw[←HX.out,e];rfl) h46
           ·rw[HX.out]at e;unfold digN at e;have:=of_decide_eq_true e;omega
          have e2:((x:Int)==46)=false:=beq_eq_false_iff_ne.2 (by omega)
          obtain⟨y,HY⟩:=name_itV (x-48)
          have hy:x-48=y:=HY.out
          rw[HY.out]at hd
          have w3:IntKind.u8.wrap ((x:Int)-48)=(y:Int):=by rw[IntWalk.u8_in _ (by omega)];omega
          have w4:IntKind.i64.wrap (y:Int)=(y:Int):=IntWalk.i64_in _ (by omega)
          obtain⟨D,HDD⟩:=name_itV (digsD (t.data.toList.drop (k+1)))
          have hdl:=hid (digs_length (t.data.toList.drop (k+1)))
          rw[HDD.out]at hm hd hdl
          obtain⟨n,HN⟩:=name_itV D.length
          have hrow:=hid hm.out.row
          obtain⟨A,cp,hv⟩:=slice_form hm.out.row
          subst hv
          rw[HN.out]at hdl hrow
          have hnl:n≤4000000000000:=by have:=hdl.out;rw[List.length_drop,data_len]at this;omega
          have d1:wr.cell? ⟨b+1,1,none⟩=some (.slice A n cp):=by rw[←HN.out];exact cell_of_heap hm.out.num 1
          obtain⟨i0,hi9,hz0,hz1,hz2⟩:=info_parts infoInt
          have NB:=hid (heap_alloc_new wr (.cells #[.int .i64 (y:Int)] 3))
          have HS3:=hid (show (wr.alloc (.cells #[.int .i64 (y:Int)] 3)).heap.size=wr.heap.size+1 by simp)
          have hbl:=blk_lt hm.out.num
          have hkt:k<t.size:=by omega
          clear hy
          go_wp2_with fail
          go_region_law ((refine step_append_lies _ rfl _ _ 94 rfl (b+2) 3 i0 (.int .i64 0) 1 8 Tryz.underlying94 hi9 hz0 hz1 hz2 rfl (by decide) (.slice A n cp) n (D.map λ(x:Nat)=>Value.int .i64 (x:Int)) rfl (by first | exact own_drew (hrow.out.alloc _) | exact (own_drew hrow.out).alloc _) ⟨wr.heap.size,0,none⟩ 1 1 [.int .i64 (y:Int)] rfl rfl (World.news_of_block (cs:=#[.int .i64 (y:Int)]) (by exact NB.out)) (one_int _ _) (by omega) (by unfold maxLen;omega) (by omega) (by show b+2≤(wr.alloc (.cells #[.int .i64 (y:Int)] 3)).heap.size;rw[HS3.out];omega) (wr.heap.size+1) (by exact HS3.out) (λg4 cp4 w4 ho4 hg4 hl4 _=>?_);have HO4:=hid ho4;have HG4:=hid (show wr.grownBy w4 (Value.slice A n cp).ownBlock from grown_after (w:=wr) (o:=.cells #[.int .i64 (y:Int)] 3) ⟨hg4.os,hg4.tape,hg4.output,hg4.size,hg4.block⟩);have HL4:=hid (show (Value.slice A n cp).ownBlock=some g4∨g4=wr.heap.size+1 from hl4);have HC4:=hid ((HG4.out.block (b+1) hbl (λe=>own_ne hrow.out hm.out.num (by decide) e.symm)).trans hm.out.num);have f4:w4.frozen? ⟨b+1,1,none⟩=false:=Lib.frozen_of_heap HC4.out 1;have d4:w4.cell? ⟨b+1,1,none⟩=some (.slice A D.length cp):=cell_of_heap HC4.out 1;clear ho4 hg4 hl4))
          all_goals
           go_wp2_with fail
           go_roundw
           case rel=>
            have hgb:g4≠b+1:=by
             rcases HL4.out with h0 | h0
             ·exact λe=>own_ne hrow.out hm.out.num (by decide) (by rw[h0,e])
             ·omega
            have hbw:w.heap.size≤b:=by rw[HBn.out];exact Nat.le_refl b
            have hob:(Value.slice A n cp).ownBlock≠some b:=own_ne hrow.out hm.out.res (by decide)
            refine⟨k,.slice (some ⟨g4,0,none⟩) (n+1) cp4,by omega,rfl,hid ⟨?_,?_,heap_setCell_same w4 (b+1) 1 _ 277 _ HC4.out,?_,?_⟩⟩
            ·refine (hm.out.below.grown HG4.out (by omega) ?_).setCell (p:=⟨b+1,1,none⟩) (by show w.heap.size≤b+1;omega) _
             intro j hj
             rcases hrow.out.2 with⟨h0,_⟩ | ⟨g,cap,cur,h0,hg,_⟩
             ·rw[h0]at hj;cases hj
             ·rw[h0]at hj;injection hj with hj;have hj:g=j:=hj;omega
            ·rw[heap_setCell_other _ _ _ _ (by show b≠b+1;omega)]
             exact (HG4.out.block b (by omega) (λe=>hob e.symm)).trans hm.out.res
            ·rw[hd.out,List.length_append,List.map_append,HN.out]
             exact ownsRow_setCell_other HO4.out (a:=⟨b+1,1,none⟩) (λe=>hgb (by injection e)) _
            ·have:=HG4.out.size
             simp;omega
           case measure=>simp[intOf]
def lowF (D:List Nat) (S:Nat):Nat→Nat→Nat
 | 0,k=>k
 | f+1,k=>if k<S∧atD D k=0 then lowF D S f (k+1) else k
def highF (D:List Nat) (S:Nat):Nat→Nat
 | 0=>0
 | h+1=>if S+1<h+1∧atD D h=0 then highF D S h else h+1
def lowD (D:List Nat) (S:Nat):Nat:=lowF D S S 0
def highD (D:List Nat) (S:Nat):Nat:=max (highF D S D.length) (S+1)
theorem lowF_le (D:List Nat) (S:Nat):∀f k,k+f≤S→lowF D S f k≤S:=by
 intro f
 induction f with
 | zero=>intro k h;exact h
 | succ f ih=>intro k h;unfold lowF;split;exact ih _ (by omega);omega
theorem highF_le (D:List Nat) (S:Nat):∀h,highF D S h≤h:=by
 intro h
 induction h with
 | zero=>exact Nat.le_refl _
 | succ h ih=>unfold highF;split;omega;omega
structure FormM (w:World) (b:Nat) (neg:Bool) (A:Option Addr) (n cap S:Nat) (D:List Nat) (wr:World):Prop where
 below:Below w.heap.size w wr
 blk:wr.heap[b]?=some (.cells #[.bool neg,.slice A n cap,.int .i64 (S:Int)] 277 (0,0))
 ints:IntsAt wr A D
 size:b+1≤wr.heap.size
theorem FormM.drewN {w wr:World} {b n cap S:Nat} {neg:Bool} {A:Option Addr} {D:List Nat} (h:FormM w b neg A n cap S D wr) (m:Nat):FormM w b neg A n cap S D (wr.drewN m):=
 ⟨⟨h.below.os,h.below.tape,h.below.output,h.below.size,h.below.block⟩,h.blk,h.ints,h.size⟩
def bytesV (L:List UInt8):List Value:=L.map λc=>Value.int .u8 (c.toNat:Int)
structure BytesM (w:World) (b:Nat) (neg:Bool) (A:Option Addr) (n cap S:Nat) (D:List Nat) (L:List UInt8) (v:Value) (wr:World):Prop where
 form:FormM w b neg A n cap S D wr
 row:wr.ownsRow (b+1) 5 1 v L.length (bytesV L)
theorem BytesM.drewN {w wr:World} {b n cap S:Nat} {neg:Bool} {A:Option Addr} {D:List Nat} {L:List UInt8} {v:Value} (h:BytesM w b neg A n cap S D L v wr) (m:Nat):BytesM w b neg A n cap S D L v (wr.drewN m):=
 ⟨h.form.drewN m,h.row⟩
theorem BytesM.app {w wr w4:World} {b n cap S:Nat} {neg:Bool} {A:Option Addr} {D:List Nat} {L:List UInt8} {v v4:Value} (h:BytesM w b neg A n cap S D L v wr) (hI:IntsAt w A D) (hw:w.heap.size≤b) (hg:wr.grownBy w4 v.ownBlock) {c:UInt8} (ho:w4.ownsRow (b+1) 5 1 v4 (L.length+1) (bytesV L++[.int .u8 (c.toNat:Int)])) :
    BytesM w b neg A n cap S D (L++[c]) v4 w4:=by
 have hb:Below w.heap.size w w4:=h.form.below.grown hg (by have:=h.form.size;omega) (λk hk=>by have:=(h.row.lt k hk).1;omega)
 refine⟨⟨hb,?_,hI.under hb,Nat.le_trans h.form.size hg.size⟩,?_⟩
 ·exact (hg.block b (by have:=h.form.size;omega) (λe=>own_ne h.row h.form.blk (by decide) e.symm)).trans h.form.blk
 ·rw[List.length_append]
  unfold bytesV
  rw[List.map_append]
  exact ho
def formOut (D:List Nat) (S:Nat):Bool:=decide (40<highD D S-S) || decide (20<S-lowD D S)
def digU (y:Nat):UInt8:=UInt8.ofNat (48+y)
def downD (D:List Nat) (hi lo:Nat):List UInt8:=(List.range (hi-lo)).map λj=>digU (atD D (hi-1-j))
theorem downD_length (D:List Nat) (hi lo:Nat):(downD D hi lo).length=hi-lo:=by unfold downD;simp
theorem downD_nil (D:List Nat) (hi:Nat):downD D hi hi=[]:=by unfold downD;simp
theorem downD_more (D:List Nat) {hi j:Nat} (h:j<hi):downD D hi j=downD D hi (j+1)++[digU (atD D j)]:=by
 unfold downD
 rw[show hi-j=(hi-(j+1))+1 by omega,List.range_succ,List.map_append]
 simp only[List.map_cons,List.map_nil]
 rw[show hi-1-(hi-(j+1))=j by omega]
theorem digU_nat {y:Nat} (h:y≤9):(digU y).toNat=48+y:=by
 unfold digU
 rw[UInt8.toNat_ofNat']
 exact Nat.mod_eq_of_lt (by omega)
def formT (neg:Bool) (D:List Nat) (S:Nat):ByteArray:=
 ⟨(cond (neg && !zeroD D) [45] []++downD D (highD D S) S++[46]++downD D S (lowD D S)++cond (decide (lowD D S=S)) [48] []:List UInt8).toArray⟩
def FormIs (neg:Bool) (D:List Nat) (S:Nat) (w:World) (e:Ending) (w':World):Prop:=Below w.heap.size w w' ∧
 e = .returned (.tuple #[.string (cond (formOut D S) ⟨#[]⟩ (formT neg D S)),.int .i64 (cond (formOut D S) 2 0)])
theorem form_any (neg:Bool) (D:List Nat) (S:Nat) (hD:D.length≤4000000000000) (hS:S≤4000000000000) (h9:∀i,atD D i≤9) (A:Option Addr) (cap:Nat) (w:World) (h:IntsAt w A D) :
    Calls Tryz.prog 298 #[.agg #[.bool neg,.slice A D.length cap,.int .i64 (S:Int)]] w (FormIs neg D S w):=by
 have HI:=hid h
 have H9:=hid h9
 clear h h9
 obtain⟨n,HN⟩:=name_itV D.length
 rw[HN.out]at hD ⊢
 go_enter Tryz.func298,Tryz.ntmps298
 go_wp2_with fail
 have hm:=hid (show FormM w w.heap.size neg A n cap S D (w.alloc (.cells #[.bool neg,.slice A n cap,.int .i64 (S:Int)] 277)) from
  ⟨(Below.refl _ _).alloc (Nat.le_refl _) _,heap_alloc_new w _,HI.out.under ((Below.refl _ _).alloc (Nat.le_refl _) _),by simp⟩)
 obtain⟨b,HBn⟩:=name_itV w.heap.size
 obtain⟨w1,HW1⟩:=name_itV (w.alloc (.cells #[.bool neg,.slice A n cap,.int .i64 (S:Int)] 277))
 rw[HBn.out,HW1.out]at hm
 rw[HBn.out,HW1.out]
 go_loopw [4] (λs4 wr=>∃k:Nat,k≤S∧s4 = .int .i64 (k:Nat)∧Hid (lowD D S=lowF D S (S-k) k)∧Hid (FormM w b neg A n cap S D wr)) (λs4 _=>S-(intOf s4).toNat)
 case atStart=>exact⟨0,by omega,rfl,hid rfl,hm⟩
 case round=>
  obtain⟨k,hk,rfl,hlow,hr⟩:=hrel
  have c0:wr.cell? ⟨b,0,none⟩=some (.bool neg):=cell_of_heap hr.out.blk 0
  have c1:wr.cell? ⟨b,1,none⟩=some (.slice A n cap):=cell_of_heap hr.out.blk 1
  have c2:wr.cell? ⟨b,2,none⟩=some (.int .i64 (S:Int)):=cell_of_heap hr.out.blk 2
  have hat:=hid (at_any D A cap k (by omega) wr hr.out.ints)
  rw[HN.out]at hat
  obtain⟨y,HY⟩:=name_itV (atD D k)
  rw[HY.out]at hat
  go_upto_region 2 with fail
  go_cut [19] (λs19 wx=>s19 = .bool (decide (k<S∧y=0))∧FormM w b neg A n cap S D wx)
  case first=>
   by_cases hlt:k<S
   ·by_cases hy:y=0
    ·have hb:=hid (show Value.bool (decide (k<S∧y=0)) = .bool true by rw[decide_eq_true ⟨hlt,hy⟩])
     subst hy
     go_wp2_with fail;refine hat.out.mono ?_;rintro e w' ⟨rfl,m,rfl⟩
     go_wp2_with fail
     go_meet
     exact⟨hb.out.symm,hr.out.drewN m⟩
    ·have hb:=hid (show Value.bool (decide (k<S∧y=0)) = .bool false by rw[decide_eq_false (λh=>hy h.2)])
     have e1:((y:Int)==0)=false:=beq_eq_false_iff_ne.2 (by omega)
     clear hy
     go_wp2_with fail;refine hat.out.mono ?_;rintro e w' ⟨rfl,m,rfl⟩
     go_wp2_with fail
     go_meet
     exact⟨hb.out.symm,hr.out.drewN m⟩
   ·have hb:=hid (show Value.bool (decide (k<S∧y=0)) = .bool false by rw[decide_eq_false (λh=>hlt h.1)])
    go_wp2_with fail
    go_meet
    exact⟨hb.out.symm,hr.out⟩
  case rest=>
   rename World=>w2
   obtain⟨h19,hr2⟩:=hcut
   have HR:=hid hr2
   clear hr2 c0 c1 c2
   by_cases hl:k<S∧y=0
   ·rw[decide_eq_true hl]at h19
    subst h19
    have hyes:=hid (show lowD D S=lowF D S (S-(k+1)) (k+1) from by
     rw[hlow.out,show S-k=(S-(k+1))+1 by omega]
     exact if_pos ⟨hl.1,by rw[HY.out];exact hl.2⟩)
    go_wp2_with fail
    go_roundw
    case rel=>exact⟨k+1,by omega,by go_num,hyes,hid HR.out⟩
    case measure=>simp[intOf];omega
   ·rw[decide_eq_false hl]at h19
    subst h19
    have hlo:=hid (show lowD D S=k from by
     rw[hlow.out]
     cases hf:S-k with
     | zero=>rfl
     | succ f=>exact if_neg (by rw[HY.out];exact hl))
    clear hl hlow hat
    have c1:w2.cell? ⟨b,1,none⟩=some (.slice A n cap):=cell_of_heap HR.out.blk 1
    go_wp2_with fail
    go_loopw [5] (λs5 wr=>∃h:Nat,h≤n∧s5 = .int .i64 (h:Nat)∧Hid (highF D S n=highF D S h)∧Hid (FormM w b neg A n cap S D wr)) (λs5 _=>(intOf s5).toNat)
    case atStart=>exact⟨n,by omega,rfl,hid rfl,HR⟩
    case round=>
     obtain⟨h,hh,rfl,hhi,hr3⟩:=hrel
     have c1:wr.cell? ⟨b,1,none⟩=some (.slice A n cap):=cell_of_heap hr3.out.blk 1
     have c2:wr.cell? ⟨b,2,none⟩=some (.int .i64 (S:Int)):=cell_of_heap hr3.out.blk 2
     have w1:IntKind.i64.wrap ((S:Int)+1)=S+1:=IntWalk.i64_in _ (by omega)
     go_upto_region 5 with fail
     go_cut [38] (λs38 wx=>s38 = .bool (decide (S+1<h∧atD D (h-1)=0))∧wx=wr)
     case first=>
      by_cases hgt:S+1<h
      ·obtain⟨j,hj⟩:∃j,h=j+1:=⟨h-1,by omega⟩
       have w3:IntKind.i64.wrap ((h:Int)-1)=j:=by rw[IntWalk.i64_in _ (by omega)];omega
       have hil:j<D.length:=by rw[HN.out];omega
       obtain⟨ad,rfl,_,hc⟩:=hr3.out.ints j _ (List.getElem?_eq_getElem hil)
       have ha:atD D (h-1)=D[j]:=by rw[hj];unfold atD;rw[show j+1-1=j by omega,List.getElem?_eq_getElem hil];rfl
       obtain⟨y,HY⟩:=name_itV D[j]
       rw[HY.out]at hc ha
       have HA:=hid ha
       have e1:(0:Int)≤j:=by omega
       have e2:(j:Int)<n:=by omega
       have HJ:=hid hj
       clear ha hj
       by_cases hy:y=0
       ·have hb:=hid (show Value.bool true=Value.bool (decide (S+1<h∧atD D (h-1)=0)) by rw[decide_eq_true ⟨hgt,HA.out.trans hy⟩])
        subst hy
        go_wp2_with fail
        go_meet
        exact⟨hb.out,rfl⟩
       ·have hb:=hid (show Value.bool (decide (S+1<h∧y=0)) = .bool false by rw[decide_eq_false (λx=>hy x.2)])
        have e3:((y:Int)==0)=false:=beq_eq_false_iff_ne.2 (by omega)
        clear hy
        go_wp2_with fail
        go_meet
        exact⟨by rw[HA.out];exact hb.out.symm,rfl⟩
      ·have hb:=hid (show Value.bool (decide (S+1<h∧atD D (h-1)=0)) = .bool false by rw[decide_eq_false (λx=>hgt x.1)])
       go_wp2_with fail
       go_meet
       exact⟨hb.out.symm,rfl⟩
     case rest=>
      obtain⟨h38,rfl⟩:=hcut
      by_cases hl:S+1<h∧atD D (h-1)=0
      ·rw[decide_eq_true hl]at h38
       subst h38
       have hh0:1≤h:=by omega
       have hyes:=hid (show highF D S n=highF D S (h-1) from by
        rw[hhi.out]
        obtain⟨j,rfl⟩:∃j,h=j+1:=⟨h-1,by omega⟩
        exact if_pos hl)
       have w3:IntKind.i64.wrap ((h:Int)-1)=((h-1:Nat):Int):=by rw[IntWalk.i64_in _ (by omega)];omega
       clear hl
       go_wp2_with fail
       go_roundw
       case rel=>exact⟨h-1,by omega,rfl,hyes,hid hr3.out⟩
       case measure=>simp[intOf];omega
      ·rw[decide_eq_false hl]at h38
       subst h38
       have hhe:=hid (show highF D S n=h from by
        rw[hhi.out]
        cases h with
        | zero=>rfl
        | succ j=>exact if_neg hl)
       have hhD:=hid (show highD D S=max h (S+1) from by unfold highD;rw[HN.out,hhe.out])
       clear hl hhi c1
       go_upto_if 44 with fail
       go_cut [5] (λs5 wx=>s5 = .int .i64 ((highD D S:Nat):Int)∧wx=wc)
       case first=>
        by_cases hle:h≤S
        ·have hm:=hid (show Value.int .i64 ((S:Int)+1) = .int .i64 ((highD D S:Nat):Int) from by rw[hhD.out,show max h (S+1)=S+1 by omega];push_cast;rfl)
         go_wp2_with fail
         go_meet
         exact⟨hm.out,rfl⟩
        ·have hm:=hid (show Value.int .i64 (h:Int) = .int .i64 ((highD D S:Nat):Int) from by rw[hhD.out,show max h (S+1)=h by omega])
         go_wp2_with fail
         go_meet
         exact⟨hm.out,rfl⟩
       case rest=>
        rename World=>w5
        obtain⟨h5,rfl⟩:=hcut
        obtain⟨hi,HH⟩:=name_itV (highD D S)
        rw[HH.out]at h5
        subst h5
        have hhl:=hid (show S+1≤hi∧hi≤max n (S+1) from by
         rw[←HH.out,hhD.out]
         exact⟨by omega,by omega⟩)
        have h1:S+1≤hi:=hhl.out.1
        have h2:hi≤4000000000001:=by have:=hhl.out.2;omega
        have w6:IntKind.i64.wrap ((hi:Int)-S)=((hi-S:Nat):Int):=by rw[IntWalk.i64_in _ (by omega)];omega
        have w7:IntKind.i64.wrap ((S:Int)-k)=((S-k:Nat):Int):=by rw[IntWalk.i64_in _ (by omega)];omega
        have ho:=hid (show formOut D S=(decide (40<hi-S) || decide (20<S-k)) from by unfold formOut;rw[HH.out,hlo.out])
        obtain⟨fo,HFO⟩:=name_itV (formOut D S)
        rw[HFO.out]at ho
        have c0:w5.cell? ⟨b,0,none⟩=some (.bool neg):=cell_of_heap hr3.out.blk 0
        have c1:w5.cell? ⟨b,1,none⟩=some (.slice A n cap):=cell_of_heap hr3.out.blk 1
        go_upto_region 9 with fail
        go_cut [59] (λs59 wx=>s59 = .bool fo∧wx=w5)
        case first=>
         by_cases a1:40<hi-S
         ·have e1:decide ((40:Int)<((hi-S:Nat):Int))=true:=decide_eq_true (by omega)
          have hf:=hid (show fo=true from by rw[ho.out,decide_eq_true a1];rfl)
          go_wp2_with fail
          go_meet
          exact⟨by rw[hf.out],rfl⟩
         ·have hf:=hid (show (decide ((40:Int)<((hi-S:Nat):Int)) || decide ((20:Int)<((S-k:Nat):Int)))=fo from by
            rw[ho.out,decide_eq_decide.2 (show (40:Int)<((hi-S:Nat):Int)↔40<hi-S by omega),decide_eq_decide.2 (show (20:Int)<((S-k:Nat):Int)↔20<S-k by omega)])
          go_wp2_with fail
          go_meet
          exact⟨by rw[hf.out],rfl⟩
        case rest=>
         obtain⟨h59,rfl⟩:=hcut
         cases fo with
         | true=>
          subst h59
          go_wp2_with fail
          exact bodyPost_ret (v:=.tuple #[.string ⟨#[]⟩,.int .i64 2]) (by simp[results,Tryz.results298,go_sem]) rfl ⟨hr3.out.below,by rw[HFO.out];rfl⟩
         | false=>
          subst h59
          have hs40:hi-S≤40∧S-k≤20:=by
           have:=ho.out.symm
           rw[Bool.or_eq_false_iff,decide_eq_false_iff_not,decide_eq_false_iff_not]at this
           omega
          have c0:wc.cell? ⟨b,0,none⟩=some (.bool neg):=cell_of_heap hr3.out.blk 0
          have c1:wc.cell? ⟨b,1,none⟩=some (.slice A n cap):=cell_of_heap hr3.out.blk 1
          have hz:=hid (zero_any D (by rw[HN.out];exact hD) A cap wc hr3.out.ints)
          rw[HN.out]at hz
          obtain⟨zb,HZ⟩:=name_itV (zeroD D)
          rw[HZ.out]at hz
          clear ho w6 w7 hhD hhe c2
          go_upto_region 12 with fail
          go_cut [67] (λs67 wx=>s67 = .bool (neg && !zb)∧FormM w b neg A n cap S D wx)
          case first=>
           cases neg with
           | false=>
            go_wp2_with fail
            go_meet
            exact⟨rfl,hr3.out⟩
           | true=>
            go_wp2_with fail;refine hz.out.mono ?_;rintro e w' ⟨rfl,m,rfl⟩
            go_wp2_with fail
            go_meet
            exact⟨rfl,hr3.out.drewN m⟩
          case rest=>
           rename World=>w6
           obtain⟨h67,hr6⟩:=hcut
           have HR6:=hid hr6
           clear hr6 hz c0 c1
           have hb1:=HR6.out.size
           go_upto_if 67 with fail
           go_cut [6] (λs6 wx=>BytesM w b neg A n cap S D (cond (neg && !zb) [45] []) s6 wx)
           case first=>
            cases hcase:neg && !zb with
            | true=>
             rw[hcase]at h67
             subst h67
             have H0:=hid (World.ownsRow_nil w6 (b+1) 5 1)
             go_wp2_with (at_builtin;refine app_new rfl _ _ 197 rfl (b+1) 5 (.int .u8 0) 1 1 Tryz.underlying197 infoByte rfl (by decide) _ _ _ rfl H0.out (by omega) #[.int .u8 45] 1 1 rfl rfl (one_u8 _) (by omega) (by omega) (by decide) ?_;intro g4 cp4 w4 ho4 hg4 hl4;have HO4:=hid ho4;have HG4:=hid hg4;clear ho4 hg4 hl4)
             go_meet
             rw[hcase]
             exact BytesM.app (L:=[]) ⟨HR6.out,H0.out⟩ HI.out (by rw[HBn.out];exact Nat.le_refl b) HG4.out (c:=45) HO4.out
            | false=>
             rw[hcase]at h67
             subst h67
             go_wp2_with fail
             go_meet
             rw[hcase]
             exact⟨HR6.out,World.ownsRow_nil w6 (b+1) 5 1⟩
           case rest=>
            have HB6:=hid hcut
            clear hcut h67
            obtain⟨L0,HL0⟩:=name_itV (cond (neg && !zb) [(45:UInt8)] [])
            have hl0:L0.length≤1:=by rw[←HL0.out];cases (neg && !zb)<;>simp
            rw[HL0.out]at HB6
            have w8:IntKind.i64.wrap ((hi:Int)-1)=(hi:Int)-1:=IntWalk.i64_in _ (by omega)
            go_wp2_with fail
            go_loopw [6,7] (λs6 s7 wr=>∃i:Nat,S≤i∧i≤hi∧s7 = .int .i64 ((i:Int)-1)∧Hid (BytesM w b neg A n cap S D (L0++downD D hi i) s6 wr)) (λ_ s7 _=>(intOf s7+1).toNat)
            case atStart=>exact⟨hi,by omega,Nat.le_refl _,rfl,hid (by rw[downD_nil,List.append_nil];exact HB6.out)⟩
            case round=>
             obtain⟨i,hi1,hi2,rfl,hb3⟩:=hrel
             have c1:wr.cell? ⟨b,1,none⟩=some (.slice A n cap):=cell_of_heap hb3.out.form.blk 1
             have c2:wr.cell? ⟨b,2,none⟩=some (.int .i64 (S:Int)):=cell_of_heap hb3.out.form.blk 2
             by_cases hlt:S<i
             ·obtain⟨j,rfl⟩:∃j,i=j+1:=⟨i-1,by omega⟩
              have hj1:((j+1:Nat):Int)-1=(j:Int):=by push_cast;omega
              rw[hj1]
              have hjS:S≤j:=by omega
              have w9:IntKind.i64.wrap ((j:Int)-1)=(j:Int)-1:=IntWalk.i64_in _ (by omega)
              have hat:=hid (at_any D A cap j (by omega) wr hb3.out.form.ints)
              rw[HN.out]at hat
              have hdn:=hid (downD_more D (show j<hi by omega))
              obtain⟨y,HY⟩:=name_itV (atD D j)
              have hy9:y≤9:=by rw[←HY.out];exact H9.out j
              rw[HY.out]at hat hdn
              obtain⟨c,HC⟩:=name_itV (digU y)
              have hcy:c.toNat=48+y:=by rw[←HC.out];exact digU_nat hy9
              rw[HC.out]at hdn
              obtain⟨L,HL⟩:=name_itV (L0++downD D hi (j+1))
              have hLl:L.length≤50:=by rw[←HL.out,List.length_append,downD_length];omega
              rw[HL.out]at hb3
              obtain⟨e,He⟩:=name_itV c.toNat
              have v1:IntKind.i64.wrap (48+(y:Int))=(e:Int):=by rw[IntWalk.i64_in _ (by omega),←He.out,hcy];push_cast;rfl
              have v2:IntKind.u8.wrap (e:Int)=(e:Int):=IntWalk.u8_in _ (by rw[←He.out,hcy];omega)
              clear hcy
              go_wp2_with fail;refine hat.out.mono ?_;rintro e' w' ⟨rfl,m,rfl⟩
              have hb4:=hid (hb3.out.drewN m)
              have hrow:=hid hb4.out.row
              have hsz:=hb4.out.form.size
              obtain⟨W,HW⟩:=name_itV (wr.drewN m)
              rw[HW.out]at hb4 hrow hsz ⊢
              go_wp2_with (at_builtin;refine app_new rfl _ _ 197 rfl (b+1) 5 (.int .u8 0) 1 1 Tryz.underlying197 infoByte rfl (by decide) _ _ _ rfl hrow.out (by omega) #[.int .u8 (e:Int)] 1 1 rfl rfl (one_u8 _) (by omega) (by omega) (by decide) ?_;intro g4 cp4 w4 ho4 hg4 hl4;have HO4:=hid ho4;have HG4:=hid hg4;clear ho4 hg4 hl4)
              go_roundw
              case rel=>
               refine⟨j,hjS,by omega,rfl,hid ?_⟩
               rw[hdn.out,←List.append_assoc,HL.out]
               exact BytesM.app hb4.out HI.out (by rw[HBn.out];exact Nat.le_refl b) HG4.out (by rw[He.out];exact HO4.out)
              case measure=>simp[intOf]
             ·have hie:i=S:=by omega
              rw[hie]at hb3 ⊢
              obtain⟨L,HL⟩:=name_itV (L0++downD D hi S)
              have hLl:L.length≤50:=by rw[←HL.out,List.length_append,downD_length];omega
              rw[HL.out]at hb3
              have hrow:=hid hb3.out.row
              have hsz:=hb3.out.form.size
              have w10:IntKind.i64.wrap ((S:Int)-1)=(S:Int)-1:=IntWalk.i64_in _ (by omega)
              clear hlt hie
              go_wp2_with (at_builtin;refine app_new rfl _ _ 197 rfl (b+1) 5 (.int .u8 0) 1 1 Tryz.underlying197 infoByte rfl (by decide) _ _ _ rfl hrow.out (by omega) #[.int .u8 46] 1 1 rfl rfl (one_u8 _) (by omega) (by omega) (by decide) ?_;intro g4 cp4 w4 ho4 hg4 hl4;have HB7:=hid (BytesM.app hb3.out HI.out (by rw[HBn.out];exact Nat.le_refl b) hg4 (c:=46) ho4);have d2:w4.cell? ⟨b,2,none⟩=some (.int .i64 (S:Int)):=cell_of_heap HB7.out.form.blk 2;clear ho4 hg4 hl4)
              obtain⟨L1,HL1⟩:=name_itV (L++[(46:UInt8)])
              have hl1:L1.length≤51:=by rw[←HL1.out,List.length_append];simp;omega
              rw[HL1.out]at HB7
              go_loopw [6,8] (λs6 s8 wr=>∃i:Nat,k≤i∧i≤S∧s8 = .int .i64 ((i:Int)-1)∧Hid (BytesM w b neg A n cap S D (L1++downD D S i) s6 wr)) (λ_ s8 _=>(intOf s8+1).toNat)
              case atStart=>exact⟨S,hk,Nat.le_refl _,rfl,hid (by rw[downD_nil,List.append_nil];exact HB7.out)⟩
              case round=>
               obtain⟨i,hi1,hi2,rfl,hb3⟩:=hrel
               have c1:wr.cell? ⟨b,1,none⟩=some (.slice A n cap):=cell_of_heap hb3.out.form.blk 1
               have c2:wr.cell? ⟨b,2,none⟩=some (.int .i64 (S:Int)):=cell_of_heap hb3.out.form.blk 2
               by_cases hlt:k<i
               ·obtain⟨j,rfl⟩:∃j,i=j+1:=⟨i-1,by omega⟩
                have hj1:((j+1:Nat):Int)-1=(j:Int):=by push_cast;omega
                rw[hj1]
                have hjS:k≤j:=by omega
                have w9:IntKind.i64.wrap ((j:Int)-1)=(j:Int)-1:=IntWalk.i64_in _ (by omega)
                have hat:=hid (at_any D A cap j (by omega) wr hb3.out.form.ints)
                rw[HN.out]at hat
                have hdn:=hid (downD_more D (show j<S by omega))
                obtain⟨y,HY⟩:=name_itV (atD D j)
                have hy9:y≤9:=by rw[←HY.out];exact H9.out j
                rw[HY.out]at hat hdn
                obtain⟨c,HC⟩:=name_itV (digU y)
                have hcy:c.toNat=48+y:=by rw[←HC.out];exact digU_nat hy9
                rw[HC.out]at hdn
                obtain⟨L2,HL2⟩:=name_itV (L1++downD D S (j+1))
                have hLl2:L2.length≤100:=by rw[←HL2.out,List.length_append,downD_length];omega
                rw[HL2.out]at hb3
                obtain⟨e,He⟩:=name_itV c.toNat
                have v1:IntKind.i64.wrap (48+(y:Int))=(e:Int):=by rw[IntWalk.i64_in _ (by omega),←He.out,hcy];push_cast;rfl
                have v2:IntKind.u8.wrap (e:Int)=(e:Int):=IntWalk.u8_in _ (by rw[←He.out,hcy];omega)
                clear hcy
                go_wp2_with fail;refine hat.out.mono ?_;rintro e' w' ⟨rfl,m,rfl⟩
                have hb4:=hid (hb3.out.drewN m)
                have hrow:=hid hb4.out.row
                have hsz:=hb4.out.form.size
                obtain⟨W,HW⟩:=name_itV (wr.drewN m)
                rw[HW.out]at hb4 hrow hsz ⊢
                go_wp2_with (at_builtin;refine app_new rfl _ _ 197 rfl (b+1) 5 (.int .u8 0) 1 1 Tryz.underlying197 infoByte rfl (by decide) _ _ _ rfl hrow.out (by omega) #[.int .u8 (e:Int)] 1 1 rfl rfl (one_u8 _) (by omega) (by omega) (by decide) ?_;intro g4 cp4 w4 ho4 hg4 hl4;have HO4:=hid ho4;have HG4:=hid hg4;clear ho4 hg4 hl4)
                go_roundw
                case rel=>
                 refine⟨j,hjS,by omega,rfl,hid ?_⟩
                 rw[hdn.out,←List.append_assoc,HL2.out]
                 exact BytesM.app hb4.out HI.out (by rw[HBn.out];exact Nat.le_refl b) HG4.out (by rw[He.out];exact HO4.out)
                case measure=>simp[intOf]
               ·have hie:i=k:=by omega
                rw[hie]at hb3 ⊢
                clear hlt hie
                obtain⟨L2,HL2⟩:=name_itV (L1++downD D S k)
                have hLl2:L2.length≤100:=by rw[←HL2.out,List.length_append,downD_length];omega
                rw[HL2.out]at hb3
                have hrow:=hid hb3.out.row
                have hsz:=hb3.out.form.size
                clear c1
                go_upto_if 111 with fail
                go_cut [6] (λs6 wx=>BytesM w b neg A n cap S D (L2++cond (decide (k=S)) [48] []) s6 wx)
                case first=>
                 by_cases hkS:k=S
                 ·have e1:((k:Int)==(S:Int))=true:=beq_iff_eq.2 (by omega)
                  have hc:=hid (show L2++cond (decide (k=S)) [(48:UInt8)] []=L2++[48] by rw[decide_eq_true hkS];rfl)
                  clear hkS
                  go_wp2_with (at_builtin;refine app_new rfl _ _ 197 rfl (b+1) 5 (.int .u8 0) 1 1 Tryz.underlying197 infoByte rfl (by decide) _ _ _ rfl hrow.out (by omega) #[.int .u8 48] 1 1 rfl rfl (one_u8 _) (by omega) (by omega) (by decide) ?_;intro g4 cp4 w4 ho4 hg4 hl4;have HB8:=hid (BytesM.app hb3.out HI.out (by rw[HBn.out];exact Nat.le_refl b) hg4 (c:=48) ho4);clear ho4 hg4 hl4)
                  go_meet
                  rw[hc.out]
                  exact HB8.out
                 ·have e1:((k:Int)==(S:Int))=false:=beq_eq_false_iff_ne.2 (by omega)
                  have hc:=hid (show L2++cond (decide (k=S)) [(48:UInt8)] []=L2 by rw[decide_eq_false hkS];exact List.append_nil _)
                  go_wp2_with fail
                  go_meet
                  rw[hc.out]
                  exact hb3.out
                case rest=>
                 have HB9:=hid hcut
                 clear hcut hrow
                 have hcv:=conv_row (l:=L2++cond (decide (k=S)) [48] []) HB9.out.row
                 have hout:=hid (show strK (L2++cond (decide (k=S)) [48] [])=cond (formOut D S) ⟨#[]⟩ (formT neg D S) from by
                  rw[HFO.out,←HL2.out,←HL1.out,←HL.out,←HL0.out]
                  unfold formT strK
                  rw[HZ.out,HH.out,hlo.out]
                  simp)
                 obtain⟨T,HTT⟩:=name_itV (strK (L2++cond (decide (k=S)) [48] []))
                 rw[HTT.out]at hcv hout
                 go_wp2_with fail
                 exact bodyPost_ret (v:=.tuple #[.string T,.int .i64 0]) (by simp[results,Tryz.results298,go_sem]) rfl ⟨HB9.out.form.below,by rw[hout.out,HFO.out];rfl⟩
theorem digs_nine {l:List UInt8} (h:∀c∈l,c=46∨digN c.toNat=true):∀x∈digsD l,x≤9:=by
 induction l with
 | nil=>intro x hx;cases hx
 | cons c l ih=>
  intro x hx
  unfold digsD at hx
  rcases List.mem_append.1 hx with hx | hx
  ·exact ih (λd hd=>h d (List.mem_cons_of_mem _ hd)) x hx
  ·cases hc:c==46 with
   | true=>rw[hc]at hx;cases hx
   | false=>
    rw[hc]at hx
    have hx:x∈[c.toNat-48]:=hx
    rw[List.mem_singleton]at hx
    rcases h c List.mem_cons_self with e | e
    ·rw[e]at hc;cases hc
    ·unfold digN at e;have:=of_decide_eq_true e;omega
theorem parse_some {s:ByteArray} {neg:Bool} {D:List Nat} {S:Nat} (h:parseT s=some (neg,D,S)):(∀i,atD D i≤9)∧D.length≤s.size∧S≤s.size:=by
 unfold parseT at h
 cases hp:pointF (sgnT s).data.toList 0 none with
 | none=>rw[hp]at h;cases h
 | some p=>
  rw[hp]at h
  simp only at h
  cases hc:(decide ((sgnT s).size=0) || p==some 0 || p==some ((sgnT s).size-1)) with
  | true=>rw[hc]at h;cases h
  | false=>
   rw[hc]at h
   have h:some (sgnB s,digsD (sgnT s).data.toList,scaleP (sgnT s).size p)=some (neg,D,S):=h
   injection h with h
   injection h with _ h
   injection h with hD hS
   have hl:=sgn_size s
   refine⟨λi=>?_,?_,?_⟩
   ·unfold atD
    cases hi:D[i]? with
    | none=>simp
    | some x=>exact digs_nine (pf_all hp) x (by rw[hD];exact List.mem_of_getElem? hi)
   ·have:=digs_length (sgnT s).data.toList
    rw[hD,data_len]at this
    omega
   ·rw[←hS]
    cases p with
    | none=>exact Nat.zero_le _
    | some i=>show (sgnT s).size-1-i≤s.size;omega
def readT (s:ByteArray):ByteArray×Int:=
 match parseT s with
 | none=>(⟨#[]⟩,6)
 | some (neg,D,S)=>(cond (formOut D S) ⟨#[]⟩ (formT neg D S),cond (formOut D S) 2 0)
def decB (s:ByteArray):Bool:=decide ((readT s).2=0)&&decide ((readT s).1=s)
def ReadIs (s:ByteArray) (w:World) (e:Ending) (w':World):Prop:=Below w.heap.size w w'∧e = .returned (.tuple #[.string (readT s).1,.int .i64 (readT s).2])
theorem refRead_any (s:ByteArray) (hs:s.size≤4000000000000) (w:World):Calls Tryz.prog 257 #[.string s] w (ReadIs s w):=by
 go_enter Tryz.func257,Tryz.ntmps257
 go_wp2_with fail
 refine (parsed_any s hs _).mono ?_
 rintro e w1 ⟨hb,he⟩
 cases hp:parseT s with
 | none=>
  rw[hp]at he
  have he:e = .returned (.tuple #[.agg #[.bool false,.slice none 0 0,.int .i64 0],.bool false]):=he
  subst he
  have hr:=hid (show readT s=(⟨#[]⟩,6) from by unfold readT;rw[hp])
  have hba:=hid (hb.alloc hb.size (.cells #[.bool false,.slice none 0 0,.int .i64 0] 277))
  clear hp hb
  go_wp2_with fail
  exact bodyPost_ret (v:=.tuple #[.string ⟨#[]⟩,.int .i64 6]) (by simp[results,Tryz.results257,go_sem]) rfl ⟨hba.out,by rw[hr.out]⟩
 | some r=>
  obtain⟨neg,D,S⟩:=r
  rw[hp]at he
  obtain⟨A,cap,he,hi⟩:=he
  subst he
  obtain⟨h9,hl,hS⟩:=parse_some hp
  have hr:=hid (show readT s=(cond (formOut D S) ⟨#[]⟩ (formT neg D S),cond (formOut D S) 2 0) from by unfold readT;rw[hp])
  have hba:=hid (hb.alloc hb.size (.cells #[.bool neg,.slice A D.length cap,.int .i64 (S:Int)] 277))
  have hf:=hid (form_any neg D S (by omega) (by omega) h9 A cap (w1.alloc (.cells #[.bool neg,.slice A D.length cap,.int .i64 (S:Int)] 277)) (hi.under ((Below.refl w1.heap.size w1).alloc (Nat.le_refl _) _)))
  have hsz:=hid hb.size
  clear hp hb h9 hi
  go_wp2_with fail
  refine hf.out.mono ?_
  rintro e w2 ⟨hb2,rfl⟩
  have hb2:=hid hb2
  go_wp2_with fail
  exact bodyPost_ret (v:=.tuple #[.string (readT s).1,.int .i64 (readT s).2]) (by rw[hr.out];simp[results,Tryz.results257,go_sem]) rfl ⟨hba.out.trans (hb2.out.mono (by have:=hsz.out;simp;omega)),rfl⟩
theorem refDec_any (s:ByteArray) (hs:s.size≤4000000000000) (w:World):Calls Tryz.prog 190 #[.string s] w (ToldB (decB s) w):=by
 go_enter Tryz.func190,Tryz.ntmps190
 go_wp2_with fail
 refine (refRead_any s hs _).mono ?_
 rintro e w1 ⟨hb,rfl⟩
 have HB:=hid hb
 obtain⟨r1,H1⟩:=name_itV (readT s).1
 obtain⟨r2,H2⟩:=name_itV (readT s).2
 rw[H1.out,H2.out]
 have hd:=hid (show decB s=(decide (r2=0)&&decide (r1=s)) from by unfold decB;rw[H1.out,H2.out])
 clear hb
 by_cases h2:r2=0
 ·have hf:=hid (show (r1.toList==s.toList)=decB s from by
    rw[hd.out,decide_eq_true h2]
    by_cases h1:r1=s
    ·rw[decide_eq_true h1,h1];simp
    ·rw[decide_eq_false h1,strV_ne h1];rfl)
  clear H2
  subst h2
  go_wp2_with fail
  go_ret
  exact⟨ret_b hf.out,HB.out⟩
 ·have hf:=hid (show false=decB s from by rw[hd.out,decide_eq_false h2];rfl)
  go_wp2_with fail
  go_ret
  exact⟨ret_b hf.out,HB.out⟩
end Go.Proofs.YtefhfadjajcmkaaGreatDoor
namespace Go.Proofs.YtefhfadjajcmkaaGreatDoor
open Go Go.RowKit Go.Shelf Go.Lib
open Go.Lib (hid cell_of_heap)
def ten:List UInt8:=[48,49,50,51,52,53,54,55,56,57]
theorem trimTen (s:ByteArray) (w:World) (hs:s.size≤9223372036854775807) :
    Calls Tryz.prog 324 #[.string s,.string ⟨#[48,49,50,51,52,53,54,55,56,57]⟩] w λe w'=>e = .returned (.string ⟨(Lib.trimS s.data.toList ten).toArray⟩)∧Below w.heap.size w w':=by
 have hcon:=Any.strings_Trim_laid Tryz.lays160 (by kernel_rfl) s ⟨#[48,49,50,51,52,53,54,55,56,57]⟩ w hs (by decide) (ascii_of_all (by decide))
 exact hcon
theorem trimRZero (s:ByteArray) (w:World) (hs:s.size≤9223372036854775807) :
    Calls Tryz.prog 326 #[.string s,.string ⟨#[48]⟩] w λe w'=>e = .returned (.string ⟨(Lib.trimRightS s.data.toList [48]).toArray⟩)∧Below w.heap.size w w':=by
 have hcon:=Any.strings_TrimRight_laid Tryz.lays162 (by kernel_rfl) s ⟨#[48]⟩ w hs (by decide) (ascii_of_all (by decide))
 exact hcon
theorem trimLZero (s:ByteArray) (w:World) :
    Calls Tryz.prog 327 #[.string s,.string ⟨#[48]⟩] w λe w'=>e = .returned (.string ⟨(Lib.trimLeftS s.data.toList [48]).toArray⟩)∧Below w.heap.size w w':=by
 have hcon:=Any.strings_TrimLeft_laid Tryz.lays161 (by kernel_rfl) s ⟨#[48]⟩ w (by decide) (ascii_of_all (by decide))
 exact hcon
def numT (s:ByteArray):Bool:=!s.toList.isEmpty&&((⟨(Lib.trimS s.data.toList ten).toArray⟩:ByteArray)).toList.isEmpty
theorem numeral_any (s:ByteArray) (w:World) (hs:s.size≤9223372036854775807):Calls Tryz.prog 296 #[.string s] w (ToldB (numT s) w):=by
 have ht:=trimTen s w hs
 obtain⟨r,HR⟩:=name_itV (⟨(Lib.trimS s.data.toList ten).toArray⟩:ByteArray)
 have hn:=hid (show numT s=(!s.toList.isEmpty&&r.toList.isEmpty) from by unfold numT;rw[HR.out])
 rw[HR.out]at ht
 have HT:=hid ht
 clear ht
 go_enter Tryz.func296,Tryz.ntmps296
 by_cases h0:s.toList=[]
 ·have hf:=hid (show false=numT s from by rw[hn.out,h0];rfl)
  go_wp2_with fail
  go_ret
  exact⟨ret_b hf.out,Below.refl _ _⟩
 ·go_wp2_with (go_at_call 324;refine HT.out.mono ?_;rintro e w' ⟨rfl,hB⟩)
  go_ret
  exact⟨ret_b hn.out.symm,hB⟩
theorem prefix_any (s p:ByteArray) (w:World):Calls Tryz.prog 294 #[.string s,.string p] w λe w'=>e = .returned (.bool (Lib.hasPrefix s.data.toList p.data.toList))∧w'=w:=
 Any.strings_HasPrefix Tryz.lays99 s p w
theorem cut_any (s p:ByteArray) (m:Int) (w:World) (hs:s.size<4294967281) (hm:w.cell? ⟨Tryz.lays145_ren.g 1,0,none⟩=some (.int .i64 m)) :
    Calls Tryz.prog 295 #[.string s,.string p] w λe w'=>e = .returned (.tuple #[.string ⟨(Lib.cut s.data.toList p.data.toList).1.toArray⟩,.string ⟨(Lib.cut s.data.toList p.data.toList).2.1.toArray⟩,.bool (Lib.cut s.data.toList p.data.toList).2.2])∧∃n,w'=w.drewN n:=
 Any.strings_Cut Tryz.lays145 s p m w hs hm
theorem extraB:Builder.Extra Tryz.prog Tryz.lays105_ren where
 sizeBuilder:=by kernel_rfl
 liesBuilder:=by kernel_rfl
 t5:=by kernel_rfl
 a5:=λ_=>by kernel_rfl
 z5:=λ_=>by kernel_rfl
 v5:=λ_=>by kernel_rfl
 infoByte:=by kernel_rfl
 cellsByte:=by kernel_rfl
 sizeByte:=by kernel_rfl
 neB5:=by decide
theorem repeat_any (s:ByteArray) (c:Nat) (w:World) (hc:c≤9223372036854775807) (hlen:s.size*c≤140737488355328) :
    Calls Tryz.prog 325 #[.string s,.int .i64 (c:Int)] w λe w'=>e = .returned (.string ⟨(Lib.repeatL s.data.toList c).toArray⟩)∧Below w.heap.size w w':=
 Any.strings_Repeat Tryz.lays105 extraB s c w hc hlen
end Go.Proofs.YtefhfadjajcmkaaGreatDoor
namespace Go.Proofs.YtefhfadjajcmkaaGreatDoor
open Go Go.RowKit
open Go.Lib (hid cell_of_heap)
def padT (d:List UInt8) (sc:Nat):List UInt8:=if d.length≤sc then List.replicate (sc+1-d.length) 48++d else d
def wholeT (d:List UInt8) (sc:Nat):List UInt8:=Lib.trimLeftS ((padT d sc).take ((padT d sc).length-sc)) [48]
def partT (d:List UInt8) (sc:Nat):List UInt8:=Lib.trimRightS ((padT d sc).drop ((padT d sc).length-sc)) [48]
def toldT (neg:Bool) (d:List UInt8) (sc:Nat):List UInt8×Int:=
 if 40<(wholeT d sc).length∨20<(partT d sc).length then ([],2)
 else if wholeT d sc=[]∧partT d sc=[] then ([48,46,48],0)
 else ((if neg=true then [45] else [])++(if wholeT d sc=[] then [48] else wholeT d sc)++[46]++(if partT d sc=[] then [48] else partT d sc),0)
end Go.Proofs.YtefhfadjajcmkaaGreatDoor
