/- What the layers share: names, rows of one type and of another, append. -/
import Derived.Test.YtefhfadjajcmkaaGreatDoorR0
import Derived.Test.YtefhfadjajcmkaaGreatDoorProg
import Derived.WalkKit
import Derived.WalkSpells
import Derived.Lib.Hide
import Derived.Deep.QuietTactic
import Derived.BigQuiet
import Derived.IntWalk
import Derived.Outline
import Derived.StillTailTactics
import Derived.Deep.DeepCutAuto
import Derived.Test.YtefhfadjajcmkaaGreatDoorL0
import Derived.WalkLawsBesides
import Derived.OwnWalk
import Derived.Deep.AppendLies
import Derived.Maps.OwnSet
import Derived.Laws.IdiomStrings
import Derived.Lib.BufferRead
set_option linter.unusedVariables false
set_option linter.unusedSimpArgs false
set_option maxRecDepth 100000
set_option maxHeartbeats 8000000
namespace Go.Proofs.YtefhfadjajcmkaaGreatDoor
open Go Go.RowKit
open Go.Lib (hid cell_of_heap)
inductive Val where
 | mk (kind:Int) (truth:Bool) (num:Int) (text extra:ByteArray) (list:List Val):Val
namespace Val
def kind:Val→Int | mk k _ _ _ _ _=>k
def truth:Val→Bool | mk _ b _ _ _ _=>b
def num:Val→Int | mk _ _ n _ _ _=>n
def text:Val→ByteArray | mk _ _ _ t _ _=>t
def extra:Val→ByteArray | mk _ _ _ _ x _=>x
def list:Val→List Val | mk _ _ _ _ _ l=>l
end Val
mutual
def sizeV:Val→Nat
 | .mk _ _ _ t x l=>1+t.size / 64+x.size / 64+sizeL l
def sizeL:List Val→Nat
 | []=>0
 | v::r=>sizeV v+sizeL r
end
theorem sizeL_list (v:Val):sizeL v.list<sizeV v:=by
 cases v
 simp only[sizeV,Val.list]
 omega
theorem sizeV_mem {l:List Val} {v:Val} (h:v∈l):sizeV v≤sizeL l:=by
 induction l with
 | nil=>cases h
 | cons a r ih=>
  simp only[sizeL]
  rcases List.mem_cons.1 h with rfl | h
  ·omega
  ·have:=ih h;omega
def cellsV (v:Val) (s:Value):Array Value:=#[.int .i64 v.kind,.bool v.truth,.int .i64 v.num,.string v.text,.string v.extra,s]
inductive VRd (w:World) (F:Nat→Prop):Val→Value→Prop where
 | mk (v:Val) (A:Option Addr) (cap:Nat) (ad:Addr) (cs:Nat→Array Value) (hcap:v.list.length≤cap) (hA:0<v.list.length→A=some ad∧F ad.block)
     (hc:∀i,i<v.list.length→(cs i).size=6∧∀j,j<6→w.cell? (ad.add (i*6+j))=(cs i)[j]?)
     (hr:∀i x,v.list[i]?=some x→VRd w F x (.agg (cs i))):VRd w F v (.agg (cellsV v (.slice A v.list.length cap)))
def LRd (w:World) (F:Nat→Prop) (l:List Val) (A:Option Addr) (n:Nat):Prop:=
 n=l.length∧(0<n→∃ad,A=some ad∧F ad.block∧∀i x,l[i]?=some x→∃c:Array Value,c.size=6∧(∀j,j<6→w.cell? (ad.add (i*6+j))=c[j]?)∧VRd w F x (.agg c))
section
variable {w w':World} {F F':Nat→Prop} {v:Val} {u:Value}
theorem VRd.inv (h:VRd w F v u):∃A cap,u = .agg (cellsV v (.slice A v.list.length cap))∧v.list.length≤cap∧LRd w F v.list A v.list.length:=by
 cases h with
 | mk _ A cap ad cs hcap hA hc hr=>
  refine⟨A,cap,rfl,hcap,rfl,λhn=>⟨ad,(hA hn).1,(hA hn).2,λi x hx=>?_⟩⟩
  have hi:i<v.list.length:=by
   rcases Nat.lt_or_ge i v.list.length with h | h
   ·exact h
   ·rw[List.getElem?_eq_none h]at hx;cases hx
  exact⟨cs i,(hc i hi).1,(hc i hi).2,hr i x hx⟩
theorem VRd.of_list {A:Option Addr} {cap:Nat} (hcap:v.list.length≤cap) (h:LRd w F v.list A v.list.length):VRd w F v (.agg (cellsV v (.slice A v.list.length cap))):=by
 by_cases hn:0<v.list.length
 ·obtain⟨ad,hA,hF,hc⟩:=h.2 hn
  have hex:∀i,∃c:Array Value,i<v.list.length→c.size=6∧(∀j,j<6→w.cell? (ad.add (i*6+j))=c[j]?)∧∀x,v.list[i]?=some x→VRd w F x (.agg c):=λi=>by
   by_cases hi:i<v.list.length
   ·obtain⟨c,h1,h2,h3⟩:=hc i _ (List.getElem?_eq_getElem hi)
    exact⟨c,λ_=>⟨h1,h2,λx hx=>by
     rw[List.getElem?_eq_getElem hi]at hx
     injection hx with hx
     subst hx
     exact h3⟩⟩
   ·exact⟨#[],λh=>absurd h hi⟩
  refine .mk v A cap ad (λi=>(hex i).choose) hcap (λ_=>⟨hA,hF⟩) (λi hi=>⟨((hex i).choose_spec hi).1,((hex i).choose_spec hi).2.1⟩) (λi x hx=>?_)
  have hi:i<v.list.length:=by
   rcases Nat.lt_or_ge i v.list.length with h | h
   ·exact h
   ·rw[List.getElem?_eq_none h]at hx;cases hx
  exact ((hex i).choose_spec hi).2.2 x hx
 ·exact .mk v A cap ⟨0,0,none⟩ (λ_=>#[]) hcap (λh=>absurd h hn) (λi hi=>absurd hi (by omega)) (λi x hx=>by
    rw[List.getElem?_eq_none (by omega)]at hx;cases hx)
theorem VRd.keep (h:VRd w F v u) (hk:∀p:Addr,F p.block→w'.cell? p=w.cell? p):VRd w' F v u:=by
 induction h with
 | mk v A cap ad cs hcap hA hc hr ih=>
  exact .mk v A cap ad cs hcap hA (λi hi=>⟨(hc i hi).1,λj hj=>(hk _ (by rw[block_of_add];exact (hA (by omega)).2)).trans ((hc i hi).2 j hj)⟩) ih
theorem VRd.mono (h:VRd w F v u) (hF:∀g,F g→F' g):VRd w F' v u:=by
 induction h with
 | mk v A cap ad cs hcap hA hc hr ih=>exact .mk v A cap ad cs hcap (λh=>⟨(hA h).1,hF _ (hA h).2⟩) hc ih
variable {l:List Val} {A:Option Addr} {n:Nat}
theorem LRd.keep (h:LRd w F l A n) (hk:∀p:Addr,F p.block→w'.cell? p=w.cell? p):LRd w' F l A n:=
 ⟨h.1,λhn=>by
  obtain⟨ad,e,hF,hc⟩:=h.2 hn
  refine⟨ad,e,hF,λi x hx=>?_⟩
  obtain⟨c,h1,h2,h3⟩:=hc i x hx
  exact⟨c,h1,λj hj=>(hk _ (by rw[block_of_add];exact hF)).trans (h2 j hj),h3.keep hk⟩⟩
theorem LRd.mono (h:LRd w F l A n) (hF:∀g,F g→F' g):LRd w F' l A n:=
 ⟨h.1,λhn=>by
  obtain⟨ad,e,hf,hc⟩:=h.2 hn
  refine⟨ad,e,hF _ hf,λi x hx=>?_⟩
  obtain⟨c,h1,h2,h3⟩:=hc i x hx
  exact⟨c,h1,h2,h3.mono hF⟩⟩
theorem LRd.nil (cap:Nat) (hc:cap=0):LRd w F [] none cap:=⟨by simpa using hc,λh=>absurd h (by omega)⟩
theorem LRd.drewN (h:LRd w F l A n) (m:Nat):LRd (w.drewN m) F l A n:=h.keep λ_ _=>rfl
theorem VRd.drewN (h:VRd w F v u) (m:Nat):VRd (w.drewN m) F v u:=h.keep λ_ _=>rfl
theorem LRd.under {B:Nat} (h:LRd w F l A n) (hb:Below B w w') (hF:∀g,F g→g<B):LRd w' F l A n:=h.keep λ_ hp=>hb.cell (hF _ hp)
theorem VRd.under {B:Nat} (h:VRd w F v u) (hb:Below B w w') (hF:∀g,F g→g<B):VRd w' F v u:=h.keep λ_ hp=>hb.cell (hF _ hp)
theorem LRd.at_ (h:LRd w F l A n) {i:Nat} {x:Val} (hx:l[i]?=some x):∃ad s,A=some ad∧F ad.block∧(∃B cap,s = .slice B x.list.length cap∧x.list.length≤cap∧LRd w F x.list B x.list.length)∧(∀j,j<6→w.cell? (ad.add (i*6+j))=(cellsV x s)[j]?)∧VRd w F x (.agg (cellsV x s)):=by
 have hi:i<l.length:=by
  rcases Nat.lt_or_ge i l.length with h | h
  ·exact h
  ·rw[List.getElem?_eq_none h]at hx;cases hx
 obtain⟨ad,e,hF,hc⟩:=h.2 (by rw[h.1];omega)
 obtain⟨c,_,h2,h3⟩:=hc i x hx
 obtain⟨B,cap,hu,hcap,hl⟩:=h3.inv
 injection hu with hu
 subst hu
 exact⟨ad,_,e,hF,⟨B,cap,rfl,hcap,hl⟩,h2,h3⟩
end
theorem name_itV {α : Type} (a:α):∃x,Hid (a=x):=⟨a,hid rfl⟩
theorem take_oneMore {α : Type} {l:List α} {k:Nat} {y:α} (h:l[k]?=some y):l.take (k+1)=l.take k++[y]:=by
 rw[List.take_add_one,h];rfl
theorem LRd.cellsAt {w:World} {F:Nat→Prop} {l:List Val} {A:Option Addr} {n:Nat} (h:LRd w F l A n) {i:Nat} {x:Val} (hx:l[i]?=some x) :
    ∃ad s,A=some ad∧F ad.block∧(∃B cap,s = .slice B x.list.length cap∧x.list.length≤cap∧LRd w F x.list B x.list.length)∧VRd w F x (.agg (cellsV x s)) ∧
     w.cell? (ad.add (i*6))=some (.int .i64 x.kind)∧w.cell? ⟨(ad.add (i*6)).block,(ad.add (i*6)).off+1,none⟩=some (.bool x.truth)∧w.cell? ⟨(ad.add (i*6)).block,(ad.add (i*6)).off+2,none⟩=some (.int .i64 x.num) ∧
     w.cell? ⟨(ad.add (i*6)).block,(ad.add (i*6)).off+3,none⟩=some (.string x.text)∧w.cell? ⟨(ad.add (i*6)).block,(ad.add (i*6)).off+4,none⟩=some (.string x.extra)∧w.cell? ⟨(ad.add (i*6)).block,(ad.add (i*6)).off+5,none⟩=some s:=by
 obtain⟨ad,s,e,hF,hs,hc,hv⟩:=h.at_ hx
 have c0:=hc 0 (by omega)
 have c1:=hc 1 (by omega)
 have c2:=hc 2 (by omega)
 have c3:=hc 3 (by omega)
 have c4:=hc 4 (by omega)
 have c5:=hc 5 (by omega)
 rw[←add_of_add]at c1 c2 c3 c4 c5
 exact⟨ad,s,e,hF,hs,hv,c0,c1,c2,c3,c4,c5⟩
theorem len_le_size (l:List Val):l.length≤sizeL l:=by
 induction l with
 | nil=>simp
 | cons v r ih=>
  simp only[sizeL,List.length_cons]
  have:1≤sizeV v:=by cases v;simp only[sizeV];omega
  omega
def ToldN (n:Nat) (w:World) (e:Ending) (w':World):Prop:=e = .returned (.int .i64 (n:Int))∧∃m,w'=w.drewN m
open Classical in
noncomputable def sameB (a b:Val):Bool:=decide (a=b)
open Classical in
noncomputable def sameL (a b:List Val):Bool:=decide (a=b)
theorem sameB_refl (a:Val):sameB a a=true:=by unfold sameB;simp
theorem sameB_no {a b:Val} (h:a≠b):sameB a b=false:=by unfold sameB;simp[h]
theorem sameL_no {a b:List Val} (h:a≠b):sameL a b=false:=by unfold sameL;simp[h]
theorem sameL_refl (a:List Val):sameL a a=true:=by unfold sameL;simp
theorem strV_ne {a b:ByteArray} (h:a≠b):(a.toList==b.toList)=false:=by
 rw[ByteArray.toList_eq,ByteArray.toList_eq]
 exact beq_eq_false_iff_ne.2 (λe=>h (ByteArray.ext (Array.toList_inj.1 e)))
def ToldB (b:Bool) (w:World) (e:Ending) (w':World):Prop:=e = .returned (.bool b)∧Below w.heap.size w w'
theorem told_bool {a b:Bool} {w w':World} (h:a=b) (hb:Below w.heap.size w w'):ToldB b w (.returned (.bool a)) w':=⟨by rw[h],hb⟩
theorem two_new (w:World) (a b:Obj):Below w.heap.size w ((w.alloc a).alloc b):=(((Below.refl _ _).alloc (Nat.le_refl _) _).alloc (by simp) _)
theorem same_step (a b:Val) {F G:Nat→Prop} (A B:Option Addr) (ca cb:Nat) (w:World) (hF:∀g,F g→g<w.heap.size) (hG:∀g,G g→g<w.heap.size)
    (hA:LRd w F a.list A a.list.length) (hB:LRd w G b.list B b.list.length)
    (hrow:∀w',LRd w' F a.list A a.list.length→LRd w' G b.list B b.list.length→(∀g,F g→g<w'.heap.size)→(∀g,G g→g<w'.heap.size)→Calls Tryz.prog 64 #[.slice A a.list.length ca,.slice B b.list.length cb] w' (ToldB (sameL a.list b.list) w')) :
    Calls Tryz.prog 22 #[.agg (cellsV a (.slice A a.list.length ca)),.agg (cellsV b (.slice B b.list.length cb))] w (ToldB (sameB a b) w):=by
 have HROW:=hid hrow
 have HAA:=hid hA
 have HBB:=hid hB
 have HF:=hid hF
 have HG:=hid hG
 clear hrow hA hB hF hG
 obtain⟨k,t,n,s,x,l⟩:=a
 obtain⟨k',t',n',s',x',l'⟩:=b
 unfold cellsV
 simp only[Val.kind,Val.truth,Val.num,Val.text,Val.extra,Val.list]at HROW HAA HBB ⊢
 obtain⟨p,HP⟩:=name_itV l.length
 obtain⟨q,HQ⟩:=name_itV l'.length
 rw[HP.out]at HROW HAA ⊢
 rw[HQ.out]at HROW HBB ⊢
 have HN:=hid (two_new w (.cells #[.int .i64 k,.bool t,.int .i64 n,.string s,.string x,.slice A p ca] 39) (.cells #[.int .i64 k',.bool t',.int .i64 n',.string s',.string x',.slice B q cb] 39))
 by_cases h1:k=k'
 ·subst h1
  by_cases h2:t=t'
  ·subst h2
   by_cases h3:n=n'
   ·subst h3
    by_cases h4:s=s'
    ·subst h4
     by_cases h5:x=x'
     ·subst h5
      have hb:sameL l l'=sameB (.mk k t n s x l) (.mk k t n s x l'):=by
       unfold sameL sameB
       simp
      have HB2:=hid hb
      have HC:=hid (HROW.out _ (HAA.out.under HN.out HF.out) (HBB.out.under HN.out HG.out) (λg hg=>by have:=HF.out g hg;have:=HN.out.size;omega) (λg hg=>by have:=HG.out g hg;have:=HN.out.size;omega))
      clear hb
      go_enter Tryz.func22,Tryz.ntmps22
      go_wp2_with fail
      refine HC.out.mono ?_
      rintro e w5 ⟨rfl,hb5⟩
      rw[HB2.out]
      go_wp2_with fail
      go_ret
      exact told_bool rfl (HN.out.trans (hb5.mono HN.out.size))
     ·have t5:=strV_ne h5
      have hne:=sameB_no (a:=.mk k t n s x l) (b:=.mk k t n s x' l') (by simp[h5])
      have HNE:=hid hne
      clear hne h5
      go_enter Tryz.func22,Tryz.ntmps22
      go_wp2_with fail
      go_ret
      exact told_bool HNE.out.symm HN.out
    ·have t4:=strV_ne h4
     have hne:=sameB_no (a:=.mk k t n s x l) (b:=.mk k t n s' x' l') (by simp[h4])
     have HNE:=hid hne
     clear hne h4
     go_enter Tryz.func22,Tryz.ntmps22
     go_wp2_with fail
     go_ret
     exact told_bool HNE.out.symm HN.out
   ·have t3:(n==n')=false:=by simpa using h3
    have hne:=sameB_no (a:=.mk k t n s x l) (b:=.mk k t n' s' x' l') (by simp[h3])
    have HNE:=hid hne
    clear hne h3
    go_enter Tryz.func22,Tryz.ntmps22
    go_wp2_with fail
    go_ret
    exact told_bool HNE.out.symm HN.out
  ·have t2:(t==t')=false:=by simpa using h2
   have hne:=sameB_no (a:=.mk k t n s x l) (b:=.mk k t' n' s' x' l') (by simp[h2])
   have HNE:=hid hne
   clear hne h2
   go_enter Tryz.func22,Tryz.ntmps22
   go_wp2_with fail
   go_ret
   exact told_bool HNE.out.symm HN.out
 ·have t1:(k==k')=false:=by simpa using h1
  have hne:=sameB_no (a:=.mk k t n s x l) (b:=.mk k' t' n' s' x' l') (by simp[h1])
  have HNE:=hid hne
  clear hne h1
  go_enter Tryz.func22,Tryz.ntmps22
  go_wp2_with fail
  go_ret
  exact told_bool HNE.out.symm HN.out
theorem take_eq_all {α : Type} {l m:List α} {k:Nat} (h:l.take k=m.take k) (h1:l.length≤k) (h2:m.length≤k):l=m:=by
 rw[List.take_of_length_le h1,List.take_of_length_le h2]at h;exact h
theorem row_any (N:Nat):∀(l m:List Val) (_:sizeL l<N) (F G:Nat→Prop) (A B:Option Addr) (n1 n2 ca cb:Nat) (w:World) (_:sizeL l≤1000000000000) (_:∀g,F g→g<w.heap.size) (_:∀g,G g→g<w.heap.size) (_:LRd w F l A n1) (_:LRd w G m B n2),
    Calls Tryz.prog 64 #[.slice A n1 ca,.slice B n2 cb] w (ToldB (sameL l m) w):=by
 induction N with
 | zero=>exact λ_ _ h=>absurd h (Nat.not_lt_zero _)
 | succ N ih=>
  intro l m hN F G A B n1 n2 ca cb w hs hF hG hl hm
  have HL:=hid hl
  have HM:=hid hm
  have HF:=hid hF
  have HG:=hid hG
  have IH:=hid ih
  have hl1:n1=l.length:=hl.1
  have hn1:n1≤1000000000000:=by have:=len_le_size l;omega
  have hm1:n2=m.length:=hm.1
  have HL1:=hid hl1
  have HM1:=hid hm1
  clear hl hm hF hG ih
  by_cases hne:n1=n2
  ·subst hne
   clear hl1 hm1
   go_enter Tryz.func64,Tryz.ntmps64
   go_wp2_with fail
   go_loopw [5] (λs5 wr=>∃k:Nat,k≤n1∧s5 = .int .i64 (k:Nat)∧Hid (l.take k=m.take k)∧Below w.heap.size w wr) (λs5 _=>n1-(intOf s5).toNat)
   case atStart=>exact⟨0,by omega,rfl,hid (by simp),Below.refl _ _⟩
   case round=>
    obtain⟨k,hk,rfl,htk,hbz⟩:=hrel
    have HBZ:=hid hbz
    have HL2:=hid (HL.out.under hbz HF.out)
    have HM2:=hid (HM.out.under hbz HG.out)
    have hws:w.heap.size≤wr.heap.size:=hbz.size
    clear hbz
    by_cases hlt:k<n1
    ·obtain⟨x,hx⟩:∃x,l[k]?=some x:=⟨l[k]'(by have:=HL1.out;omega),List.getElem?_eq_getElem _⟩
     obtain⟨y,hy⟩:∃y,m[k]?=some y:=⟨m[k]'(by have:=HM1.out;omega),List.getElem?_eq_getElem _⟩
     have hxm:=sizeV_mem (List.mem_of_getElem? hx)
     have hxl:=sizeL_list x
     obtain⟨ad,sx,rfl,_,⟨Bx,cx,rfl,_,hlx⟩,_,c0,c1,c2,c3,c4,c5⟩:=HL2.out.cellsAt hx
     obtain⟨ae,sy,rfl,_,⟨By,cy,rfl,_,hly⟩,_,d0,d1,d2,d3,d4,d5⟩:=HM2.out.cellsAt hy
     have HSAME:=hid (same_step x y Bx By cx cy wr.drew (F:=F) (G:=G) (λg hg=>Nat.lt_of_lt_of_le (HF.out g hg) hws) (λg hg=>Nat.lt_of_lt_of_le (HG.out g hg) hws) (hlx.keep λ_ _=>rfl) (hly.keep λ_ _=>rfl)
      (λw' h1 h2 h3 h4=>IH.out x.list y.list (by omega) F G Bx By _ _ cx cy w' (by omega) h3 h4 h1 h2))
     have HX:=hid hx
     have HY:=hid hy
     have e1:(0:Int)≤k:=by omega
     have e2:(k:Int)<n1:=by omega
     clear hx hy hxm hxl hlx hly
     unfold cellsV at HSAME
     obtain⟨lx,HLX⟩:=name_itV x.list.length
     obtain⟨ly,HLY⟩:=name_itV y.list.length
     rw[HLX.out]at c5 HSAME
     rw[HLY.out]at d5 HSAME
     by_cases hxy:x=y
     ·have hs:=sameB_refl x
      subst hxy
      rw[hs]at HSAME
      clear hs
      go_wp2_with fail
      go_still_tail 8,(by kernel_rfl)
      change wpList _ _ _ _ _ (World.drew _)
      go_wp2_with fail
      refine HSAME.out.mono ?_
      rintro e w5 ⟨rfl,hb5⟩
      go_wp2_with fail
      go_roundw
      case rel=>exact⟨k+1,by omega,by go_num,hid (by rw[take_oneMore HX.out,take_oneMore HY.out,htk.out]),HBZ.out.drew.trans (hb5.mono hws)⟩
      case measure=>simp[intOf];omega
     ·have hs:=sameB_no hxy
      have hlm:sameL l m=false:=sameL_no (λe=>hxy (by
       have h1:=HX.out
       rw[e,HY.out]at h1
       exact (Option.some.inj h1).symm))
      have HLM:=hid hlm
      rw[hs]at HSAME
      clear hs hlm
      go_wp2_with fail
      go_still_tail 8,(by kernel_rfl)
      change wpList _ _ _ _ _ (World.drew _)
      go_wp2_with fail
      refine HSAME.out.mono ?_
      rintro e w5 ⟨rfl,hb5⟩
      go_wp2_with fail
      go_ret
      exact told_bool HLM.out.symm (HBZ.out.drew.trans (hb5.mono hws))
    ·have hke:k=n1:=by omega
     subst hke
     have hlm:l=m:=take_eq_all htk.out (by have:=HL1.out;omega) (by have:=HM1.out;omega)
     have hsm:sameL l m=true:=by rw[hlm];exact sameL_refl m
     have HSM:=hid hsm
     clear hlm hsm
     go_wp2_with fail
     go_ret
     exact told_bool HSM.out.symm HBZ.out
  ·have hsl:sameL l m=false:=sameL_no (λe=>hne (by rw[hl1,hm1,e]))
   have HSL:=hid hsl
   have t1:((n1:Int) != n2)=true:=by simp;omega
   clear hsl hl1 hm1
   go_enter Tryz.func64,Tryz.ntmps64
   go_wp2_with fail
   go_ret
   exact told_bool HSL.out.symm (Below.refl _ _)
def badI (c:UInt8):Bool:=decide (c.toNat≤32∨c.toNat=60∨c.toNat=62)
def iriB (s:ByteArray):Bool:=decide (1≤s.size∧s.size≤1048576)&&s.data.toList.all λc=>!badI c
theorem data_len (s:ByteArray):s.data.toList.length=s.size:=Array.length_toList
theorem data_at (s:ByteArray) (k:Nat) (h:k<s.size):s.data.toList[k]?=some s[k]:=by
 rw[List.getElem?_eq_getElem (by rw[data_len];exact h)];rfl
theorem all_more {p:UInt8→Bool} {l:List UInt8} {k:Nat} {c:UInt8} (h:l[k]?=some c) (ha:(l.take k).all p=true) (hc:p c=true):(l.take (k+1)).all p=true:=by
 rw[take_oneMore h,List.all_append,ha];simp[hc]
theorem all_no {p:UInt8→Bool} {l:List UInt8} {k:Nat} {c:UInt8} (h:l[k]?=some c) (hc:p c=false):l.all p=false:=by
 rw[List.all_eq_false]
 exact⟨c,List.mem_of_getElem? h,by simp[hc]⟩
theorem ret_b {a b:Bool} (h:a=b):Ending.returned (.bool a) = .returned (.bool b):=by rw[h]
theorem refIri_any (s:ByteArray) (w:World):Calls Tryz.prog 191 #[.string s] w λe w'=>e = .returned (.bool (iriB s))∧w'=w:=by
 by_cases hl:1≤s.size∧s.size≤1048576
 ·obtain⟨hl1,hl2⟩:=hl
  have h1:decide ((s.size:Int)<1)=false:=decide_eq_false (by omega)
  have h2:decide ((1048576:Int)<s.size)=false:=decide_eq_false (by omega)
  go_enter Tryz.func191,Tryz.ntmps191
  go_wp2_with fail
  go_loop [3] (λi=>∃k:Nat,k≤s.size∧i = .int .i64 (k:Nat)∧Hid ((s.data.toList.take k).all (λc=>!badI c)=true)) (λi=>s.size-(intOf i).toNat)
  case atStart=>exact⟨0,by omega,rfl,hid (by simp)⟩
  case round=>
   obtain⟨k,hk,rfl,hall⟩:=hrel
   by_cases hlt:k<s.size
   ·have hc:=hid (data_at s k hlt)
    obtain⟨x,hx⟩:∃x:Nat,s[k].toNat=x:=⟨_,rfl⟩
    have HX:=hid hx
    have hxb:x<256:=by rw[←hx];exact s[k].toNat_lt
    by_cases b1:x≤32
    ·have hno:=hid (all_no (p:=λc=>!badI c) hc.out (by simp[badI,HX.out,b1]))
     have b1':(x:Int)≤32:=by omega
     go_wp2_with fail
     go_ret
     exact⟨ret_b (by unfold iriB;rw[hno.out];simp),rfl⟩
    ·have b1':decide ((x:Int)≤32)=false:=decide_eq_false (by omega)
     by_cases b2:x=60
     ·have hno:=hid (all_no (p:=λc=>!badI c) hc.out (by simp[badI,HX.out,b2]))
      have b2':((x:Int)==60)=true:=by simp;omega
      go_wp2_with fail
      go_ret
      exact⟨ret_b (by unfold iriB;rw[hno.out];simp),rfl⟩
     ·have b2':((x:Int)==60)=false:=by simp;omega
      by_cases b3:x=62
      ·have hno:=hid (all_no (p:=λc=>!badI c) hc.out (by simp[badI,HX.out,b3]))
       have b3':((x:Int)==62)=true:=by simp;omega
       go_wp2_with fail
       go_ret
       exact⟨ret_b (by unfold iriB;rw[hno.out];simp),rfl⟩
      ·have b3':((x:Int)==62)=false:=by simp;omega
       have hyes:=hid (all_more hc.out hall.out (by simp[badI,HX.out];omega))
       go_wp2_with fail
       go_round
       case rel=>exact⟨k+1,by omega,by go_num,hid hyes.out⟩
       case measure=>simp[intOf];omega
   ·have hke:k=s.size:=by omega
    have hall2:=hall.out
    rw[List.take_of_length_le (by rw[data_len];omega)]at hall2
    have HALL:=hid hall2
    clear hall hall2
    subst hke
    go_wp2_with fail
    go_ret
    exact⟨ret_b (by unfold iriB;rw[HALL.out];simp;omega),rfl⟩
 ·have hno:iriB s=false:=by unfold iriB;simp only[decide_eq_false hl];rfl
  have HNO:=hid hno
  clear hno
  by_cases h0:s.size<1
  ·have h1:decide ((s.size:Int)<1)=true:=decide_eq_true (by omega)
   go_enter Tryz.func191,Tryz.ntmps191
   go_wp2_with fail
   go_ret
   exact⟨ret_b HNO.out.symm,rfl⟩
  ·have h1:decide ((s.size:Int)<1)=false:=decide_eq_false (by omega)
   have h2:decide ((1048576:Int)<s.size)=true:=decide_eq_true (by omega)
   go_enter Tryz.func191,Tryz.ntmps191
   go_wp2_with fail
   go_ret
   exact⟨ret_b HNO.out.symm,rfl⟩
theorem iri_any (s:ByteArray) (hs:s.size≤9223372036854775807) (w:World):Calls Tryz.prog 186 #[.string s] w λe w'=>e = .returned (.bool (iriB s))∧w'=w:=by
 go_enter Tryz.func186,Tryz.ntmps186
 go_wp2_with fail
 go_loop [6] (λi=>∃k:Nat,k≤s.size∧i = .int .i64 (k:Nat)∧Hid ((s.data.toList.take k).all (λc=>!badI c)=true)) (λi=>s.size-(intOf i).toNat)
 case atStart=>exact⟨0,by omega,rfl,hid (by simp)⟩
 case round=>
  obtain⟨k,hk,rfl,hall⟩:=hrel
  by_cases hlt:k<s.size
  ·have hc:=hid (data_at s k hlt)
   obtain⟨x,hx⟩:∃x:Nat,s[k].toNat=x:=⟨_,rfl⟩
   have HX:=hid hx
   have hxb:x<256:=by rw[←hx];exact s[k].toNat_lt
   by_cases b1:x≤32
   ·have hno:=hid (all_no (p:=λc=>!badI c) hc.out (by simp[badI,HX.out,b1]))
    have b1':(x:Int)≤32:=by omega
    go_wp2_with fail
    go_ret
    exact⟨ret_b (by unfold iriB;rw[hno.out];simp),rfl⟩
   ·have b1':decide ((x:Int)≤32)=false:=decide_eq_false (by omega)
    by_cases b2:x=60
    ·have hno:=hid (all_no (p:=λc=>!badI c) hc.out (by simp[badI,HX.out,b2]))
     have b2':((x:Int)==60)=true:=by simp;omega
     go_wp2_with fail
     go_ret
     exact⟨ret_b (by unfold iriB;rw[hno.out];simp),rfl⟩
    ·have b2':((x:Int)==60)=false:=by simp;omega
     by_cases b3:x=62
     ·have hno:=hid (all_no (p:=λc=>!badI c) hc.out (by simp[badI,HX.out,b3]))
      have b3':((x:Int)==62)=true:=by simp;omega
      go_wp2_with fail
      go_ret
      exact⟨ret_b (by unfold iriB;rw[hno.out];simp),rfl⟩
     ·have b3':((x:Int)==62)=false:=by simp;omega
      have hyes:=hid (all_more hc.out hall.out (by simp[badI,HX.out];omega))
      go_wp2_with fail
      go_round
      case rel=>exact⟨k+1,by omega,by go_num,hid hyes.out⟩
      case measure=>simp[intOf];omega
  ·have hke:k=s.size:=by omega
   have hall2:=hall.out
   rw[List.take_of_length_le (by rw[data_len];omega)]at hall2
   have HALL:=hid hall2
   clear hall hall2
   subst hke
   by_cases h0:1≤s.size
   ·have h1:decide ((1:Int)≤s.size)=true:=decide_eq_true (by omega)
    by_cases h2:s.size≤1048576
    ·have h3:decide ((s.size:Int)≤1048576)=true:=decide_eq_true (by omega)
     go_wp2_with fail
     go_ret
     exact⟨ret_b (by unfold iriB;rw[HALL.out];simp;omega),rfl⟩
    ·have h3:decide ((s.size:Int)≤1048576)=false:=decide_eq_false (by omega)
     go_wp2_with fail
     go_ret
     exact⟨ret_b (by unfold iriB;rw[HALL.out];simp;omega),rfl⟩
   ·have h1:decide ((1:Int)≤s.size)=false:=decide_eq_false (by omega)
    go_wp2_with fail
    go_ret
    exact⟨ret_b (by unfold iriB;rw[HALL.out];simp;omega),rfl⟩
def letN (x:Nat):Bool:=decide ((97≤x∧x≤122)∨(65≤x∧x≤90)∨x=95)
def digN (x:Nat):Bool:=decide (48≤x∧x≤57)
def nameC (c:UInt8):Bool:=letN c.toNat || digN c.toNat
def nameB (s:ByteArray):Bool:=decide (1≤s.size∧s.size≤64)&&((s.data.toList.head?.map λc=>!digN c.toNat).getD false&&s.data.toList.all nameC)
theorem head_data {s:ByteArray} (h:0<s.size):s.data.toList.head?=some (s[0]'h):=by
 have:=data_at s 0 h
 rw[List.head?_eq_getElem?]
 exact this
theorem name_size {s:ByteArray} (h:¬(1≤s.size∧s.size≤64)):nameB s=false:=by unfold nameB;simp only[decide_eq_false h];rfl
theorem name_no {s:ByteArray} {k:Nat} {c:UInt8} (h:s.data.toList[k]?=some c) (hc:nameC c=false):nameB s=false:=by
 unfold nameB;rw[all_no h hc];simp
theorem name_dig {s:ByteArray} {c:UInt8} (h:s.data.toList[0]?=some c) (hc:digN c.toNat=true):nameB s=false:=by
 unfold nameB
 rw[List.head?_eq_getElem?,h]
 simp[hc]
theorem name_yes {s:ByteArray} (h1:1≤s.size) (h2:s.size≤64) (h0:∀c,s.data.toList[0]?=some c→digN c.toNat=false) (ha:s.data.toList.all nameC=true):nameB s=true:=by
 unfold nameB
 rw[ha,head_data (by omega)]
 have:=h0 _ (data_at s 0 (by omega))
 simp[h1,h2,this]
theorem name_any (s:ByteArray) (hs:s.size≤9223372036854775807) (w:World):Calls Tryz.prog 187 #[.string s] w λe w'=>e = .returned (.bool (nameB s))∧w'=w:=by
 go_enter Tryz.func187,Tryz.ntmps187
 go_wp2_with fail
 go_loop [8] (λi=>∃k:Nat,k≤s.size∧i = .int .i64 (k:Nat)∧Hid ((s.data.toList.take k).all nameC=true∧∀c,0<k→s.data.toList[0]?=some c→digN c.toNat=false)) (λi=>s.size-(intOf i).toNat)
 case atStart=>exact⟨0,by omega,rfl,hid ⟨by simp,λc h=>absurd h (by omega)⟩⟩
 case round=>
  obtain⟨k,hk,rfl,hall⟩:=hrel
  by_cases hlt:k<s.size
  ·have hc:=hid (data_at s k hlt)
   obtain⟨x,hx⟩:∃x:Nat,s[k].toNat=x:=⟨_,rfl⟩
   have HX:=hid hx
   have hxb:x<256:=by rw[←hx];exact s[k].toNat_lt
   go_upto_region 5 with fail
   go_cut [5] (λs5 wx=>s5 = .bool (letN x)∧wx=w)
   case first=>
    by_cases a1:97≤x
    ·by_cases a2:x≤122
     ·have e1:decide ((97:Int)≤x)=true:=decide_eq_true (by omega)
      have e2:decide ((x:Int)≤122)=true:=decide_eq_true (by omega)
      have hl:letN x=true:=decide_eq_true (.inl ⟨a1,a2⟩)
      go_wp2_with fail
      go_meet
      exact⟨by rw[hl],rfl⟩
     ·have e1:decide ((97:Int)≤x)=true:=decide_eq_true (by omega)
      have e2:decide ((x:Int)≤122)=false:=decide_eq_false (by omega)
      have e3:decide ((65:Int)≤x)=true:=decide_eq_true (by omega)
      have e4:decide ((x:Int)≤90)=false:=decide_eq_false (by omega)
      have e5:((x:Int)==95)=false:=by simp;omega
      have hl:letN x=false:=decide_eq_false (by omega)
      go_wp2_with fail
      go_meet
      exact⟨by rw[hl],rfl⟩
    ·have e1:decide ((97:Int)≤x)=false:=decide_eq_false (by omega)
     by_cases b1:65≤x
     ·have e3:decide ((65:Int)≤x)=true:=decide_eq_true (by omega)
      by_cases b2:x≤90
      ·have e4:decide ((x:Int)≤90)=true:=decide_eq_true (by omega)
       have hl:letN x=true:=decide_eq_true (.inr (.inl ⟨b1,b2⟩))
       go_wp2_with fail
       go_meet
       exact⟨by rw[hl],rfl⟩
      ·have e4:decide ((x:Int)≤90)=false:=decide_eq_false (by omega)
       by_cases c1:x=95
       ·have e5:((x:Int)==95)=true:=by simp;omega
        have hl:letN x=true:=decide_eq_true (.inr (.inr c1))
        clear c1
        go_wp2_with fail
        go_meet
        exact⟨by rw[hl],rfl⟩
       ·have e5:((x:Int)==95)=false:=by simp;omega
        have hl:letN x=false:=decide_eq_false (by omega)
        go_wp2_with fail
        go_meet
        exact⟨by rw[hl],rfl⟩
     ·have e3:decide ((65:Int)≤x)=false:=decide_eq_false (by omega)
      have e5:((x:Int)==95)=false:=by simp;omega
      have hl:letN x=false:=decide_eq_false (by omega)
      go_wp2_with fail
      go_meet
      exact⟨by rw[hl],rfl⟩
   case rest=>
    obtain⟨h5,rfl⟩:=hcut
    by_cases hl:letN x=true
    ·rw[hl]at h5
     subst h5
     have hn:nameC s[k]=true:=by unfold nameC;rw[HX.out,hl];rfl
     have hd0:digN x=false:=by
      unfold letN at hl
      have:=of_decide_eq_true hl
      exact decide_eq_false (by omega)
     have hyes:=hid (all_more hc.out hall.out.1 hn)
     have hd:=hid (show ∀c,0<k+1→s.data.toList[0]?=some c→digN c.toNat=false from λc _ h0=>by
      by_cases hk0:k=0
      ·have h1:=hc.out
       subst hk0
       rw[h0]at h1
       rw[Option.some.inj h1,HX.out]
       exact hd0
      ·exact hall.out.2 c (by omega) h0)
     clear hn hl hd0
     go_wp2_with fail
     go_round
     case rel=>exact⟨k+1,by omega,by go_num,hid ⟨hyes.out,hd.out⟩⟩
     case measure=>simp[intOf];omega
    ·have hl:letN x=false:=by simpa using hl
     rw[hl]at h5
     subst h5
     have HL:=hid hl
     clear hl
     by_cases hd:48≤x∧x≤57
     ·have e1:decide ((x:Int)<48)=false:=decide_eq_false (by omega)
      have e2:decide ((57:Int)<x)=false:=decide_eq_false (by omega)
      have hdg:digN x=true:=decide_eq_true hd
      by_cases hk0:k=0
      ·have hno:=hid (show nameB s=false from name_dig (c:=s[k]) (by have h1:=hc.out;subst hk0;exact h1) (by rw[HX.out];exact hdg))
       have e3:((k:Int)==0)=true:=by simp;omega
       clear hdg hk0
       go_wp2_with fail
       go_ret
       exact⟨ret_b hno.out.symm,rfl⟩
      ·have hn:nameC s[k]=true:=by unfold nameC;rw[HX.out,hdg];simp
       have hyes:=hid (all_more hc.out hall.out.1 hn)
       have hd2:=hid (show ∀c,0<k+1→s.data.toList[0]?=some c→digN c.toNat=false from λc _ h0=>hall.out.2 c (by omega) h0)
       have e3:((k:Int)==0)=false:=by simp;omega
       clear hdg hn
       go_wp2_with fail
       go_round
       case rel=>exact⟨k+1,by omega,by go_num,hid ⟨hyes.out,hd2.out⟩⟩
       case measure=>simp[intOf];omega
     ·have hdg:digN x=false:=decide_eq_false hd
      have hn:nameC s[k]=false:=by unfold nameC;rw[HX.out,hdg,HL.out];rfl
      have hno:=hid (name_no hc.out hn)
      clear hdg hn
      by_cases hk0:k=0
      ·have e3:((k:Int)==0)=true:=by simp;omega
       clear hk0
       go_wp2_with fail
       go_ret
       exact⟨ret_b hno.out.symm,rfl⟩
      ·have e3:((k:Int)==0)=false:=by simp;omega
       by_cases h48:x<48
       ·have e1:decide ((x:Int)<48)=true:=decide_eq_true (by omega)
        go_wp2_with fail
        go_ret
        exact⟨ret_b hno.out.symm,rfl⟩
       ·have e1:decide ((x:Int)<48)=false:=decide_eq_false (by omega)
        have e2:decide ((57:Int)<x)=true:=decide_eq_true (by omega)
        go_wp2_with fail
        go_ret
        exact⟨ret_b hno.out.symm,rfl⟩
  ·have hke:k=s.size:=by omega
   have hall2:=hall.out
   rw[List.take_of_length_le (by rw[data_len];omega)]at hall2
   have HALL:=hid hall2
   clear hall hall2
   subst hke
   by_cases h0:1≤s.size
   ·have h1:decide ((1:Int)≤s.size)=true:=decide_eq_true (by omega)
    by_cases h2:s.size≤64
    ·have h3:decide ((s.size:Int)≤64)=true:=decide_eq_true (by omega)
     have hy:=hid (name_yes h0 h2 (λc hc=>HALL.out.2 c (by omega) hc) HALL.out.1)
     go_wp2_with fail
     go_ret
     exact⟨ret_b hy.out.symm,rfl⟩
    ·have h3:decide ((s.size:Int)≤64)=false:=decide_eq_false (by omega)
     have hy:=hid (name_size (s:=s) (by omega))
     go_wp2_with fail
     go_ret
     exact⟨ret_b hy.out.symm,rfl⟩
   ·have h1:decide ((1:Int)≤s.size)=false:=decide_eq_false (by omega)
    have hy:=hid (name_size (s:=s) (by omega))
    go_wp2_with fail
    go_ret
    exact⟨ret_b hy.out.symm,rfl⟩
theorem refName_any (s:ByteArray) (w:World):Calls Tryz.prog 192 #[.string s] w λe w'=>e = .returned (.bool (nameB s))∧w'=w:=by
 by_cases hl:1≤s.size∧s.size≤64
 ·obtain⟨hl1,hl2⟩:=hl
  have h1:decide ((s.size:Int)<1)=false:=decide_eq_false (by omega)
  have h2:decide ((64:Int)<s.size)=false:=decide_eq_false (by omega)
  have h3:(0:Int)<s.size:=by omega
  have h3':0<s.size:=by omega
  have hc0:=hid (data_at s 0 (by omega))
  obtain⟨x,hx⟩:∃x:Nat,(s[0]'h3').toNat=x:=⟨_,rfl⟩
  have HX:=hid hx
  by_cases hd:48≤x∧x≤57
  ·have e1:decide ((48:Int)≤x)=true:=decide_eq_true (by omega)
   have e2:decide ((x:Int)≤57)=true:=decide_eq_true (by omega)
   have hno:=hid (name_dig hc0.out (by rw[HX.out];exact decide_eq_true hd))
   go_enter Tryz.func192,Tryz.ntmps192
   go_wp2_with fail
   go_ret
   exact⟨ret_b hno.out.symm,rfl⟩
  ·have hdx:digN x=false:=decide_eq_false hd
   have HD:=hid (show ∀c,s.data.toList[0]?=some c→digN c.toNat=false from λc hc=>by
    rw[hc0.out]at hc
    rw[←Option.some.inj hc,HX.out];exact hdx)
   clear hdx
   go_enter Tryz.func192,Tryz.ntmps192
   go_upto_region 1 with fail
   go_cut [22] (λs22 wx=>s22 = .bool false∧wx=w)
   case first=>
    by_cases h:48≤x
    ·have e1:decide ((48:Int)≤x)=true:=decide_eq_true (by omega)
     have e2:decide ((x:Int)≤57)=false:=decide_eq_false (by omega)
     go_wp2_with fail
     go_meet
     exact⟨rfl,rfl⟩
    ·have e1:decide ((48:Int)≤x)=false:=decide_eq_false (by omega)
     go_wp2_with fail
     go_meet
     exact⟨rfl,rfl⟩
   case rest=>
    obtain⟨rfl,rfl⟩:=hcut
    clear hx
    go_wp2_with fail
    go_loop [3] (λi=>∃k:Nat,k≤s.size∧i = .int .i64 (k:Nat)∧Hid ((s.data.toList.take k).all nameC=true)) (λi=>s.size-(intOf i).toNat)
    case atStart=>exact⟨0,by omega,rfl,hid (by simp)⟩
    case round=>
     obtain⟨k,hk,rfl,hall⟩:=hrel
     by_cases hlt:k<s.size
     ·have hc:=hid (data_at s k hlt)
      obtain⟨y,hy⟩:∃y:Nat,s[k].toNat=y:=⟨_,rfl⟩
      have HY:=hid hy
      have hyb:y<256:=by rw[←hy];exact s[k].toNat_lt
      go_upto_region 7 with fail
      go_cut [58] (λs58 wx=>s58 = .bool (!(letN y || digN y))∧wx=wc)
      case first=>
       have hv:∀b:Bool,(letN y || digN y)=b→Value.bool (!b) = .bool (!(letN y || digN y)):=λb hb=>by rw[hb]
       have HV:=hid hv
       clear hv
       by_cases a1:97≤y
       ·have e1:decide ((97:Int)≤y)=true:=decide_eq_true (by omega)
        have e3:decide ((65:Int)≤y)=true:=decide_eq_true (by omega)
        have e4:decide ((y:Int)≤90)=false:=decide_eq_false (by omega)
        have e6:decide ((48:Int)≤y)=true:=decide_eq_true (by omega)
        have e7:decide ((y:Int)≤57)=false:=decide_eq_false (by omega)
        have e5:((y:Int)==95)=false:=by simp;omega
        by_cases a2:y≤122
        ·have e2:decide ((y:Int)≤122)=true:=decide_eq_true (by omega)
         have hb:=HV.out true (by unfold letN digN;simp;omega)
         have HB:=hid hb
         clear hb
         go_wp2_with fail
         go_meet
         exact⟨HB.out,rfl⟩
        ·have e2:decide ((y:Int)≤122)=false:=decide_eq_false (by omega)
         have hb:=HV.out false (by unfold letN digN;simp;omega)
         have HB:=hid hb
         clear hb
         go_wp2_with fail
         go_meet
         exact⟨HB.out,rfl⟩
       ·have e1:decide ((97:Int)≤y)=false:=decide_eq_false (by omega)
        by_cases b1:65≤y
        ·have e3:decide ((65:Int)≤y)=true:=decide_eq_true (by omega)
         have e6:decide ((48:Int)≤y)=true:=decide_eq_true (by omega)
         have e7:decide ((y:Int)≤57)=false:=decide_eq_false (by omega)
         by_cases b2:y≤90
         ·have e4:decide ((y:Int)≤90)=true:=decide_eq_true (by omega)
          have hb:=HV.out true (by unfold letN digN;simp;omega)
          have HB:=hid hb
          clear hb
          go_wp2_with fail
          go_meet
          exact⟨HB.out,rfl⟩
         ·have e4:decide ((y:Int)≤90)=false:=decide_eq_false (by omega)
          by_cases c1:y=95
          ·have e5:((y:Int)==95)=true:=by simp;omega
           have hb:=HV.out true (by unfold letN digN;simp;omega)
           have HB:=hid hb
           clear hb c1
           go_wp2_with fail
           go_meet
           exact⟨HB.out,rfl⟩
          ·have e5:((y:Int)==95)=false:=by simp;omega
           have hb:=HV.out false (by unfold letN digN;simp;omega)
           have HB:=hid hb
           clear hb c1
           go_wp2_with fail
           go_meet
           exact⟨HB.out,rfl⟩
        ·have e3:decide ((65:Int)≤y)=false:=decide_eq_false (by omega)
         have e5:((y:Int)==95)=false:=by simp;omega
         by_cases d1:48≤y
         ·have e6:decide ((48:Int)≤y)=true:=decide_eq_true (by omega)
          by_cases d2:y≤57
          ·have e7:decide ((y:Int)≤57)=true:=decide_eq_true (by omega)
           have hb:=HV.out true (by unfold letN digN;simp;omega)
           have HB:=hid hb
           clear hb
           go_wp2_with fail
           go_meet
           exact⟨HB.out,rfl⟩
          ·have e7:decide ((y:Int)≤57)=false:=decide_eq_false (by omega)
           have hb:=HV.out false (by unfold letN digN;simp;omega)
           have HB:=hid hb
           clear hb
           go_wp2_with fail
           go_meet
           exact⟨HB.out,rfl⟩
         ·have e6:decide ((48:Int)≤y)=false:=decide_eq_false (by omega)
          have hb:=HV.out false (by unfold letN digN;simp;omega)
          have HB:=hid hb
          clear hb
          go_wp2_with fail
          go_meet
          exact⟨HB.out,rfl⟩
      case rest=>
       obtain⟨h58,rfl⟩:=hcut
       by_cases hn:(letN y || digN y)=true
       ·have hyes:=hid (all_more hc.out hall.out (by unfold nameC;rw[HY.out,hn]))
        rw[hn]at h58
        subst h58
        clear hn
        go_wp2_with fail
        go_round
        case rel=>exact⟨k+1,by omega,by go_num,hid hyes.out⟩
        case measure=>simp[intOf];omega
       ·have hn:(letN y || digN y)=false:=by simpa using hn
        have hno:=hid (name_no hc.out (by unfold nameC;rw[HY.out,hn]))
        rw[hn]at h58
        subst h58
        clear hn
        go_wp2_with fail
        go_ret
        exact⟨ret_b hno.out.symm,rfl⟩
     ·have hke:k=s.size:=by omega
      have hall2:=hall.out
      rw[List.take_of_length_le (by rw[data_len];omega)]at hall2
      have hy:=hid (name_yes hl1 hl2 HD.out hall2)
      clear hall hall2
      subst hke
      go_wp2_with fail
      go_ret
      exact⟨ret_b hy.out.symm,rfl⟩
 ·have hno:=hid (name_size hl)
  by_cases h0:s.size<1
  ·have h1:decide ((s.size:Int)<1)=true:=decide_eq_true (by omega)
   go_enter Tryz.func192,Tryz.ntmps192
   go_wp2_with fail
   go_ret
   exact⟨ret_b hno.out.symm,rfl⟩
  ·have h1:decide ((s.size:Int)<1)=false:=decide_eq_false (by omega)
   have h2:decide ((64:Int)<s.size)=true:=decide_eq_true (by omega)
   go_enter Tryz.func192,Tryz.ntmps192
   go_wp2_with fail
   go_ret
   exact⟨ret_b hno.out.symm,rfl⟩
theorem digit_any (x:Nat) (hx:x<256) (w:World):Calls Tryz.prog 320 #[.int .u8 (x:Int)] w λe w'=>e = .returned (.bool (digN x))∧w'=w:=by
 go_enter Tryz.func320,Tryz.ntmps320
 by_cases h1:x<48
 ·have e1:decide ((48:Int)≤x)=false:=decide_eq_false (by omega)
  have hd:digN x=false:=decide_eq_false (by omega)
  go_wp2_with fail
  go_ret
  exact⟨ret_b hd.symm,rfl⟩
 ·have e1:decide ((48:Int)≤x)=true:=decide_eq_true (by omega)
  by_cases h2:x≤57
  ·have e2:decide ((x:Int)≤57)=true:=decide_eq_true (by omega)
   have hd:digN x=true:=decide_eq_true (by omega)
   go_wp2_with fail
   go_ret
   exact⟨ret_b hd.symm,rfl⟩
  ·have e2:decide ((x:Int)≤57)=false:=decide_eq_false (by omega)
   have hd:digN x=false:=decide_eq_false (by omega)
   go_wp2_with fail
   go_ret
   exact⟨ret_b hd.symm,rfl⟩
def IntsAt (w:World) (A:Option Addr) (D:List Nat):Prop:=∀(i:Nat) (x:Nat),D[i]?=some x→∃ad,A=some ad∧(ad.add i).block<w.heap.size∧w.cell? (ad.add i)=some (.int .i64 (x:Int))
theorem IntsAt.under {w w':World} {A:Option Addr} {D:List Nat} (h:IntsAt w A D) (hb:Below w.heap.size w w'):IntsAt w' A D:=λi x hx=>by
 obtain⟨ad,hA,hl,hc⟩:=h i x hx
 exact⟨ad,hA,Nat.lt_of_lt_of_le hl hb.size,(hb.cell (p:=ad.add i) hl).trans hc⟩
def atD (D:List Nat) (i:Nat):Nat:=(D[i]?).getD 0
theorem at_any (D:List Nat) (A:Option Addr) (cap:Nat) (i:Nat) (hi:i≤4000000000000) (w:World) (h:IntsAt w A D) :
    Calls Tryz.prog 321 #[.slice A D.length cap,.int .i64 (i:Int)] w (ToldN (atD D i) w):=by
 have HH:=hid h
 clear h
 obtain⟨n,HN⟩:=name_itV D.length
 rw[HN.out]
 go_enter Tryz.func321,Tryz.ntmps321
 have e0:decide ((i:Int)<0)=false:=decide_eq_false (by omega)
 by_cases hlt:i<n
 ·have hil:i<D.length:=by rw[HN.out];exact hlt
  obtain⟨ad,rfl,_,hc⟩:=HH.out i _ (List.getElem?_eq_getElem hil)
  have ha:atD D i=D[i]:=by unfold atD;rw[List.getElem?_eq_getElem hil];rfl
  rw[ha]
  obtain⟨x,HX⟩:=name_itV D[i]
  rw[HX.out]at hc ⊢
  have e1:decide ((n:Int)≤i)=false:=decide_eq_false (by omega)
  have e2:(0:Int)≤i:=by omega
  have e3:(i:Int)<n:=by omega
  clear ha
  go_wp2_with fail
  go_ret
  exact⟨rfl,0,rfl⟩
 ·have ha:atD D i=0:=by unfold atD;rw[List.getElem?_eq_none (by rw[HN.out];omega)];rfl
  rw[ha]
  have e1:decide ((n:Int)≤i)=true:=decide_eq_true (by omega)
  clear ha
  go_wp2_with fail
  go_ret
  exact⟨rfl,0,rfl⟩
def ToldBd (b:Bool) (w:World) (e:Ending) (w':World):Prop:=e = .returned (.bool b)∧∃m,w'=w.drewN m
theorem all_moreN {p:Nat→Bool} {l:List Nat} {k:Nat} {c:Nat} (h:l[k]?=some c) (ha:(l.take k).all p=true) (hc:p c=true):(l.take (k+1)).all p=true:=by
 rw[take_oneMore h];simp[ha,hc]
theorem all_noN {p:Nat→Bool} {l:List Nat} {k:Nat} {c:Nat} (h:l[k]?=some c) (hc:p c=false):l.all p=false:=by
 rw[List.all_eq_false];exact⟨c,List.mem_of_getElem? h,by simp[hc]⟩
def zeroD (D:List Nat):Bool:=D.all (· == 0)
theorem zero_any (D:List Nat) (hD:D.length≤4000000000000) (A:Option Addr) (cap:Nat) (w:World) (h:IntsAt w A D) :
    Calls Tryz.prog 253 #[.slice A D.length cap] w (ToldBd (zeroD D) w):=by
 have HH:=hid h
 clear h
 obtain⟨n,HN⟩:=name_itV D.length
 rw[HN.out]at hD ⊢
 go_enter Tryz.func253,Tryz.ntmps253
 go_wp2_with fail
 go_loopw [3] (λs3 wr=>∃k m:Nat,k≤n∧s3 = .int .i64 (k:Nat)∧Hid ((D.take k).all (· == 0)=true)∧wr=w.drewN m) (λs3 _=>n-(intOf s3).toNat)
 case atStart=>exact⟨0,0,by omega,rfl,hid (by simp),rfl⟩
 case round=>
  obtain⟨k,m,hk,rfl,hall,hw⟩:=hrel
  have HW:=hid hw
  have HR:=hid (show IntsAt wr A D from by rw[hw];exact HH.out)
  clear hw
  by_cases hlt:k<n
  ·have hil:k<D.length:=by rw[HN.out];exact hlt
   obtain⟨ad,rfl,_,hc⟩:=HR.out k _ (List.getElem?_eq_getElem hil)
   have hx:=hid (show D[k]?=some D[k] from List.getElem?_eq_getElem hil)
   obtain⟨x,HX⟩:=name_itV D[k]
   rw[HX.out]at hc hx
   clear HX hil
   have e2:(0:Int)≤k:=by omega
   have e3:(k:Int)<n:=by omega
   by_cases hx0:x=0
   ·subst hx0
    have hyes:=hid (show (D.take (k+1)).all (· == 0)=true from all_moreN hx.out hall.out rfl)
    go_wp2_with fail
    go_roundw
    case rel=>exact⟨k+1,m,by omega,by go_num,hyes,HW.out⟩
    case measure=>simp[intOf];omega
   ·have hno:=hid (show zeroD D=false from all_noN hx.out (by simpa using hx0))
    have e4:((x:Int)==0)=false:=by simp;omega
    clear hx0
    go_wp2_with fail
    go_ret
    exact⟨ret_b hno.out.symm,m,HW.out⟩
  ·have hke:k=n:=by omega
   subst hke
   have hz:=hid (show zeroD D=true from by have:=hall.out;rwa [List.take_of_length_le (by rw[HN.out];omega)]at this)
   go_wp2_with fail
   go_ret
   exact⟨ret_b hz.out.symm,m,HW.out⟩
end Go.Proofs.YtefhfadjajcmkaaGreatDoor
namespace Go.Proofs.YtefhfadjajcmkaaGreatDoor
open Go Go.RowKit Go.Maps Go.WideMaps
open Go.Lib (hid cell_of_heap)
theorem grown_after {w w':World} {o:Obj} {row:Option Nat} (h:(w.alloc o).grownBy w' row):w.grownBy w' row:=
 ⟨h.os,h.tape,h.output,Nat.le_trans (by simp) h.size,λk hk hne=>(h.block k (by simp;omega) hne).trans (Below.heap_alloc w o k hk)⟩
theorem app_new {P:Program} {wr:World} {ops:Array Oper} {rest:List Oper} {o:Oper} {a:Act} {Q:Exit→Act→World→Prop} (hgd:o.guard=none) (s x:Operand) (t:TypeId)
    (ho:o.op = .call { callee:=.builtin .append,args:=#[s,x],argTypes:=#[t,t] })
    (base:Nat) (e:TypeId) (z:Value) (size bytes:Nat) (ht:P.underlying t=some (.slice e)) (hinfo:(P.info? e).map (λi=>(i.zero,i.size,i.bytes))=some (some z,size,bytes))
    (hzs:z.cells.size=size) (hsz:0<size)
    (v:Value) (n:Nat) (xs:List Value) (hs:a.eval s=v) (hown:wr.ownsRow base e size v n xs) (hbase:base≤wr.heap.size)
    (cs:Array Value) (m c:Nat) (hx:a.eval x = .slice (some ⟨wr.heap.size,0,none⟩) m c) (hl:cs.size=m*size) (h1:∀u∈cs.toList,u.oneCell'=true)
    (hm0:0<m) (hm:n+m≤100000000) (hb:bytes≤1000)
    (h:∀g cap w',w'.ownsRow base e size (.slice (some ⟨g,0,none⟩) (n+m) cap) (n+m) (xs++cs.toList)→wr.grownBy w' v.ownBlock→(v.ownBlock=some g∨wr.heap.size≤g)→wpList P ops Q rest (a.put o.dst (.slice (some ⟨g,0,none⟩) (n+m) cap)) w'):wpList P ops Q (o::rest) a (wr.alloc (.cells cs e)):=by
 obtain⟨i0,hi,hz0,hz1,hz2⟩:=info_parts hinfo
 refine wpList_append_lies _ hgd s x t ho base e i0 z size bytes ht hi hz0 hz1 hz2 hzs hsz v n xs hs (hown.alloc _) ⟨wr.heap.size,0,none⟩ m c cs.toList hx (by simpa using hl)
  (World.news_of_block (heap_alloc_new wr _)) h1 hm0 (by unfold maxLen;omega) (Nat.le_trans (Nat.mul_le_mul hm hb) (by decide)) (by simp;omega) _ rfl
  (λg cap w' h1 h2 h3 _=>h g cap w' h1 (grown_after h2) (h3.imp id (λe=>by rw[e];simp)))
theorem infoByte:(Tryz.prog.info? 5).map (λi=>(i.zero,i.size,i.bytes))=some (some (.int .u8 0),1,1):=by kernel_rfl
theorem one_u8 (x:Int):∀u∈(#[Value.int .u8 x]:Array Value).toList,u.oneCell'=true:=by
 intro u hu;simp at hu;subst hu;rfl
theorem own_base {w:World} {B B':Nat} {e:TypeId} {size:Nat} {v:Value} {n:Nat} {xs:List Value} (h:w.ownsRow B e size v n xs) (hB:B'≤B):w.ownsRow B' e size v n xs:=by
 refine⟨h.1,?_⟩
 rcases h.2 with h0 | ⟨g,cap,cur,rfl,hb,rest⟩
 ·exact .inl h0
 ·exact .inr ⟨g,cap,cur,rfl,Nat.le_trans hB hb,rest⟩
def strK (l:List UInt8):ByteArray:=⟨l.toArray⟩
theorem conv_row {w:World} {base:Nat} {v:Value} {l:List UInt8} (h:w.ownsRow base 5 1 v l.length (Lib.byteCells l)):(convert 197 9 v).run Tryz.prog w = .ok (.string (strK l)) w:=by
 have he:Tryz.prog.underlying 5=some (.int .u8):=by kernel_rfl
 have hd:Tryz.prog.underlying 9=some .string:=by kernel_rfl
 rcases h.2 with⟨rfl,h0⟩ | ⟨g,cap,cur,rfl,_,hg,_,_,_,htake⟩
 ·obtain rfl:l=[]:=List.eq_nil_of_length_eq_zero h0
  exact Lib.run_convert_nil_bytes w 197 9 5 0 Tryz.underlying197 he hd
 ·exact run_convert_bytes_back w 197 9 5 ⟨g,0,none⟩ cap l Tryz.underlying197 he hd (Lib.bytes_of_row hg (by simpa using htake))
def Fresh (w:World) (v v':Value):Prop:=v'.ownBlock=v.ownBlock∨∀g,v'.ownBlock=some g→w.heap.size≤g
theorem Fresh.refl (w:World) (v:Value):Fresh w v v:=.inl rfl
theorem own_type {w:World} {base e size g:Nat} {v:Value} {n:Nat} {xs:List Value} (h:w.ownsRow base e size v n xs) (hg:v.ownBlock=some g):∃cur,w.heap[g]?=some (.cells cur e (0,0)):=by
 rcases h.2 with⟨h0,_⟩ | ⟨g',cap,cur,h0,_,hg',_⟩
 ·rw[h0]at hg;cases hg
 ·rw[h0]at hg
  injection hg with hg
  subst hg
  exact⟨_,hg'⟩
theorem own_ne {w:World} {base e size c C:Nat} {v:Value} {n:Nat} {xs:List Value} (h:w.ownsRow base e size v n xs) {cs:Array Value} (hc:w.heap[c]?=some (.cells cs C (0,0))) (hne:e≠C):v.ownBlock≠some c:=λhg=>by
 obtain⟨cur,h1⟩:=own_type h hg
 rw[hc]at h1
 injection h1 with h1
 injection h1 with _ h1
 exact hne h1.symm
theorem own_apart {w:World} {base base' e e' size size':Nat} {v u:Value} {n m:Nat} {xs ys:List Value} (h:w.ownsRow base e size v n xs) (k:w.ownsRow base' e' size' u m ys) (hne:e≠e'):∀g,u.ownBlock=some g→v.ownBlock≠some g:=λg hg hv=>by
 obtain⟨cur,h1⟩:=own_type h hv
 obtain⟨cur',h2⟩:=own_type k hg
 rw[h1]at h2
 injection h2 with h2
 injection h2 with _ h2
 exact hne h2
theorem blk_lt {w:World} {c:Nat} {o:Obj} (h:w.heap[c]?=some o):c<w.heap.size:=by
 rcases Nat.lt_or_ge c w.heap.size with h' | h'
 ·exact h'
 ·rw[Array.getElem?_eq_none h']at h;cases h
theorem slice_form {w:World} {base e size:Nat} {v:Value} {n:Nat} {xs:List Value} (h:w.ownsRow base e size v n xs):∃A cp,v = .slice A n cp:=by
 rcases h.2 with⟨rfl,h0⟩ | ⟨g,cp,cur,rfl,_⟩
 ·exact⟨none,0,by rw[h0]⟩
 ·exact⟨_,cp,rfl⟩
theorem own_drew {w:World} {base e size:Nat} {v:Value} {n:Nat} {xs:List Value} (h:w.ownsRow base e size v n xs):w.drew.ownsRow base e size v n xs:=h
theorem one_int (k:IntKind) (x:Int):∀u∈(#[Value.int k x]:Array Value).toList,u.oneCell'=true:=by
 intro u hu;simp at hu;subst hu;rfl
end Go.Proofs.YtefhfadjajcmkaaGreatDoor
