/- The reference's difference of digits. -/
import Derived.Test.YtefhfadjajcmkaaGreatDoorK1
import Derived.Test.YtefhfadjajcmkaaGreatDoorK0
import Derived.Test.YtefhfadjajcmkaaGreatDoorL0
set_option linter.unusedVariables false
set_option linter.unusedSimpArgs false
set_option maxRecDepth 100000
set_option maxHeartbeats 8000000
namespace Go.Proofs.YtefhfadjajcmkaaGreatDoor
open Go Go.RowKit
open Go.Lib (hid cell_of_heap)
def valU (c:UInt8):Nat:=c.toNat-48
def digB (c:UInt8):Bool:=digN c.toNat
theorem digB_iff {c:UInt8}:digB c=true↔48≤c.toNat∧c.toNat≤57:=by unfold digB digN;exact decide_eq_true_iff
theorem digU_val {c:UInt8} (h:digB c=true):digU (valU c)=c:=by
 have:=digB_iff.1 h
 unfold digU valU
 apply UInt8.toNat_inj.1
 rw[UInt8.toNat_ofNat']
 have:48+(c.toNat-48)=c.toNat:=by omega
 rw[this]
 exact Nat.mod_eq_of_lt (by omega)
theorem valU_zero {c:UInt8} (h:digB c=true):valU c=0↔c=48:=by
 have:=digB_iff.1 h
 unfold valU
 constructor
 ·intro e;exact UInt8.toNat_inj.1 (by show c.toNat=48;omega)
 ·intro e;subst e;rfl
theorem ten_contains (c:UInt8):ten.contains c=digB c:=by
 have h:∀n:Fin 256,ten.contains (UInt8.ofNat n.val)=digN n.val:=by decide +kernel
 have h2:=h ⟨c.toNat,c.toNat_lt⟩
 have e:UInt8.ofNat c.toNat=c:=UInt8.ofNat_toNat
 rw[show (⟨c.toNat,c.toNat_lt⟩:Fin 256).val=c.toNat from rfl,e]at h2
 exact h2
def numL (l:List UInt8):Bool:=!l.isEmpty&&l.all digB
theorem dropWhile_nil {α : Type} (p:α → Bool) (l:List α):l.dropWhile p=[]↔l.all p=true:=by
 induction l with
 | nil=>simp
 | cons c l ih=>
  rw[List.dropWhile_cons]
  cases h:p c
  ·simp[h]
  ·simp[h,ih]
theorem trimS_nil (l cs:List UInt8):Lib.trimS l cs=[]↔l.all (cs.contains ·)=true:=by
 unfold Lib.trimS Lib.trimLeftS Lib.trimRightS
 rw[dropWhile_nil,List.all_reverse]
 constructor
 ·intro h
  have h2:l.reverse.dropWhile (cs.contains ·)=[]:=by
   cases hd:l.reverse.dropWhile (cs.contains ·) with
   | nil=>rfl
   | cons c r=>
    have:=List.head_dropWhile_not (cs.contains ·) (l:=l.reverse) (by rw[hd];simp)
    rw[hd]at h
    have hc:cs.contains c=true:=by simp only[List.all_cons,Bool.and_eq_true]at h;exact h.1
    simp only[hd,List.head_cons]at this
    rw[hc]at this;cases this
  have:=(dropWhile_nil _ _).1 h2
  rwa [List.all_reverse]at this
 ·intro h
  have:l.reverse.dropWhile (cs.contains ·)=[]:=(dropWhile_nil _ _).2 (by rw[List.all_reverse];exact h)
  rw[this];rfl
theorem toList_mk (l:List UInt8):(⟨l.toArray⟩:ByteArray).data.toList=l:=rfl
theorem isEmpty_of_data (s:ByteArray):s.toList.isEmpty=s.data.toList.isEmpty:=by
 rw[show s.toList=s.data.toList from Lib.toList_data s]
theorem numT_eq (s:ByteArray):numT s=numL s.data.toList:=by
 unfold numT numL
 rw[isEmpty_of_data,isEmpty_of_data,toList_mk]
 congr 1
 have h:=trimS_nil s.data.toList ten
 have e:(s.data.toList.all (ten.contains ·))=s.data.toList.all digB:=by
  congr 1;funext c;exact ten_contains c
 rw[e]at h
 cases hb:s.data.toList.all digB
 ·rw[hb]at h
  cases ht:Lib.trimS s.data.toList ten
  ·exact absurd (h.1 ht) (by simp)
  ·rfl
 ·rw[hb]at h
  rw[h.2 rfl];rfl
theorem index_no {l:List UInt8} (h:46∉l):Lib.index l [46] = -1:=by
 induction l with
 | nil=>rfl
 | cons c l ih=>
  unfold Lib.index
  have hc:(46:UInt8)≠c:=λe=>h (by rw[e];exact List.mem_cons_self)
  have hp:[46].isPrefixOf (c::l)=false:=by simp[List.isPrefixOf,hc]
  rw[hp,ih (λe=>h (List.mem_cons_of_mem _ e))]
  rfl
theorem index_yes {a b:List UInt8} (h:46∉a):Lib.index (a++46::b) [46]=a.length:=by
 induction a with
 | nil=>show Lib.index (46::b) [46]=_;unfold Lib.index;simp[List.isPrefixOf]
 | cons c a ih=>
  show Lib.index (c::(a++46::b)) [46]=_
  unfold Lib.index
  have hc:(46:UInt8)≠c:=λe=>h (by rw[e];exact List.mem_cons_self)
  have hp:[46].isPrefixOf (c::(a++46::b))=false:=by simp[List.isPrefixOf,hc]
  rw[hp,ih (λe=>h (List.mem_cons_of_mem _ e))]
  have:((a.length:Int) == -1)=false:=by rw[beq_eq_false_iff_ne];omega
  rw[this]
  simp
theorem cut_no {l:List UInt8} (h:46∉l):Lib.cut l [46]=(l,[],false):=by
 unfold Lib.cut
 rw[index_no h]
 rfl
theorem cut_yes {a b:List UInt8} (h:46∉a):Lib.cut (a++46::b) [46]=(a,b,true):=by
 unfold Lib.cut
 rw[index_yes h,if_pos (by omega)]
 simp
theorem split_dot (l:List UInt8):46∉l∨∃a b,l=a++46::b∧46∉a:=by
 induction l with
 | nil=>exact .inl (by simp)
 | cons c l ih=>
  by_cases hc:c=46
  ·exact .inr ⟨[],l,by rw[hc];rfl,by simp⟩
  ·rcases ih with h | ⟨a,b,h,ha⟩
   ·exact .inl (λe=>by rcases List.mem_cons.1 e with e | e;exact hc e.symm;exact h e)
   ·exact .inr ⟨c::a,b,by rw[h];rfl,λe=>by rcases List.mem_cons.1 e with e | e;exact hc e.symm;exact ha e⟩
theorem pointF_some (l:List UInt8):∀(i j:Nat),pointF l i (some j)=cond (l.all digB) (some (some j)) none:=by
 induction l with
 | nil=>intro i j;rfl
 | cons c l ih=>
  intro i j
  unfold pointF
  rw[show (c==46&&(some j).isNone)=false by simp]
  simp only[ih]
  show cond false _ (cond (digB c) _ _)=_
  rw[List.all_cons]
  cases digB c<;>rfl
theorem pointF_no (l:List UInt8) (h:46∉l):∀(i:Nat),pointF l i none=cond (l.all digB) (some none) none:=by
 induction l with
 | nil=>intro i;rfl
 | cons c l ih=>
  intro i
  unfold pointF
  have hc:(c==46)=false:=beq_eq_false_iff_ne.2 (λe=>h (by rw[e];exact List.mem_cons_self))
  rw[hc,ih (λe=>h (List.mem_cons_of_mem _ e))]
  show cond (digB c) _ _=_
  rw[List.all_cons]
  cases digB c<;>rfl
theorem pointF_yes (a b:List UInt8) (h:46∉a):∀(i:Nat),pointF (a++46::b) i none=cond (a.all digB&&b.all digB) (some (some (i+a.length))) none:=by
 induction a with
 | nil=>
  intro i
  show pointF (46::b) i none=_
  unfold pointF
  rw[show ((46:UInt8)==46&&(none:Option Nat).isNone)=true by rfl]
  rw[pointF_some]
  rfl
 | cons c a ih=>
  intro i
  show pointF (c::(a++46::b)) i none=_
  unfold pointF
  have hc:(c==46)=false:=beq_eq_false_iff_ne.2 (λe=>h (by rw[e];exact List.mem_cons_self))
  rw[hc,ih (λe=>h (List.mem_cons_of_mem _ e))]
  show cond (digB c) _ _=_
  rw[List.all_cons,show i+1+a.length=i+(c::a).length by simp;omega]
  cases digB c<;>rfl
theorem digs_no {l:List UInt8} (h:46∉l):digsD l=(l.map valU).reverse:=by
 induction l with
 | nil=>rfl
 | cons c l ih=>
  unfold digsD
  have hc:(c==46)=false:=beq_eq_false_iff_ne.2 (λe=>h (by rw[e];exact List.mem_cons_self))
  rw[hc,ih (λe=>h (List.mem_cons_of_mem _ e))]
  simp[valU]
theorem digs_app (a b:List UInt8):digsD (a++b)=digsD b++digsD a:=by
 induction a with
 | nil=>simp[digsD]
 | cons c a ih=>simp[digsD,ih]
theorem no46 {l:List UInt8} (h:l.all digB=true):46∉l:=λe=>by
 have:=List.all_eq_true.1 h _ e
 cases this
theorem digs_yes {a b:List UInt8} (ha:a.all digB=true) (hb:b.all digB=true):digsD (a++46::b)=((a++b).map valU).reverse:=by
 rw[digs_app,digs_no (no46 ha)]
 show (digsD b++[])++_=_
 rw[digs_no (no46 hb)]
 simp
def revD (d:List UInt8):List Nat:=(d.map valU).reverse
theorem revD_length (d:List UInt8):(revD d).length=d.length:=by simp[revD]
theorem atD_rev (d:List UInt8) {i:Nat} (h:i<d.length):atD (revD d) i=valU (d[d.length-1-i]'(by omega)):=by
 unfold atD revD
 rw[List.getElem?_reverse (by simpa using h)]
 simp only[List.length_map,List.getElem?_map]
 rw[List.getElem?_eq_getElem (by omega)]
 rfl
theorem atD_a (a b:List UInt8) {i:Nat} (h:i<a.length):atD (revD (a++b)) (b.length+i)=valU (a[a.length-1-i]'(by omega)):=by
 rw[atD_rev _ (by simp;omega)]
 congr 1
 rw[List.getElem_append_left (by simp;omega)]
 congr 1
 simp;omega
theorem atD_b (a b:List UInt8) {i:Nat} (h:i<b.length):atD (revD (a++b)) i=valU (b[b.length-1-i]'(by omega)):=by
 rw[atD_rev _ (by simp;omega)]
 congr 1
 rw[List.getElem_append_right (by simp;omega)]
 congr 1
 simp;omega
def zeroB (c:UInt8):Bool:=[48].contains c
theorem zeroB_iff {c:UInt8}:zeroB c=true↔c=48:=by unfold zeroB;simp
theorem high_aux (D:List Nat) (S:Nat):∀a:List UInt8,a.all digB=true→(∀(i:Nat) (h:i<a.length),atD D (S+i)=valU (a[a.length-1-i]'(by omega))) →
    max (highF D S (S+a.length)) (S+1)=S+max 1 (a.dropWhile zeroB).length:=by
 intro a
 induction a with
 | nil=>intro _ _;have:=highF_le D S (S+0);simp at this ⊢;omega
 | cons c a ih=>
  intro hd ha
  rw[List.all_cons,Bool.and_eq_true]at hd
  have h0:=ha a.length (by simp)
  have h0:atD D (S+a.length)=valU c:=by rw[h0];simp
  rw[show S+(c::a).length=(S+a.length)+1 by simp;omega]
  unfold highF
  rw[h0,List.dropWhile_cons]
  have hz:=valU_zero hd.1
  by_cases hc:c=48
  ·rw[if_pos (zeroB_iff.2 hc)]
   cases a with
   | nil=>
    rw[if_neg (by simp)]
    simp
   | cons e a=>
    rw[if_pos ⟨by simp,hz.2 hc⟩]
    refine ih hd.2 (λi h=>?_)
    rw[ha i (by simp at h ⊢;omega)]
    congr 1
    rw[List.getElem_cons]
    rw[dif_neg (by simp at h ⊢;omega)]
    congr 1
    simp at h ⊢;omega
  ·rw[if_neg (λe=>hc (hz.1 e.2)),if_neg (λe=>hc (zeroB_iff.1 e))]
   simp;omega
theorem low_aux (D:List Nat) (S:Nat):∀(r:List UInt8) (k:Nat),r.all digB=true→k+r.length=S→(∀(i:Nat) (h:i<r.length),atD D (k+i)=valU r[i]) →
    lowF D S r.length k=S-(r.dropWhile zeroB).length:=by
 intro r
 induction r with
 | nil=>intro k _ hk _;simp[lowF]at hk ⊢;omega
 | cons c r ih=>
  intro k hd hk ha
  rw[List.all_cons,Bool.and_eq_true]at hd
  have h0:atD D k=valU c:=ha 0 (by simp)
  have hz:=valU_zero hd.1
  show lowF D S (r.length+1) k=_
  unfold lowF
  rw[h0,List.dropWhile_cons]
  simp only[List.length_cons]at hk
  by_cases hc:c=48
  ·rw[if_pos (zeroB_iff.2 hc),if_pos ⟨by omega,hz.2 hc⟩]
   refine ih (k+1) hd.2 (by omega) (λi h=>?_)
   have:=ha (i+1) (by simp;omega)
   rw[show k+(i+1)=k+1+i by omega]at this
   rw[this];rfl
  ·rw[if_neg (λe=>hc (hz.1 e.2)),if_neg (λe=>hc (zeroB_iff.1 e))]
   simp;omega
theorem down_aux (D:List Nat) (lo:Nat):∀a:List UInt8,a.all digB=true→(∀(i:Nat) (h:i<a.length),atD D (lo+i)=valU (a[a.length-1-i]'(by omega)))→downD D (lo+a.length) lo=a:=by
 intro a hd ha
 unfold downD
 rw[show lo+a.length-lo=a.length by omega]
 refine List.ext_getElem (by simp) (λi h1 h2=>?_)
 simp only[List.getElem_map,List.getElem_range]
 rw[show lo+a.length-1-i=lo+(a.length-1-i) by omega,ha _ (by omega)]
 have e:a[a.length-1-(a.length-1-i)]'(by omega)=a[i]:=by congr 1;omega
 rw[e]
 exact digU_val (List.all_eq_true.1 hd _ (List.getElem_mem h2))
theorem drop_while_suffix (p:UInt8→Bool) (a:List UInt8):a.dropWhile p=a.drop (a.length-(a.dropWhile p).length):=by
 induction a with
 | nil=>rfl
 | cons c a ih=>
  rw[List.dropWhile_cons]
  by_cases h:p c=true
  ·rw[if_pos h]
   have:(a.dropWhile p).length≤a.length:=by rw[ih];simp
   rw[show (c::a).length-(a.dropWhile p).length=(a.length-(a.dropWhile p).length)+1 by simp;omega]
   exact ih
  ·rw[if_neg h];simp
theorem all_zero {a:List UInt8} (hd:a.all digB=true):a.all zeroB=(a.map valU).all (· == 0):=by
 induction a with
 | nil=>rfl
 | cons c a ih=>
  rw[List.all_cons,Bool.and_eq_true]at hd
  rw[List.map_cons,List.all_cons,List.all_cons,ih hd.2]
  congr 1
  have hz:=valU_zero hd.1
  rw[Bool.eq_iff_iff,zeroB_iff,beq_iff_eq]
  exact hz.symm
theorem form_told (neg:Bool) (a b:List UInt8) (ha:numL a=true) (hb:b.all digB=true) :
    ((⟨(toldT neg (a++b) b.length).1.toArray⟩:ByteArray),(toldT neg (a++b) b.length).2)=(cond (formOut (revD (a++b)) b.length) ⟨#[]⟩ (formT neg (revD (a++b)) b.length),cond (formOut (revD (a++b)) b.length) 2 0):=by
 obtain⟨hne,hda⟩:a≠[]∧a.all digB=true:=by
  unfold numL at ha
  rw[Bool.and_eq_true]at ha
  exact⟨by rintro rfl;simp at ha,ha.2⟩
 have hapos:0<a.length:=List.length_pos_iff.2 hne
 have hpad:padT (a++b) b.length=a++b:=by unfold padT;rw[if_neg (by simp;omega)]
 have hlen:(a++b).length-b.length=a.length:=by simp
 have hw:wholeT (a++b) b.length=a.dropWhile zeroB:=by
  unfold wholeT
  rw[hpad,hlen]
  simp only[List.take_left']
  rfl
 have hp:partT (a++b) b.length=(b.reverse.dropWhile zeroB).reverse:=by
  unfold partT
  rw[hpad,hlen]
  simp only[List.drop_left']
  rfl
 have hA:∀(i:Nat) (h:i<a.length),atD (revD (a++b)) (b.length+i)=valU (a[a.length-1-i]'(by omega)):=λi h=>atD_a a b h
 have hB:∀(i:Nat) (h:i<b.length),atD (revD (a++b)) i=valU (b[b.length-1-i]'(by omega)):=λi h=>atD_b a b h
 have hhigh:highD (revD (a++b)) b.length=b.length+max 1 (a.dropWhile zeroB).length:=by
  unfold highD
  rw[revD_length,show (a++b).length=b.length+a.length by simp;omega]
  exact high_aux _ _ a hda hA
 have hlow:lowD (revD (a++b)) b.length=b.length-(b.reverse.dropWhile zeroB).length:=by
  unfold lowD
  have:=low_aux (revD (a++b)) b.length b.reverse 0 (by rw[List.all_reverse];exact hb) (by simp) (λi h=>by
   rw[Nat.zero_add,hB i (by simpa using h)]
   congr 1
   rw[List.getElem_reverse])
  simpa using this
 have hbl:(b.reverse.dropWhile zeroB).length≤b.length:=by
  rw[drop_while_suffix];simp
 have hal:(a.dropWhile zeroB).length≤a.length:=by
  rw[drop_while_suffix];simp
 have hout:formOut (revD (a++b)) b.length=decide (40<(a.dropWhile zeroB).length∨20<(b.reverse.dropWhile zeroB).length):=by
  unfold formOut
  rw[hhigh,hlow,Bool.eq_iff_iff,Bool.or_eq_true,decide_eq_true_iff,decide_eq_true_iff,decide_eq_true_iff]
  omega
 have hzero:zeroD (revD (a++b))=(decide (a.dropWhile zeroB=[])&&decide (b.reverse.dropWhile zeroB=[])):=by
  unfold zeroD revD
  rw[List.all_reverse,←all_zero (by rw[List.all_append,hda,hb];rfl),List.all_append,Bool.eq_iff_iff,Bool.and_eq_true,Bool.and_eq_true,decide_eq_true_iff,decide_eq_true_iff,dropWhile_nil,dropWhile_nil,List.all_reverse]
 have hdown1:downD (revD (a++b)) (b.length+max 1 (a.dropWhile zeroB).length) b.length=if a.dropWhile zeroB=[] then [48] else a.dropWhile zeroB:=by
  have key:∀c:List UInt8,(∃e,a=e++c)→downD (revD (a++b)) (b.length+c.length) b.length=c:=λc hc=>by
   obtain⟨e,he⟩:=hc
   refine down_aux _ _ c ?_ (λi h=>?_)
   ·rw[he,List.all_append,Bool.and_eq_true]at hda;exact hda.2
   ·rw[hA i (by rw[he];simp;omega)]
    congr 1
    subst he
    rw[List.getElem_append_right (by simp;omega)]
    congr 1
    simp;omega
  by_cases hn:a.dropWhile zeroB=[]
  ·rw[if_pos hn,hn]
   have haz:=(dropWhile_nil _ _).1 hn
   obtain⟨e,c,he⟩:∃e c,a=e++[c]:=⟨a.dropLast,a.getLast hne,(List.dropLast_concat_getLast hne).symm⟩
   have hc:c=48:=zeroB_iff.1 (List.all_eq_true.1 haz c (by rw[he];simp))
   have:=key [c] ⟨e,he⟩
   rw[hc]at this
   exact this
  ·rw[if_neg hn]
   have hpos:=List.length_pos_iff.2 hn
   rw[show max 1 (a.dropWhile zeroB).length=(a.dropWhile zeroB).length by omega]
   exact key _ ⟨a.takeWhile zeroB,List.takeWhile_append_dropWhile.symm⟩
 have hdown2:downD (revD (a++b)) b.length (b.length-(b.reverse.dropWhile zeroB).length)=(b.reverse.dropWhile zeroB).reverse:=by
  obtain⟨c,e,hbe,hcr⟩:∃c e,b=c++e∧c=(b.reverse.dropWhile zeroB).reverse:=⟨(b.reverse.dropWhile zeroB).reverse,(b.reverse.takeWhile zeroB).reverse,by
   rw[←List.reverse_append,List.takeWhile_append_dropWhile,List.reverse_reverse],rfl⟩
  have hcl:(b.reverse.dropWhile zeroB).length=c.length:=by rw[hcr];simp
  rw[←hcr,hcl]
  have hbl2:b.length=c.length+e.length:=by rw[hbe];simp
  have:=down_aux (revD (a++b)) (b.length-c.length) c (by rw[hbe,List.all_append,Bool.and_eq_true]at hb;exact hb.1) (λi h=>by
   rw[hB _ (by omega)]
   congr 1
   have:b[b.length-1-(b.length-c.length+i)]'(by omega)=(c++e)[b.length-1-(b.length-c.length+i)]'(by simp;omega):=by congr 1
   rw[this,List.getElem_append_left (by omega)]
   congr 1
   omega)
  rwa [show b.length-c.length+c.length=b.length by omega]at this
 rw[hout]
 unfold toldT
 rw[hw,hp]
 simp only[List.length_reverse,List.reverse_eq_nil_iff]
 by_cases h1:40<(a.dropWhile zeroB).length∨20<(b.reverse.dropWhile zeroB).length
 ·rw[if_pos h1,decide_eq_true h1];rfl
 ·rw[if_neg h1,decide_eq_false h1]
  unfold formT
  rw[hzero,hhigh,hlow,hdown1,hdown2]
  have hls:decide (b.length-(b.reverse.dropWhile zeroB).length=b.length)=decide (b.reverse.dropWhile zeroB=[]):=by
   rw[decide_eq_decide]
   constructor
   ·intro h
    by_cases hb0:b.length=0
    ·have:b=[]:=List.eq_nil_of_length_eq_zero hb0
     subst this;rfl
    ·exact List.eq_nil_of_length_eq_zero (by omega)
   ·intro h;rw[h];rfl
  rw[hls]
  by_cases hwn:a.dropWhile zeroB=[]<;>by_cases hpn:b.reverse.dropWhile zeroB=[]
  ·rw[if_pos ⟨hwn,hpn⟩]
   simp[hwn,hpn]
  ·rw[if_neg (λh=>hpn h.2)]
   cases neg<;>simp[hwn,hpn]
  ·rw[if_neg (λh=>hwn h.1)]
   cases neg<;>simp[hwn,hpn]
  ·rw[if_neg (λh=>hwn h.1)]
   cases neg<;>simp[hwn,hpn]
def progT (s:ByteArray):List UInt8×Int:=
 let c:=Lib.cut (sgnT s).data.toList [46]
 if numL c.1=true∧(c.2.2=true→numL c.2.1=true) then toldT (sgnB s) (c.1++c.2.1) c.2.1.length else ([],6)
theorem prog_read (s:ByteArray):((⟨(progT s).1.toArray⟩:ByteArray),(progT s).2)=readT s:=by
 unfold progT readT parseT
 have hsz:=data_len (sgnT s)
 generalize hl:(sgnT s).data.toList=l at hsz
 rw[←hsz]
 simp only
 rcases split_dot l with h | ⟨a,b,h,hab⟩
 ·rw[cut_no h,pointF_no l h]
  cases hd:l.all digB
  ·rw[if_neg (by intro e;have:=e.1;unfold numL at this;rw[hd]at this;simp at this)]
   rfl
  ·simp only[cond_true]
   by_cases h0:l=[]
   ·subst h0;rfl
   ·have hn:numL l=true:=by unfold numL;rw[hd];cases l<;>simp_all
    rw[if_pos ⟨hn,λe=>by cases e⟩]
    have hlp:=List.length_pos_iff.2 h0
    rw[show (decide (l.length=0) || (none:Option Nat)==some 0 || (none:Option Nat)==some (l.length-1))=false by
     rw[decide_eq_false (by omega)];rfl]
    have:=form_told (sgnB s) l [] hn rfl
    rw[digs_no (no46 hd)]
    simp only[List.append_nil,List.length_nil]at this ⊢
    exact this
 ·rw[h,cut_yes hab,pointF_yes a b hab]
  by_cases hd:(a.all digB&&b.all digB)=true
  ·obtain⟨hda,hdb⟩:=Bool.and_eq_true_iff.1 hd
   rw[hda,hdb]
   simp only[Bool.and_self,cond_true,Nat.zero_add]
   have e1:(decide ((a++46::b).length=0) || (some a.length==some 0) || (some a.length==some ((a++46::b).length-1)))=(decide (a=[]) || decide (b=[])):=by
    rw[Bool.eq_iff_iff]
    simp only[Bool.or_eq_true,decide_eq_true_iff,List.length_append,List.length_cons,beq_iff_eq,Option.some.injEq,←List.length_eq_zero_iff]
    omega
   rw[e1]
   by_cases ha0:a=[]
   ·rw[if_neg (by rintro⟨e,_⟩;subst ha0;cases e)]
    rw[decide_eq_true ha0];rfl
   ·by_cases hb0:b=[]
    ·rw[if_neg (by rintro⟨_,e⟩;subst hb0;exact absurd (e trivial) (by decide))]
     simp[hb0]
    ·have hna:numL a=true:=by unfold numL;rw[hda];cases a<;>simp_all
     have hnb:numL b=true:=by unfold numL;rw[hdb];cases b<;>simp_all
     rw[if_pos ⟨hna,λ_=>hnb⟩,decide_eq_false ha0,decide_eq_false hb0]
     simp only[Bool.or_self,cond_false]
     rw[digs_yes hda hdb]
     have e2:scaleP (a++46::b).length (some a.length)=b.length:=by unfold scaleP;simp
     rw[e2]
     exact form_told (sgnB s) a b hna hdb
  ·have hd:(a.all digB&&b.all digB)=false:=by simpa using hd
   rw[hd]
   simp only[cond_false]
   rw[if_neg]
   rintro⟨e1,e2⟩
   have e2:=e2 trivial
   unfold numL at e1 e2
   rw[Bool.and_eq_true]at e1 e2
   rw[e1.2,e2.2]at hd
   cases hd
end Go.Proofs.YtefhfadjajcmkaaGreatDoor
namespace Go.Proofs.YtefhfadjajcmkaaGreatDoor
open Go.Lib (hid cell_of_heap)
def bW:Nat:=1000000000
def pv (f:Nat→Nat):Nat→Nat
 | 0=>0
 | i+1=>pv f i+f i*bW ^ i
theorem pv_congr {f g:Nat→Nat} {n:Nat} (h:∀i,i<n→f i=g i):pv f n=pv g n:=by
 induction n with
 | zero=>rfl
 | succ n ih=>rw[pv,pv,ih (λi hi=>h i (by omega)),h n (by omega)]
theorem pv_lt {f:Nat→Nat} {n:Nat} (h:∀i,i<n→f i<bW):pv f n<bW ^ n:=by
 induction n with
 | zero=>simp[pv]
 | succ n ih=>
  have h1:=ih (λi hi=>h i (by omega))
  have h2:=h n (by omega)
  rw[pv,Nat.pow_succ]
  have h3:(f n+1)*bW ^ n≤bW*bW ^ n:=Nat.mul_le_mul_right _ h2
  rw[Nat.succ_mul]at h3
  rw[Nat.mul_comm (bW ^ n) bW]
  omega
theorem pv_add {f g o:Nat→Nat} {i c:Nat} (h:pv o i+c*bW ^ i=pv f i+pv g i) (ho:o i=(f i+g i+c) % bW) :
    pv o (i+1)+(f i+g i+c) / bW*bW ^ (i+1)=pv f (i+1)+pv g (i+1):=by
 have e:=Nat.div_add_mod (f i+g i+c) bW
 have e2:(o i+bW*((f i+g i+c) / bW))*bW ^ i=(f i+g i+c)*bW ^ i:=by
  rw[ho,Nat.add_comm,e]
 rw[pv,pv,pv,Nat.pow_succ]
 rw[Nat.add_mul,Nat.mul_assoc]at e2
 rw[Nat.add_mul,Nat.add_mul]at e2
 have e3:(f i+g i+c) / bW*(bW ^ i*bW)=bW*((f i+g i+c) / bW*bW ^ i):=by
  rw[←Nat.mul_assoc,Nat.mul_comm]
 rw[e3]
 omega
theorem pv_sub {f g o:Nat→Nat} {i b:Nat} (h:pv o i+pv g i=pv f i+b*bW ^ i) (hg:g i<bW) (hb:b≤1) (hf:f i<bW) (ho:o i=(f i+bW-g i-b) % bW) :
    pv o (i+1)+pv g (i+1)=pv f (i+1)+(1-(f i+bW-g i-b) / bW)*bW ^ (i+1)∧(f i+bW-g i-b) / bW≤1:=by
 have hx:f i+bW-g i-b<bW*2:=by omega
 have e:=Nat.div_add_mod (f i+bW-g i-b) bW
 have hd:(f i+bW-g i-b) / bW≤1:=Nat.le_of_lt_succ (Nat.div_lt_of_lt_mul hx)
 refine⟨?_,hd⟩
 have e4:o i+g i+b=f i+(1-(f i+bW-g i-b) / bW)*bW:=by
  rw[ho]
  rcases Nat.lt_or_ge ((f i+bW-g i-b) / bW) 1 with h1 | h1
  ·have h2:(f i+bW-g i-b) / bW=0:=Nat.lt_one_iff.1 h1
   rw[h2]at e ⊢
   omega
  ·have h2:(f i+bW-g i-b) / bW=1:=Nat.le_antisymm hd h1
   rw[h2]at e ⊢
   omega
 rw[pv,pv,pv,Nat.pow_succ]
 have e5:=congrArg (· * bW ^ i) e4
 simp only[Nat.add_mul,Nat.mul_assoc]at e5
 have e6:(1-(f i+bW-g i-b) / bW)*(bW ^ i*bW)=(1-(f i+bW-g i-b) / bW)*(bW*bW ^ i):=by rw[Nat.mul_comm (bW ^ i)]
 rw[e6]
 omega
theorem pv_sub_end {f g o:Nat→Nat} {n b:Nat} (h:pv o n+pv g n=pv f n+b*bW ^ n) (ho:∀i,i<n→o i<bW) (hle:pv g n≤pv f n):pv o n=pv f n-pv g n:=by
 have h1:=pv_lt ho
 rcases Nat.eq_zero_or_pos b with h2 | h2
 ·subst h2;omega
 ·have h3:1*bW ^ n≤b*bW ^ n:=Nat.mul_le_mul_right _ h2
  omega
theorem pv_cmp {f g:Nat→Nat} {n i:Nat} (hf:∀j,j<n→f j<bW) (hi:i<n) (he:∀j,i<j→j<n→f j=g j) (hlt:f i<g i):pv f n<pv g n:=by
 induction n with
 | zero=>omega
 | succ n ih=>
  rw[pv,pv]
  by_cases e:i=n
  ·subst e
   have h1:=pv_lt (f:=f) (n:=i) (λj hj=>hf j (by omega))
   have h2:(f i+1)*bW ^ i≤g i*bW ^ i:=Nat.mul_le_mul_right _ hlt
   rw[Nat.succ_mul]at h2
   omega
  ·have:=ih (λj hj=>hf j (by omega)) (by omega) (λj h1 h2=>he j h1 (by omega))
   rw[he n (by omega) (by omega)]
   omega
def digV:List UInt8→Nat:=λl=>l.foldl (λn c=>n*10+(c.toNat-48)) 0
theorem dig_snoc (l:List UInt8) (c:UInt8):digV (l++[c])=digV l*10+(c.toNat-48):=by simp[digV]
theorem dig_from (m:List UInt8):∀n:Nat,m.foldl (λn c=>n*10+(c.toNat-48)) n=n*10 ^ m.length+digV m:=by
 induction m with
 | nil=>intro n;simp[digV]
 | cons c r ih=>
  intro n
  have h1:=ih (n*10+(c.toNat-48))
  have h2:=ih (0*10+(c.toNat-48))
  rw[List.foldl_cons,h1]
  show _=n*10 ^ (r.length+1)+(c::r).foldl (λn c=>n*10+(c.toNat-48)) 0
  rw[List.foldl_cons,h2,Nat.pow_succ,Nat.add_mul,Nat.mul_assoc,Nat.mul_comm 10,Nat.zero_mul,Nat.zero_add,Nat.add_assoc]
theorem dig_append (l m:List UInt8):digV (l++m)=digV l*10 ^ m.length+digV m:=by
 unfold digV
 rw[List.foldl_append]
 exact dig_from m _
end Go.Proofs.YtefhfadjajcmkaaGreatDoor
namespace Go.Proofs.YtefhfadjajcmkaaGreatDoor
open Go.Lib (hid cell_of_heap)
structure DecS (s:ByteArray) (neg:Bool) (a b:List UInt8):Prop where
 eq:s.data.toList=cond neg [45] []++(a++46::b)
 la:1≤a.length∧a.length≤40
 lb:1≤b.length∧b.length≤20
 da:a.all digB=true
 db:b.all digB=true
theorem down_dig {D:List Nat} (h9:∀i,atD D i≤9) (hi lo:Nat):(downD D hi lo).all digB=true:=by
 rw[List.all_eq_true]
 intro c hc
 obtain⟨j,_,rfl⟩:=List.mem_map.1 hc
 rw[digB_iff,digU_nat (h9 _)]
 have:=h9 (hi-1-j)
 omega
theorem dec_shape {s:ByteArray} (h:decB s=true):∃neg a b,DecS s neg a b:=by
 unfold decB at h
 rw[Bool.and_eq_true,decide_eq_true_iff,decide_eq_true_iff]at h
 obtain⟨h1,h2⟩:=h
 cases hp:parseT s with
 | none=>
  unfold readT at h1
  rw[hp]at h1
  cases h1
 | some q=>
  obtain⟨neg,D,S⟩:=q
  have h9:=(parse_some hp).1
  unfold readT at h1 h2
  rw[hp]at h1 h2
  simp only at h1 h2
  cases ho:formOut D S with
  | true=>rw[ho]at h1;cases h1
  | false=>
   rw[ho]at h2
   simp only[cond_false]at h2
   unfold formOut at ho
   rw[Bool.or_eq_false_iff,decide_eq_false_iff_not,decide_eq_false_iff_not]at ho
   have hhi:S+1≤highD D S:=Nat.le_max_right _ _
   have hlo:lowD D S≤S:=lowF_le D S S 0 (by omega)
   refine⟨neg && !zeroD D,downD D (highD D S) S,downD D S (lowD D S)++cond (decide (lowD D S=S)) [48] [],?_,?_,?_,down_dig h9 _ _,?_⟩
   ·rw[←h2]
    show (formT neg D S).data.toList=_
    unfold formT
    simp[List.append_assoc]
   ·rw[downD_length];omega
   ·rw[List.length_append,downD_length]
    by_cases e:lowD D S=S
    ·rw[decide_eq_true e]
     simp only[cond_true,List.length_singleton]
     omega
    ·rw[decide_eq_false e]
     simp only[cond_false,List.length_nil]
     omega
   ·rw[List.all_append,down_dig h9,Bool.true_and]
    by_cases e:lowD D S=S
    ·rw[decide_eq_true e];rfl
    ·rw[decide_eq_false e];rfl
def decN (s:ByteArray):Int:=
 let l:=s.data.toList
 let neg:=l.head?==some 45
 let r:=cond neg l.tail l
 let m:Int:=((digV (r.takeWhile (· != 46)++(r.dropWhile (· != 46)).tail)*10 ^ (20-((r.dropWhile (· != 46)).tail).length):Nat):Int)
 cond neg (-m) m
theorem take_dot {a b:List UInt8} (h:46∉a):(a++46::b).takeWhile (· != 46)=a∧(a++46::b).dropWhile (· != 46)=46::b:=by
 induction a with
 | nil=>simp
 | cons c r ih=>
  have hc:(c != 46)=true:=by
   rw[bne_iff_ne]
   exact λe=>h (by rw[e];exact List.mem_cons_self ..)
  have h2:=ih (λhm=>h (List.mem_cons_of_mem _ hm))
  simp[hc,h2.1,h2.2]
theorem decN_of {s:ByteArray} {neg:Bool} {a b:List UInt8} (h:DecS s neg a b):decN s=cond neg (-((digV (a++b)*10 ^ (20-b.length):Nat):Int)) ((digV (a++b)*10 ^ (20-b.length):Nat):Int):=by
 have h46:=no46 h.da
 have hne:(a++46::b).head?≠some 45:=by
  cases a with
  | nil=>exact absurd h.la.1 (by simp)
  | cons c r=>
   intro e
   have e2:c=45:=by simpa using e
   have h1:=h.da
   rw[List.all_cons,Bool.and_eq_true,digB_iff,e2]at h1
   have:=h1.1.1
   revert this
   decide
 obtain⟨t1,t2⟩:=take_dot (b:=b) h46
 unfold decN
 simp only[h.eq]
 cases neg with
 | true=>simp[t1,t2]
 | false=>
  simp only[cond_false,List.nil_append]
  have hb:((a++46::b).head?==some 45)=false:=beq_eq_false_iff_ne.2 hne
  rw[hb]
  simp only[cond_false]
  rw[t1,t2]
  rfl
def cmpD (a b:ByteArray):Int:=if decN a<decN b then -1 else if decN b<decN a then 1 else 0
theorem dig_zeros (k:Nat):digV (List.replicate k 48)=0:=by
 induction k with
 | zero=>rfl
 | succ k ih=>
  rw[List.replicate_succ',dig_snoc,ih]
  rfl
theorem dig_pad (l:List UInt8) (k:Nat):digV (l++List.replicate k 48)=digV l*10 ^ k:=by
 rw[dig_append,dig_zeros,List.length_replicate,Nat.add_zero]
theorem pv_chunk {w:Nat→Nat} {l r:List UInt8} {i:Nat} (h:pv w i+digV r*bW ^ i=digV l) (hw:w i=digV (r.drop (r.length-9))):pv w (i+1)+digV (r.take (r.length-9))*bW ^ (i+1)=digV l:=by
 have e:=dig_append (r.take (r.length-9)) (r.drop (r.length-9))
 rw[List.take_append_drop,←hw]at e
 have e2:digV (r.take (r.length-9))*10 ^ (r.drop (r.length-9)).length=digV (r.take (r.length-9))*bW:=by
  rcases Nat.lt_or_ge r.length 9 with h1 | h1
  ·have h2:r.length-9=0:=by omega
   rw[h2,List.take_zero]
   simp[digV]
  ·have h2:(r.drop (r.length-9)).length=9:=by rw[List.length_drop];omega
   rw[h2];rfl
 rw[e2]at e
 rw[pv,Nat.pow_succ,←h,e,Nat.add_mul,Nat.mul_assoc,Nat.mul_comm (bW ^ i) bW]
 omega
end Go.Proofs.YtefhfadjajcmkaaGreatDoor
namespace Go.Proofs.YtefhfadjajcmkaaGreatDoor
open Go Go.RowKit
open Go.Lib (hid cell_of_heap)
def cellsU (f:Nat→Nat):Array Value:=Array.ofFn (n:=16) λi=>.int .u64 (f i.val:Int)
theorem cellsU_at (f:Nat→Nat) {i:Nat} (h:i<16):(cellsU f)[i]?=some (.int .u64 (f i:Int)):=by
 unfold cellsU
 rw[Array.getElem?_ofFn,dif_pos h]
def WAt (w:World) (b o:Nat) (f:Nat→Nat):Prop:=∀i,i<16→w.cell? ⟨b,o+i,none⟩=some (.int .u64 (f i:Int))
theorem WAt.turn {S:Nat→Prop} {w w':World} {b o:Nat} {f:Nat→Nat} (h:WAt w b o f) (ht:Turn S w w') (hb:b<w.heap.size) (hS:¬S b):WAt w' b o f:=λi hi=>(ht.cell (p:=⟨b,o+i,none⟩) hb hS).trans (h i hi)
theorem WAt.congr {w:World} {b o:Nat} {f g:Nat→Nat} (h:WAt w b o f) (he:∀i,i<16→f i=g i):WAt w b o g:=λi hi=>by rw[←he i hi];exact h i hi
theorem WAt.put {w:World} {b o:Nat} {f:Nat→Nat} (h:WAt w b o f) {i:Nat} (hi:i<16) (m:Nat):WAt (w.setCell ⟨b,o+i,none⟩ (.int .u64 (m:Int))) b o (λj=>if j=i then m else f j):=λj hj=>by
 by_cases e:j=i
 ·subst e
  simp only[if_pos]
  exact World.cell?_setCell_same w _ _ (h j hj)
 ·simp only[if_neg e]
  exact (World.cell?_setCell_other w _ _ _ (λe2=>by injection e2 with _ e2;omega)).trans (h j hj)
theorem wat_heap {w:World} {b:Nat} {f:Nat→Nat} {T:TypeId} (h:w.heap[b]?=some (.cells (cellsU f) T (0,0))):WAt w b 0 f:=λi hi=>by
 rw[Nat.zero_add]
 exact (cell_of_heap h i).trans (cellsU_at f hi)
theorem turn_dN {S:Nat→Prop} {w w':World} (h:Turn S w w') (m:Nat):Turn S w (w'.drewN m):=⟨h.os,h.tape,h.output,h.size,h.block⟩
theorem add_at (b o i:Nat):(⟨b,o,none⟩:Addr).add i=⟨b,o+i,none⟩:=by
 unfold Addr.add
 split
 ·rename_i h;rw[h];rfl
 ·rfl
theorem frozen_keepT {S:Nat→Prop} {w w':World} {g o:Nat} (h:Turn S w w') (hg:g<w.heap.size) (hS:¬S g) (hf:w.frozen? ⟨g,o,none⟩=false):w'.frozen? ⟨g,o,none⟩=false:=by
 have hb:=h.block g hg hS
 unfold World.frozen? at *
 simpa [hb] using hf
theorem add_zero_at' (g n:Nat):(⟨g,0,none⟩:Addr).add n=⟨g,n,none⟩:=by
 rw[add_at,Nat.zero_add]
theorem u64_in {n:Nat} (h:n<18446744073709551616):IntKind.u64.wrap (n:Int)=(n:Int):=by
 have h1:(n:Int)<18446744073709551616:=by omega
 have h2:(0:Int)≤n:=by omega
 unfold IntKind.wrap
 simp[IntKind.signed,IntKind.bits]
 omega
def KeepO (w w':World) (b o:Nat):Prop:=∀j,(j<o∨o+16≤j)→w'.cell? ⟨b,j,none⟩=w.cell? ⟨b,j,none⟩
theorem wadd_any (b o:Nat) (f g:Nat→Nat) (w:World) (hf:∀i,i<16→f i<bW) (hg:∀i,i<16→g i<bW) (hw:WAt w b o f) (hfr:∀j,w.frozen? ⟨b,j,none⟩=false) (hb:b<w.heap.size) :
    Calls Tryz.prog 302 #[.pointer (some ⟨b,o,none⟩),.agg (cellsU g)] w λe w'=>e = .returned (.tuple #[])∧∃h,WAt w' b o h∧(∀i,i<16→h i<bW)∧(∃c,pv h 16+c*bW ^ 16=pv f 16+pv g 16)∧Turn (λk=>k=b) w w'∧KeepO w w' b o:=by
 have HF:=hid hf
 have HG:=hid hg
 have HFR:=hid hfr
 obtain⟨z,Hz⟩:=name_itV w.heap.size
 obtain⟨w1,HW1⟩:=name_itV (w.alloc (.cells (cellsU g) 291))
 have HT1:=hid (show Turn (λk=>k=b) w w1 from by rw[←HW1.out];exact (Turn.refl _ _).alloc _)
 go_enter Tryz.func302,Tryz.ntmps302
 go_upto_region 1 with fail
 rw[HW1.out,Hz.out]
 have hbz:b≠z:=by have:=Hz.out;omega
 have HBZ:=hid (show b<z from by have:=Hz.out;omega)
 have HX1:=hid (show WAt w1 z 0 g from wat_heap (T:=291) (by rw[←HW1.out,←Hz.out];exact heap_alloc_new w _))
 have HZ1:=hid (show z<w1.heap.size from by rw[←HW1.out,←Hz.out];simp)
 have HY1:=hid (show WAt w1 b o f from λi hi=>by
  rw[←HW1.out,World.cell?_alloc_lt w _ _ (by show b<_;exact hb)]
  exact hw i hi)
 have HR1:=hid (λ(j:Nat)=>(show w1.frozen? ⟨b,j,none⟩=false from frozen_keepT (S:=λ_=>False) (by rw[←HW1.out];exact (Turn.refl _ _).alloc _) hb (λh=>h) (HFR.out j)))
 have HB1:=hid (show b<w1.heap.size from by have:=HZ1.out;have:=HBZ.out;omega)
 have HK1:=hid (λ(j:Nat)=>(show w1.cell? ⟨b,j,none⟩=w.cell? ⟨b,j,none⟩ from by rw[←HW1.out];exact World.cell?_alloc_lt w _ _ (by show b<_;exact hb)))
 clear hf hg hw hfr hb
 go_wp2_with fail
 go_loopw [4,7] (λs4 s7 wx=>∃(i c:Nat) (h:Nat→Nat),i≤16∧c≤1∧s7 = .int .i64 (i:Nat)∧s4 = .int .u64 (c:Nat)∧Hid (WAt wx b o h∧(∀j,j<i→h j<bW)∧(∀j,i≤j→h j=f j)∧pv h i+c*bW ^ i=pv f i+pv g i∧Turn (λk=>k=b) w1 wx∧(∀j,wx.frozen? ⟨b,j,none⟩=false)∧KeepO w1 wx b o)) (λ_ s7 _=>16-(intOf s7).toNat)
 case atStart=>exact⟨0,0,f,by omega,by omega,rfl,rfl,hid ⟨HY1.out,λj hj=>absurd hj (Nat.not_lt_zero _),λ_ _=>rfl,by simp[pv],Turn.refl _ _,HR1.out,λ_ _=>rfl⟩⟩
 case round=>
  obtain⟨i,c,h,hi,hc,rfl,rfl,hM⟩:=hrel
  by_cases hlt:i<16
  ·obtain⟨x,Hx⟩:=name_itV (f i)
   obtain⟨y,Hy⟩:=name_itV (g i)
   have hxb:=HF.out i hlt
   have hyb:=HG.out i hlt
   rw[Hx.out]at hxb
   rw[Hy.out]at hyb
   have hbw:bW=1000000000:=rfl
   obtain⟨m,Hm⟩:=name_itV ((x+y+c) % 1000000000)
   obtain⟨q,Hq⟩:=name_itV ((x+y+c) / 1000000000)
   have hml:m<1000000000:=by rw[←Hm.out];exact Nat.mod_lt _ (by decide)
   have hql:q≤1:=by rw[←Hq.out];omega
   have c1:wr.cell? ⟨b,o+i,none⟩=some (.int .u64 (x:Int)):=by
    have:=hM.out.1 i hlt
    rw[hM.out.2.2.1 i (Nat.le_refl _),Hx.out]at this
    exact this
   have c2:wr.cell? ⟨z,i,none⟩=some (.int .u64 (y:Int)):=by
    have h1:=(HX1.out.turn hM.out.2.2.2.2.1 HZ1.out (λe=>by have:=HBZ.out;omega)) i hlt
    rw[Nat.zero_add,Hy.out]at h1
    exact h1
   have f1:wr.frozen? ⟨b,o+i,none⟩=false:=hM.out.2.2.2.2.2.1 (o+i)
   have a1:=add_at b o i
   have a2:=add_zero_at' z i
   have e1:(0:Int)≤i:=by omega
   have e2:(i:Int)<16:=by omega
   have w0:IntKind.i64.wrap ((i:Int)+1)=(i:Int)+1:=IntWalk.i64_in _ (by omega)
   obtain⟨S1,HS1⟩:=name_itV (x+y)
   obtain⟨S2,HS2⟩:=name_itV (x+y+c)
   have w1':IntKind.u64.wrap ((x:Int)+(y:Int))=(S1:Int):=by
    rw[←HS1.out,←Int.natCast_add];exact u64_in (by omega)
   have w2:IntKind.u64.wrap ((S1:Int)+(c:Int))=(S2:Int):=by
    rw[←HS1.out,←HS2.out,←Int.natCast_add];exact u64_in (by omega)
   have r1:Int.tmod (S2:Int) 1000000000=(m:Int):=by rw[←Hm.out,←HS2.out];rfl
   have r2:Int.tdiv (S2:Int) 1000000000=(q:Int):=by rw[←Hq.out,←HS2.out];rfl
   have r3:(S2:Int) % 1000000000=(m:Int):=by rw[←Hm.out,←HS2.out];rfl
   have r4:(S2:Int) / 1000000000=(q:Int):=by rw[←Hq.out,←HS2.out];rfl
   have w3:IntKind.u64.wrap (m:Int)=(m:Int):=u64_in (by omega)
   have w4:IntKind.u64.wrap (q:Int)=(q:Int):=u64_in (by omega)
   go_upto_region 5 with fail
   go_quiet (fail)
   obtain⟨wq,Hwq⟩:=name_itV (wr.drewN nq)
   have d1:wq.cell? ⟨b,o+i,none⟩=some (.int .u64 (x:Int)):=by rw[←Hwq.out];exact c1
   have f2:wq.frozen? ⟨b,o+i,none⟩=false:=by rw[←Hwq.out];exact f1
   have HTQ:=hid (show Turn (λk=>k=b) w1 wq from by rw[←Hwq.out];exact turn_dN hM.out.2.2.2.2.1 nq)
   have HWQ:=hid (show WAt wq b o h from by rw[←Hwq.out];exact hM.out.1)
   have HFQ:=hid (λ(j:Nat)=>(show wq.frozen? ⟨b,j,none⟩=false from by rw[←Hwq.out];exact hM.out.2.2.2.2.2.1 j))
   have HKO:=hid (show KeepO w1 wq b o from by rw[←Hwq.out];exact hM.out.2.2.2.2.2.2)
   have HHH:=hid (And.intro hM.out.2.1 (And.intro hM.out.2.2.1 hM.out.2.2.2.1))
   rw[Hwq.out]
   clear c1 c2 f1 hM
   go_wp2_with fail
   go_roundw
   case measure=>simp[intOf];omega
   case rel=>
    obtain⟨h1,h2,h3⟩:=HHH.out
    refine⟨i+1,q,λj=>if j=i then m else h j,by omega,hql,by go_num,rfl,hid ⟨HWQ.out.put hlt m,λj hj=>?_,λj hj=>?_,?_,HTQ.out.setCell (p:=⟨b,o+i,none⟩) (.inr rfl) _,λj=>?_,λj hj=>?_⟩⟩
    ·by_cases e:j=i
     ·simp only[if_pos e];exact hml
     ·simp only[if_neg e];exact h1 j (by omega)
    ·simp only[if_neg (show j≠i by omega)]
     exact h2 j (by omega)
    ·have hp:=pv_add (f:=f) (g:=g) (o:=λj=>if j=i then m else h j) (i:=i) (c:=c) (by
       rw[←h3]
       congr 1
       exact pv_congr (λj hj=>if_neg (by omega))) (by rw[Hx.out,Hy.out,hbw,Hm.out];exact if_pos rfl)
     rw[Hx.out,Hy.out]at hp
     rw[show (x+y+c) / bW=q from Hq.out]at hp
     exact hp
    ·have:=HFQ.out j
     simpa using this
    ·exact (World.cell?_setCell_other wq _ _ _ (λe2=>by injection e2 with _ e2;omega)).trans (HKO.out j hj)
  ·have hie:i=16:=by omega
   have e2:¬(i:Int)<16:=by omega
   go_wp2_with fail
   go_end0
   subst hie
   exact⟨rfl,h,hM.out.1,hM.out.2.1,⟨c,hM.out.2.2.2.1⟩,HT1.out.trans hM.out.2.2.2.2.1,λj hj=>(hM.out.2.2.2.2.2.2 j hj).trans (HK1.out j)⟩
theorem wsub_any (b o:Nat) (f g:Nat→Nat) (w:World) (hf:∀i,i<16→f i<bW) (hg:∀i,i<16→g i<bW) (hw:WAt w b o f) (hfr:∀j,w.frozen? ⟨b,j,none⟩=false) (hb:b<w.heap.size) (hle:pv g 16≤pv f 16) :
    Calls Tryz.prog 304 #[.pointer (some ⟨b,o,none⟩),.agg (cellsU g)] w λe w'=>e = .returned (.tuple #[])∧∃h,WAt w' b o h∧(∀i,i<16→h i<bW)∧pv h 16=pv f 16-pv g 16∧Turn (λk=>k=b) w w'∧KeepO w w' b o:=by
 have HF:=hid hf
 have HG:=hid hg
 have HFR:=hid hfr
 obtain⟨z,Hz⟩:=name_itV w.heap.size
 obtain⟨w1,HW1⟩:=name_itV (w.alloc (.cells (cellsU g) 291))
 have HT1:=hid (show Turn (λk=>k=b) w w1 from by rw[←HW1.out];exact (Turn.refl _ _).alloc _)
 go_enter Tryz.func304,Tryz.ntmps304
 go_upto_region 1 with fail
 rw[HW1.out,Hz.out]
 have hbz:b≠z:=by have:=Hz.out;omega
 have HBZ:=hid (show b<z from by have:=Hz.out;omega)
 have HX1:=hid (show WAt w1 z 0 g from wat_heap (T:=291) (by rw[←HW1.out,←Hz.out];exact heap_alloc_new w _))
 have HZ1:=hid (show z<w1.heap.size from by rw[←HW1.out,←Hz.out];simp)
 have HY1:=hid (show WAt w1 b o f from λi hi=>by
  rw[←HW1.out,World.cell?_alloc_lt w _ _ (by show b<_;exact hb)]
  exact hw i hi)
 have HR1:=hid (λ(j:Nat)=>(show w1.frozen? ⟨b,j,none⟩=false from frozen_keepT (S:=λ_=>False) (by rw[←HW1.out];exact (Turn.refl _ _).alloc _) hb (λh=>h) (HFR.out j)))
 have HB1:=hid (show b<w1.heap.size from by have:=HZ1.out;have:=HBZ.out;omega)
 have HK1:=hid (λ(j:Nat)=>(show w1.cell? ⟨b,j,none⟩=w.cell? ⟨b,j,none⟩ from by rw[←HW1.out];exact World.cell?_alloc_lt w _ _ (by show b<_;exact hb)))
 clear hf hg hw hfr hb
 go_wp2_with fail
 go_loopw [4,7] (λs4 s7 wx=>∃(i c:Nat) (h:Nat→Nat),i≤16∧c≤1∧s7 = .int .i64 (i:Nat)∧s4 = .int .u64 (c:Nat)∧Hid (WAt wx b o h∧(∀j,j<i→h j<bW)∧(∀j,i≤j→h j=f j)∧pv h i+pv g i=pv f i+c*bW ^ i∧Turn (λk=>k=b) w1 wx∧(∀j,wx.frozen? ⟨b,j,none⟩=false)∧KeepO w1 wx b o)) (λ_ s7 _=>16-(intOf s7).toNat)
 case atStart=>exact⟨0,0,f,by omega,by omega,rfl,rfl,hid ⟨HY1.out,λj hj=>absurd hj (Nat.not_lt_zero _),λ_ _=>rfl,by simp[pv],Turn.refl _ _,HR1.out,λ_ _=>rfl⟩⟩
 case round=>
  obtain⟨i,c,h,hi,hc,rfl,rfl,hM⟩:=hrel
  by_cases hlt:i<16
  ·obtain⟨x,Hx⟩:=name_itV (f i)
   obtain⟨y,Hy⟩:=name_itV (g i)
   have hxb:=HF.out i hlt
   have hyb:=HG.out i hlt
   rw[Hx.out]at hxb
   rw[Hy.out]at hyb
   have hbw:bW=1000000000:=rfl
   obtain⟨m,Hm⟩:=name_itV ((x+1000000000-y-c) % 1000000000)
   obtain⟨q,Hq⟩:=name_itV ((x+1000000000-y-c) / 1000000000)
   have hml:m<1000000000:=by rw[←Hm.out];exact Nat.mod_lt _ (by decide)
   have hql:q≤1:=by rw[←Hq.out];omega
   have c1:wr.cell? ⟨b,o+i,none⟩=some (.int .u64 (x:Int)):=by
    have:=hM.out.1 i hlt
    rw[hM.out.2.2.1 i (Nat.le_refl _),Hx.out]at this
    exact this
   have c2:wr.cell? ⟨z,i,none⟩=some (.int .u64 (y:Int)):=by
    have h1:=(HX1.out.turn hM.out.2.2.2.2.1 HZ1.out (λe=>by have:=HBZ.out;omega)) i hlt
    rw[Nat.zero_add,Hy.out]at h1
    exact h1
   have f1:wr.frozen? ⟨b,o+i,none⟩=false:=hM.out.2.2.2.2.2.1 (o+i)
   have a1:=add_at b o i
   have a2:=add_zero_at' z i
   have e1:(0:Int)≤i:=by omega
   have e2:(i:Int)<16:=by omega
   have w0:IntKind.i64.wrap ((i:Int)+1)=(i:Int)+1:=IntWalk.i64_in _ (by omega)
   obtain⟨S1,HS1⟩:=name_itV (x+1000000000)
   obtain⟨S3,HS3⟩:=name_itV (x+1000000000-y)
   obtain⟨S2,HS2⟩:=name_itV (x+1000000000-y-c)
   obtain⟨q2,Hq2⟩:=name_itV (1-q)
   have w1':IntKind.u64.wrap ((x:Int)+1000000000)=(S1:Int):=by
    rw[←HS1.out];exact u64_in (n:=x+1000000000) (by omega)
   have w5:IntKind.u64.wrap ((S1:Int)-(y:Int))=(S3:Int):=by
    rw[show (S1:Int)-(y:Int)=(S3:Int) by rw[←HS1.out,←HS3.out];omega]
    exact u64_in (by rw[←HS3.out];omega)
   have w2:IntKind.u64.wrap ((S3:Int)-(c:Int))=(S2:Int):=by
    rw[show (S3:Int)-(c:Int)=(S2:Int) by rw[←HS3.out,←HS2.out];omega]
    exact u64_in (by rw[←HS2.out];omega)
   have w6:IntKind.u64.wrap ((1:Int)-(q:Int))=(q2:Int):=by
    rw[show (1:Int)-(q:Int)=(q2:Int) by rw[←Hq2.out];omega]
    exact u64_in (by rw[←Hq2.out];omega)
   have r1:Int.tmod (S2:Int) 1000000000=(m:Int):=by rw[←Hm.out,←HS2.out];rfl
   have r2:Int.tdiv (S2:Int) 1000000000=(q:Int):=by rw[←Hq.out,←HS2.out];rfl
   have r3:(S2:Int) % 1000000000=(m:Int):=by rw[←Hm.out,←HS2.out];rfl
   have r4:(S2:Int) / 1000000000=(q:Int):=by rw[←Hq.out,←HS2.out];rfl
   have w3:IntKind.u64.wrap (m:Int)=(m:Int):=u64_in (by omega)
   have w4:IntKind.u64.wrap (q:Int)=(q:Int):=u64_in (by omega)
   go_upto_region 5 with fail
   go_quiet (fail)
   obtain⟨wq,Hwq⟩:=name_itV (wr.drewN nq)
   have d1:wq.cell? ⟨b,o+i,none⟩=some (.int .u64 (x:Int)):=by rw[←Hwq.out];exact c1
   have f2:wq.frozen? ⟨b,o+i,none⟩=false:=by rw[←Hwq.out];exact f1
   have HTQ:=hid (show Turn (λk=>k=b) w1 wq from by rw[←Hwq.out];exact turn_dN hM.out.2.2.2.2.1 nq)
   have HWQ:=hid (show WAt wq b o h from by rw[←Hwq.out];exact hM.out.1)
   have HFQ:=hid (λ(j:Nat)=>(show wq.frozen? ⟨b,j,none⟩=false from by rw[←Hwq.out];exact hM.out.2.2.2.2.2.1 j))
   have HKO:=hid (show KeepO w1 wq b o from by rw[←Hwq.out];exact hM.out.2.2.2.2.2.2)
   have HHH:=hid (And.intro hM.out.2.1 (And.intro hM.out.2.2.1 hM.out.2.2.2.1))
   rw[Hwq.out]
   clear c1 c2 f1 hM
   go_wp2_with fail
   go_roundw
   case measure=>simp[intOf];omega
   case rel=>
    obtain⟨h1,h2,h3⟩:=HHH.out
    refine⟨i+1,q2,λj=>if j=i then m else h j,by omega,by rw[←Hq2.out];omega,by go_num,rfl,hid ⟨HWQ.out.put hlt m,λj hj=>?_,λj hj=>?_,?_,HTQ.out.setCell (p:=⟨b,o+i,none⟩) (.inr rfl) _,λj=>?_,λj hj=>?_⟩⟩
    ·by_cases e:j=i
     ·simp only[if_pos e];exact hml
     ·simp only[if_neg e];exact h1 j (by omega)
    ·simp only[if_neg (show j≠i by omega)]
     exact h2 j (by omega)
    ·have hp:=(pv_sub (f:=f) (g:=g) (o:=λj=>if j=i then m else h j) (i:=i) (b:=c) (by
       rw[←h3]
       congr 1
       exact pv_congr (λj hj=>if_neg (by omega))) (by rw[Hy.out];exact hyb) hc (by rw[Hx.out];exact hxb) (by rw[Hx.out,Hy.out,hbw,Hm.out];exact if_pos rfl)).1
     rw[Hx.out,Hy.out]at hp
     rw[show (x+bW-y-c) / bW=q from Hq.out,Hq2.out]at hp
     exact hp
    ·have:=HFQ.out j
     simpa using this
    ·exact (World.cell?_setCell_other wq _ _ _ (λe2=>by injection e2 with _ e2;omega)).trans (HKO.out j hj)
  ·have hie:i=16:=by omega
   have e2:¬(i:Int)<16:=by omega
   go_wp2_with fail
   go_end0
   subst hie
   exact⟨rfl,h,hM.out.1,hM.out.2.1,pv_sub_end hM.out.2.2.2.1 hM.out.2.1 hle,HT1.out.trans hM.out.2.2.2.2.1,λj hj=>(hM.out.2.2.2.2.2.2 j hj).trans (HK1.out j)⟩
def cmpN (a b:Nat):Int:=if a<b then -1 else if b<a then 1 else 0
theorem wcmp_any (f g:Nat→Nat) (w:World) (hf:∀i,i<16→f i<bW) (hg:∀i,i<16→g i<bW) :
    Calls Tryz.prog 303 #[.agg (cellsU f),.agg (cellsU g)] w λe w'=>e = .returned (.int .i64 (cmpN (pv f 16) (pv g 16)))∧Below w.heap.size w w':=by
 have HF:=hid hf
 have HG:=hid hg
 obtain⟨z,Hz⟩:=name_itV w.heap.size
 obtain⟨w1,HW1⟩:=name_itV ((w.alloc (.cells (cellsU f) 291)).alloc (.cells (cellsU g) 291))
 have HB1:=hid (show Below w.heap.size w w1 from by rw[←HW1.out];exact ((Below.refl _ w).alloc (Nat.le_refl _) _).alloc (by simp) _)
 have HX1:=hid (show WAt w1 z 0 f from wat_heap (T:=291) (by
  rw[←HW1.out,←Hz.out,Below.heap_alloc _ _ _ (by simp)]
  exact heap_alloc_new w _))
 have HY1:=hid (show WAt w1 (z+1) 0 g from wat_heap (T:=291) (by
  rw[←HW1.out,←Hz.out]
  have:=heap_alloc_new (w.alloc (.cells (cellsU f) 291)) (.cells (cellsU g) 291)
  simpa using this))
 obtain⟨r,Hr⟩:=name_itV (cmpN (pv f 16) (pv g 16))
 rw[Hr.out]
 clear hf hg
 go_enter Tryz.func303,Tryz.ntmps303
 go_upto_region 1 with fail
 rw[HW1.out,Hz.out]
 go_wp2_with fail
 go_loopw [5] (λs5 wx=>∃(i:Nat) (v:Int) (q:Nat),i≤16∧s5 = .int .i64 v∧v=(i:Int)-1∧Hid (wx=w1.drewN q∧∀j,i≤j→j<16→f j=g j)) (λs5 _=>(intOf s5+1).toNat)
 case atStart=>exact⟨16,15,0,by omega,rfl,by omega,hid ⟨rfl,λj h1 h2=>by omega⟩⟩
 case round=>
  obtain⟨i,v,q,hi,rfl,hv,hM⟩:=hrel
  have HV:=hid hv
  have HBr:=hid (show Below w.heap.size w wr from by rw[hM.out.1];exact⟨HB1.out.os,HB1.out.tape,HB1.out.output,HB1.out.size,HB1.out.block⟩)
  clear hv
  by_cases hlt:0<i
  ·obtain⟨k,hk⟩:∃k,i=k+1:=⟨i-1,by omega⟩
   have hvk:v=(k:Int):=by have:=HV.out;omega
   subst hvk
   have HK:=hid hk
   obtain⟨x,Hx⟩:=name_itV (f k)
   obtain⟨y,Hy⟩:=name_itV (g k)
   have c1:wr.cell? ⟨z,k,none⟩=some (.int .u64 (x:Int)):=by
    have h1:=HX1.out k (by omega)
    rw[Nat.zero_add,Hx.out]at h1
    rw[hM.out.1]
    exact h1
   have c2:wr.cell? ⟨z+1,k,none⟩=some (.int .u64 (y:Int)):=by
    have h1:=HY1.out k (by omega)
    rw[Nat.zero_add,Hy.out]at h1
    rw[hM.out.1]
    exact h1
   have a1:=add_zero_at' z k
   have a2:=add_zero_at' (z+1) k
   have e1:(0:Int)≤k:=by omega
   have e2:(k:Int)<16:=by omega
   have hEQ:=hid hM.out.2
   have HWR:=hid hM.out.1
   clear hM hk
   by_cases h1:x<y
   ·have g1:(x:Int)<(y:Int):=by omega
    have HS:=hid (show (-1:Int)=r from by
     rw[←Hr.out]
     have:=pv_cmp (f:=f) (g:=g) (n:=16) (i:=k) HF.out (by omega) (λj h1 h2=>hEQ.out j (by have:=HK.out;omega) h2) (by rw[Hx.out,Hy.out];exact h1)
     unfold cmpN
     rw[if_pos this])
    clear h1
    go_upto_region 4 with fail
    go_quiet (fail)
    go_wp2_with fail
    go_ret
    exact⟨congrArg (λv=>Ending.returned (Value.int IntKind.i64 v)) HS.out,⟨HBr.out.os,HBr.out.tape,HBr.out.output,HBr.out.size,HBr.out.block⟩⟩
   ·have g1:¬(x:Int)<(y:Int):=by omega
    by_cases h2:y<x
    ·have g2:(y:Int)<(x:Int):=by omega
     have HS:=hid (show (1:Int)=r from by
      rw[←Hr.out]
      have:=pv_cmp (f:=g) (g:=f) (n:=16) (i:=k) HG.out (by omega) (λj h1 h2=>(hEQ.out j (by have:=HK.out;omega) h2).symm) (by rw[Hx.out,Hy.out];exact h2)
      unfold cmpN
      rw[if_neg (by omega),if_pos this])
     clear h1 h2
     go_upto_region 4 with fail
     go_quiet (fail)
     obtain⟨wq,Hwq⟩:=name_itV (wr.drewN nq)
     have d1:wq.cell? ⟨z,k,none⟩=some (.int .u64 (x:Int)):=by rw[←Hwq.out];exact c1
     have d2:wq.cell? ⟨z+1,k,none⟩=some (.int .u64 (y:Int)):=by rw[←Hwq.out];exact c2
     have HBq:=hid (show Below w.heap.size w wq from by rw[←Hwq.out];exact⟨HBr.out.os,HBr.out.tape,HBr.out.output,HBr.out.size,HBr.out.block⟩)
     rw[Hwq.out]
     clear c1 c2
     go_upto_region 6 with fail
     go_quiet (fail)
     go_wp2_with fail
     go_ret
     exact⟨congrArg (λv=>Ending.returned (Value.int IntKind.i64 v)) HS.out,⟨HBq.out.os,HBq.out.tape,HBq.out.output,HBq.out.size,HBq.out.block⟩⟩
    ·have g2:¬(y:Int)<(x:Int):=by omega
     have hxy:x=y:=by omega
     have HE:=hid hxy
     clear h1 h2 hxy
     go_upto_region 4 with fail
     go_quiet (fail)
     obtain⟨wq,Hwq⟩:=name_itV (wr.drewN nq)
     have d1:wq.cell? ⟨z,k,none⟩=some (.int .u64 (x:Int)):=by rw[←Hwq.out];exact c1
     have d2:wq.cell? ⟨z+1,k,none⟩=some (.int .u64 (y:Int)):=by rw[←Hwq.out];exact c2
     obtain⟨q2,HWQ⟩:∃q2,Hid (wq=w1.drewN q2):=⟨q+nq,hid (by rw[←Hwq.out,HWR.out,World.drewN_drewN])⟩
     have w2:IntKind.i64.wrap ((k:Int)-1)=(k:Int)-1:=IntWalk.i64_in _ (by omega)
     rw[Hwq.out]
     clear c1 c2 HWR
     go_upto_region 6 with fail
     go_quiet (fail)
     go_wp2_with fail
     go_roundw
     case measure=>first | (simp[intOf];done) | (simp[intOf];omega)
     case rel=>
      refine⟨k,(k:Int)-1,q2+nq,by omega,rfl,rfl,hid ⟨by rw[HWQ.out,World.drewN_drewN],λj hj1 hj2=>?_⟩⟩
      by_cases e:j=k
      ·rw[e,Hx.out,Hy.out];exact HE.out
      ·exact hEQ.out j (by have:=HK.out;omega) hj2
  ·have h0:i=0:=by omega
   have hv1:v = -1:=by have:=HV.out;omega
   subst hv1
   have HS:=hid (show (0:Int)=r from by
    rw[←Hr.out]
    have h1:=pv_congr (f:=f) (g:=g) (n:=16) (λj hj=>hM.out.2 j (by omega) hj)
    unfold cmpN
    rw[h1,if_neg (Nat.lt_irrefl _),if_neg (Nat.lt_irrefl _)])
   go_wp2_with fail
   go_ret
   exact⟨congrArg (λv=>Ending.returned (Value.int IntKind.i64 v)) HS.out,HBr.out⟩
end Go.Proofs.YtefhfadjajcmkaaGreatDoor
namespace Go.Proofs.YtefhfadjajcmkaaGreatDoor
open Go.Lib (hid cell_of_heap)
def bT:Nat:=10
def pt (f:Nat→Nat):Nat→Nat
 | 0=>0
 | i+1=>pt f i+f i*bT ^ i
theorem pt_congr {f g:Nat→Nat} {n:Nat} (h:∀i,i<n→f i=g i):pt f n=pt g n:=by
 induction n with
 | zero=>rfl
 | succ n ih=>rw[pt,pt,ih (λi hi=>h i (by omega)),h n (by omega)]
theorem pt_lt {f:Nat→Nat} {n:Nat} (h:∀i,i<n→f i<bT):pt f n<bT ^ n:=by
 induction n with
 | zero=>simp[pt]
 | succ n ih=>
  have h1:=ih (λi hi=>h i (by omega))
  have h2:=h n (by omega)
  rw[pt,Nat.pow_succ]
  have h3:(f n+1)*bT ^ n≤bT*bT ^ n:=Nat.mul_le_mul_right _ h2
  rw[Nat.succ_mul]at h3
  rw[Nat.mul_comm (bT ^ n) bT]
  omega
theorem pt_add {f g o:Nat→Nat} {i c:Nat} (h:pt o i+c*bT ^ i=pt f i+pt g i) (ho:o i=(f i+g i+c) % bT) :
    pt o (i+1)+(f i+g i+c) / bT*bT ^ (i+1)=pt f (i+1)+pt g (i+1):=by
 have e:=Nat.div_add_mod (f i+g i+c) bT
 have e2:(o i+bT*((f i+g i+c) / bT))*bT ^ i=(f i+g i+c)*bT ^ i:=by
  rw[ho,Nat.add_comm,e]
 rw[pt,pt,pt,Nat.pow_succ]
 rw[Nat.add_mul,Nat.mul_assoc]at e2
 rw[Nat.add_mul,Nat.add_mul]at e2
 have e3:(f i+g i+c) / bT*(bT ^ i*bT)=bT*((f i+g i+c) / bT*bT ^ i):=by
  rw[←Nat.mul_assoc,Nat.mul_comm]
 rw[e3]
 omega
theorem pt_sub {f g o:Nat→Nat} {i b:Nat} (h:pt o i+pt g i=pt f i+b*bT ^ i) (hg:g i<bT) (hb:b≤1) (hf:f i<bT) (ho:o i=(f i+bT-g i-b) % bT) :
    pt o (i+1)+pt g (i+1)=pt f (i+1)+(1-(f i+bT-g i-b) / bT)*bT ^ (i+1)∧(f i+bT-g i-b) / bT≤1:=by
 have hx:f i+bT-g i-b<bT*2:=by omega
 have e:=Nat.div_add_mod (f i+bT-g i-b) bT
 have hd:(f i+bT-g i-b) / bT≤1:=Nat.le_of_lt_succ (Nat.div_lt_of_lt_mul hx)
 refine⟨?_,hd⟩
 have e4:o i+g i+b=f i+(1-(f i+bT-g i-b) / bT)*bT:=by
  rw[ho]
  rcases Nat.lt_or_ge ((f i+bT-g i-b) / bT) 1 with h1 | h1
  ·have h2:(f i+bT-g i-b) / bT=0:=Nat.lt_one_iff.1 h1
   rw[h2]at e ⊢
   omega
  ·have h2:(f i+bT-g i-b) / bT=1:=Nat.le_antisymm hd h1
   rw[h2]at e ⊢
   omega
 rw[pt,pt,pt,Nat.pow_succ]
 have e5:=congrArg (· * bT ^ i) e4
 simp only[Nat.add_mul,Nat.mul_assoc]at e5
 have e6:(1-(f i+bT-g i-b) / bT)*(bT ^ i*bT)=(1-(f i+bT-g i-b) / bT)*(bT*bT ^ i):=by rw[Nat.mul_comm (bT ^ i)]
 rw[e6]
 omega
theorem pt_sub_end {f g o:Nat→Nat} {n b:Nat} (h:pt o n+pt g n=pt f n+b*bT ^ n) (ho:∀i,i<n→o i<bT) (hle:pt g n≤pt f n):pt o n=pt f n-pt g n:=by
 have h1:=pt_lt ho
 rcases Nat.eq_zero_or_pos b with h2 | h2
 ·subst h2;omega
 ·have h3:1*bT ^ n≤b*bT ^ n:=Nat.mul_le_mul_right _ h2
  omega
theorem pt_cmp {f g:Nat→Nat} {n i:Nat} (hf:∀j,j<n→f j<bT) (hi:i<n) (he:∀j,i<j→j<n→f j=g j) (hlt:f i<g i):pt f n<pt g n:=by
 induction n with
 | zero=>omega
 | succ n ih=>
  rw[pt,pt]
  by_cases e:i=n
  ·subst e
   have h1:=pt_lt (f:=f) (n:=i) (λj hj=>hf j (by omega))
   have h2:(f i+1)*bT ^ i≤g i*bT ^ i:=Nat.mul_le_mul_right _ hlt
   rw[Nat.succ_mul]at h2
   omega
  ·have:=ih (λj hj=>hf j (by omega)) (by omega) (λj h1 h2=>he j h1 (by omega))
   rw[he n (by omega) (by omega)]
   omega
theorem pt_more {f:Nat→Nat} {n m:Nat} (h:∀i,n≤i→i<n+m→f i=0):pt f (n+m)=pt f n:=by
 induction m with
 | zero=>rfl
 | succ m ih=>rw[←Nat.add_assoc,pt,ih (λi h1 h2=>h i h1 (by omega)),h (n+m) (by omega) (by omega),Nat.zero_mul,Nat.add_zero]
theorem atD_big {D:List Nat} {i:Nat} (h:D.length≤i):atD D i=0:=by unfold atD;rw[List.getElem?_eq_none h];rfl
def amtD (D:List Nat):Nat:=pt (atD D) D.length
theorem amt_at {D:List Nat} {n:Nat} (h:D.length≤n):pt (atD D) n=amtD D:=by
 obtain⟨m,rfl⟩:∃m,n=D.length+m:=⟨n-D.length,by omega⟩
 exact pt_more (λi h1 _=>atD_big h1)
end Go.Proofs.YtefhfadjajcmkaaGreatDoor
namespace Go.Proofs.YtefhfadjajcmkaaGreatDoor
open Go Go.RowKit
open Go.Lib (hid cell_of_heap)
theorem IntsAt.dN {w:World} {A:Option Addr} {D:List Nat} (h:IntsAt w A D) (m:Nat):IntsAt (w.drewN m) A D:=h
def RCmpIs (D E:List Nat) (w:World) (e:Ending) (w':World):Prop:=e = .returned (.int .i64 (cmpN (amtD D) (amtD E)))∧∃q,w'=w.drewN q
theorem rcmp_any (D E:List Nat) (hD:D.length≤1000000000000) (hE:E.length≤1000000000000) (hd:∀i,atD D i≤9) (he:∀i,atD E i≤9) (A B:Option Addr) (ca cb:Nat) (w:World) (h1:IntsAt w A D) (h2:IntsAt w B E) :
    Calls Tryz.prog 292 #[.slice A D.length ca,.slice B E.length cb] w (RCmpIs D E w):=by
 have H1:=hid h1
 have H2:=hid h2
 have HD9:=hid hd
 have HE9:=hid he
 have hA:=hid (λ(q:Nat) (i:Nat) (hi:i≤4000000000000)=>at_any D A ca i hi (w.drewN q) (H1.out.dN q))
 have hB:=hid (λ(q:Nat) (i:Nat) (hi:i≤4000000000000)=>at_any E B cb i hi (w.drewN q) (H2.out.dN q))
 obtain⟨r,Hr⟩:=name_itV (cmpN (amtD D) (amtD E))
 obtain⟨n,Hn⟩:=name_itV D.length
 obtain⟨m,Hm⟩:=name_itV E.length
 have HAD:=hid (show pt (atD D) (n+m+1)=amtD D from amt_at (by rw[Hn.out];omega))
 have HAE:=hid (show pt (atD E) (n+m+1)=amtD E from amt_at (by rw[Hm.out];omega))
 unfold RCmpIs
 rw[Hr.out]
 rw[Hn.out]at hA hD ⊢
 rw[Hm.out]at hB hE ⊢
 have w0:IntKind.i64.wrap ((n:Int)+(m:Int))=(n:Int)+(m:Int):=IntWalk.i64_in _ (by omega)
 clear h1 h2 hd he
 go_enter Tryz.func292,Tryz.ntmps292
 go_wp2_with fail
 go_loopw [5] (λs5 wx=>∃(i:Nat) (v:Int) (q:Nat),i≤n+m+1∧s5 = .int .i64 v∧v=(i:Int)-1∧Hid (wx=w.drewN q∧∀j,i≤j→j<n+m+1→atD D j=atD E j)) (λs5 _=>(intOf s5+1).toNat)
 case atStart=>exact⟨n+m+1,(n:Int)+(m:Int),0,by omega,rfl,by omega,hid ⟨rfl,λj h1 h2=>by omega⟩⟩
 case round=>
  obtain⟨i,v,q,hi,rfl,hv,hM⟩:=hrel
  have HV:=hid hv
  clear hv
  by_cases hlt:0<i
  ·obtain⟨k,hk⟩:∃k,i=k+1:=⟨i-1,by omega⟩
   have hvk:v=(k:Int):=by have:=HV.out;omega
   subst hvk
   have HK:=hid hk
   have hkb:k≤4000000000000:=by omega
   have hkl:k<n+m+1:=by omega
   obtain⟨x,Hx⟩:=name_itV (atD D k)
   obtain⟨y,Hy⟩:=name_itV (atD E k)
   have hEQ:=hid hM.out.2
   have hA1:=hid (hA.out q k hkb)
   rw[Hx.out]at hA1
   have hww:=hM.out.1
   subst hww
   have e1:(0:Int)≤k:=by omega
   clear hM hk
   go_wp2_with fail
   refine hA1.out.mono ?_
   rintro e w2 ⟨rfl,q1,hw2⟩
   rw[World.drewN_drewN]at hw2
   subst hw2
   have hB1:=hid (hB.out (q+q1) k hkb)
   rw[Hy.out]at hB1
   by_cases h1:x=y
   ·have HE:=hid h1
    have t1:((x:Int) != (y:Int))=false:=by rw[h1];exact bne_self_eq_false _
    have w2':IntKind.i64.wrap ((k:Int)-1)=(k:Int)-1:=IntWalk.i64_in _ (by omega)
    clear h1
    go_wp2_with fail
    refine hB1.out.mono ?_
    rintro e w3 ⟨rfl,q2,hw3⟩
    rw[World.drewN_drewN]at hw3
    subst hw3
    go_wp2_with fail
    go_roundw
    case measure=>first | (simp[intOf];done) | (simp[intOf];omega)
    case rel=>
     refine⟨k,(k:Int)-1,q+q1+q2,by omega,rfl,rfl,hid ⟨rfl,λj hj1 hj2=>?_⟩⟩
     by_cases e:j=k
     ·rw[e,Hx.out,Hy.out];exact HE.out
     ·exact hEQ.out j (by have:=HK.out;omega) hj2
   ·have t1:((x:Int) != (y:Int))=true:=by
      rw[bne_iff_ne]
      omega
    go_wp2_with fail
    refine hB1.out.mono ?_
    rintro e w3 ⟨rfl,q2,hw3⟩
    rw[World.drewN_drewN]at hw3
    subst hw3
    have hA2:=hid (hA.out (q+q1+q2) k hkb)
    rw[Hx.out]at hA2
    go_wp2_with fail
    refine hA2.out.mono ?_
    rintro e w4 ⟨rfl,q3,hw4⟩
    rw[World.drewN_drewN]at hw4
    subst hw4
    have hB2:=hid (hB.out (q+q1+q2+q3) k hkb)
    rw[Hy.out]at hB2
    by_cases h2:x<y
    ·have g1:(x:Int)<(y:Int):=by omega
     have HS:=hid (show (-1:Int)=r from by
      rw[←Hr.out,←HAD.out,←HAE.out]
      have:=pt_cmp (f:=atD D) (g:=atD E) (n:=n+m+1) (i:=k) (λj _=>by have:=HD9.out j;show _<10;omega) (by have:=HK.out;omega) (λj h1 h2=>hEQ.out j (by have:=HK.out;omega) h2) (by rw[Hx.out,Hy.out];exact h2)
      unfold cmpN
      rw[if_pos this])
     clear h1 h2
     go_wp2_with fail
     refine hB2.out.mono ?_
     rintro e w5 ⟨rfl,q4,hw5⟩
     rw[World.drewN_drewN]at hw5
     subst hw5
     go_wp2_with fail
     go_ret
     exact⟨congrArg (λv=>Ending.returned (Value.int IntKind.i64 v)) HS.out,_,rfl⟩
    ·have g1:¬(x:Int)<(y:Int):=by omega
     have HS:=hid (show (1:Int)=r from by
      rw[←Hr.out,←HAD.out,←HAE.out]
      have:=pt_cmp (f:=atD E) (g:=atD D) (n:=n+m+1) (i:=k) (λj _=>by have:=HE9.out j;show _<10;omega) (by have:=HK.out;omega) (λj h1 h2=>(hEQ.out j (by have:=HK.out;omega) h2).symm) (by rw[Hx.out,Hy.out];omega)
      unfold cmpN
      rw[if_neg (by omega),if_pos this])
     clear h1 h2
     go_wp2_with fail
     refine hB2.out.mono ?_
     rintro e w5 ⟨rfl,q4,hw5⟩
     rw[World.drewN_drewN]at hw5
     subst hw5
     go_wp2_with fail
     go_ret
     exact⟨congrArg (λv=>Ending.returned (Value.int IntKind.i64 v)) HS.out,_,rfl⟩
  ·have h0:i=0:=by omega
   have hv1:v = -1:=by have:=HV.out;omega
   subst hv1
   have HS:=hid (show (0:Int)=r from by
    rw[←Hr.out,←HAD.out,←HAE.out]
    have h1:=pt_congr (f:=atD D) (g:=atD E) (n:=n+m+1) (λj hj=>hM.out.2 j (by omega) hj)
    unfold cmpN
    rw[h1,if_neg (Nat.lt_irrefl _),if_neg (Nat.lt_irrefl _)])
   have HWq:=hid hM.out.1
   go_wp2_with fail
   go_ret
   exact⟨congrArg (λv=>Ending.returned (Value.int IntKind.i64 v)) HS.out,q,HWq.out⟩
def intsV (O:List Nat):List Value:=O.map λ(x:Nat)=>Value.int .i64 (x:Int)
theorem atD_app {O:List Nat} {x i:Nat}:atD (O++[x]) i=if i<O.length then atD O i else if i=O.length then x else 0:=by
 unfold atD
 by_cases h:i<O.length
 ·rw[if_pos h,List.getElem?_append_left h]
 ·rw[if_neg h,List.getElem?_append_right (by omega)]
  by_cases h2:i=O.length
  ·rw[if_pos h2,h2,Nat.sub_self];rfl
  ·rw[if_neg h2]
   obtain⟨k,hk⟩:∃k,i-O.length=k+1:=⟨i-O.length-1,by omega⟩
   rw[hk];rfl
theorem pt_app {O:List Nat} {x:Nat}:pt (atD (O++[x])) O.length=pt (atD O) O.length:=pt_congr λi hi=>by rw[atD_app,if_pos hi]
def RAddIs (D E:List Nat) (w:World) (e:Ending) (w':World):Prop:=∃(O:List Nat) (s:Value),e = .returned s∧Below w.heap.size w w'∧w'.ownsRow 0 3 1 s O.length (intsV O)∧(∀i,atD O i≤9)∧amtD O=amtD D+amtD E∧O.length≤D.length+E.length+1∧∀g,s.ownBlock=some g→w.heap.size≤g
theorem radd_any (D E:List Nat) (hD:D.length≤10000000) (hE:E.length≤10000000) (hd:∀i,atD D i≤9) (he:∀i,atD E i≤9) (A B:Option Addr) (ca cb:Nat) (w:World) (h1:IntsAt w A D) (h2:IntsAt w B E) :
    Calls Tryz.prog 291 #[.slice A D.length ca,.slice B E.length cb] w (RAddIs D E w):=by
 have H1:=hid h1
 have H2:=hid h2
 have HD9:=hid hd
 have HE9:=hid he
 obtain⟨n,Hn⟩:=name_itV D.length
 obtain⟨m,Hm⟩:=name_itV E.length
 have hA:=hid (λ(W:World) (hW:Below w.heap.size w W) (i:Nat) (hi:i≤4000000000000)=>at_any D A ca i hi W (H1.out.under hW))
 have hB:=hid (λ(W:World) (hW:Below w.heap.size w W) (i:Nat) (hi:i≤4000000000000)=>at_any E B cb i hi W (H2.out.under hW))
 rw[Hn.out]at hA hD ⊢
 rw[Hm.out]at hB hE ⊢
 clear h1 h2 hd he
 go_enter Tryz.func291,Tryz.ntmps291
 go_wp2_with fail
 go_loopw [5,6,7] (λs5 s6 s7 wx=>∃(i c:Nat),i≤n+m+1∧c≤1∧s6 = .int .i64 (c:Nat)∧s7 = .int .i64 (i:Nat)∧Hid ((n≤i→m≤i→0<c→i≤n+m)∧∃O:List Nat,O.length=i∧wx.ownsRow 0 3 1 s5 i (intsV O)∧Below w.heap.size w wx∧(∀i,atD O i≤9)∧pt (atD O) i+c*bT ^ i=pt (atD D) i+pt (atD E) i∧∀g,s5.ownBlock=some g→w.heap.size≤g)) (λ_ _ s7 _=>n+m+2-(intOf s7).toNat)
 case atStart=>exact⟨0,0,by omega,by omega,rfl,rfl,hid ⟨λ_ _ h=>by omega,[],rfl,World.ownsRow_nil ..,Below.refl _ _,λi=>Nat.zero_le _,by simp[pt],λg hg=>by cases hg⟩⟩
 case round=>
  obtain⟨i,c,hi,hc,rfl,rfl,hM⟩:=hrel
  obtain⟨hcar,O,hOl,hrow,hB,hO9,hpt,hown⟩:=hM.out
  have HO:=hid (And.intro hOl (And.intro hO9 (And.intro hpt hown)))
  have HROW:=hid hrow
  have HBr:=hid hB
  have HCAR:=hid hcar
  obtain⟨Ao,co,hs5⟩:=slice_form hrow
  subst hs5
  clear hM hcar hOl hrow hB hO9 hpt hown
  obtain⟨gb,HGB⟩:=name_itV (decide (i<n∨i<m∨0<c))
  go_upto_region 4 with fail
  go_cut [22] (λs22 wx=>s22 = .bool gb∧wx=wr)
  case first=>
   by_cases a0:i<n
   ·have e1:(i:Int)<(n:Int):=by omega
    have hg:=hid (show gb=true from by rw[←HGB.out];exact decide_eq_true (.inl a0))
    clear a0
    go_wp2_with fail
    go_meet
    exact⟨by rw[hg.out],rfl⟩
   ·have e1:¬(i:Int)<(n:Int):=by omega
    by_cases a1:i<m
    ·have e2:(i:Int)<(m:Int):=by omega
     have hg:=hid (show gb=true from by rw[←HGB.out];exact decide_eq_true (.inr (.inl a1)))
     clear a0 a1
     go_wp2_with fail
     go_meet
     exact⟨by rw[hg.out],rfl⟩
    ·have e2:¬(i:Int)<(m:Int):=by omega
     by_cases a2:0<c
     ·have e3:(0:Int)<(c:Int):=by omega
      have hg:=hid (show gb=true from by rw[←HGB.out];exact decide_eq_true (.inr (.inr a2)))
      have HA2:=hid a2
      clear a0 a1 a2
      go_wp2_with fail
      go_meet
      exact⟨congrArg Value.bool ((decide_eq_true HA2.out).trans hg.out.symm),rfl⟩
     ·have e3:¬(0:Int)<(c:Int):=by omega
      have hg:=hid (show gb=false from by rw[←HGB.out];exact decide_eq_false (by omega))
      have HA2:=hid a2
      clear a0 a1 a2
      go_wp2_with fail
      go_meet
      exact⟨congrArg Value.bool ((decide_eq_false HA2.out).trans hg.out.symm),rfl⟩
  case rest=>
   obtain⟨h22,rfl⟩:=hcut
   cases gb with
   | true=>
    subst h22
    have hgo:=hid (of_decide_eq_true HGB.out)
    have hib:i≤n+m:=by
     have h1:=hgo.out
     have h2:=HCAR.out
     rcases h1 with h1 | h1 | h1
     ·omega
     ·omega
     ·by_cases h3:n≤i
      ·by_cases h4:m≤i
       ·exact h2 h3 h4 h1
       ·omega
      ·omega
    obtain⟨x,Hx⟩:=name_itV (atD D i)
    obtain⟨y,Hy⟩:=name_itV (atD E i)
    have hx9:x≤9:=by rw[←Hx.out];exact HD9.out i
    have hy9:y≤9:=by rw[←Hy.out];exact HE9.out i
    obtain⟨S1,HS1⟩:=name_itV (x+y)
    obtain⟨S2,HS2⟩:=name_itV (x+y+c)
    obtain⟨d,Hd⟩:=name_itV ((x+y+c) % 10)
    obtain⟨q,Hq⟩:=name_itV ((x+y+c) / 10)
    have hq1:q≤1:=by rw[←Hq.out];omega
    have hd9:d≤9:=by rw[←Hd.out];omega
    have w1:IntKind.i64.wrap ((x:Int)+(y:Int))=(S1:Int):=by rw[IntWalk.i64_in _ (by omega),←HS1.out];rfl
    have w2:IntKind.i64.wrap ((S1:Int)+(c:Int))=(S2:Int):=by rw[←HS1.out,←HS2.out,IntWalk.i64_in _ (by omega)];rfl
    have r1:Int.tmod (S2:Int) 10=(d:Int):=by rw[←Hd.out,←HS2.out];rfl
    have r2:Int.tdiv (S2:Int) 10=(q:Int):=by rw[←Hq.out,←HS2.out];rfl
    have r3:(S2:Int) % 10=(d:Int):=by rw[←Hd.out,←HS2.out];rfl
    have r4:(S2:Int) / 10=(q:Int):=by rw[←Hq.out,←HS2.out];rfl
    have w3:IntKind.i64.wrap (q:Int)=(q:Int):=IntWalk.i64_in _ (by omega)
    have w4:IntKind.i64.wrap (d:Int)=(d:Int):=IntWalk.i64_in _ (by omega)
    have w5:IntKind.i64.wrap ((i:Int)+1)=(i:Int)+1:=IntWalk.i64_in _ (by omega)
    have hA1:=hid (hA.out wc HBr.out i (by omega))
    rw[Hx.out]at hA1
    go_wp2_with fail
    refine hA1.out.mono ?_
    rintro e w2' ⟨rfl,q1,hw2⟩
    have HB2:=hid (show Below w.heap.size w w2' from by rw[hw2];exact⟨HBr.out.os,HBr.out.tape,HBr.out.output,HBr.out.size,HBr.out.block⟩)
    have HROW2:=hid (show w2'.ownsRow 0 3 1 (.slice Ao i co) i (intsV O) from by rw[hw2];exact HROW.out)
    have hB1:=hid (hB.out w2' HB2.out i (by omega))
    rw[Hy.out]at hB1
    clear hw2
    go_wp2_with fail
    refine hB1.out.mono ?_
    rintro e w3' ⟨rfl,q2,hw3⟩
    have HB3:=hid (show Below w.heap.size w w3' from by rw[hw3];exact⟨HB2.out.os,HB2.out.tape,HB2.out.output,HB2.out.size,HB2.out.block⟩)
    have HROW3:=hid (show w3'.ownsRow 0 3 1 (.slice Ao i co) i (intsV O) from by rw[hw3];exact HROW2.out)
    clear hw3
    go_wp2_with (at_builtin;refine app_new rfl _ _ 94 rfl 0 3 (.int .i64 0) 1 8 Tryz.underlying94 infoInt rfl (by decide) (.slice Ao i co) i (intsV O) rfl HROW3.out (Nat.zero_le _) #[.int .i64 (d:Int)] 1 1 rfl rfl (one_int _ _) (by omega) (by omega) (by decide) ?_;intro g4 cp4 w4' ho4 hg4 hl4;have HO4:=hid ho4;have HG4:=hid hg4;have HL4:=hid hl4;clear ho4 hg4 hl4)
    go_roundw
    case measure=>simp[intOf];omega
    case rel=>
     obtain⟨k1,k2,k3,k4⟩:=HO.out
     refine⟨i+1,q,by omega,hq1,rfl,by go_num,hid ⟨λh1 h2 h3=>?_,O++[d],by rw[List.length_append,k1];rfl,?_,?_,λj=>?_,?_,λg hg=>?_⟩⟩
     ·rcases hgo.out with h4 | h4 | h4
      ·omega
      ·omega
      ·by_cases h5:i<n
       ·omega
       ·by_cases h6:i<m
        ·omega
        ·have hx0:x=0:=by rw[←Hx.out];exact atD_big (by rw[Hn.out];omega)
         have hy0:y=0:=by rw[←Hy.out];exact atD_big (by rw[Hm.out];omega)
         have:q=0:=by rw[←Hq.out];omega
         omega
     ·have:=HO4.out
      unfold intsV
      rw[List.map_append]
      exact this
     ·exact HB3.out.grown HG4.out HB3.out.size (λk hk=>k4 k hk)
     ·rw[atD_app,k1]
      split
      ·exact k2 j
      ·split
       ·exact hd9
       ·exact Nat.zero_le _
     ·have hp:=pt_add (f:=atD D) (g:=atD E) (o:=atD (O++[d])) (i:=i) (c:=c) (by
        rw[←k3,show pt (atD (O++[d])) i=pt (atD O) i from by rw[←k1];exact pt_app]) (by rw[atD_app,if_neg (by omega),if_pos k1.symm,Hx.out,Hy.out];exact Hd.out.symm)
      rw[Hx.out,Hy.out,show (x+y+c) / bT=q from Hq.out]at hp
      exact hp
     ·injection hg with hg
      rcases HL4.out with h1 | h1
      ·have:=k4 _ h1
       have e4:g4=g:=hg
       omega
      ·have e4:g4=g:=hg
       have:=HB3.out.size
       omega
   | false=>
    subst h22
    have hgo:=hid (of_decide_eq_false HGB.out)
    go_wp2_with fail
    go_ret
    obtain⟨k1,k2,k3,k4⟩:=HO.out
    have h1:=hgo.out
    refine⟨O,_,rfl,HBr.out,by rw[k1];exact HROW.out,k2,?_,by rw[k1,Hn.out,Hm.out];omega,k4⟩
    have hc0:c=0:=by omega
    rw[hc0,Nat.zero_mul,Nat.add_zero,amt_at (by rw[k1];exact Nat.le_refl _),amt_at (by rw[Hn.out];omega),amt_at (by rw[Hm.out];omega)]at k3
    exact k3
theorem pt_low {f:Nat→Nat} {n m:Nat} (h:pt f (n+m)<bT ^ n):pt f (n+m)=pt f n:=by
 induction m with
 | zero=>rfl
 | succ m ih=>
  rw[←Nat.add_assoc,pt]at h ⊢
  have h0:f (n+m)=0:=by
   rcases Nat.eq_zero_or_pos (f (n+m)) with h1 | h1
   ·exact h1
   ·have h2:1*bT ^ (n+m)≤f (n+m)*bT ^ (n+m):=Nat.mul_le_mul_right _ h1
    have h3:bT ^ n≤bT ^ (n+m):=Nat.pow_le_pow_right (by decide) (by omega)
    omega
  rw[h0,Nat.zero_mul,Nat.add_zero]at h ⊢
  exact ih h
theorem amt_lt {D:List Nat} (h:∀i,atD D i≤9):amtD D<bT ^ D.length:=pt_lt λi _=>by have:=h i;show _<10;omega
def RSubIs (D E:List Nat) (w:World) (e:Ending) (w':World):Prop:=∃(O:List Nat) (s:Value),e = .returned s∧Below w.heap.size w w'∧w'.ownsRow 0 3 1 s O.length (intsV O)∧(∀i,atD O i≤9)∧amtD O=amtD D-amtD E∧O.length=D.length∧∀g,s.ownBlock=some g→w.heap.size≤g
theorem rsub_any (D E:List Nat) (hD:D.length≤10000000) (_hE:E.length≤10000000) (hd:∀i,atD D i≤9) (he:∀i,atD E i≤9) (hle:amtD E≤amtD D) (A B:Option Addr) (ca cb:Nat) (w:World) (h1:IntsAt w A D) (h2:IntsAt w B E) :
    Calls Tryz.prog 293 #[.slice A D.length ca,.slice B E.length cb] w (RSubIs D E w):=by
 have H1:=hid h1
 have H2:=hid h2
 have HD9:=hid hd
 have HE9:=hid he
 have HEN:=hid (show pt (atD E) D.length=amtD E from by
  have h3:pt (atD E) (D.length+E.length)=amtD E:=amt_at (by omega)
  rw[←h3]
  exact (pt_low (by rw[h3];exact Nat.lt_of_le_of_lt hle (amt_lt hd))).symm)
 obtain⟨n,Hn⟩:=name_itV D.length
 obtain⟨m,Hm⟩:=name_itV E.length
 have hB:=hid (λ(W:World) (hW:Below w.heap.size w W) (i:Nat) (hi:i≤4000000000000)=>at_any E B cb i hi W (H2.out.under hW))
 have HAX:=hid (λ(W:World) (hW:Below w.heap.size w W)=>H1.out.under hW)
 rw[Hn.out]at hD HEN ⊢
 rw[Hm.out]at hB ⊢
 clear h1 h2 hd he
 go_enter Tryz.func293,Tryz.ntmps293
 go_wp2_with fail
 go_loopw [5,6,7] (λs5 s6 s7 wx=>∃(i c:Nat),i≤n∧c≤1∧s6 = .int .i64 (c:Nat)∧s7 = .int .i64 (i:Nat)∧Hid (∃O:List Nat,O.length=i∧wx.ownsRow 0 3 1 s5 i (intsV O)∧Below w.heap.size w wx∧(∀i,atD O i≤9)∧pt (atD O) i+pt (atD E) i=pt (atD D) i+c*bT ^ i∧∀g,s5.ownBlock=some g→w.heap.size≤g)) (λ_ _ s7 _=>n-(intOf s7).toNat)
 case atStart=>exact⟨0,0,by omega,by omega,rfl,rfl,hid ⟨[],rfl,World.ownsRow_nil ..,Below.refl _ _,λi=>Nat.zero_le _,by simp[pt],λg hg=>by cases hg⟩⟩
 case round=>
  obtain⟨i,c,hi,hc,rfl,rfl,hM⟩:=hrel
  obtain⟨O,hOl,hrow,hB0,hO9,hpt,hown⟩:=hM.out
  have HO:=hid (And.intro hOl (And.intro hO9 (And.intro hpt hown)))
  have HROW:=hid hrow
  have HBr:=hid hB0
  obtain⟨Ao,co,hs5⟩:=slice_form hrow
  subst hs5
  clear hM hOl hrow hB0 hO9 hpt hown
  by_cases hlt:i<n
  ·obtain⟨x,hx⟩:∃x,D[i]?=some x:=⟨D[i]'(by rw[Hn.out];exact hlt),List.getElem?_eq_getElem _⟩
   obtain⟨ad,rfl,_,q0⟩:=HAX.out wr HBr.out i x hx
   have Hx:=hid (show atD D i=x from by unfold atD;rw[hx];rfl)
   obtain⟨y,Hy⟩:=name_itV (atD E i)
   have hx9:x≤9:=by rw[←Hx.out];exact HD9.out i
   have hy9:y≤9:=by rw[←Hy.out];exact HE9.out i
   obtain⟨S1,HS1⟩:∃S1:Int,Hid ((x:Int)-(y:Int)=S1):=⟨_,hid rfl⟩
   obtain⟨S2,HS2⟩:∃S2:Int,Hid (S1-(c:Int)=S2):=⟨_,hid rfl⟩
   have w1:IntKind.i64.wrap ((x:Int)-(y:Int))=S1:=by rw[IntWalk.i64_in _ (by omega)];exact HS1.out
   have w2:IntKind.i64.wrap (S1-(c:Int))=S2:=by rw[IntWalk.i64_in _ (by have:=HS1.out;omega)];exact HS2.out
   have w5:IntKind.i64.wrap ((i:Int)+1)=(i:Int)+1:=IntWalk.i64_in _ (by omega)
   have hB1:=hid (λ(q:Nat)=>hB.out (wr.drewN q) ⟨HBr.out.os,HBr.out.tape,HBr.out.output,HBr.out.size,HBr.out.block⟩ i (by omega))
   rw[Hy.out]at hB1
   have e1:(0:Int)≤i:=by omega
   have e2:(i:Int)<n:=by omega
   obtain⟨d,Hd⟩:=name_itV ((x+10-y-c) % 10)
   obtain⟨q,Hq⟩:=name_itV (1-(x+10-y-c) / 10)
   have HSUM:=hid (show S2=(x:Int)-y-c from by rw[←HS2.out,←HS1.out])
   clear hx
   have HNEXT:=hid (λ(W W4:World) (g4 cp4:Nat) (hW:Below w.heap.size w W) (ho:W4.ownsRow 0 3 1 (.slice (some ⟨g4,0,none⟩) (i+1) cp4) (i+1) (intsV O++#[Value.int .i64 (d:Int)].toList)) (hg:W.grownBy W4 (Value.slice Ao i co).ownBlock) (hl:(Value.slice Ao i co).ownBlock=some g4∨W.heap.size≤g4)=>(show ∃O:List Nat,O.length=i+1∧W4.ownsRow 0 3 1 (.slice (some ⟨g4,0,none⟩) (i+1) cp4) (i+1) (intsV O)∧Below w.heap.size w W4∧(∀i,atD O i≤9)∧pt (atD O) (i+1)+pt (atD E) (i+1)=pt (atD D) (i+1)+q*bT ^ (i+1)∧∀g,(Value.slice (some ⟨g4,0,none⟩) (i+1) cp4).ownBlock=some g→w.heap.size≤g from by
    obtain⟨k1,k2,k3,k4⟩:=HO.out
    refine⟨O++[d],by rw[List.length_append,k1];rfl,?_,hW.grown hg hW.size (λk hk=>k4 k hk),λj=>?_,?_,λg hg2=>?_⟩
    ·unfold intsV
     rw[List.map_append]
     exact ho
    ·rw[atD_app,k1]
     split
     ·exact k2 j
     ·split
      ·rw[←Hd.out];omega
      ·exact Nat.zero_le _
    ·have hp:=(pt_sub (f:=atD D) (g:=atD E) (o:=atD (O++[d])) (i:=i) (b:=c) (by
       rw[←k3,show pt (atD (O++[d])) i=pt (atD O) i from by rw[←k1];exact pt_app]) (by rw[Hy.out];show y<10;omega) hc (by rw[Hx.out];show x<10;omega) (by rw[atD_app,if_neg (by omega),if_pos k1.symm,Hx.out,Hy.out];exact Hd.out.symm)).1
     rw[Hx.out,Hy.out,show 1-(x+bT-y-c) / bT=q from Hq.out]at hp
     exact hp
    ·have e4:g4=g:=by injection hg2
     rcases hl with h1 | h1
     ·have:=k4 _ h1
      omega
     ·have:=hW.size
      omega))
   by_cases hneg:S2<0
   ·have hdv:S2+10=(d:Int):=by have h1:=HSUM.out;rw[←Hd.out];omega
    have hqv:q=1:=by have h1:=HSUM.out;rw[←Hq.out];omega
    have HQ:=hid hqv
    have w6:IntKind.i64.wrap (S2+10)=(d:Int):=by rw[IntWalk.i64_in _ (by have h1:=HSUM.out;omega)];exact hdv
    clear hdv hqv
    go_upto_region 6 with fail
    go_quiet ((go_at_call 321;exact Calls.quiet_of (hB1.out _)))
    have HBQ:=hid (show Below w.heap.size w (wr.drewN nq) from ⟨HBr.out.os,HBr.out.tape,HBr.out.output,HBr.out.size,HBr.out.block⟩)
    have HRQ:=hid (show (wr.drewN nq).ownsRow 0 3 1 (.slice Ao i co) i (intsV O) from HROW.out)
    obtain⟨wq,Hwq⟩:=name_itV (wr.drewN nq)
    rw[Hwq.out]at HBQ HRQ ⊢
    clear q0
    go_wp2_with (at_builtin;refine app_new rfl _ _ 94 rfl 0 3 (.int .i64 0) 1 8 Tryz.underlying94 infoInt rfl (by decide) (.slice Ao i co) i (intsV O) rfl HRQ.out (Nat.zero_le _) #[.int .i64 (d:Int)] 1 1 rfl rfl (one_int _ _) (by omega) (by omega) (by decide) ?_;intro g4 cp4 w4' ho4 hg4 hl4;have HO4:=hid ho4;have HG4:=hid hg4;have HL4:=hid hl4;clear ho4 hg4 hl4)
    go_roundw
    case measure=>simp[intOf];omega
    case rel=>
     have h9:=HNEXT.out wq w4' g4 cp4 HBQ.out HO4.out HG4.out HL4.out
     rw[HQ.out]at h9
     exact⟨i+1,1,by omega,by omega,rfl,by go_num,hid h9⟩
   ·have hdv:S2=(d:Int):=by have h1:=HSUM.out;rw[←Hd.out];omega
    have hqv:q=0:=by have h1:=HSUM.out;rw[←Hq.out];omega
    have HQ:=hid hqv
    have HDV:=hid hdv
    clear hdv hqv
    go_upto_region 6 with fail
    go_quiet ((go_at_call 321;exact Calls.quiet_of (hB1.out _)))
    have HBQ:=hid (show Below w.heap.size w (wr.drewN nq) from ⟨HBr.out.os,HBr.out.tape,HBr.out.output,HBr.out.size,HBr.out.block⟩)
    have HRQ:=hid (show (wr.drewN nq).ownsRow 0 3 1 (.slice Ao i co) i (intsV O) from HROW.out)
    obtain⟨wq,Hwq⟩:=name_itV (wr.drewN nq)
    rw[Hwq.out]at HBQ HRQ ⊢
    clear q0
    go_wp2_with (at_builtin;refine app_new rfl _ _ 94 rfl 0 3 (.int .i64 0) 1 8 Tryz.underlying94 infoInt rfl (by decide) (.slice Ao i co) i (intsV O) rfl HRQ.out (Nat.zero_le _) #[.int .i64 S2] 1 1 rfl rfl (one_int _ _) (by omega) (by omega) (by decide) ?_;intro g4 cp4 w4' ho4 hg4 hl4;have HO4:=hid ho4;have HG4:=hid hg4;have HL4:=hid hl4;clear ho4 hg4 hl4)
    go_roundw
    case measure=>simp[intOf];omega
    case rel=>
     have h9:=HNEXT.out wq w4' g4 cp4 HBQ.out (by rw[←HDV.out];exact HO4.out) HG4.out HL4.out
     rw[HQ.out]at h9
     exact⟨i+1,0,by omega,by omega,rfl,by go_num,hid h9⟩
  ·have hin:i=n:=by omega
   have HIN:=hid hin
   clear hin
   go_wp2_with fail
   go_ret
   obtain⟨k1,k2,k3,k4⟩:=HO.out
   refine⟨O,_,rfl,HBr.out,by rw[k1];exact HROW.out,k2,?_,by rw[k1,Hn.out];exact HIN.out,k4⟩
   have hAD:pt (atD D) n=amtD D:=amt_at (by rw[Hn.out];exact Nat.le_refl _)
   have hAO:pt (atD O) n=amtD O:=amt_at (by rw[k1,HIN.out];exact Nat.le_refl _)
   rw[HIN.out]at k3
   have hend:=pt_sub_end k3 (λj _=>by have:=k2 j;show _<10;omega) (by rw[HEN.out,hAD];exact hle)
   rw[hAO,hAD,HEN.out]at hend
   exact hend
end Go.Proofs.YtefhfadjajcmkaaGreatDoor
