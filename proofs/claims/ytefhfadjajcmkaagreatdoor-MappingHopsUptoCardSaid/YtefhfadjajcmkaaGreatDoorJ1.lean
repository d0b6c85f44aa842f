/- May a value be: checked. Printed by gen_VJ.py. -/
import Derived.Test.YtefhfadjajcmkaaGreatDoorJ0
import Derived.Deep.RegionHeld3
import Derived.BigRegion
set_option linter.unusedVariables false
set_option linter.unusedSimpArgs false
set_option maxRecDepth 100000
set_option maxHeartbeats 64000000
namespace Go.Proofs.YtefhfadjajcmkaaGreatDoor
open Go.Lib (cell_of_heap)
section
open Go Go.RowKit Go.Shelf Go.Lib
def bK (l:List UInt8):ByteArray:=⟨l.toArray⟩
theorem bp_ (l:List UInt8):(bK l).size=l.length:=by simp[bK,ByteArray.size]
theorem h0_ (l:List UInt8):(bK l).data.toList=l:=rfl
theorem qw_ (l:List UInt8):(bK l).toList=l:=Lib.toList_data (bK l)
theorem cb_ (a b:List UInt8):bK a++bK b=bK (a++b):=by apply ByteArray.ext;simp[bK,ByteArray.data_append]
theorem Hu_ (a:List UInt8) {k:Nat}:(bK a).extract 0 k=bK (a.take k):=by apply ByteArray.ext;simp[bK]
theorem Hv_ (a:List UInt8) {k n:Nat} (h:a.length=n):(bK a).extract k n=bK (a.drop k):=by apply ByteArray.ext;subst h;simp[bK];exact List.take_of_length_le (by simp)
theorem l9_ (n:Nat):Lib.repeatL [48] n=List.replicate n 48:=by
 induction n with
 | zero=>rfl
 | succ n a=>simp[Lib.repeatL,a,List.replicate_succ]
theorem g7_ (d:List UInt8) (a:Nat):(it_ d a).length=max d.length (a+1):=by
 unfold it_;split
 ·simp;omega
 ·omega
theorem z7_ (d:List UInt8) (a:Nat):(d8_ d a).length<=d.length+1:=by unfold d8_ Lib.trimLeftS;have h:=(List.dropWhile_sublist ([48].contains ·) (l:=(it_ d a).take ((it_ d a).length-a))).length_le;have:=g7_ d a;rw[List.length_take]at h;omega
theorem Df_ (d:List UInt8) (a:Nat):(gv_ d a).length<=a:=by unfold gv_ Lib.trimRightS;rw[List.length_reverse];have h:=(List.dropWhile_sublist ([48].contains ·) (l:=((it_ d a).drop ((it_ d a).length-a)).reverse)).length_le;have:=g7_ d a;rw[List.length_reverse,List.length_drop]at h;omega
def Dg_ (a:Bool) (d:List UInt8) (c:Nat) (w:World) (e:Ending) (w':World):Prop:=Below w.heap.size w w'/\e = .returned (.tuple #[.string (bK (co_ a d c).1),.int .i64 (co_ a d c).2])
theorem Dh_ (i:Bool) (d:List UInt8) (f:Nat) (hd:d.length<=1000000) (ay:f<=1000000) (w:World) :
    Calls Tryz.prog 297 #[.bool i,.string (bK d),.int .i64 (f:Int)] w (Dg_ i d f w):=by
 obtain⟨n,L⟩:=a_ d.length;have hn:(bK d).size=n:=by rw[bp_];exact L.o
 have aw:n<=1000000:=by rw[<-L.o];exact hd
 obtain⟨D,HD⟩:=a_ (bK d);obtain⟨P,T⟩:=a_ (it_ d f);obtain⟨y,HW⟩:=a_ (d8_ d f);obtain⟨m,a4⟩:=a_ (gv_ d f);have ap:=g7_ d f;have ai:=z7_ d f;have aj:=Df_ d f;rw[T.o,L.o]at ap;rw[HW.o,L.o]at ai;rw[a4.o]at aj;obtain⟨K,HK⟩:=a_ (P.length-f);have b1:K<=1000001:=by rw[<-HK.o];omega
 have hw:=q_ (show Lib.trimLeftS (P.take K) [48]=y from by rw[<-HW.o,<-HK.o,<-T.o];rfl);have hp:=q_ (show Lib.trimRightS (P.drop K) [48]=m from by rw[<-a4.o,<-HK.o,<-T.o];rfl)
 have p:=q_ (show co_ i d f=(if 40<y.length\/20<m.length then ([],2)
  else if y=[]/\m=[] then ([48,46,48],0)
  else ((if i=true then [45] else [])++(if y=[] then [48] else y)++[46]++(if m=[] then [48] else m),0)) from by unfold co_;rw[HW.o,a4.o])
 rw[HD.o];have a8:D.size=n:=by rw[<-HD.o];exact hn
 have J:=q_ a8;clear hn a8 hd;go_enter Tryz.func297,Tryz.ntmps297
 go_upto_if 13 with fail;go_cut [1] (λs1 wx=>s1 = .string (bK P)/\Below w.heap.size w wx)
 case first=>
  by_cases ac:n<=f
  ·obtain⟨c,hc⟩:∃c:Nat,c=f+1-n:=⟨_,rfl⟩;have V:=q_ (nv_ ⟨#[48]⟩ c w (by omega) (by rw[show (⟨#[48]⟩:ByteArray).size=1 from rfl,Nat.one_mul];omega));have w1:IntKind.i64.wrap ((f:Int)+1)=(f:Int)+1:=IntWalk.i64_in _ (by omega);have w2:IntKind.i64.wrap ((f:Int)+1-(D.size:Int))=(c:Int):=by rw[J.o,IntWalk.i64_in _ (by omega)];omega
   have e1:D.size<=f:=by rw[J.o];omega
   have e2:(f:Int)+1-(D.size:Int)=(c:Int):=by rw[J.o];omega
   have N:=q_ (show bK (List.replicate c 48)++D=bK P from by rw[<-HD.o,<-T.o,cb_];unfold it_;rw[if_pos (by rw[L.o];exact ac),L.o,hc]);have M:(⟨#[48]⟩:ByteArray).data.toList=[48]:=rfl;have G:=V.o;rw[M,l9_]at G;have R:=q_ (show Calls Tryz.prog 325 #[.string ⟨#[48]⟩,.int .i64 (c:Int)] w λe w'=>e = .returned (.string (bK (List.replicate c 48)))/\Below w.heap.size w w' from G);obtain⟨Z,HZ⟩:=a_ (bK (List.replicate c 48));have b0:Z.size<=1000001:=by rw[<-HZ.o,bp_,List.length_replicate];omega
   rw[HZ.o]at R N;have ar:∀W:World,(Op.stringOp .add Z D).run Tryz.prog W = .ok (.string (Z++D)) W:=λW=>run_string_add_sum W _ _ (by rw[J.o];omega);clear G V M hc;go_wp2_with fail;refine R.o.mono ?_;rintro e w' ⟨rfl,hB⟩;have HB:=q_ hB;clear hB;go_wp2_with fail;go_meet;exact⟨by rw[N.o],HB.o⟩
  ·have e1:¬D.size<=f:=by rw[J.o];omega
   have N:=q_ (show D=bK P from by rw[<-HD.o,<-T.o];unfold it_;rw[if_neg (by rw[L.o];exact ac)]);go_wp2_with fail;go_meet;exact⟨by rw[N.o],Below.refl _ _⟩
 case rest=>
  obtain⟨rfl,ag⟩:=hcut;have E:=q_ ag;clear ag;rename World=>w1
  obtain⟨C,O⟩:=a_ (bK P);have ae:C.size=K+f:=by rw[<-O.o,bp_,<-HK.o];omega
  have a7:=q_ ae;have S:=q_ (show C.extract 0 K=bK (P.take K) from by rw[<-O.o];exact Hu_ P);have u:=q_ (show C.extract K C.size=bK (P.drop K) from by rw[<-O.o,bp_];exact Hv_ P rfl);rw[O.o];have w3:IntKind.i64.wrap ((C.size:Int)-(f:Int))=(K:Int):=by rw[a7.o,IntWalk.i64_in _ (by omega)];omega
  have w4:(0:Int)<=(K:Int):=by omega
  have w5:(K:Int)<=(C.size:Int):=by rw[a7.o];omega
  have w6:((K:Int)).toNat=K:=rfl;have am:=q_ (λ(W:World)=>show Calls Tryz.prog 326 #[.string (C.extract K C.size),.string ⟨#[48]⟩] W λe w'=>e = .returned (.string (bK m))/\Below W.heap.size W w' from by have:=zz_ (C.extract K C.size) W (by rw[u.o,bp_,List.length_drop];omega);rw[u.o,h0_,hp.o]at this;rw[u.o];exact this);clear ae;have p1:=q_ (show Below w.heap.size w w1.drew from ⟨E.o.os,E.o.tape,E.o.output,E.o.size,E.o.block⟩);go_upto_region 3 with fail;go_cut [8,9] (λs8 s9 wx=>s8 = .string (bK (P.take K))/\s9 = .string (bK m)/\Below w.heap.size w wx)
  case first=>
   go_region_held3 (λw'=>Below w.heap.size w w') (first | exact p1.o | exact E.o | exact I.o | (trace_state;fail))
    (first | (go_at_call 326;refine (am.o _).mono ?_;rintro e w2 ⟨rfl,aa⟩;have I:=q_ (p1.o.trans (aa.mono p1.o.size));clear aa))
   go_wp2_with fail;go_meet;exact⟨by rw[S.o],rfl,I.o⟩
  case rest=>
   obtain⟨h8,h9,a9⟩:=hcut;have I:=q_ a9;clear a9;rename World=>w2
   have a0:=q_ (λ(W:World)=>show Calls Tryz.prog 327 #[.string (bK (P.take K)),.string ⟨#[48]⟩] W λe w'=>e = .returned (.string (bK y))/\Below W.heap.size W w' from by have:=z0_ (bK (P.take K)) W;rw[h0_,hw.o]at this;exact this);obtain⟨Tk,aq⟩:=a_ (bK (P.take K));rw[aq.o]at a0 h8;subst h8 h9;obtain⟨a,B⟩:=a_ (bK y);obtain⟨j,A⟩:=a_ (bK m);have X:a.size=y.length:=by rw[<-B.o,bp_]
   have a5:j.size=m.length:=by rw[<-A.o,bp_]
   have af:a.toList=y:=by rw[<-B.o,qw_]
   have ah:j.toList=m:=by rw[<-A.o,qw_]
   have a6:=q_ X;have ab:=q_ a5;have U:=q_ af;have F:=q_ ah;rw[B.o]at a0;rw[A.o];have au:a.size<=1000001:=by rw[X];omega
   have av:j.size<=1000001:=by rw[a5];omega
   clear X a5 af ah w3 w4 w5 w6;go_wp2_with fail;refine (a0.o _).mono ?_;rintro e w3 ⟨rfl,ad⟩;have q:=q_ (I.o.trans (ad.mono I.o.size));clear ad;by_cases r:40<y.length\/20<m.length
   ·have ht:=q_ (show co_ i d f=([],2) from by rw[p.o,if_pos r]);by_cases ak:40<a.size
    ·have o1:(40:Int)<(a.size:Int):=by omega
     go_wp2_with fail;exact bodyPost_ret (v:=.tuple #[.string ⟨#[]⟩,.int .i64 2]) (by simp[results,Tryz.results297,go_sem]) rfl ⟨q.o,by rw[ht.o];rfl⟩
    ·have o1:¬(40:Int)<(a.size:Int):=by omega
     have o2:(20:Int)<(j.size:Int):=by rw[ab.o];rw[a6.o]at ak;omega
     go_wp2_with fail;exact bodyPost_ret (v:=.tuple #[.string ⟨#[]⟩,.int .i64 2]) (by simp[results,Tryz.results297,go_sem]) rfl ⟨q.o,by rw[ht.o];rfl⟩
   ·have o1:¬(40:Int)<(a.size:Int):=by rw[a6.o];omega
    have o2:¬(20:Int)<(j.size:Int):=by rw[ab.o];omega
    by_cases l:y=[]
    ·have q1:a.toList=[]:=by rw[U.o];exact l
     by_cases g:m=[]
     ·have q2:j.toList=[]:=by rw[F.o];exact g
      have ht:=q_ (show co_ i d f=([48,46,48],0) from by rw[p.o,if_neg r,if_pos ⟨l,g⟩]);clear r l g;go_wp2_with fail;exact bodyPost_ret (v:=.tuple #[.string ⟨#[48,46,48]⟩,.int .i64 0]) (by simp[results,Tryz.results297,go_sem]) rfl ⟨q.o,by rw[ht.o];rfl⟩
     ·have q2:¬j.toList=[]:=by rw[F.o];exact g
      have ao:j.toList.isEmpty=false:=by rw[F.o];simpa using g
      have ht:=q_ (show co_ i d f=((if i=true then [45] else [])++[48]++[46]++m,0) from by rw[p.o,if_neg r,if_neg (λh=>g h.2),if_pos l,if_neg g])
      clear r l g
      cases i with
      | true=>
       have a1:∀W:World,(Op.stringOp .add ⟨#[45]⟩ ⟨#[48]⟩).run Tryz.prog W = .ok (.string (⟨#[45]⟩++⟨#[48]⟩)) W:=λW=>run_string_add_sum W _ _ (by decide);have Y:∀W:World,(Op.stringOp .add (⟨#[45]⟩++⟨#[48]⟩) ⟨#[46]⟩).run Tryz.prog W = .ok (.string (⟨#[45]⟩++⟨#[48]⟩++⟨#[46]⟩)) W:=λW=>run_string_add_sum W _ _ (by decide);have a3:∀W:World,(Op.stringOp .add (⟨#[45]⟩++⟨#[48]⟩++⟨#[46]⟩) j).run Tryz.prog W = .ok (.string (⟨#[45]⟩++⟨#[48]⟩++⟨#[46]⟩++j)) W:=λW=>run_string_add_sum W _ _ (by rw[show ((⟨#[45]⟩++⟨#[48]⟩++⟨#[46]⟩:ByteArray)).size=3 from rfl];omega);go_wp2_with fail;exact bodyPost_ret (v:=.tuple #[.string (⟨#[45]⟩++⟨#[48]⟩++⟨#[46]⟩++j),.int .i64 0]) (by simp[results,Tryz.results297,go_sem]) rfl ⟨q.o,by rw[ht.o,<-A.o];exact congrArg (λz=>Ending.returned (.tuple #[.string z,.int .i64 0])) (cb_ [45,48,46] m)⟩
      | false=>
       have Y:∀W:World,(Op.stringOp .add ⟨#[48]⟩ ⟨#[46]⟩).run Tryz.prog W = .ok (.string (⟨#[48]⟩++⟨#[46]⟩)) W:=λW=>run_string_add_sum W _ _ (by decide);have a3:∀W:World,(Op.stringOp .add (⟨#[48]⟩++⟨#[46]⟩) j).run Tryz.prog W = .ok (.string (⟨#[48]⟩++⟨#[46]⟩++j)) W:=λW=>run_string_add_sum W _ _ (by rw[show ((⟨#[48]⟩++⟨#[46]⟩:ByteArray)).size=2 from rfl];omega);go_wp2_with fail;exact bodyPost_ret (v:=.tuple #[.string (⟨#[48]⟩++⟨#[46]⟩++j),.int .i64 0]) (by simp[results,Tryz.results297,go_sem]) rfl ⟨q.o,by rw[ht.o,<-A.o];exact congrArg (λz=>Ending.returned (.tuple #[.string z,.int .i64 0])) (cb_ [48,46] m)⟩
    ·have q1:¬a.toList=[]:=by rw[U.o];exact l
     have az:a.toList.isEmpty=false:=by rw[U.o];simpa using l
     by_cases g:m=[]
     ·have q2:j.toList=[]:=by rw[F.o];exact g
      have ht:=q_ (show co_ i d f=((if i=true then [45] else [])++y++[46]++[48],0) from by rw[p.o,if_neg r,if_neg (λh=>l h.1),if_neg l,if_pos g])
      clear r l g
      cases i with
      | true=>
       have a1:∀W:World,(Op.stringOp .add ⟨#[45]⟩ a).run Tryz.prog W = .ok (.string (⟨#[45]⟩++a)) W:=λW=>run_string_add_sum W _ _ (by rw[show ((⟨#[45]⟩:ByteArray)).size=1 from rfl];omega);have Y:∀W:World,(Op.stringOp .add (⟨#[45]⟩++a) ⟨#[46]⟩).run Tryz.prog W = .ok (.string (⟨#[45]⟩++a++⟨#[46]⟩)) W:=λW=>run_string_add_sum W _ _ (by rw[ByteArray.size_append,show ((⟨#[45]⟩:ByteArray)).size=1 from rfl,show ((⟨#[46]⟩:ByteArray)).size=1 from rfl];omega);have a3:∀W:World,(Op.stringOp .add (⟨#[45]⟩++a++⟨#[46]⟩) ⟨#[48]⟩).run Tryz.prog W = .ok (.string (⟨#[45]⟩++a++⟨#[46]⟩++⟨#[48]⟩)) W:=λW=>run_string_add_sum W _ _ (by rw[ByteArray.size_append,ByteArray.size_append,show ((⟨#[45]⟩:ByteArray)).size=1 from rfl,show ((⟨#[46]⟩:ByteArray)).size=1 from rfl,show ((⟨#[48]⟩:ByteArray)).size=1 from rfl];omega);go_wp2_with fail;exact bodyPost_ret (v:=.tuple #[.string (⟨#[45]⟩++a++⟨#[46]⟩++⟨#[48]⟩),.int .i64 0]) (by simp[results,Tryz.results297,go_sem]) rfl ⟨q.o,by rw[ht.o,<-B.o];exact congrArg (λz=>Ending.returned (.tuple #[.string z,.int .i64 0])) (by rw[<-cb_,<-cb_,<-cb_];rfl)⟩
      | false=>
       have Y:∀W:World,(Op.stringOp .add a ⟨#[46]⟩).run Tryz.prog W = .ok (.string (a++⟨#[46]⟩)) W:=λW=>run_string_add_sum W _ _ (by rw[show ((⟨#[46]⟩:ByteArray)).size=1 from rfl];omega);have a3:∀W:World,(Op.stringOp .add (a++⟨#[46]⟩) ⟨#[48]⟩).run Tryz.prog W = .ok (.string (a++⟨#[46]⟩++⟨#[48]⟩)) W:=λW=>run_string_add_sum W _ _ (by rw[ByteArray.size_append,show ((⟨#[46]⟩:ByteArray)).size=1 from rfl,show ((⟨#[48]⟩:ByteArray)).size=1 from rfl];omega);go_wp2_with fail;exact bodyPost_ret (v:=.tuple #[.string (a++⟨#[46]⟩++⟨#[48]⟩),.int .i64 0]) (by simp[results,Tryz.results297,go_sem]) rfl ⟨q.o,by rw[ht.o,<-B.o];exact congrArg (λz=>Ending.returned (.tuple #[.string z,.int .i64 0])) (by rw[if_neg (by decide),List.nil_append,<-cb_,<-cb_];rfl)⟩
     ·have q2:¬j.toList=[]:=by rw[F.o];exact g
      have ao:j.toList.isEmpty=false:=by rw[F.o];simpa using g
      have ht:=q_ (show co_ i d f=((if i=true then [45] else [])++y++[46]++m,0) from by rw[p.o,if_neg r,if_neg (λh=>g h.2),if_neg l,if_neg g])
      clear r l g
      cases i with
      | true=>
       have a1:∀W:World,(Op.stringOp .add ⟨#[45]⟩ a).run Tryz.prog W = .ok (.string (⟨#[45]⟩++a)) W:=λW=>run_string_add_sum W _ _ (by rw[show ((⟨#[45]⟩:ByteArray)).size=1 from rfl];omega);have Y:∀W:World,(Op.stringOp .add (⟨#[45]⟩++a) ⟨#[46]⟩).run Tryz.prog W = .ok (.string (⟨#[45]⟩++a++⟨#[46]⟩)) W:=λW=>run_string_add_sum W _ _ (by rw[ByteArray.size_append,show ((⟨#[45]⟩:ByteArray)).size=1 from rfl,show ((⟨#[46]⟩:ByteArray)).size=1 from rfl];omega);have a3:∀W:World,(Op.stringOp .add (⟨#[45]⟩++a++⟨#[46]⟩) j).run Tryz.prog W = .ok (.string (⟨#[45]⟩++a++⟨#[46]⟩++j)) W:=λW=>run_string_add_sum W _ _ (by rw[ByteArray.size_append,ByteArray.size_append,show ((⟨#[45]⟩:ByteArray)).size=1 from rfl,show ((⟨#[46]⟩:ByteArray)).size=1 from rfl];omega);go_wp2_with fail;exact bodyPost_ret (v:=.tuple #[.string (⟨#[45]⟩++a++⟨#[46]⟩++j),.int .i64 0]) (by simp[results,Tryz.results297,go_sem]) rfl ⟨q.o,by rw[ht.o,<-B.o,<-A.o];exact congrArg (λz=>Ending.returned (.tuple #[.string z,.int .i64 0])) (by rw[<-cb_,<-cb_,<-cb_];rfl)⟩
      | false=>
       have Y:∀W:World,(Op.stringOp .add a ⟨#[46]⟩).run Tryz.prog W = .ok (.string (a++⟨#[46]⟩)) W:=λW=>run_string_add_sum W _ _ (by rw[show ((⟨#[46]⟩:ByteArray)).size=1 from rfl];omega);have a3:∀W:World,(Op.stringOp .add (a++⟨#[46]⟩) j).run Tryz.prog W = .ok (.string (a++⟨#[46]⟩++j)) W:=λW=>run_string_add_sum W _ _ (by rw[ByteArray.size_append,show ((⟨#[46]⟩:ByteArray)).size=1 from rfl];omega);go_wp2_with fail;exact bodyPost_ret (v:=.tuple #[.string (a++⟨#[46]⟩++j),.int .i64 0]) (by simp[results,Tryz.results297,go_sem]) rfl ⟨q.o,by rw[ht.o,<-B.o,<-A.o];exact congrArg (λz=>Ending.returned (.tuple #[.string z,.int .i64 0])) (by rw[if_neg (by decide),List.nil_append,<-cb_,<-cb_];rfl)⟩
def F_ (w:World):Prop:=∃m:Int,w.cell? ⟨Tryz.lays145_ren.g 1,0,none⟩=some (.int .i64 m)
theorem f_ {w w':World} (h:F_ w) (hb:Below w.heap.size w w'):F_ w':=by
 obtain⟨m,a⟩:=h;refine⟨m,(hb.cell (p:=⟨Tryz.lays145_ren.g 1,0,none⟩) ?_).trans a⟩;refine Classical.byContradiction λc=>?_;have:w.heap[Tryz.lays145_ren.g 1]?=none:=Array.getElem?_eq_none (by simpa using c);unfold World.cell? at a;simp only[this]at a
 cases a
theorem Di_ {s:ByteArray} (c:UInt8):Lib.hasPrefix s.data.toList [c]=(s.data.toList.head?==some c):=by
 unfold Lib.hasPrefix
 cases s.data.toList with
 | nil=>rfl
 | cons d l=>simp[List.isPrefixOf,Bool.beq_eq_decide_eq,eq_comm]
def Kk_ (s:ByteArray) (w:World) (e:Ending) (w':World):Prop:=Below w.heap.size w w'/\e = .returned (.tuple #[.string (et_ s).1,.int .i64 (et_ s).2])
theorem fg_ {b:Nat} {w w':World} (h:Below b w w') (m:Nat):Below b w (w'.drewN m):=⟨h.os,h.tape,h.output,h.size,h.block⟩
theorem se_ (s:ByteArray) (hs:s.size<=100000) (w:World) (hg:F_ w):Calls Tryz.prog 255 #[.string s] w (Kk_ s w):=by
 obtain⟨t,Z⟩:=a_ (cp_ s);have ht:t.size<=100000:=by rw[<-Z.o];exact Nat.le_trans (t1_ s) hs
 obtain⟨sb,F⟩:=a_ (di_ s);obtain⟨f,U⟩:=a_ (Lib.cut t.data.toList [46]).1;obtain⟨c,P⟩:=a_ (Lib.cut t.data.toList [46]).2.1;obtain⟨O,a5⟩:=a_ (Lib.cut t.data.toList [46]).2.2;have I:=q_ (show ((bK (il_ s).1:ByteArray),(il_ s).2)=et_ s from qv_ s);have L:=q_ (show il_ s=(if ei_ f=true/\(O=true->ei_ c=true) then co_ sb (f++c) c.length else ([],6)) from by unfold il_;simp only[Z.o,F.o,U.o,P.o,a5.o])
 have a9:=q_ (show f.length+c.length<=t.size from by
  rw[<-U.o,<-P.o,<-a1_ t];rcases qt_ t.data.toList with h | ⟨a,b,h,ac⟩
  ·rw[Db_ h];simp
  ·rw[h,sc_ ac];simp)
 have a3:=q_ (λW:World=>nu_ s ⟨#[45]⟩ W);have a4:=q_ (λW:World=>nu_ s ⟨#[43]⟩ W);have a0:=q_ (show Lib.hasPrefix s.data.toList (⟨#[45]⟩:ByteArray).data.toList=sb from by rw[<-F.o];exact Di_ 45);have a7:=q_ (show (sb || Lib.hasPrefix s.data.toList (⟨#[43]⟩:ByteArray).data.toList)=mm_ s from by rw[<-F.o,show Lib.hasPrefix s.data.toList (⟨#[43]⟩:ByteArray).data.toList=(s.data.toList.head?==some 43) from Di_ 43];rfl);obtain⟨M,T⟩:=a_ (Lib.hasPrefix s.data.toList (⟨#[43]⟩:ByteArray).data.toList);have aa:=q_ (λW:World=>show Calls Tryz.prog 294 #[.string s,.string ⟨#[45]⟩] W λe w'=>e = .returned (.bool sb)/\w'=W from by have:=a3.o W;rwa [a0.o]at this);have a8:=q_ (λW:World=>show Calls Tryz.prog 294 #[.string s,.string ⟨#[43]⟩] W λe w'=>e = .returned (.bool M)/\w'=W from by have:=a4.o W;rwa [T.o]at this);have a2:=q_ (show (sb || M)=mm_ s from by rw[<-T.o];exact a7.o);have X:=q_ (show t=cond (sb || M) (s.extract 1 s.size) s from by rw[a2.o,<-Z.o];rfl);have N:=q_ (show (sb || M)=true->0<s.size from by intro h;rw[a2.o]at h;refine Classical.byContradiction λh0=>?_;rw[(zw_ h0).2.1]at h;cases h);obtain⟨m,hm⟩:=hg;have ae:=q_ (λ(W:World) (hW:W.cell? ⟨Tryz.lays145_ren.g 1,0,none⟩=some (.int .i64 m))=>show Calls Tryz.prog 295 #[.string t,.string ⟨#[46]⟩] W λe w'=>e = .returned (.tuple #[.string (bK f),.string (bK c),.bool O])/\∃n,w'=W.drewN n from by have:=yx_ t ⟨#[46]⟩ m W (by omega) hW;rw[show (⟨#[46]⟩:ByteArray).data.toList=[46] from rfl,U.o,P.o,a5.o]at this;exact this);have HM:=q_ hm;have ab:=q_ (Below.refl w.heap.size w);clear hm a3 a4 a0 a7 T F Z;go_enter Tryz.func255,Tryz.ntmps255
 go_wp2_with fail;refine (aa.o _).mono ?_;rintro e w' ⟨rfl,rfl⟩
 go_upto_region 2 with fail;go_cut [14] (λag wx=>ag = .bool (sb || M)/\wx=w')
 case first=>
  cases sb with
  | true=>
   go_wp2_with fail;go_meet;exact⟨rfl,rfl⟩
  | false=>
   go_wp2_with fail;refine (a8.o _).mono ?_;rintro e w' ⟨rfl,rfl⟩
   go_wp2_with fail;go_meet;exact⟨rfl,rfl⟩
 case rest=>
  obtain⟨S,rfl⟩:=hcut;go_upto_if 14 with fail;go_cut [0] (λs0 wx=>s0 = .string t/\wx=wc)
  case first=>
   obtain⟨sy,af⟩:=a_ (sb || M)
   rw[af.o]at S N X;subst S
   cases sy with
   | true=>
    have ak:=N.o rfl;have E:=q_ (show s.extract 1 s.size=t from X.o.symm);have e1:(1:Int)<=(s.size:Int):=by omega
    go_wp2_with fail;go_meet;exact⟨by rw[E.o],rfl⟩
   | false=>
    have E:=q_ (show s=t from X.o.symm);go_wp2_with fail;go_meet;exact⟨by rw[E.o],rfl⟩
  case rest=>
   obtain⟨rfl,rfl⟩:=hcut;clear S;go_wp2_with fail;refine (ae.o _ HM.o).mono ?_;rintro e w1 ⟨rfl,k,a6⟩;have i:=fg_ ab.o k;rw[<-a6]at i;have i:=q_ i;clear a6;have ad:=a9.o;have u:(bK c).size=c.length:=bp_ c;obtain⟨l2,G⟩:=a_ c.length;rw[G.o]at ad u;have r:=q_ (λW:World=>show Calls Tryz.prog 297 #[.bool sb,.string (bK f++bK c),.int .i64 ((bK c).size:Int)] W (Dg_ sb (f++c) c.length W) from by rw[cb_,u,<-G.o];exact Dh_ sb (f++c) c.length (by rw[List.length_append,G.o];omega) (by rw[G.o];omega) W);have y:=q_ (λW:World=>show Calls Tryz.prog 296 #[.string (bK f)] W (u_ (ei_ f) W) from by have:=l7_ (bK f) W (by rw[bp_];omega);rwa [yy_,h0_]at this);have J:=q_ (λW:World=>show Calls Tryz.prog 296 #[.string (bK c)] W (u_ (ei_ c) W) from by have:=l7_ (bK c) W (by omega);rwa [yy_,h0_]at this);have R:∀W:World,(Op.stringOp .add (bK f) (bK c)).run Tryz.prog W = .ok (.string (bK f++bK c)) W:=λW=>run_string_add_sum W _ _ (by rw[u,bp_];omega)
   have A:=q_ (show ¬(ei_ f=true/\(O=true->ei_ c=true))->et_ s=(⟨#[]⟩,6) from λh=>by
    rw[<-I.o,L.o,if_neg h];rfl)
   have q:=q_ (show (ei_ f=true/\(O=true->ei_ c=true))->et_ s=(bK (co_ sb (f++c) c.length).1,(co_ sb (f++c) c.length).2) from λh=>by
    rw[<-I.o,L.o,if_pos h])
   obtain⟨x1,ah⟩:=a_ (ei_ f);obtain⟨x2,aj⟩:=a_ (ei_ c);obtain⟨b1,Y⟩:=a_ (bK f);obtain⟨b2,V⟩:=a_ (bK c);rw[ah.o]at y A q;rw[aj.o]at J A q;rw[Y.o]at y R r;rw[V.o]at J R r u;rw[Y.o,V.o];clear u
   cases x1 with
   | false=>
    have B:=q_ (A.o (λh=>by cases h.1));go_wp2_with fail;refine (y.o _).mono ?_;rintro e w2 ⟨rfl,j⟩;have l:=q_ (i.o.trans (j.mono i.o.size));clear j;go_wp2_with fail;exact bodyPost_ret (v:=.tuple #[.string ⟨#[]⟩,.int .i64 6]) (by simp[results,Tryz.results255,go_sem]) rfl ⟨l.o,by rw[B.o]⟩
   | true=>
    cases O with
    | false=>
     have B:=q_ (q.o ⟨rfl,λh=>by cases h⟩);go_wp2_with fail;refine (y.o _).mono ?_;rintro e w2 ⟨rfl,j⟩;have l:=q_ (i.o.trans (j.mono i.o.size));clear j;go_wp2_with fail;refine (r.o _).mono ?_;rintro e w3 ⟨p,rfl⟩;have z:=q_ (l.o.trans (p.mono l.o.size));clear p;obtain⟨r1,C⟩:=a_ (bK (co_ sb (f++c) c.length).1);obtain⟨r2,D⟩:=a_ (co_ sb (f++c) c.length).2;rw[C.o,D.o]at B;rw[C.o,D.o];go_wp2_with fail;exact bodyPost_ret (v:=.tuple #[.string r1,.int .i64 r2]) (by simp[results,Tryz.results255,go_sem]) rfl ⟨z.o,by rw[B.o]⟩
    | true=>
     cases x2 with
     | false=>
      have B:=q_ (A.o (λh=>by cases h.2 rfl));go_wp2_with fail;refine (y.o _).mono ?_;rintro e w2 ⟨rfl,j⟩;have l:=q_ (i.o.trans (j.mono i.o.size));clear j;go_wp2_with fail;refine (J.o _).mono ?_;rintro e w3 ⟨rfl,p⟩;have z:=q_ (l.o.trans (p.mono l.o.size));clear p;go_wp2_with fail;exact bodyPost_ret (v:=.tuple #[.string ⟨#[]⟩,.int .i64 6]) (by simp[results,Tryz.results255,go_sem]) rfl ⟨z.o,by rw[B.o]⟩
     | true=>
      have B:=q_ (q.o ⟨rfl,λh=>rfl⟩);go_wp2_with fail;refine (y.o _).mono ?_;rintro e w2 ⟨rfl,j⟩;have l:=q_ (i.o.trans (j.mono i.o.size));clear j;go_wp2_with fail;refine (J.o _).mono ?_;rintro e w3 ⟨rfl,p⟩;have z:=q_ (l.o.trans (p.mono l.o.size));clear p;go_wp2_with fail;refine (r.o _).mono ?_;rintro e w4 ⟨a1,rfl⟩;have ai:=q_ (z.o.trans (a1.mono z.o.size));clear a1;obtain⟨r1,C⟩:=a_ (bK (co_ sb (f++c) c.length).1);obtain⟨r2,D⟩:=a_ (co_ sb (f++c) c.length).2;rw[C.o,D.o]at B;rw[C.o,D.o];go_wp2_with fail;exact bodyPost_ret (v:=.tuple #[.string r1,.int .i64 r2]) (by simp[results,Tryz.results255,go_sem]) rfl ⟨ai.o,by rw[B.o]⟩
theorem Hw_ (c:Bool) (d:List UInt8) (a:Nat):(co_ c d a).1.length<=62:=by
 unfold co_;split
 ·simp
 ·split
  ·simp
  ·rename_i h _;have h1:(d8_ d a).length<=40:=by omega
   have h2:(gv_ d a).length<=20:=by omega
   simp only[List.length_append];have e:(if c=true then [(45:UInt8)] else []).length<=1:=by split<;>simp
   have f:(if d8_ d a=[] then [(48:UInt8)] else d8_ d a).length<=40:=by split;exact (by decide);exact h1
   have g:(if gv_ d a=[] then [(48:UInt8)] else gv_ d a).length<=20:=by split;exact (by decide);exact h2
   simp only[List.length_cons,List.length_nil];omega
theorem nx_ {s:ByteArray} (h:62<s.size):cr_ s=false:=by
 unfold cr_;rw[<-qv_ s]
 have h1:decide ((⟨(il_ s).1.toArray⟩:ByteArray)=s)=false:=decide_eq_false λe=>by
  have h2:(il_ s).1.length<=62:=by
   unfold il_;simp only;split
   ·exact Hw_ _ _ _
   ·simp
  rw[<-e]at h;simp[ByteArray.size]at h;omega
 simp only[h1,Bool.and_false]
theorem sf_ (s:ByteArray) (v:s.size<=9223372036854775807) (w:World) (q:F_ w):Calls Tryz.prog 185 #[.string s] w (u_ (cr_ s) w):=by
 go_enter Tryz.func185,Tryz.ntmps185
 by_cases r:62<s.size
 ·have a:=q_ (nx_ r);have p:(62:Int)<(s.size:Int):=by omega
  go_wp2_with fail;go_ret;exact⟨ar_ a.o.symm,Below.refl _ _⟩
 ·have p:¬(62:Int)<(s.size:Int):=by omega
  have i:=q_ (se_ s (by omega) w q);go_wp2_with fail;refine i.o.mono ?_;rintro e u ⟨hb,rfl⟩;have m:=q_ hb;obtain⟨g,j⟩:=a_ (et_ s).1;obtain⟨l,c⟩:=a_ (et_ s).2;rw[j.o,c.o];have a:=q_ (show cr_ s=(decide (l=0)&&decide (g=s)) from by unfold cr_;rw[j.o,c.o]);clear hb;by_cases h2:l=0
  ·have f:=q_ (show (g.toList==s.toList)=cr_ s from by
     rw[a.o,decide_eq_true h2];by_cases h1:g=s
     ·rw[decide_eq_true h1,h1];simp
     ·rw[decide_eq_false h1,bi_ h1];rfl)
   clear c;subst h2;go_wp2_with fail;go_ret;exact⟨ar_ f.o,m.o⟩
  ·have f:=q_ (show false=cr_ s from by rw[a.o,decide_eq_false h2];rfl);go_wp2_with fail;go_ret;exact⟨ar_ f.o,m.o⟩
end
section
open Go Go.RowKit
def qx_ (v:h_) (s:Value):Value:=
 if v.kind=0 then .iface 233 (.agg #[])
 else if v.kind=1 then .iface 194 (.bool v.truth)
 else if v.kind=2 then .iface 188 (.int .i64 v.num)
 else if v.kind=3 then .iface 189 (.string v.text)
 else if v.kind=4 then .iface 234 (.string v.text)
 else if v.kind=8 then .iface 234 (.string v.text)
 else if v.kind=9 then .iface 234 (.string v.text)
 else if v.kind=5 then .iface 191 (s)
 else if v.kind=6 then .iface 193 (.int .i64 v.num)
 else if v.kind=7 then .iface 193 (.int .i64 v.num)
 else if v.kind=10 then .iface 237 (.agg #[.string v.text,.string v.extra])
 else .iface 238 (.int .i64 v.kind)
def iu_ (v:h_) (s:Value) (w:World) (e:Ending) (w':World):Prop:=e = .returned (qx_ v s)/\Below w.heap.size w w'
theorem g8_ (v:h_) (s:Value) (w:World):Calls Tryz.prog 128 #[.agg (c_ v s)] w (iu_ v s w):=by
 obtain⟨p,a⟩:=a_ (qx_ v s);unfold iu_;rw[a.o];unfold qx_ at a
 cases v with
 | mk k b n t x l=>
 simp only[c_,h_.kind,h_.truth,h_.num,h_.text,h_.extra]at a ⊢;by_cases h0:k=0
 ·subst h0;have c:=q_ (show Ending.returned p = .returned (.iface 233 (.agg #[])) from by rw[<-a.o];rfl);clear a;go_enter Tryz.func128,Tryz.ntmps128
  go_wp2_with fail;go_ret;exact⟨c.o.symm,(Below.refl _ _).alloc (Nat.le_refl _) _⟩
 ·have e0:((k:Int)==0)=false:=beq_eq_false_iff_ne.2 h0;by_cases h1:k=1
  ·subst h1;have c:=q_ (show Ending.returned p = .returned (.iface 194 (.bool b)) from by rw[<-a.o];rfl);clear a;go_enter Tryz.func128,Tryz.ntmps128
   go_wp2_with fail;go_ret;exact⟨c.o.symm,(Below.refl _ _).alloc (Nat.le_refl _) _⟩
  ·have F:((k:Int)==1)=false:=beq_eq_false_iff_ne.2 h1;by_cases h2:k=2
   ·subst h2;have c:=q_ (show Ending.returned p = .returned (.iface 188 (.int .i64 n)) from by rw[<-a.o];rfl);clear a;go_enter Tryz.func128,Tryz.ntmps128
    go_wp2_with fail;go_ret;exact⟨c.o.symm,(Below.refl _ _).alloc (Nat.le_refl _) _⟩
   ·have A:((k:Int)==2)=false:=beq_eq_false_iff_ne.2 h2;by_cases f:k=3
    ·subst f;have c:=q_ (show Ending.returned p = .returned (.iface 189 (.string t)) from by rw[<-a.o];rfl);clear a;go_enter Tryz.func128,Tryz.ntmps128
     go_wp2_with fail;go_ret;exact⟨c.o.symm,(Below.refl _ _).alloc (Nat.le_refl _) _⟩
    ·have z:((k:Int)==3)=false:=beq_eq_false_iff_ne.2 f;by_cases j:k=4
     ·subst j;have c:=q_ (show Ending.returned p = .returned (.iface 234 (.string t)) from by rw[<-a.o];rfl);clear a;go_enter Tryz.func128,Tryz.ntmps128
      go_wp2_with fail;go_ret;exact⟨c.o.symm,(Below.refl _ _).alloc (Nat.le_refl _) _⟩
     ·have G:((k:Int)==4)=false:=beq_eq_false_iff_ne.2 j;by_cases i:k=8
      ·subst i;have c:=q_ (show Ending.returned p = .returned (.iface 234 (.string t)) from by rw[<-a.o];rfl);clear a;go_enter Tryz.func128,Tryz.ntmps128
       go_wp2_with fail;go_ret;exact⟨c.o.symm,(Below.refl _ _).alloc (Nat.le_refl _) _⟩
      ·have D:((k:Int)==8)=false:=beq_eq_false_iff_ne.2 i;by_cases r:k=9
       ·subst r;have c:=q_ (show Ending.returned p = .returned (.iface 234 (.string t)) from by rw[<-a.o];rfl);clear a;go_enter Tryz.func128,Tryz.ntmps128
        go_wp2_with fail;go_ret;exact⟨c.o.symm,(Below.refl _ _).alloc (Nat.le_refl _) _⟩
       ·have B:((k:Int)==9)=false:=beq_eq_false_iff_ne.2 r;by_cases q:k=5
        ·subst q;have c:=q_ (show Ending.returned p = .returned (.iface 191 (s)) from by rw[<-a.o];rfl);clear a;go_enter Tryz.func128,Tryz.ntmps128
         go_wp2_with fail;go_ret;exact⟨c.o.symm,(Below.refl _ _).alloc (Nat.le_refl _) _⟩
        ·have y:((k:Int)==5)=false:=beq_eq_false_iff_ne.2 q;by_cases m:k=6
         ·subst m;have c:=q_ (show Ending.returned p = .returned (.iface 193 (.int .i64 n)) from by rw[<-a.o];rfl);clear a;go_enter Tryz.func128,Tryz.ntmps128
          go_wp2_with fail;go_ret;exact⟨c.o.symm,(Below.refl _ _).alloc (Nat.le_refl _) _⟩
         ·have E:((k:Int)==6)=false:=beq_eq_false_iff_ne.2 m;by_cases g:k=7
          ·subst g;have c:=q_ (show Ending.returned p = .returned (.iface 193 (.int .i64 n)) from by rw[<-a.o];rfl);clear a;go_enter Tryz.func128,Tryz.ntmps128
           go_wp2_with fail;go_ret;exact⟨c.o.symm,(Below.refl _ _).alloc (Nat.le_refl _) _⟩
          ·have C:((k:Int)==7)=false:=beq_eq_false_iff_ne.2 g;by_cases e:k=10
           ·subst e;have c:=q_ (show Ending.returned p = .returned (.iface 237 (.agg #[.string t,.string x])) from by rw[<-a.o];rfl);clear a;go_enter Tryz.func128,Tryz.ntmps128
            go_wp2_with fail;go_ret;exact⟨c.o.symm,(Below.refl _ _).alloc (Nat.le_refl _) _⟩
           ·have u:((k:Int)==10)=false:=beq_eq_false_iff_ne.2 e;have c:=q_ (show Ending.returned p = .returned (.iface 238 (.int .i64 k)) from by rw[<-a.o];simp only[h0,h1,h2,f,j,i,r,q,m,g,e,if_false]);clear a;go_enter Tryz.func128,Tryz.ntmps128
            go_wp2_with fail;go_ret;exact⟨c.o.symm,(Below.refl _ _).alloc (Nat.le_refl _) _⟩
def a9_ (k:Int) (b:Bool) (n:Int) (t x:ByteArray) (l:List h_) (b':Bool) (n':Int) (t' x':ByteArray):Bool:=
 (b==b')&&(decide (n=n')&&(decide (t=t')&&(decide (x=x')&&(decide (l.length=0) || decide (k=5)))))
mutual
def I_:h_->Nat->Bool
 | .mk k b n t x l,d=>
  if k=0 then a9_ k b n t x l false 0 ⟨#[]⟩ ⟨#[]⟩
  else if k=1 then a9_ k b n t x l b 0 ⟨#[]⟩ ⟨#[]⟩
  else if k=2 then a9_ k b n t x l false n ⟨#[]⟩ ⟨#[]⟩
  else if k=3 then cr_ t&&a9_ k b n t x l false 0 t ⟨#[]⟩
  else if k=4 then decide (t.size<=1048576)&&a9_ k b n t x l false 0 t ⟨#[]⟩
  else if k=8 then g0_ t&&a9_ k b n t x l false 0 t ⟨#[]⟩
  else if k=9 then ee_ t&&a9_ k b n t x l false 0 t ⟨#[]⟩
  else if k=5 then decide (l.length<=4096)&&(decide (d<60)&&(g9_ l (d+1)&&a9_ k b n t x l false 0 ⟨#[]⟩ ⟨#[]⟩))
  else if k=6 then decide (0<=n)&&a9_ k b n t x l false n ⟨#[]⟩ ⟨#[]⟩
  else if k=7 then decide (0<=n)&&a9_ k b n t x l false n ⟨#[]⟩ ⟨#[]⟩
  else if k=10 then decide (t.size<=1048576)&&(g0_ x&&a9_ k b n t x l false 0 t x)
  else false
def g9_:List h_->Nat->Bool
 | [],_=>true
 | v::r,d=>I_ v d&&g9_ r d
end
theorem ny_ (l:List h_) (d:Nat):g9_ l d=l.all λv=>I_ v d:=by
 induction l with
 | nil=>simp[g9_]
 | cons v r a=>simp[g9_,a]
theorem Dj_ (d:Nat) (y:d<60) (ca:Addr) (v:h_) (s:Value) (r:Bool) (w:World) (j:w.cell? ca=some (.int .i64 (d:Int))) (m:ca.block<w.heap.size)
    (f:∀W:World,Below w.heap.size w W->Calls Tryz.prog 117 #[.agg (c_ v s),.int .i64 ((d+1:Nat):Int)] W (u_ r W)) :
    Calls Tryz.prog 189 #[.agg (c_ v s),.pointer (some ca)] w (u_ (!r) w):=by
 have a:=q_ f;clear f;have i:=q_ (λo:Obj=>show (w.alloc o).cell? ca=some (.int .i64 (d:Int)) from (((Below.refl w.heap.size w).alloc (Nat.le_refl _) o).cell (p:=ca) m).trans j);unfold c_ at a ⊢
 cases v with
 | mk k b n t x l=>
 simp only[h_.kind,h_.truth,h_.num,h_.text,h_.extra]at a ⊢;have z:=i.o (.cells #[.int .i64 k,.bool b,.int .i64 n,.string t,.string x,s] 39);obtain⟨g,c⟩:=a_ (d+1);rw[c.o]at a;have u:IntKind.i64.wrap ((d:Int)+1)=(g:Int):=by rw[IntWalk.i64_in _ (by omega),<-c.o];push_cast;rfl
 have w2:(d:Int)+1=(g:Int):=by rw[<-c.o];push_cast;rfl
 clear j;go_enter Tryz.func189,Tryz.ntmps189
 go_wp2_with fail;refine (a.o _ ((Below.refl _ _).alloc (Nat.le_refl _) _)).mono ?_;rintro e A ⟨rfl,hb⟩
 have q:=q_ (((Below.refl w.heap.size w).alloc (Nat.le_refl _) (.cells #[.int .i64 k,.bool b,.int .i64 n,.string t,.string x,s] 39)).trans (hb.mono (by simp)));clear hb;go_wp2_with fail;go_ret;exact⟨rfl,q.o⟩
def Jw_ (l:List h_) (d:Nat) (w:World) (e:Ending) (w':World):Prop:=∃r:Int,e = .returned (.int .i64 r)/\(decide (0<=r) = !g9_ l d)/\Below w.heap.size w w'
theorem Hx_ (l:List h_) (d:Nat) (hd:d<60) (ca:Addr) (F:Nat->Prop) (A:Option Addr) (n V:Nat) (w:World) (T:∀g,F g->g<w.heap.size) (J:LRd w F l A n) (hn:n<=4096)
    (P:w.cell? ca=some (.int .i64 (d:Int))) (z:ca.block<w.heap.size)
    (E:∀(x:h_) (_:x∈l) (u:Value) (W:World),Below w.heap.size w W->VRd W F x u->Calls Tryz.prog 117 #[u,.int .i64 ((d+1:Nat):Int)] W (u_ (I_ x (d+1)) W)) :
    Calls Tryz.prog 256 #[.slice A n V,.func (.func 189) #[] #[.pointer (some ca)]] w (Jw_ l (d+1) w):=by
 have HL:=q_ J;have U:=q_ T;have R:=q_ E;have HC:=q_ P;have G:=q_ J.1;clear J T E P;go_enter Tryz.func256,Tryz.ntmps256
 go_wp2_with fail;go_loopw [8] (λM wr=>∃k:Nat,k<=n/\M = .int .i64 (k:Nat)/\Q_ (((l.take k).all λv=>I_ v (d+1))=true)/\Q_ (Below w.heap.size w wr)) (λM _=>n-(intOf M).toNat)
 case atStart=>exact⟨0,by omega,rfl,q_ (by simp),q_ (Below.refl _ _)⟩
 case round=>
  obtain⟨k,hk,rfl,i,a⟩:=hrel;by_cases S:k<n
  ·obtain⟨x,q⟩:∃x,l[k]?=some x:=⟨l[k]'(by rw[<-G.o];exact S),List.getElem?_eq_getElem _⟩;have HR:=q_ (HL.o.under a.o U.o);obtain⟨ad,s,rfl,N,⟨B,I,rfl,Z,Y⟩,O,c0,c1,c2,c3,c4,c5⟩:=HR.o.cellsAt q;have HX:=q_ q;have j:=q_ (List.mem_of_getElem? q)
   have m:=q_ (Dj_ d hd ca x (.slice B x.list.length I) (I_ x (d+1)) wr ((a.o.cell (p:=ca) z).trans HC.o) (Nat.lt_of_lt_of_le z a.o.size)
    (λW X=>R.o x j.o _ W (a.o.trans (X.mono a.o.size)) (O.under X (λg hg=>Nat.lt_of_lt_of_le (U.o g hg) a.o.size))))
   have f:=q_ (λ(h:I_ x (d+1)=true)=>show ((l.take (k+1)).all λv=>I_ v (d+1))=true from by rw[g_ HX.o,List.all_append,i.o];simp[h]);have c:=q_ (λ(h:I_ x (d+1)=false)=>show g9_ l (d+1)=false from by rw[ny_,List.all_eq_false];exact⟨x,j.o,by simp[h]⟩);obtain⟨r,Hr⟩:=a_ (I_ x (d+1));rw[Hr.o]at m f c;unfold c_ at m;have e1:(0:Int)<=k:=by omega
   have e2:(k:Int)<n:=by omega
   clear q Y O N;go_wp2_with fail;refine m.o.mono ?_;rintro e w2 ⟨rfl,D⟩;have C:=q_ (a.o.trans (D.mono a.o.size));clear D
   cases r with
   | true=>
    have HM:=q_ (f.o rfl);have w1:IntKind.i64.wrap ((k:Int)+1)=(k:Int)+1:=IntWalk.i64_in _ (by omega);go_wp2_with fail;go_roundw
    case rel=>exact⟨k+1,by omega,by go_num,HM,C⟩
    case measure=>simp[intOf];omega
   | false=>
    have L:=q_ (c.o rfl);go_wp2_with fail;go_ret;exact⟨(k:Int),rfl,by rw[L.o];simp,C.o⟩
  ·have y:k=n:=by omega
   have L:=q_ (show g9_ l (d+1)=true from by have:=i.o;rw[List.take_of_length_le (by rw[y,G.o];exact Nat.le_refl _)]at this;rw[ny_];exact this);subst y;go_wp2_with fail;go_ret;exact⟨-1,rfl,by rw[L.o];simp,a.o⟩
theorem Dk_ (l:List h_) (d:Nat) (f:Value) (A:Option Addr) (n a:Nat) (w:World)
    (hi:Calls Tryz.prog 256 #[.slice A n a,f] w (Jw_ l d w)) :
    Calls Tryz.prog 188 #[.slice A n a,f] w (u_ (!g9_ l d) w):=by
 have i:=q_ hi;clear hi;go_enter Tryz.func188,Tryz.ntmps188
 go_wp2_with fail;refine i.o.mono ?_;rintro e m ⟨r,rfl,c,hb⟩;have g:=q_ c;have j:=q_ hb;clear c hb;go_wp2_with fail;go_ret;exact⟨by rw[<-g.o];rfl,j.o⟩
theorem nz_ (w:World) (a b c:Obj):Below w.heap.size w (((w.alloc a).alloc b).alloc c):=(((Below.refl _ _).alloc (Nat.le_refl _) _).alloc (by simp) _).alloc (by simp;omega) _
theorem sg_ (y:Value) (w:World):(Instr.typeAssert (.iface 233 y) 20 233 true).run Tryz.prog w = .ok (.tuple #[y,.bool true]) w:=by kernel_rfl
theorem mn_ (y:Value) (w:World):(Instr.typeAssert (.iface 194 y) 20 233 true).run Tryz.prog w = .ok (.tuple #[.agg #[],.bool false]) w:=by kernel_rfl
theorem iv_ (y:Value) (w:World):(Instr.typeAssert (.iface 194 y) 20 194 true).run Tryz.prog w = .ok (.tuple #[y,.bool true]) w:=by kernel_rfl
theorem p0_ (y:Value) (w:World):(Instr.typeAssert (.iface 188 y) 20 233 true).run Tryz.prog w = .ok (.tuple #[.agg #[],.bool false]) w:=by kernel_rfl
theorem kv_ (y:Value) (w:World):(Instr.typeAssert (.iface 188 y) 20 194 true).run Tryz.prog w = .ok (.tuple #[.bool false,.bool false]) w:=by kernel_rfl
theorem n0_ (y:Value) (w:World):(Instr.typeAssert (.iface 188 y) 20 188 true).run Tryz.prog w = .ok (.tuple #[y,.bool true]) w:=by kernel_rfl
theorem n1_ (y:Value) (w:World):(Instr.typeAssert (.iface 189 y) 20 233 true).run Tryz.prog w = .ok (.tuple #[.agg #[],.bool false]) w:=by kernel_rfl
theorem jp_ (y:Value) (w:World):(Instr.typeAssert (.iface 189 y) 20 194 true).run Tryz.prog w = .ok (.tuple #[.bool false,.bool false]) w:=by kernel_rfl
theorem mo_ (y:Value) (w:World):(Instr.typeAssert (.iface 189 y) 20 188 true).run Tryz.prog w = .ok (.tuple #[.int .i64 0,.bool false]) w:=by kernel_rfl
theorem kw_ (y:Value) (w:World):(Instr.typeAssert (.iface 189 y) 20 189 true).run Tryz.prog w = .ok (.tuple #[y,.bool true]) w:=by kernel_rfl
theorem fq_ (y:Value) (w:World):(Instr.typeAssert (.iface 234 y) 20 233 true).run Tryz.prog w = .ok (.tuple #[.agg #[],.bool false]) w:=by kernel_rfl
theorem dn_ (y:Value) (w:World):(Instr.typeAssert (.iface 234 y) 20 194 true).run Tryz.prog w = .ok (.tuple #[.bool false,.bool false]) w:=by kernel_rfl
theorem eu_ (y:Value) (w:World):(Instr.typeAssert (.iface 234 y) 20 188 true).run Tryz.prog w = .ok (.tuple #[.int .i64 0,.bool false]) w:=by kernel_rfl
theorem d9_ (y:Value) (w:World):(Instr.typeAssert (.iface 234 y) 20 189 true).run Tryz.prog w = .ok (.tuple #[.string ⟨#[]⟩,.bool false]) w:=by kernel_rfl
theorem ev_ (y:Value) (w:World):(Instr.typeAssert (.iface 234 y) 20 234 true).run Tryz.prog w = .ok (.tuple #[y,.bool true]) w:=by kernel_rfl
theorem sh_ (y:Value) (w:World):(Instr.typeAssert (.iface 191 y) 20 233 true).run Tryz.prog w = .ok (.tuple #[.agg #[],.bool false]) w:=by kernel_rfl
theorem mp_ (y:Value) (w:World):(Instr.typeAssert (.iface 191 y) 20 194 true).run Tryz.prog w = .ok (.tuple #[.bool false,.bool false]) w:=by kernel_rfl
theorem p1_ (y:Value) (w:World):(Instr.typeAssert (.iface 191 y) 20 188 true).run Tryz.prog w = .ok (.tuple #[.int .i64 0,.bool false]) w:=by kernel_rfl
theorem n2_ (y:Value) (w:World):(Instr.typeAssert (.iface 191 y) 20 189 true).run Tryz.prog w = .ok (.tuple #[.string ⟨#[]⟩,.bool false]) w:=by kernel_rfl
theorem p2_ (y:Value) (w:World):(Instr.typeAssert (.iface 191 y) 20 234 true).run Tryz.prog w = .ok (.tuple #[.string ⟨#[]⟩,.bool false]) w:=by kernel_rfl
theorem si_ (y:Value) (w:World):(Instr.typeAssert (.iface 191 y) 20 191 true).run Tryz.prog w = .ok (.tuple #[y,.bool true]) w:=by kernel_rfl
theorem im_ (y:Value) (w:World):(Instr.typeAssert (.iface 193 y) 20 233 true).run Tryz.prog w = .ok (.tuple #[.agg #[],.bool false]) w:=by kernel_rfl
theorem fv_ (y:Value) (w:World):(Instr.typeAssert (.iface 193 y) 20 194 true).run Tryz.prog w = .ok (.tuple #[.bool false,.bool false]) w:=by kernel_rfl
theorem ha_ (y:Value) (w:World):(Instr.typeAssert (.iface 193 y) 20 188 true).run Tryz.prog w = .ok (.tuple #[.int .i64 0,.bool false]) w:=by kernel_rfl
theorem gx_ (y:Value) (w:World):(Instr.typeAssert (.iface 193 y) 20 189 true).run Tryz.prog w = .ok (.tuple #[.string ⟨#[]⟩,.bool false]) w:=by kernel_rfl
theorem hb_ (y:Value) (w:World):(Instr.typeAssert (.iface 193 y) 20 234 true).run Tryz.prog w = .ok (.tuple #[.string ⟨#[]⟩,.bool false]) w:=by kernel_rfl
theorem in_ (y:Value) (w:World):(Instr.typeAssert (.iface 193 y) 20 191 true).run Tryz.prog w = .ok (.tuple #[.slice none 0 0,.bool false]) w:=by kernel_rfl
theorem hc_ (y:Value) (w:World):(Instr.typeAssert (.iface 193 y) 20 193 true).run Tryz.prog w = .ok (.tuple #[y,.bool true]) w:=by kernel_rfl
theorem mq_ (y:Value) (w:World):(Instr.typeAssert (.iface 237 y) 20 233 true).run Tryz.prog w = .ok (.tuple #[.agg #[],.bool false]) w:=by kernel_rfl
theorem iw_ (y:Value) (w:World):(Instr.typeAssert (.iface 237 y) 20 194 true).run Tryz.prog w = .ok (.tuple #[.bool false,.bool false]) w:=by kernel_rfl
theorem kx_ (y:Value) (w:World):(Instr.typeAssert (.iface 237 y) 20 188 true).run Tryz.prog w = .ok (.tuple #[.int .i64 0,.bool false]) w:=by kernel_rfl
theorem jq_ (y:Value) (w:World):(Instr.typeAssert (.iface 237 y) 20 189 true).run Tryz.prog w = .ok (.tuple #[.string ⟨#[]⟩,.bool false]) w:=by kernel_rfl
theorem ky_ (y:Value) (w:World):(Instr.typeAssert (.iface 237 y) 20 234 true).run Tryz.prog w = .ok (.tuple #[.string ⟨#[]⟩,.bool false]) w:=by kernel_rfl
theorem mr_ (y:Value) (w:World):(Instr.typeAssert (.iface 237 y) 20 191 true).run Tryz.prog w = .ok (.tuple #[.slice none 0 0,.bool false]) w:=by kernel_rfl
theorem kz_ (y:Value) (w:World):(Instr.typeAssert (.iface 237 y) 20 193 true).run Tryz.prog w = .ok (.tuple #[.int .i64 0,.bool false]) w:=by kernel_rfl
theorem ix_ (y:Value) (w:World):(Instr.typeAssert (.iface 237 y) 20 237 true).run Tryz.prog w = .ok (.tuple #[y,.bool true]) w:=by kernel_rfl
theorem p3_ (y:Value) (w:World):(Instr.typeAssert (.iface 238 y) 20 233 true).run Tryz.prog w = .ok (.tuple #[.agg #[],.bool false]) w:=by kernel_rfl
theorem k0_ (y:Value) (w:World):(Instr.typeAssert (.iface 238 y) 20 194 true).run Tryz.prog w = .ok (.tuple #[.bool false,.bool false]) w:=by kernel_rfl
theorem n3_ (y:Value) (w:World):(Instr.typeAssert (.iface 238 y) 20 188 true).run Tryz.prog w = .ok (.tuple #[.int .i64 0,.bool false]) w:=by kernel_rfl
theorem ms_ (y:Value) (w:World):(Instr.typeAssert (.iface 238 y) 20 189 true).run Tryz.prog w = .ok (.tuple #[.string ⟨#[]⟩,.bool false]) w:=by kernel_rfl
theorem n4_ (y:Value) (w:World):(Instr.typeAssert (.iface 238 y) 20 234 true).run Tryz.prog w = .ok (.tuple #[.string ⟨#[]⟩,.bool false]) w:=by kernel_rfl
theorem p4_ (y:Value) (w:World):(Instr.typeAssert (.iface 238 y) 20 191 true).run Tryz.prog w = .ok (.tuple #[.slice none 0 0,.bool false]) w:=by kernel_rfl
theorem n5_ (y:Value) (w:World):(Instr.typeAssert (.iface 238 y) 20 193 true).run Tryz.prog w = .ok (.tuple #[.int .i64 0,.bool false]) w:=by kernel_rfl
theorem k1_ (y:Value) (w:World):(Instr.typeAssert (.iface 238 y) 20 237 true).run Tryz.prog w = .ok (.tuple #[.agg #[.string ⟨#[]⟩,.string ⟨#[]⟩],.bool false]) w:=by kernel_rfl
theorem n6_ (y:Value) (w:World):(Instr.typeAssert (.iface 238 y) 20 238 true).run Tryz.prog w = .ok (.tuple #[y,.bool true]) w:=by kernel_rfl
structure jr_ (w:World) (h:Nat) (k:Int) (b:Bool) (n:Int) (t x:ByteArray) (s:Value) (d:Nat) (b':Bool) (n':Int) (t' x':ByteArray) (wr:World):Prop where
 below:Below w.heap.size w wr
 val:wr.heap[h]?=some (.cells #[.int .i64 k,.bool b,.int .i64 n,.string t,.string x,s] 39 (0,0))
 dp:wr.heap[h+1]?=some (.cells #[.int .i64 (d:Int)] 3 (0,0))
 bare:wr.heap[h+1+1]?=some (.cells #[.int .i64 k,.bool b',.int .i64 n',.string t',.string x',.slice none 0 0] 39 (0,0))
 size:h+3<=wr.heap.size
 low:w.heap.size<=h
section
variable {w:World} {h:Nat} {k:Int} {b:Bool} {n:Int} {t x:ByteArray} {s:Value} {d:Nat} {b':Bool} {n':Int} {t' x':ByteArray} {wr:World}
theorem jr_.on (c:jr_ w h k b n t x s d b' n' t' x' wr) {w2:World} (hb:Below wr.heap.size wr w2):jr_ w h k b n t x s d b' n' t' x' w2:=
 ⟨c.below.trans (hb.mono c.below.size),(hb.block h (by have:=c.size;omega)).trans c.val,(hb.block (h+1) (by have:=c.size;omega)).trans c.dp,(hb.block (h+1+1) (by have:=c.size;omega)).trans c.bare,Nat.le_trans c.size hb.size,c.low⟩
theorem jr_.alloc (c:jr_ w h k b n t x s d b' n' t' x' wr) (a:Obj):jr_ w h k b n t x s d b' n' t' x' (wr.alloc a):=c.on ((Below.refl _ _).alloc (Nat.le_refl _) _)
theorem jr_.drew (c:jr_ w h k b n t x s d b' n' t' x' wr):jr_ w h k b n t x s d b' n' t' x' wr.drew:=c.on (fg_ (Below.refl _ _) 1)
theorem jr_.set (c:jr_ w h k b n t x s d b' n' t' x' wr) (j:Nat) (v:Value) {f:Bool} {a:Int} {i g:ByteArray}
    (e:(#[.int .i64 k,.bool b',.int .i64 n',.string t',.string x',.slice none 0 0]:Array Value).setIfInBounds j v=#[.int .i64 k,.bool f,.int .i64 a,.string i,.string g,.slice none 0 0]):jr_ w h k b n t x s d f a i g (wr.setCell ⟨h+1+1,j,none⟩ v):=
 ⟨c.below.setCell (p:=⟨h+1+1,j,none⟩) (by have:=c.low;show _<=h+1+1;omega) v,(Below.heap_setCell _ _ _ _ (by show h≠h+1+1;omega)).trans c.val,(Below.heap_setCell _ _ _ _ (by show h+1≠h+1+1;omega)).trans c.dp,by rw[<-e];exact heap_setCell_same _ _ j _ _ v c.bare,by simpa using c.size,c.low⟩
end
theorem Jx_ (b:Bool) (n:Int) (t x:ByteArray) (l:List h_) (d:Nat):I_ (.mk 0 b n t x l) d=a9_ 0 b n t x l false 0 ⟨#[]⟩ ⟨#[]⟩:=by unfold I_;rfl
theorem Jy_ (b:Bool) (n:Int) (t x:ByteArray) (l:List h_) (d:Nat):I_ (.mk 1 b n t x l) d=a9_ 1 b n t x l b 0 ⟨#[]⟩ ⟨#[]⟩:=by unfold I_;rfl
theorem Jz_ (b:Bool) (n:Int) (t x:ByteArray) (l:List h_) (d:Nat):I_ (.mk 2 b n t x l) d=a9_ 2 b n t x l false n ⟨#[]⟩ ⟨#[]⟩:=by unfold I_;rfl
theorem J0_ (b:Bool) (n:Int) (t x:ByteArray) (l:List h_) (d:Nat):I_ (.mk 3 b n t x l) d=(cr_ t&&a9_ 3 b n t x l false 0 t ⟨#[]⟩):=by unfold I_;rfl
theorem J1_ (b:Bool) (n:Int) (t x:ByteArray) (l:List h_) (d:Nat):I_ (.mk 4 b n t x l) d=(decide (t.size<=1048576)&&a9_ 4 b n t x l false 0 t ⟨#[]⟩):=by unfold I_;rfl
theorem Dl_ (b:Bool) (n:Int) (t x:ByteArray) (l:List h_) (d:Nat):I_ (.mk 8 b n t x l) d=(g0_ t&&a9_ 8 b n t x l false 0 t ⟨#[]⟩):=by unfold I_;rfl
theorem J2_ (b:Bool) (n:Int) (t x:ByteArray) (l:List h_) (d:Nat):I_ (.mk 9 b n t x l) d=(ee_ t&&a9_ 9 b n t x l false 0 t ⟨#[]⟩):=by unfold I_;rfl
theorem Dm_ (b:Bool) (n:Int) (t x:ByteArray) (l:List h_) (d:Nat):I_ (.mk 5 b n t x l) d=(decide (l.length<=4096)&&(decide (d<60)&&(g9_ l (d+1)&&a9_ 5 b n t x l false 0 ⟨#[]⟩ ⟨#[]⟩))):=by unfold I_;rfl
theorem J3_ (b:Bool) (n:Int) (t x:ByteArray) (l:List h_) (d:Nat):I_ (.mk 6 b n t x l) d=(decide (0<=n)&&a9_ 6 b n t x l false n ⟨#[]⟩ ⟨#[]⟩):=by unfold I_;rfl
theorem J4_ (b:Bool) (n:Int) (t x:ByteArray) (l:List h_) (d:Nat):I_ (.mk 7 b n t x l) d=(decide (0<=n)&&a9_ 7 b n t x l false n ⟨#[]⟩ ⟨#[]⟩):=by unfold I_;rfl
theorem Dn_ (b:Bool) (n:Int) (t x:ByteArray) (l:List h_) (d:Nat):I_ (.mk 10 b n t x l) d=(decide (t.size<=1048576)&&(g0_ x&&a9_ 10 b n t x l false 0 t x)):=by unfold I_;rfl
theorem Hy_ (N:Nat):∀(v:h_) (_:T_ v<N) (_:T_ v<=10000000000000000) (d:Nat) (_:d<=60) (F:Nat->Prop) (u:Value) (w:World) (_:∀g,F g->g<w.heap.size) (_:VRd w F v u) (_:F_ w),
    Calls Tryz.prog 117 #[u,.int .i64 (d:Int)] w (u_ (I_ v d) w):=by
 induction N with
 | zero=>exact λ_ h=>absurd h (Nat.not_lt_zero _)
 | succ N ih=>
  intro v hN hs d hd F u w hF hv hg;obtain⟨A,a5,rfl,a9,hl⟩:=hv.inv;have IH:=q_ ih;have HL:=q_ hl;have HF:=q_ hF;have HG:=q_ hg;clear ih hl hF hg hv;obtain⟨s,HS⟩:=a_ (Value.slice A v.list.length a5);have HP:=q_ (λW=>g8_ v s W);rw[HS.o];obtain⟨p,m⟩:=a_ (I_ v d);rw[m.o]
  cases v with
  | mk k b n t x l=>
  obtain⟨pv,j⟩:=a_ (qx_ (.mk k b n t x l) s);unfold iu_ c_ at HP;unfold c_;rw[j.o]at HP;simp only[h_.kind,h_.truth,h_.num,h_.text,h_.extra,h_.list]at HP HL HS a9 ⊢;have a1:t.size<=9223372036854775807/\x.size<=9223372036854775807/\l.length<=10000000000000000/\ab_ l<N/\ab_ l<=10000000000000000:=by simp only[T_]at hs hN;have:=dz_ l;omega
  obtain⟨a1,aq,b2,az,b4⟩:=a1;clear hN hs;go_enter Tryz.func117,Tryz.ntmps117
  go_wp2_with fail;obtain⟨h,Hh⟩:=a_ w.heap.size
  have ad:=q_ (show jr_ w h k b n t x s d false 0 ⟨#[]⟩ ⟨#[]⟩ (((w.alloc (.cells #[.int .i64 k,.bool b,.int .i64 n,.string t,.string x,s] 39)).alloc (.cells #[.int .i64 (d:Int)] 3)).alloc (.cells #[.int .i64 k,.bool false,.int .i64 0,.string ⟨#[]⟩,.string ⟨#[]⟩,.slice none 0 0] 39)) from by
   rw[<-Hh.o];refine⟨nz_ w _ _ _,?_,?_,?_,by simp,Nat.le_refl _⟩
   ·rw[Below.heap_alloc _ _ _ (by simp;omega),Below.heap_alloc _ _ _ (by simp)];exact heap_alloc_new w _
   ·rw[Below.heap_alloc _ _ _ (by simp)];have:=heap_alloc_new (w.alloc (.cells #[.int .i64 k,.bool b,.int .i64 n,.string t,.string x,s] 39)) (.cells #[.int .i64 (d:Int)] 3);rwa [show (w.alloc (.cells #[.int .i64 k,.bool b,.int .i64 n,.string t,.string x,s] 39)).heap.size=w.heap.size+1 by simp]at this
   ·have:=heap_alloc_new ((w.alloc (.cells #[.int .i64 k,.bool b,.int .i64 n,.string t,.string x,s] 39)).alloc (.cells #[.int .i64 (d:Int)] 3)) (.cells #[.int .i64 k,.bool false,.int .i64 0,.string ⟨#[]⟩,.string ⟨#[]⟩,.slice none 0 0] 39);rwa [show ((w.alloc (.cells #[.int .i64 k,.bool b,.int .i64 n,.string t,.string x,s] 39)).alloc (.cells #[.int .i64 (d:Int)] 3)).heap.size=w.heap.size+1+1 by simp]at this)
  rw[Hh.o];obtain⟨w0,ar⟩:=a_ (((w.alloc (.cells #[.int .i64 k,.bool b,.int .i64 n,.string t,.string x,s] 39)).alloc (.cells #[.int .i64 (d:Int)] 3)).alloc (.cells #[.int .i64 k,.bool false,.int .i64 0,.string ⟨#[]⟩,.string ⟨#[]⟩,.slice none 0 0] 39));rw[ar.o]at ad ⊢;refine (HP.o _).mono ?_;rintro e G ⟨rfl,am⟩;have i:=q_ (ad.o.on am);clear am ad HP;have ae:G.cell? ⟨h,0,none⟩=some (.int .i64 k):=cell_of_heap i.o.val 0;have cd:G.cell? ⟨h+1,0,none⟩=some (.int .i64 (d:Int)):=cell_of_heap i.o.dp 0;have af:G.cell? ⟨h+1+1,1,none⟩=some (.bool false):=cell_of_heap i.o.bare 1;have ah:G.cell? ⟨h+1+1,2,none⟩=some (.int .i64 0):=cell_of_heap i.o.bare 2;have a4:G.cell? ⟨h+1+1,3,none⟩=some (.string ⟨#[]⟩):=cell_of_heap i.o.bare 3;have ag:G.cell? ⟨h+1+1,4,none⟩=some (.string ⟨#[]⟩):=cell_of_heap i.o.bare 4;have aj:G.frozen? ⟨h+1+1,1,none⟩=false:=Lib.frozen_of_heap i.o.bare 1;have ai:G.frozen? ⟨h+1+1,2,none⟩=false:=Lib.frozen_of_heap i.o.bare 2;have a7:G.frozen? ⟨h+1+1,3,none⟩=false:=Lib.frozen_of_heap i.o.bare 3;have ak:G.frozen? ⟨h+1+1,4,none⟩=false:=Lib.frozen_of_heap i.o.bare 4;go_upto_block 0 with fail;go_cut [] (λwx=>Q_ (∃b' n' t' x',jr_ w h k b n t x s d b' n' t' x' wx/\p=a9_ k b n t x l b' n' t' x'))
  case first=>
   by_cases h0:k=0
   ·subst h0;have B:pv = .iface 233 (.agg #[]):=by rw[<-j.o];rfl
    subst B;have a:=q_ (show p=a9_ 0 b n t x l false 0 ⟨#[]⟩ ⟨#[]⟩ from by rw[<-m.o];exact Jx_ b n t x l d);have C:=sg_ (.agg #[]);clear j m;go_wp2_with fail;go_meet;exact q_ ⟨_,_,_,_,i.o.alloc _,a.o⟩
   ·have e0:((k:Int)==0)=false:=beq_eq_false_iff_ne.2 h0;by_cases h1:k=1
    ·subst h1;have B:pv = .iface 194 (.bool b):=by rw[<-j.o];rfl
     subst B;have a:=q_ (show p=a9_ 1 b n t x l b 0 ⟨#[]⟩ ⟨#[]⟩ from by rw[<-m.o];exact Jy_ b n t x l d);have C:=mn_ (.bool b);have f:=iv_ (.bool b);clear j m;go_wp2_with fail;go_meet;exact q_ ⟨_,_,_,_,i.o.set 1 _ rfl,a.o⟩
    ·have e1:((k:Int)==1)=false:=beq_eq_false_iff_ne.2 h1;by_cases h2:k=2
     ·subst h2;have B:pv = .iface 188 (.int .i64 n):=by rw[<-j.o];rfl
      subst B;have a:=q_ (show p=a9_ 2 b n t x l false n ⟨#[]⟩ ⟨#[]⟩ from by rw[<-m.o];exact Jz_ b n t x l d);have C:=p0_ (.int .i64 n);have f:=kv_ (.int .i64 n);have D:=n0_ (.int .i64 n);clear j m;go_wp2_with fail;go_meet;exact q_ ⟨_,_,_,_,i.o.set 2 _ rfl,a.o⟩
     ·have e2:((k:Int)==2)=false:=beq_eq_false_iff_ne.2 h2;by_cases h3:k=3
      ·subst h3;have B:pv = .iface 189 (.string t):=by rw[<-j.o];rfl
       subst B;have a:=q_ (show p=(cr_ t&&a9_ 3 b n t x l false 0 t ⟨#[]⟩) from by rw[<-m.o];exact J0_ b n t x l d);have C:=n1_ (.string t);have f:=jp_ (.string t);have D:=mo_ (.string t);have q:=kw_ (.string t);clear j m;have a3:=q_ (sf_ t a1 G (f_ HG.o i.o.below));obtain⟨r,X⟩:=a_ (cr_ t);rw[X.o]at a3 a
       cases r with
       | false=>
        have z:=q_ (show false=p from by rw[a.o];rfl);go_wp2_with fail;refine a3.o.mono ?_;rintro e w2 ⟨rfl,I⟩;have c:=q_ (i.o.on I);clear I;go_wp2_with fail;go_ret;exact⟨ar_ z.o,c.o.below⟩
       | true=>
        go_wp2_with fail;refine a3.o.mono ?_;rintro e w2 ⟨rfl,I⟩
        have c:=q_ (i.o.on I);clear I a4 a7;have a4:w2.cell? ⟨h+1+1,3,none⟩=some (.string ⟨#[]⟩):=cell_of_heap c.o.bare 3;have a7:w2.frozen? ⟨h+1+1,3,none⟩=false:=Lib.frozen_of_heap c.o.bare 3;go_wp2_with fail;go_meet;exact q_ ⟨_,_,_,_,c.o.set 3 _ rfl,a.o⟩
      ·have e3:((k:Int)==3)=false:=beq_eq_false_iff_ne.2 h3;by_cases h4:k=4
       ·subst h4;have B:pv = .iface 234 (.string t):=by rw[<-j.o];rfl
        subst B;have a:=q_ (show p=(decide (t.size<=1048576)&&a9_ 4 b n t x l false 0 t ⟨#[]⟩) from by rw[<-m.o];exact J1_ b n t x l d);have C:=fq_ (.string t);have f:=dn_ (.string t);have D:=eu_ (.string t);have q:=d9_ (.string t);have E:=ev_ (.string t);clear j m;by_cases T:t.size<=1048576
        ·have U:(t.size:Int)<=1048576:=by omega
         have L:=q_ (show p=a9_ 4 b n t x l false 0 t ⟨#[]⟩ from by rw[a.o,decide_eq_true T];rfl);go_wp2_with fail;go_meet;exact q_ ⟨_,_,_,_,i.o.set 3 _ rfl,L.o⟩
        ·have U:¬(t.size:Int)<=1048576:=by omega
         have z:=q_ (show false=p from by rw[a.o];rw[decide_eq_false T];rfl);go_wp2_with fail;go_ret;exact⟨ar_ z.o,i.o.below⟩
       ·have e4:((k:Int)==4)=false:=beq_eq_false_iff_ne.2 h4;by_cases h8:k=8
        ·subst h8;have B:pv = .iface 234 (.string t):=by rw[<-j.o];rfl
         subst B;have a:=q_ (show p=(g0_ t&&a9_ 8 b n t x l false 0 t ⟨#[]⟩) from by rw[<-m.o];exact Dl_ b n t x l d);have C:=fq_ (.string t);have f:=dn_ (.string t);have D:=eu_ (.string t);have q:=d9_ (.string t);have E:=ev_ (.string t);clear j m;have R:=q_ (yu_ t a1 G);obtain⟨r,X⟩:=a_ (g0_ t);rw[X.o]at R a
         cases r with
         | false=>
          have z:=q_ (show false=p from by rw[a.o];rfl);go_wp2_with fail;refine R.o.mono ?_;rintro e w2 ⟨rfl,rfl⟩;go_wp2_with fail;go_ret;exact⟨ar_ z.o,i.o.below⟩
         | true=>
          go_wp2_with fail;refine R.o.mono ?_;rintro e w2 ⟨rfl,rfl⟩
          go_wp2_with fail;go_meet;exact q_ ⟨_,_,_,_,i.o.set 3 _ rfl,a.o⟩
        ·have e8:((k:Int)==8)=false:=beq_eq_false_iff_ne.2 h8;by_cases h9:k=9
         ·subst h9;have B:pv = .iface 234 (.string t):=by rw[<-j.o];rfl
          subst B;have a:=q_ (show p=(ee_ t&&a9_ 9 b n t x l false 0 t ⟨#[]⟩) from by rw[<-m.o];exact J2_ b n t x l d);have C:=fq_ (.string t);have f:=dn_ (.string t);have D:=eu_ (.string t);have q:=d9_ (.string t);have E:=ev_ (.string t);clear j m;have R:=q_ (C4_ t a1 G);obtain⟨r,X⟩:=a_ (ee_ t);rw[X.o]at R a
          cases r with
          | false=>
           have z:=q_ (show false=p from by rw[a.o];rfl);go_wp2_with fail;refine R.o.mono ?_;rintro e w2 ⟨rfl,rfl⟩;go_wp2_with fail;go_ret;exact⟨ar_ z.o,i.o.below⟩
          | true=>
           go_wp2_with fail;refine R.o.mono ?_;rintro e w2 ⟨rfl,rfl⟩
           go_wp2_with fail;go_meet;exact q_ ⟨_,_,_,_,i.o.set 3 _ rfl,a.o⟩
         ·have e9:((k:Int)==9)=false:=beq_eq_false_iff_ne.2 h9;by_cases h5:k=5
          ·subst h5;have B:pv = .iface 191 (s):=by rw[<-j.o];rfl
           subst B;have a:=q_ (show p=(decide (l.length<=4096)&&(decide (d<60)&&(g9_ l (d+1)&&a9_ 5 b n t x l false 0 ⟨#[]⟩ ⟨#[]⟩))) from by rw[<-m.o];exact Dm_ b n t x l d);have C:=sh_ (s);have f:=mp_ (s);have D:=p1_ (s);have q:=n2_ (s);have E:=p2_ (s);have J:=si_ (s);clear j m;have aa:=HS.o;subst aa;by_cases ab:l.length<=4096
           ·have U:¬(4096:Int)<(l.length:Int):=by omega
            by_cases ac:d<60
            ·have z2:¬(60:Int)<=(d:Int):=by omega
             have a8:=q_ (Dk_ l (d+1) (.func (.func 189) #[] #[.pointer (some ⟨h+1,0,none⟩)]) A l.length a5 G (Hx_ l d ac ⟨h+1,0,none⟩ F A l.length a5 G (λg hg=>Nat.lt_of_lt_of_le (HF.o g hg) i.o.below.size) (HL.o.under i.o.below HF.o) ab cd (by have:=i.o.size;show h+1<_;omega)
              (λy hy u W hW hv=>IH.o y (by have:=fu_ hy;omega) (by have:=fu_ hy;omega) (d+1) (by omega) F u W (λg hg=>Nat.lt_of_lt_of_le (HF.o g hg) (Nat.le_trans i.o.below.size hW.size)) hv (f_ HG.o (i.o.below.trans (hW.mono i.o.below.size))))))
             obtain⟨r,X⟩:=a_ (g9_ l (d+1));rw[X.o]at a8 a
             cases r with
             | false=>
              have z:=q_ (show false=p from by rw[a.o];simp);go_wp2_with fail;refine a8.o.mono ?_;rintro e w2 ⟨rfl,I⟩;have c:=q_ (i.o.on I);clear I;go_wp2_with fail;go_ret;exact⟨ar_ z.o,c.o.below⟩
             | true=>
              have L:=q_ (show p=a9_ 5 b n t x l false 0 ⟨#[]⟩ ⟨#[]⟩ from by rw[a.o,decide_eq_true ab,decide_eq_true ac];rfl);go_wp2_with fail;refine a8.o.mono ?_;rintro e w2 ⟨rfl,I⟩;have c:=q_ (i.o.on I);clear I;go_wp2_with fail;go_meet;exact q_ ⟨_,_,_,_,c.o,L.o⟩
            ·have z2:(60:Int)<=(d:Int):=by omega
             have z:=q_ (show false=p from by rw[a.o];rw[decide_eq_false ac];simp);go_wp2_with fail;go_ret;exact⟨ar_ z.o,i.o.below⟩
           ·have U:(4096:Int)<(l.length:Int):=by omega
            have z:=q_ (show false=p from by rw[a.o];rw[decide_eq_false ab];rfl);go_wp2_with fail;go_ret;exact⟨ar_ z.o,i.o.below⟩
          ·have e5:((k:Int)==5)=false:=beq_eq_false_iff_ne.2 h5;by_cases h6:k=6
           ·subst h6;have B:pv = .iface 193 (.int .i64 n):=by rw[<-j.o];rfl
            subst B;have a:=q_ (show p=(decide (0<=n)&&a9_ 6 b n t x l false n ⟨#[]⟩ ⟨#[]⟩) from by rw[<-m.o];exact J3_ b n t x l d);have C:=im_ (.int .i64 n);have f:=fv_ (.int .i64 n);have D:=ha_ (.int .i64 n);have q:=gx_ (.int .i64 n);have E:=hb_ (.int .i64 n);have J:=in_ (.int .i64 n);have O:=hc_ (.int .i64 n);clear j m;by_cases a0:0<=n
            ·have U:¬n<0:=by omega
             have L:=q_ (show p=a9_ 6 b n t x l false n ⟨#[]⟩ ⟨#[]⟩ from by rw[a.o,decide_eq_true a0];rfl);go_wp2_with fail;go_meet;exact q_ ⟨_,_,_,_,i.o.set 2 _ rfl,L.o⟩
            ·have U:n<0:=by omega
             have z:=q_ (show false=p from by rw[a.o];rw[decide_eq_false a0];rfl);go_wp2_with fail;go_ret;exact⟨ar_ z.o,i.o.below⟩
           ·have e6:((k:Int)==6)=false:=beq_eq_false_iff_ne.2 h6;by_cases h7:k=7
            ·subst h7;have B:pv = .iface 193 (.int .i64 n):=by rw[<-j.o];rfl
             subst B;have a:=q_ (show p=(decide (0<=n)&&a9_ 7 b n t x l false n ⟨#[]⟩ ⟨#[]⟩) from by rw[<-m.o];exact J4_ b n t x l d);have C:=im_ (.int .i64 n);have f:=fv_ (.int .i64 n);have D:=ha_ (.int .i64 n);have q:=gx_ (.int .i64 n);have E:=hb_ (.int .i64 n);have J:=in_ (.int .i64 n);have O:=hc_ (.int .i64 n);clear j m;by_cases a0:0<=n
             ·have U:¬n<0:=by omega
              have L:=q_ (show p=a9_ 7 b n t x l false n ⟨#[]⟩ ⟨#[]⟩ from by rw[a.o,decide_eq_true a0];rfl);go_wp2_with fail;go_meet;exact q_ ⟨_,_,_,_,i.o.set 2 _ rfl,L.o⟩
             ·have U:n<0:=by omega
              have z:=q_ (show false=p from by rw[a.o];rw[decide_eq_false a0];rfl);go_wp2_with fail;go_ret;exact⟨ar_ z.o,i.o.below⟩
            ·have e7:((k:Int)==7)=false:=beq_eq_false_iff_ne.2 h7;by_cases Y:k=10
             ·subst Y;have B:pv = .iface 237 (.agg #[.string t,.string x]):=by rw[<-j.o];rfl
              subst B;have a:=q_ (show p=(decide (t.size<=1048576)&&(g0_ x&&a9_ 10 b n t x l false 0 t x)) from by rw[<-m.o];exact Dn_ b n t x l d);have C:=mq_ (.agg #[.string t,.string x]);have f:=iw_ (.agg #[.string t,.string x]);have D:=kx_ (.agg #[.string t,.string x]);have q:=jq_ (.agg #[.string t,.string x]);have E:=ky_ (.agg #[.string t,.string x]);have J:=mr_ (.agg #[.string t,.string x]);have O:=kz_ (.agg #[.string t,.string x]);have Z:=ix_ (.agg #[.string t,.string x]);clear j m;obtain⟨w2,a6⟩:=a_ (G.alloc (.cells #[.string t,.string x] 237));obtain⟨g,Hg⟩:=a_ G.heap.size;have c:=q_ (i.o.alloc (.cells #[.string t,.string x] 237));rw[a6.o]at c;have a2:=q_ (heap_alloc_new G (.cells #[.string t,.string x] 237));rw[a6.o,Hg.o]at a2;have b3:=q_ (show h+1+1<g from by rw[<-Hg.o];have:=i.o.size;omega);have R:=q_ (yu_ x aq w2);obtain⟨r,X⟩:=a_ (g0_ x);rw[X.o]at R a;have l0:w2.cell? ⟨g,0,none⟩=some (.string t):=cell_of_heap a2.o 0;have l1:w2.cell? ⟨g,1,none⟩=some (.string x):=cell_of_heap a2.o 1;have ay:w2.cell? ⟨h+1+1,3,none⟩=some (.string ⟨#[]⟩):=cell_of_heap c.o.bare 3;have aw:w2.frozen? ⟨h+1+1,3,none⟩=false:=Lib.frozen_of_heap c.o.bare 3;have av:w2.cell? ⟨h+1+1,4,none⟩=some (.string ⟨#[]⟩):=cell_of_heap c.o.bare 4;have b1:w2.frozen? ⟨h+1+1,4,none⟩=false:=Lib.frozen_of_heap c.o.bare 4;have au:w2.cell? ⟨h,0,none⟩=some (.int .i64 10):=cell_of_heap c.o.val 0;clear af ah a4 ag aj ai a7 ak ae cd;by_cases T:t.size<=1048576
              ·have U:¬(1048576:Int)<(t.size:Int):=by omega
               go_upto_region 40 with fail;rw[a6.o,Hg.o]
               cases r with
               | false=>
                have z:=q_ (show false=p from by rw[a.o];rw[decide_eq_true T];rfl);go_wp2_with fail;refine R.o.mono ?_;rintro e w3 ⟨rfl,rfl⟩;go_wp2_with fail;go_ret;exact⟨ar_ z.o,c.o.below⟩
               | true=>
                have L:=q_ (show p=a9_ 10 b n t x l false 0 t x from by rw[a.o,decide_eq_true T];rfl);go_wp2_with fail;refine R.o.mono ?_;rintro e w3 ⟨rfl,rfl⟩;go_wp2_with fail;go_region
                go_wp2_with fail;go_meet;exact q_ ⟨_,_,_,_,((c.o.set 3 _ rfl).set 4 _ rfl).drew,L.o⟩
              ·have U:(1048576:Int)<(t.size:Int):=by omega
               have z:=q_ (show false=p from by rw[a.o];rw[decide_eq_false T];rfl);go_upto_region 40 with fail;rw[a6.o,Hg.o];go_wp2_with fail;go_ret;exact⟨ar_ z.o,c.o.below⟩
             ·have b0:((k:Int)==10)=false:=beq_eq_false_iff_ne.2 Y;have B:pv = .iface 238 (.int .i64 k):=by rw[<-j.o];unfold qx_;simp only[h_.kind,h0,h1,h2,h3,h4,h8,h9,h5,h6,h7,Y,if_false]
              subst B;have z:=q_ (show false=p from by rw[<-m.o];unfold I_;simp only[h0,h1,h2,h3,h4,h8,h9,h5,h6,h7,Y,if_false]);have C:=p3_ (.int .i64 k);have f:=k0_ (.int .i64 k);have D:=n3_ (.int .i64 k);have q:=ms_ (.int .i64 k);have E:=n4_ (.int .i64 k);have J:=p4_ (.int .i64 k);have O:=n5_ (.int .i64 k);have Z:=k1_ (.int .i64 k);have ap:=n6_ (.int .i64 k);clear j m h0 h1 h2 h3 h4 h8 h9 h5 h6 h7 Y;go_wp2_with fail;go_ret;exact⟨ar_ z.o,i.o.below⟩
  case rest=>
   obtain⟨b',n',t',x',hc,hm⟩:=hcut.o;have aa:=HS.o;subst aa;have c:=q_ hc;have HM:=q_ hm;clear hc hm hcut i ae cd af ah a4 ag aj ai a7 ak;have v0:wc.cell? ⟨h,0,none⟩=some (.int .i64 k):=cell_of_heap c.o.val 0;have v1:wc.cell? ⟨h,1,none⟩=some (.bool b):=cell_of_heap c.o.val 1;have v2:wc.cell? ⟨h,2,none⟩=some (.int .i64 n):=cell_of_heap c.o.val 2;have v3:wc.cell? ⟨h,3,none⟩=some (.string t):=cell_of_heap c.o.val 3;have v4:wc.cell? ⟨h,4,none⟩=some (.string x):=cell_of_heap c.o.val 4;have v5:wc.cell? ⟨h,5,none⟩=some (.slice A l.length a5):=cell_of_heap c.o.val 5;have u1:wc.cell? ⟨h+1+1,1,none⟩=some (.bool b'):=cell_of_heap c.o.bare 1;have u2:wc.cell? ⟨h+1+1,2,none⟩=some (.int .i64 n'):=cell_of_heap c.o.bare 2;have u3:wc.cell? ⟨h+1+1,3,none⟩=some (.string t'):=cell_of_heap c.o.bare 3;have u4:wc.cell? ⟨h+1+1,4,none⟩=some (.string x'):=cell_of_heap c.o.bare 4;obtain⟨ln,ao⟩:=a_ l.length;have M:=q_ (show p=((b==b')&&(decide (n=n')&&(decide (t=t')&&(decide (x=x')&&(decide (ln=0) || decide (k=5)))))) from by rw[HM.o,<-ao.o];rfl);rw[ao.o]at v5;clear a9 HM;by_cases q1:b=b'
   ·have e1:(b==b')=true:=by rw[q1];simp
    by_cases S:n=n'
    ·have e2:(n==n')=true:=by rw[S];simp
     by_cases V:t=t'
     ·have e3:(t.toList==t'.toList)=true:=by rw[V];simp
      by_cases q4:x=x'
      ·have e4:(x.toList==x'.toList)=true:=by rw[q4];simp
       by_cases q5:ln=0
       ·have e5:((ln:Int)==0)=true:=by rw[q5];rfl
        have P:=q_ (show true=p from by rw[M.o,e1,decide_eq_true S,decide_eq_true V,decide_eq_true q4,decide_eq_true q5];rfl);clear q1 S V q4 q5;go_wp2_with fail;go_ret;exact⟨ar_ P.o,c.o.below⟩
       ·have e5:((ln:Int)==0)=false:=beq_eq_false_iff_ne.2 (by omega)
        have P:=q_ (show ((k:Int)==5)=p from by
         rw[M.o,e1,decide_eq_true S,decide_eq_true V,decide_eq_true q4,decide_eq_false q5];by_cases q6:k=5
         ·rw[q6];rfl
         ·rw[decide_eq_false q6,beq_eq_false_iff_ne.2 q6];rfl)
        clear q1 S V q4 q5;go_wp2_with fail;go_ret;exact⟨ar_ P.o,c.o.below⟩
      ·have e4:(x.toList==x'.toList)=false:=bi_ q4;have P:=q_ (show false=p from by rw[M.o,decide_eq_false q4];simp);clear q1 S V q4;go_wp2_with fail;go_ret;exact⟨ar_ P.o,c.o.below⟩
     ·have e3:(t.toList==t'.toList)=false:=bi_ V;have P:=q_ (show false=p from by rw[M.o,decide_eq_false V];simp);clear q1 S V;go_wp2_with fail;go_ret;exact⟨ar_ P.o,c.o.below⟩
    ·have e2:(n==n')=false:=beq_eq_false_iff_ne.2 S;have P:=q_ (show false=p from by rw[M.o,decide_eq_false S];simp);clear q1 S;go_wp2_with fail;go_ret;exact⟨ar_ P.o,c.o.below⟩
   ·have e1:(b==b')=false:=beq_eq_false_iff_ne.2 q1;have P:=q_ (show false=p from by rw[M.o,e1];rfl);clear q1;go_wp2_with fail;go_ret;exact⟨ar_ P.o,c.o.below⟩
end
end Go.Proofs.YtefhfadjajcmkaaGreatDoor
