/- May a value be: checked. Printed by gen_VJ.py. -/
import Derived.Test.YtefhfadjajcmkaaGreatDoorH0
import Derived.Deep.RegionHeld3
import Derived.BigRegion
set_option linter.unusedVariables false
set_option linter.unusedSimpArgs false
set_option maxRecDepth 100000
set_option maxHeartbeats 64000000
namespace Go.Proofs.YtefhfadjajcmkaaGreatDoor
open Go.Lib (cell_of_heap)
section
open Go Go.RowKit Go.Shelf Go.Lib
def bK (l:List UInt8):ByteArray:=⟨l.toArray⟩
theorem bz_ (l:List UInt8):(bK l).size=l.length:=by simp[bK,ByteArray.size]
theorem i2_ (l:List UInt8):(bK l).data.toList=l:=rfl
theorem qw_ (l:List UInt8):(bK l).toList=l:=Lib.toList_data (bK l)
theorem cj_ (a b:List UInt8):bK a++bK b=bK (a++b):=by apply ByteArray.ext;simp[bK,ByteArray.data_append]
theorem G7_ (a:List UInt8) {k:Nat}:(bK a).extract 0 k=bK (a.take k):=by apply ByteArray.ext;simp[bK]
theorem G8_ (a:List UInt8) {k n:Nat} (h:a.length=n):(bK a).extract k n=bK (a.drop k):=by apply ByteArray.ext;subst h;simp[bK];exact List.take_of_length_le (by simp)
theorem mq_ (n:Nat):Lib.repeatL [48] n=List.replicate n 48:=by
 induction n with
 | zero=>rfl
 | succ n a=>simp[Lib.repeatL,a,List.replicate_succ]
theorem ia_ (d:List UInt8) (a:Nat):(js_ d a).length=max d.length (a+1):=by
 unfold js_;split
 ·simp;omega
 ·omega
theorem z3_ (d:List UInt8) (a:Nat):(eu_ d a).length<=d.length+1:=by unfold eu_ Lib.trimLeftS;have h:=(List.dropWhile_sublist ([48].contains ·) (l:=(js_ d a).take ((js_ d a).length-a))).length_le;have:=ia_ d a;rw[List.length_take]at h;omega
theorem C6_ (d:List UInt8) (a:Nat):(hz_ d a).length<=a:=by unfold hz_ Lib.trimRightS;rw[List.length_reverse];have h:=(List.dropWhile_sublist ([48].contains ·) (l:=((js_ d a).drop ((js_ d a).length-a)).reverse)).length_le;have:=ia_ d a;rw[List.length_reverse,List.length_drop]at h;omega
def C7_ (a:Bool) (d:List UInt8) (c:Nat) (w:World) (e:Ending) (w':World):Prop:=Below w.heap.size w w'/\e = .returned (.tuple #[.string (bK (cy_ a d c).1),.int .i64 (cy_ a d c).2])
theorem C8_ (j:Bool) (d:List UInt8) (f:Nat) (hd:d.length<=1000000) (az:f<=1000000) (w:World) :
    Calls Tryz.prog 297 #[.bool j,.string (bK d),.int .i64 (f:Int)] w (C7_ j d f w):=by
 obtain⟨n,M⟩:=a_ d.length;have hn:(bK d).size=n:=by rw[bz_];exact M.o
 have b2:n<=1000000:=by rw[<-M.o];exact hd
 obtain⟨D,HD⟩:=a_ (bK d);obtain⟨P,X⟩:=a_ (js_ d f);obtain⟨u,HW⟩:=a_ (eu_ d f);obtain⟨m,a4⟩:=a_ (hz_ d f);have ao:=ia_ d f;have ak:=z3_ d f;have aj:=C6_ d f;rw[X.o,M.o]at ao;rw[HW.o,M.o]at ak;rw[a4.o]at aj;obtain⟨K,HK⟩:=a_ (P.length-f);have b0:K<=1000001:=by rw[<-HK.o];omega
 have hw:=q_ (show Lib.trimLeftS (P.take K) [48]=u from by rw[<-HW.o,<-HK.o,<-X.o];rfl);have hp:=q_ (show Lib.trimRightS (P.drop K) [48]=m from by rw[<-a4.o,<-HK.o,<-X.o];rfl)
 have q:=q_ (show cy_ j d f=(if 40<u.length\/20<m.length then ([],2)
  else if u=[]/\m=[] then ([48,46,48],0)
  else ((if j=true then [45] else [])++(if u=[] then [48] else u)++[46]++(if m=[] then [48] else m),0)) from by unfold cy_;rw[HW.o,a4.o])
 rw[HD.o];have ae:D.size=n:=by rw[<-HD.o];exact hn
 have J:=q_ ae;clear hn ae hd;go_enter Tryz.func297,Tryz.ntmps297
 go_upto_if 13 with fail;go_cut [1] (λs1 wx=>s1 = .string (bK P)/\Below w.heap.size w wx)
 case first=>
  by_cases ag:n<=f
  ·obtain⟨c,hc⟩:∃c:Nat,c=f+1-n:=⟨_,rfl⟩;have a5:=q_ (n9_ ⟨#[48]⟩ c w (by omega) (by rw[show (⟨#[48]⟩:ByteArray).size=1 from rfl,Nat.one_mul];omega));have w1:IntKind.i64.wrap ((f:Int)+1)=(f:Int)+1:=IntWalk.i64_in _ (by omega);have w2:IntKind.i64.wrap ((f:Int)+1-(D.size:Int))=(c:Int):=by rw[J.o,IntWalk.i64_in _ (by omega)];omega
   have e1:D.size<=f:=by rw[J.o];omega
   have e2:(f:Int)+1-(D.size:Int)=(c:Int):=by rw[J.o];omega
   have N:=q_ (show bK (List.replicate c 48)++D=bK P from by rw[<-HD.o,<-X.o,cj_];unfold js_;rw[if_pos (by rw[M.o];exact ag),M.o,hc]);have S:(⟨#[48]⟩:ByteArray).data.toList=[48]:=rfl;have I:=a5.o;rw[S,mq_]at I;have R:=q_ (show Calls Tryz.prog 325 #[.string ⟨#[48]⟩,.int .i64 (c:Int)] w λe w'=>e = .returned (.string (bK (List.replicate c 48)))/\Below w.heap.size w w' from I);obtain⟨Z,HZ⟩:=a_ (bK (List.replicate c 48));have ay:Z.size<=1000001:=by rw[<-HZ.o,bz_,List.length_replicate];omega
   rw[HZ.o]at R N;have av:∀W:World,(Op.stringOp .add Z D).run Tryz.prog W = .ok (.string (Z++D)) W:=λW=>run_string_add_sum W _ _ (by rw[J.o];omega);clear I a5 S hc;go_wp2_with fail;refine R.o.mono ?_;rintro e w' ⟨rfl,hB⟩;have HB:=q_ hB;clear hB;go_wp2_with fail;go_meet;exact⟨by rw[N.o],HB.o⟩
  ·have e1:¬D.size<=f:=by rw[J.o];omega
   have N:=q_ (show D=bK P from by rw[<-HD.o,<-X.o];unfold js_;rw[if_neg (by rw[M.o];exact ag)]);go_wp2_with fail;go_meet;exact⟨by rw[N.o],Below.refl _ _⟩
 case rest=>
  obtain⟨rfl,a7⟩:=hcut;have F:=q_ a7;clear a7;rename World=>w1
  obtain⟨E,O⟩:=a_ (bK P);have ab:E.size=K+f:=by rw[<-O.o,bz_,<-HK.o];omega
  have ai:=q_ ab;have T:=q_ (show E.extract 0 K=bK (P.take K) from by rw[<-O.o];exact G7_ P);have y:=q_ (show E.extract K E.size=bK (P.drop K) from by rw[<-O.o,bz_];exact G8_ P rfl);rw[O.o];have w3:IntKind.i64.wrap ((E.size:Int)-(f:Int))=(K:Int):=by rw[ai.o,IntWalk.i64_in _ (by omega)];omega
  have w4:(0:Int)<=(K:Int):=by omega
  have w5:(K:Int)<=(E.size:Int):=by rw[ai.o];omega
  have w6:((K:Int)).toNat=K:=rfl;have ar:=q_ (λ(W:World)=>show Calls Tryz.prog 326 #[.string (E.extract K E.size),.string ⟨#[48]⟩] W λe w'=>e = .returned (.string (bK m))/\Below W.heap.size W w' from by have:=zv_ (E.extract K E.size) W (by rw[y.o,bz_,List.length_drop];omega);rw[y.o,i2_,hp.o]at this;rw[y.o];exact this);clear ab;have p1:=q_ (show Below w.heap.size w w1.drew from ⟨F.o.os,F.o.tape,F.o.output,F.o.size,F.o.block⟩);go_upto_region 3 with fail;go_cut [8,9] (λs8 s9 wx=>s8 = .string (bK (P.take K))/\s9 = .string (bK m)/\Below w.heap.size w wx)
  case first=>
   go_region_held3 (λw'=>Below w.heap.size w w') (first | exact p1.o | exact F.o | exact L.o | (trace_state;fail))
    (first | (go_at_call 326;refine (ar.o _).mono ?_;rintro e w2 ⟨rfl,a9⟩;have L:=q_ (p1.o.trans (a9.mono p1.o.size));clear a9))
   go_wp2_with fail;go_meet;exact⟨by rw[T.o],rfl,L.o⟩
  case rest=>
   obtain⟨h8,h9,ah⟩:=hcut;have L:=q_ ah;clear ah;rename World=>w2
   have a6:=q_ (λ(W:World)=>show Calls Tryz.prog 327 #[.string (bK (P.take K)),.string ⟨#[48]⟩] W λe w'=>e = .returned (.string (bK u))/\Below W.heap.size W w' from by have:=zw_ (bK (P.take K)) W;rw[i2_,hw.o]at this;exact this);obtain⟨Tk,ap⟩:=a_ (bK (P.take K));rw[ap.o]at a6 h8;subst h8 h9;obtain⟨a,C⟩:=a_ (bK u);obtain⟨i,B⟩:=a_ (bK m);have a0:a.size=u.length:=by rw[<-C.o,bz_]
   have U:i.size=m.length:=by rw[<-B.o,bz_]
   have ad:a.toList=u:=by rw[<-C.o,qw_]
   have ac:i.toList=m:=by rw[<-B.o,qw_]
   have aa:=q_ a0;have a8:=q_ U;have Y:=q_ ad;have G:=q_ ac;rw[C.o]at a6;rw[B.o];have aw:a.size<=1000001:=by rw[a0];omega
   have au:i.size<=1000001:=by rw[U];omega
   clear a0 U ad ac w3 w4 w5 w6;go_wp2_with fail;refine (a6.o _).mono ?_;rintro e w3 ⟨rfl,af⟩;have p:=q_ (L.o.trans (af.mono L.o.size));clear af;by_cases r:40<u.length\/20<m.length
   ·have A:=q_ (show cy_ j d f=([],2) from by rw[q.o,if_pos r]);by_cases aq:40<a.size
    ·have o1:(40:Int)<(a.size:Int):=by omega
     go_wp2_with fail;exact bodyPost_ret (v:=.tuple #[.string ⟨#[]⟩,.int .i64 2]) (by simp[results,Tryz.results297,go_sem]) rfl ⟨p.o,by rw[A.o];rfl⟩
    ·have o1:¬(40:Int)<(a.size:Int):=by omega
     have o2:(20:Int)<(i.size:Int):=by rw[a8.o];rw[aa.o]at aq;omega
     go_wp2_with fail;exact bodyPost_ret (v:=.tuple #[.string ⟨#[]⟩,.int .i64 2]) (by simp[results,Tryz.results297,go_sem]) rfl ⟨p.o,by rw[A.o];rfl⟩
   ·have o1:¬(40:Int)<(a.size:Int):=by rw[aa.o];omega
    have o2:¬(20:Int)<(i.size:Int):=by rw[a8.o];omega
    by_cases l:u=[]
    ·have q1:a.toList=[]:=by rw[Y.o];exact l
     by_cases g:m=[]
     ·have q2:i.toList=[]:=by rw[G.o];exact g
      have A:=q_ (show cy_ j d f=([48,46,48],0) from by rw[q.o,if_neg r,if_pos ⟨l,g⟩]);clear r l g;go_wp2_with fail;exact bodyPost_ret (v:=.tuple #[.string ⟨#[48,46,48]⟩,.int .i64 0]) (by simp[results,Tryz.results297,go_sem]) rfl ⟨p.o,by rw[A.o];rfl⟩
     ·have q2:¬i.toList=[]:=by rw[G.o];exact g
      have am:i.toList.isEmpty=false:=by rw[G.o];simpa using g
      have A:=q_ (show cy_ j d f=((if j=true then [45] else [])++[48]++[46]++m,0) from by rw[q.o,if_neg r,if_neg (λh=>g h.2),if_pos l,if_neg g])
      clear r l g
      cases j with
      | true=>
       have a1:∀W:World,(Op.stringOp .add ⟨#[45]⟩ ⟨#[48]⟩).run Tryz.prog W = .ok (.string (⟨#[45]⟩++⟨#[48]⟩)) W:=λW=>run_string_add_sum W _ _ (by decide);have V:∀W:World,(Op.stringOp .add (⟨#[45]⟩++⟨#[48]⟩) ⟨#[46]⟩).run Tryz.prog W = .ok (.string (⟨#[45]⟩++⟨#[48]⟩++⟨#[46]⟩)) W:=λW=>run_string_add_sum W _ _ (by decide);have a3:∀W:World,(Op.stringOp .add (⟨#[45]⟩++⟨#[48]⟩++⟨#[46]⟩) i).run Tryz.prog W = .ok (.string (⟨#[45]⟩++⟨#[48]⟩++⟨#[46]⟩++i)) W:=λW=>run_string_add_sum W _ _ (by rw[show ((⟨#[45]⟩++⟨#[48]⟩++⟨#[46]⟩:ByteArray)).size=3 from rfl];omega);go_wp2_with fail;exact bodyPost_ret (v:=.tuple #[.string (⟨#[45]⟩++⟨#[48]⟩++⟨#[46]⟩++i),.int .i64 0]) (by simp[results,Tryz.results297,go_sem]) rfl ⟨p.o,by rw[A.o,<-B.o];exact congrArg (λz=>Ending.returned (.tuple #[.string z,.int .i64 0])) (cj_ [45,48,46] m)⟩
      | false=>
       have V:∀W:World,(Op.stringOp .add ⟨#[48]⟩ ⟨#[46]⟩).run Tryz.prog W = .ok (.string (⟨#[48]⟩++⟨#[46]⟩)) W:=λW=>run_string_add_sum W _ _ (by decide);have a3:∀W:World,(Op.stringOp .add (⟨#[48]⟩++⟨#[46]⟩) i).run Tryz.prog W = .ok (.string (⟨#[48]⟩++⟨#[46]⟩++i)) W:=λW=>run_string_add_sum W _ _ (by rw[show ((⟨#[48]⟩++⟨#[46]⟩:ByteArray)).size=2 from rfl];omega);go_wp2_with fail;exact bodyPost_ret (v:=.tuple #[.string (⟨#[48]⟩++⟨#[46]⟩++i),.int .i64 0]) (by simp[results,Tryz.results297,go_sem]) rfl ⟨p.o,by rw[A.o,<-B.o];exact congrArg (λz=>Ending.returned (.tuple #[.string z,.int .i64 0])) (cj_ [48,46] m)⟩
    ·have q1:¬a.toList=[]:=by rw[Y.o];exact l
     have b1:a.toList.isEmpty=false:=by rw[Y.o];simpa using l
     by_cases g:m=[]
     ·have q2:i.toList=[]:=by rw[G.o];exact g
      have A:=q_ (show cy_ j d f=((if j=true then [45] else [])++u++[46]++[48],0) from by rw[q.o,if_neg r,if_neg (λh=>l h.1),if_neg l,if_pos g])
      clear r l g
      cases j with
      | true=>
       have a1:∀W:World,(Op.stringOp .add ⟨#[45]⟩ a).run Tryz.prog W = .ok (.string (⟨#[45]⟩++a)) W:=λW=>run_string_add_sum W _ _ (by rw[show ((⟨#[45]⟩:ByteArray)).size=1 from rfl];omega);have V:∀W:World,(Op.stringOp .add (⟨#[45]⟩++a) ⟨#[46]⟩).run Tryz.prog W = .ok (.string (⟨#[45]⟩++a++⟨#[46]⟩)) W:=λW=>run_string_add_sum W _ _ (by rw[ByteArray.size_append,show ((⟨#[45]⟩:ByteArray)).size=1 from rfl,show ((⟨#[46]⟩:ByteArray)).size=1 from rfl];omega);have a3:∀W:World,(Op.stringOp .add (⟨#[45]⟩++a++⟨#[46]⟩) ⟨#[48]⟩).run Tryz.prog W = .ok (.string (⟨#[45]⟩++a++⟨#[46]⟩++⟨#[48]⟩)) W:=λW=>run_string_add_sum W _ _ (by rw[ByteArray.size_append,ByteArray.size_append,show ((⟨#[45]⟩:ByteArray)).size=1 from rfl,show ((⟨#[46]⟩:ByteArray)).size=1 from rfl,show ((⟨#[48]⟩:ByteArray)).size=1 from rfl];omega);go_wp2_with fail;exact bodyPost_ret (v:=.tuple #[.string (⟨#[45]⟩++a++⟨#[46]⟩++⟨#[48]⟩),.int .i64 0]) (by simp[results,Tryz.results297,go_sem]) rfl ⟨p.o,by rw[A.o,<-C.o];exact congrArg (λz=>Ending.returned (.tuple #[.string z,.int .i64 0])) (by rw[<-cj_,<-cj_,<-cj_];rfl)⟩
      | false=>
       have V:∀W:World,(Op.stringOp .add a ⟨#[46]⟩).run Tryz.prog W = .ok (.string (a++⟨#[46]⟩)) W:=λW=>run_string_add_sum W _ _ (by rw[show ((⟨#[46]⟩:ByteArray)).size=1 from rfl];omega);have a3:∀W:World,(Op.stringOp .add (a++⟨#[46]⟩) ⟨#[48]⟩).run Tryz.prog W = .ok (.string (a++⟨#[46]⟩++⟨#[48]⟩)) W:=λW=>run_string_add_sum W _ _ (by rw[ByteArray.size_append,show ((⟨#[46]⟩:ByteArray)).size=1 from rfl,show ((⟨#[48]⟩:ByteArray)).size=1 from rfl];omega);go_wp2_with fail;exact bodyPost_ret (v:=.tuple #[.string (a++⟨#[46]⟩++⟨#[48]⟩),.int .i64 0]) (by simp[results,Tryz.results297,go_sem]) rfl ⟨p.o,by rw[A.o,<-C.o];exact congrArg (λz=>Ending.returned (.tuple #[.string z,.int .i64 0])) (by rw[if_neg (by decide),List.nil_append,<-cj_,<-cj_];rfl)⟩
     ·have q2:¬i.toList=[]:=by rw[G.o];exact g
      have am:i.toList.isEmpty=false:=by rw[G.o];simpa using g
      have A:=q_ (show cy_ j d f=((if j=true then [45] else [])++u++[46]++m,0) from by rw[q.o,if_neg r,if_neg (λh=>g h.2),if_neg l,if_neg g])
      clear r l g
      cases j with
      | true=>
       have a1:∀W:World,(Op.stringOp .add ⟨#[45]⟩ a).run Tryz.prog W = .ok (.string (⟨#[45]⟩++a)) W:=λW=>run_string_add_sum W _ _ (by rw[show ((⟨#[45]⟩:ByteArray)).size=1 from rfl];omega);have V:∀W:World,(Op.stringOp .add (⟨#[45]⟩++a) ⟨#[46]⟩).run Tryz.prog W = .ok (.string (⟨#[45]⟩++a++⟨#[46]⟩)) W:=λW=>run_string_add_sum W _ _ (by rw[ByteArray.size_append,show ((⟨#[45]⟩:ByteArray)).size=1 from rfl,show ((⟨#[46]⟩:ByteArray)).size=1 from rfl];omega);have a3:∀W:World,(Op.stringOp .add (⟨#[45]⟩++a++⟨#[46]⟩) i).run Tryz.prog W = .ok (.string (⟨#[45]⟩++a++⟨#[46]⟩++i)) W:=λW=>run_string_add_sum W _ _ (by rw[ByteArray.size_append,ByteArray.size_append,show ((⟨#[45]⟩:ByteArray)).size=1 from rfl,show ((⟨#[46]⟩:ByteArray)).size=1 from rfl];omega);go_wp2_with fail;exact bodyPost_ret (v:=.tuple #[.string (⟨#[45]⟩++a++⟨#[46]⟩++i),.int .i64 0]) (by simp[results,Tryz.results297,go_sem]) rfl ⟨p.o,by rw[A.o,<-C.o,<-B.o];exact congrArg (λz=>Ending.returned (.tuple #[.string z,.int .i64 0])) (by rw[<-cj_,<-cj_,<-cj_];rfl)⟩
      | false=>
       have V:∀W:World,(Op.stringOp .add a ⟨#[46]⟩).run Tryz.prog W = .ok (.string (a++⟨#[46]⟩)) W:=λW=>run_string_add_sum W _ _ (by rw[show ((⟨#[46]⟩:ByteArray)).size=1 from rfl];omega);have a3:∀W:World,(Op.stringOp .add (a++⟨#[46]⟩) i).run Tryz.prog W = .ok (.string (a++⟨#[46]⟩++i)) W:=λW=>run_string_add_sum W _ _ (by rw[ByteArray.size_append,show ((⟨#[46]⟩:ByteArray)).size=1 from rfl];omega);go_wp2_with fail;exact bodyPost_ret (v:=.tuple #[.string (a++⟨#[46]⟩++i),.int .i64 0]) (by simp[results,Tryz.results297,go_sem]) rfl ⟨p.o,by rw[A.o,<-C.o,<-B.o];exact congrArg (λz=>Ending.returned (.tuple #[.string z,.int .i64 0])) (by rw[if_neg (by decide),List.nil_append,<-cj_,<-cj_];rfl)⟩
def M_ (w:World):Prop:=∃m:Int,w.cell? ⟨Tryz.lays145_ren.g 1,0,none⟩=some (.int .i64 m)
theorem g_ {w w':World} (h:M_ w) (hb:Below w.heap.size w w'):M_ w':=by
 obtain⟨m,a⟩:=h;refine⟨m,(hb.cell (p:=⟨Tryz.lays145_ren.g 1,0,none⟩) ?_).trans a⟩;refine Classical.byContradiction λc=>?_;have:w.heap[Tryz.lays145_ren.g 1]?=none:=Array.getElem?_eq_none (by simpa using c);unfold World.cell? at a;simp only[this]at a
 cases a
theorem C9_ {s:ByteArray} (c:UInt8):Lib.hasPrefix s.data.toList [c]=(s.data.toList.head?==some c):=by
 unfold Lib.hasPrefix
 cases s.data.toList with
 | nil=>rfl
 | cons d l=>simp[List.isPrefixOf,Bool.beq_eq_decide_eq,eq_comm]
def J1_ (s:ByteArray) (w:World) (e:Ending) (w':World):Prop:=Below w.heap.size w w'/\e = .returned (.tuple #[.string (fk_ s).1,.int .i64 (fk_ s).2])
theorem gc_ {b:Nat} {w w':World} (h:Below b w w') (m:Nat):Below b w (w'.drewN m):=⟨h.os,h.tape,h.output,h.size,h.block⟩
theorem sj_ (s:ByteArray) (hs:s.size<=100000) (w:World) (hg:M_ w):Calls Tryz.prog 255 #[.string s] w (J1_ s w):=by
 obtain⟨t,Z⟩:=a_ (cz_ s);have ht:t.size<=100000:=by rw[<-Z.o];exact Nat.le_trans (t2_ s) hs
 obtain⟨sb,L⟩:=a_ (dx_ s);obtain⟨f,O⟩:=a_ (Lib.cut t.data.toList [46]).1;obtain⟨c,S⟩:=a_ (Lib.cut t.data.toList [46]).2.1;obtain⟨U,a0⟩:=a_ (Lib.cut t.data.toList [46]).2.2;have J:=q_ (show ((bK (jl_ s).1:ByteArray),(jl_ s).2)=fk_ s from qv_ s);have I:=q_ (show jl_ s=(if e5_ f=true/\(U=true->e5_ c=true) then cy_ sb (f++c) c.length else ([],6)) from by unfold jl_;simp only[Z.o,L.o,O.o,S.o,a0.o])
 have a9:=q_ (show f.length+c.length<=t.size from by
  rw[<-O.o,<-S.o,<-a8_ t];rcases qt_ t.data.toList with h | ⟨a,b,h,ag⟩
  ·rw[C2_ h];simp
  ·rw[h,sh_ ag];simp)
 have a4:=q_ (λW:World=>n8_ s ⟨#[45]⟩ W);have a2:=q_ (λW:World=>n8_ s ⟨#[43]⟩ W);have a1:=q_ (show Lib.hasPrefix s.data.toList (⟨#[45]⟩:ByteArray).data.toList=sb from by rw[<-L.o];exact C9_ 45);have a3:=q_ (show (sb || Lib.hasPrefix s.data.toList (⟨#[43]⟩:ByteArray).data.toList)=m1_ s from by rw[<-L.o,show Lib.hasPrefix s.data.toList (⟨#[43]⟩:ByteArray).data.toList=(s.data.toList.head?==some 43) from C9_ 43];rfl);obtain⟨M,N⟩:=a_ (Lib.hasPrefix s.data.toList (⟨#[43]⟩:ByteArray).data.toList);have aa:=q_ (λW:World=>show Calls Tryz.prog 294 #[.string s,.string ⟨#[45]⟩] W λe w'=>e = .returned (.bool sb)/\w'=W from by have:=a4.o W;rwa [a1.o]at this);have a8:=q_ (λW:World=>show Calls Tryz.prog 294 #[.string s,.string ⟨#[43]⟩] W λe w'=>e = .returned (.bool M)/\w'=W from by have:=a2.o W;rwa [N.o]at this);have a6:=q_ (show (sb || M)=m1_ s from by rw[<-N.o];exact a3.o);have Y:=q_ (show t=cond (sb || M) (s.extract 1 s.size) s from by rw[a6.o,<-Z.o];rfl);have R:=q_ (show (sb || M)=true->0<s.size from by intro h;rw[a6.o]at h;refine Classical.byContradiction λh0=>?_;rw[(zs_ h0).2.1]at h;cases h);obtain⟨m,hm⟩:=hg;have ad:=q_ (λ(W:World) (hW:W.cell? ⟨Tryz.lays145_ren.g 1,0,none⟩=some (.int .i64 m))=>show Calls Tryz.prog 295 #[.string t,.string ⟨#[46]⟩] W λe w'=>e = .returned (.tuple #[.string (bK f),.string (bK c),.bool U])/\∃n,w'=W.drewN n from by have:=ys_ t ⟨#[46]⟩ m W (by omega) hW;rw[show (⟨#[46]⟩:ByteArray).data.toList=[46] from rfl,O.o,S.o,a0.o]at this;exact this);have HM:=q_ hm;have ab:=q_ (Below.refl w.heap.size w);clear hm a4 a2 a1 a3 N L Z;go_enter Tryz.func255,Tryz.ntmps255
 go_wp2_with fail;refine (aa.o _).mono ?_;rintro e w' ⟨rfl,rfl⟩
 go_upto_region 2 with fail;go_cut [14] (λac wx=>ac = .bool (sb || M)/\wx=w')
 case first=>
  cases sb with
  | true=>
   go_wp2_with fail;go_meet;exact⟨rfl,rfl⟩
  | false=>
   go_wp2_with fail;refine (a8.o _).mono ?_;rintro e w' ⟨rfl,rfl⟩
   go_wp2_with fail;go_meet;exact⟨rfl,rfl⟩
 case rest=>
  obtain⟨V,rfl⟩:=hcut;go_upto_if 14 with fail;go_cut [0] (λs0 wx=>s0 = .string t/\wx=wc)
  case first=>
   obtain⟨sy,af⟩:=a_ (sb || M)
   rw[af.o]at V R Y;subst V
   cases sy with
   | true=>
    have ak:=R.o rfl;have E:=q_ (show s.extract 1 s.size=t from Y.o.symm);have e1:(1:Int)<=(s.size:Int):=by omega
    go_wp2_with fail;go_meet;exact⟨by rw[E.o],rfl⟩
   | false=>
    have E:=q_ (show s=t from Y.o.symm);go_wp2_with fail;go_meet;exact⟨by rw[E.o],rfl⟩
  case rest=>
   obtain⟨rfl,rfl⟩:=hcut;clear V;go_wp2_with fail;refine (ad.o _ HM.o).mono ?_;rintro e w1 ⟨rfl,k,a5⟩;have j:=gc_ ab.o k;rw[<-a5]at j;have j:=q_ j;clear a5;have ah:=a9.o;have u:(bK c).size=c.length:=bz_ c;obtain⟨l2,F⟩:=a_ c.length;rw[F.o]at ah u;have q:=q_ (λW:World=>show Calls Tryz.prog 297 #[.bool sb,.string (bK f++bK c),.int .i64 ((bK c).size:Int)] W (C7_ sb (f++c) c.length W) from by rw[cj_,u,<-F.o];exact C8_ sb (f++c) c.length (by rw[List.length_append,F.o];omega) (by rw[F.o];omega) W);have y:=q_ (λW:World=>show Calls Tryz.prog 296 #[.string (bK f)] W (z_ (e5_ f) W) from by have:=mo_ (bK f) W (by rw[bz_];omega);rwa [yt_,i2_]at this);have G:=q_ (λW:World=>show Calls Tryz.prog 296 #[.string (bK c)] W (z_ (e5_ c) W) from by have:=mo_ (bK c) W (by omega);rwa [yt_,i2_]at this);have T:∀W:World,(Op.stringOp .add (bK f) (bK c)).run Tryz.prog W = .ok (.string (bK f++bK c)) W:=λW=>run_string_add_sum W _ _ (by rw[u,bz_];omega)
   have A:=q_ (show ¬(e5_ f=true/\(U=true->e5_ c=true))->fk_ s=(⟨#[]⟩,6) from λh=>by
    rw[<-J.o,I.o,if_neg h];rfl)
   have r:=q_ (show (e5_ f=true/\(U=true->e5_ c=true))->fk_ s=(bK (cy_ sb (f++c) c.length).1,(cy_ sb (f++c) c.length).2) from λh=>by
    rw[<-J.o,I.o,if_pos h])
   obtain⟨x1,aj⟩:=a_ (e5_ f);obtain⟨x2,ae⟩:=a_ (e5_ c);obtain⟨b1,P⟩:=a_ (bK f);obtain⟨b2,X⟩:=a_ (bK c);rw[aj.o]at y A r;rw[ae.o]at G A r;rw[P.o]at y T q;rw[X.o]at G T q u;rw[P.o,X.o];clear u
   cases x1 with
   | false=>
    have B:=q_ (A.o (λh=>by cases h.1));go_wp2_with fail;refine (y.o _).mono ?_;rintro e w2 ⟨rfl,i⟩;have l:=q_ (j.o.trans (i.mono j.o.size));clear i;go_wp2_with fail;exact bodyPost_ret (v:=.tuple #[.string ⟨#[]⟩,.int .i64 6]) (by simp[results,Tryz.results255,go_sem]) rfl ⟨l.o,by rw[B.o]⟩
   | true=>
    cases U with
    | false=>
     have B:=q_ (r.o ⟨rfl,λh=>by cases h⟩);go_wp2_with fail;refine (y.o _).mono ?_;rintro e w2 ⟨rfl,i⟩;have l:=q_ (j.o.trans (i.mono j.o.size));clear i;go_wp2_with fail;refine (q.o _).mono ?_;rintro e w3 ⟨p,rfl⟩;have z:=q_ (l.o.trans (p.mono l.o.size));clear p;obtain⟨r1,D⟩:=a_ (bK (cy_ sb (f++c) c.length).1);obtain⟨r2,C⟩:=a_ (cy_ sb (f++c) c.length).2;rw[D.o,C.o]at B;rw[D.o,C.o];go_wp2_with fail;exact bodyPost_ret (v:=.tuple #[.string r1,.int .i64 r2]) (by simp[results,Tryz.results255,go_sem]) rfl ⟨z.o,by rw[B.o]⟩
    | true=>
     cases x2 with
     | false=>
      have B:=q_ (A.o (λh=>by cases h.2 rfl));go_wp2_with fail;refine (y.o _).mono ?_;rintro e w2 ⟨rfl,i⟩;have l:=q_ (j.o.trans (i.mono j.o.size));clear i;go_wp2_with fail;refine (G.o _).mono ?_;rintro e w3 ⟨rfl,p⟩;have z:=q_ (l.o.trans (p.mono l.o.size));clear p;go_wp2_with fail;exact bodyPost_ret (v:=.tuple #[.string ⟨#[]⟩,.int .i64 6]) (by simp[results,Tryz.results255,go_sem]) rfl ⟨z.o,by rw[B.o]⟩
     | true=>
      have B:=q_ (r.o ⟨rfl,λh=>rfl⟩);go_wp2_with fail;refine (y.o _).mono ?_;rintro e w2 ⟨rfl,i⟩;have l:=q_ (j.o.trans (i.mono j.o.size));clear i;go_wp2_with fail;refine (G.o _).mono ?_;rintro e w3 ⟨rfl,p⟩;have z:=q_ (l.o.trans (p.mono l.o.size));clear p;go_wp2_with fail;refine (q.o _).mono ?_;rintro e w4 ⟨a7,rfl⟩;have ai:=q_ (z.o.trans (a7.mono z.o.size));clear a7;obtain⟨r1,D⟩:=a_ (bK (cy_ sb (f++c) c.length).1);obtain⟨r2,C⟩:=a_ (cy_ sb (f++c) c.length).2;rw[D.o,C.o]at B;rw[D.o,C.o];go_wp2_with fail;exact bodyPost_ret (v:=.tuple #[.string r1,.int .i64 r2]) (by simp[results,Tryz.results255,go_sem]) rfl ⟨ai.o,by rw[B.o]⟩
theorem G9_ (c:Bool) (d:List UInt8) (a:Nat):(cy_ c d a).1.length<=62:=by
 unfold cy_;split
 ·simp
 ·split
  ·simp
  ·rename_i h _;have h1:(eu_ d a).length<=40:=by omega
   have e:(hz_ d a).length<=20:=by omega
   simp only[List.length_append];have i:(if c=true then [(45:UInt8)] else []).length<=1:=by split<;>simp
   have f:(if eu_ d a=[] then [(48:UInt8)] else eu_ d a).length<=40:=by split;exact (by decide);exact h1
   have g:(if hz_ d a=[] then [(48:UInt8)] else hz_ d a).length<=20:=by split;exact (by decide);exact e
   simp only[List.length_cons,List.length_nil];omega
theorem ob_ {s:ByteArray} (h:62<s.size):c1_ s=false:=by
 unfold c1_;rw[<-qv_ s]
 have h1:decide ((⟨(jl_ s).1.toArray⟩:ByteArray)=s)=false:=decide_eq_false λe=>by
  have a:(jl_ s).1.length<=62:=by
   unfold jl_;simp only;split
   ·exact G9_ _ _ _
   ·simp
  rw[<-e]at h;simp[ByteArray.size]at h;omega
 simp only[h1,Bool.and_false]
theorem sk_ (s:ByteArray) (v:s.size<=9223372036854775807) (w:World) (u:M_ w):Calls Tryz.prog 185 #[.string s] w (z_ (c1_ s) w):=by
 go_enter Tryz.func185,Tryz.ntmps185
 by_cases r:62<s.size
 ·have a:=q_ (ob_ r);have q:(62:Int)<(s.size:Int):=by omega
  go_wp2_with fail;go_ret;exact⟨ay_ a.o.symm,Below.refl _ _⟩
 ·have q:¬(62:Int)<(s.size:Int):=by omega
  have j:=q_ (sj_ s (by omega) w u);go_wp2_with fail;refine j.o.mono ?_;rintro e y ⟨hb,rfl⟩;have l:=q_ hb;obtain⟨i,p⟩:=a_ (fk_ s).1;obtain⟨m,f⟩:=a_ (fk_ s).2;rw[p.o,f.o];have a:=q_ (show c1_ s=(decide (m=0)&&decide (i=s)) from by unfold c1_;rw[p.o,f.o]);clear hb;by_cases g:m=0
  ·have c:=q_ (show (i.toList==s.toList)=c1_ s from by
     rw[a.o,decide_eq_true g];by_cases h1:i=s
     ·rw[decide_eq_true h1,h1];simp
     ·rw[decide_eq_false h1,by_ h1];rfl)
   clear f;subst g;go_wp2_with fail;go_ret;exact⟨ay_ c.o,l.o⟩
  ·have c:=q_ (show false=c1_ s from by rw[a.o,decide_eq_false g];rfl);go_wp2_with fail;go_ret;exact⟨ay_ c.o,l.o⟩
end
section
open Go Go.RowKit
def qx_ (v:h_) (s:Value):Value:=
 if v.kind=0 then .iface 233 (.agg #[])
 else if v.kind=1 then .iface 194 (.bool v.truth)
 else if v.kind=2 then .iface 188 (.int .i64 v.num)
 else if v.kind=3 then .iface 189 (.string v.text)
 else if v.kind=4 then .iface 234 (.string v.text)
 else if v.kind=8 then .iface 234 (.string v.text)
 else if v.kind=9 then .iface 234 (.string v.text)
 else if v.kind=5 then .iface 191 (s)
 else if v.kind=6 then .iface 193 (.int .i64 v.num)
 else if v.kind=7 then .iface 193 (.int .i64 v.num)
 else if v.kind=10 then .iface 237 (.agg #[.string v.text,.string v.extra])
 else .iface 238 (.int .i64 v.kind)
def d1_ (v:h_) (s:Value) (w:World) (e:Ending) (w':World):Prop:=e = .returned (qx_ v s)/\Below w.heap.size w w'
theorem ck_ (v:h_) (s:Value) (w:World):Calls Tryz.prog 128 #[.agg (c_ v s)] w (d1_ v s w):=by
 obtain⟨p,a⟩:=a_ (qx_ v s);unfold d1_;rw[a.o];unfold qx_ at a
 cases v with
 | mk k b n t x l=>
 simp only[c_,h_.kind,h_.truth,h_.num,h_.text,h_.extra]at a ⊢;by_cases h0:k=0
 ·subst h0;have c:=q_ (show Ending.returned p = .returned (.iface 233 (.agg #[])) from by rw[<-a.o];rfl);clear a;go_enter Tryz.func128,Tryz.ntmps128
  go_wp2_with fail;go_ret;exact⟨c.o.symm,(Below.refl _ _).alloc (Nat.le_refl _) _⟩
 ·have e0:((k:Int)==0)=false:=beq_eq_false_iff_ne.2 h0;by_cases h1:k=1
  ·subst h1;have c:=q_ (show Ending.returned p = .returned (.iface 194 (.bool b)) from by rw[<-a.o];rfl);clear a;go_enter Tryz.func128,Tryz.ntmps128
   go_wp2_with fail;go_ret;exact⟨c.o.symm,(Below.refl _ _).alloc (Nat.le_refl _) _⟩
  ·have C:((k:Int)==1)=false:=beq_eq_false_iff_ne.2 h1;by_cases r:k=2
   ·subst r;have c:=q_ (show Ending.returned p = .returned (.iface 188 (.int .i64 n)) from by rw[<-a.o];rfl);clear a;go_enter Tryz.func128,Tryz.ntmps128
    go_wp2_with fail;go_ret;exact⟨c.o.symm,(Below.refl _ _).alloc (Nat.le_refl _) _⟩
   ·have G:((k:Int)==2)=false:=beq_eq_false_iff_ne.2 r;by_cases i:k=3
    ·subst i;have c:=q_ (show Ending.returned p = .returned (.iface 189 (.string t)) from by rw[<-a.o];rfl);clear a;go_enter Tryz.func128,Tryz.ntmps128
     go_wp2_with fail;go_ret;exact⟨c.o.symm,(Below.refl _ _).alloc (Nat.le_refl _) _⟩
    ·have z:((k:Int)==3)=false:=beq_eq_false_iff_ne.2 i;by_cases f:k=4
     ·subst f;have c:=q_ (show Ending.returned p = .returned (.iface 234 (.string t)) from by rw[<-a.o];rfl);clear a;go_enter Tryz.func128,Tryz.ntmps128
      go_wp2_with fail;go_ret;exact⟨c.o.symm,(Below.refl _ _).alloc (Nat.le_refl _) _⟩
     ·have I:((k:Int)==4)=false:=beq_eq_false_iff_ne.2 f;by_cases j:k=8
      ·subst j;have c:=q_ (show Ending.returned p = .returned (.iface 234 (.string t)) from by rw[<-a.o];rfl);clear a;go_enter Tryz.func128,Tryz.ntmps128
       go_wp2_with fail;go_ret;exact⟨c.o.symm,(Below.refl _ _).alloc (Nat.le_refl _) _⟩
      ·have B:((k:Int)==8)=false:=beq_eq_false_iff_ne.2 j;by_cases u:k=9
       ·subst u;have c:=q_ (show Ending.returned p = .returned (.iface 234 (.string t)) from by rw[<-a.o];rfl);clear a;go_enter Tryz.func128,Tryz.ntmps128
        go_wp2_with fail;go_ret;exact⟨c.o.symm,(Below.refl _ _).alloc (Nat.le_refl _) _⟩
       ·have F:((k:Int)==9)=false:=beq_eq_false_iff_ne.2 u;by_cases m:k=5
        ·subst m;have c:=q_ (show Ending.returned p = .returned (.iface 191 (s)) from by rw[<-a.o];rfl);clear a;go_enter Tryz.func128,Tryz.ntmps128
         go_wp2_with fail;go_ret;exact⟨c.o.symm,(Below.refl _ _).alloc (Nat.le_refl _) _⟩
        ·have A:((k:Int)==5)=false:=beq_eq_false_iff_ne.2 m;by_cases q:k=6
         ·subst q;have c:=q_ (show Ending.returned p = .returned (.iface 193 (.int .i64 n)) from by rw[<-a.o];rfl);clear a;go_enter Tryz.func128,Tryz.ntmps128
          go_wp2_with fail;go_ret;exact⟨c.o.symm,(Below.refl _ _).alloc (Nat.le_refl _) _⟩
         ·have E:((k:Int)==6)=false:=beq_eq_false_iff_ne.2 q;by_cases g:k=7
          ·subst g;have c:=q_ (show Ending.returned p = .returned (.iface 193 (.int .i64 n)) from by rw[<-a.o];rfl);clear a;go_enter Tryz.func128,Tryz.ntmps128
           go_wp2_with fail;go_ret;exact⟨c.o.symm,(Below.refl _ _).alloc (Nat.le_refl _) _⟩
          ·have D:((k:Int)==7)=false:=beq_eq_false_iff_ne.2 g;by_cases e:k=10
           ·subst e;have c:=q_ (show Ending.returned p = .returned (.iface 237 (.agg #[.string t,.string x])) from by rw[<-a.o];rfl);clear a;go_enter Tryz.func128,Tryz.ntmps128
            go_wp2_with fail;go_ret;exact⟨c.o.symm,(Below.refl _ _).alloc (Nat.le_refl _) _⟩
           ·have y:((k:Int)==10)=false:=beq_eq_false_iff_ne.2 e;have c:=q_ (show Ending.returned p = .returned (.iface 238 (.int .i64 k)) from by rw[<-a.o];simp only[h0,h1,r,i,f,j,u,m,q,g,e,if_false]);clear a;go_enter Tryz.func128,Tryz.ntmps128
            go_wp2_with fail;go_ret;exact⟨c.o.symm,(Below.refl _ _).alloc (Nat.le_refl _) _⟩
def bh_ (k:Int) (b:Bool) (n:Int) (t x:ByteArray) (l:List h_) (b':Bool) (n':Int) (t' x':ByteArray):Bool:=
 (b==b')&&(decide (n=n')&&(decide (t=t')&&(decide (x=x')&&(decide (l.length=0) || decide (k=5)))))
mutual
def K_:h_->Nat->Bool
 | .mk k b n t x l,d=>
  if k=0 then bh_ k b n t x l false 0 ⟨#[]⟩ ⟨#[]⟩
  else if k=1 then bh_ k b n t x l b 0 ⟨#[]⟩ ⟨#[]⟩
  else if k=2 then bh_ k b n t x l false n ⟨#[]⟩ ⟨#[]⟩
  else if k=3 then c1_ t&&bh_ k b n t x l false 0 t ⟨#[]⟩
  else if k=4 then decide (t.size<=1048576)&&bh_ k b n t x l false 0 t ⟨#[]⟩
  else if k=8 then gp_ t&&bh_ k b n t x l false 0 t ⟨#[]⟩
  else if k=9 then e2_ t&&bh_ k b n t x l false 0 t ⟨#[]⟩
  else if k=5 then decide (l.length<=4096)&&(decide (d<60)&&(ib_ l (d+1)&&bh_ k b n t x l false 0 ⟨#[]⟩ ⟨#[]⟩))
  else if k=6 then decide (0<=n)&&bh_ k b n t x l false n ⟨#[]⟩ ⟨#[]⟩
  else if k=7 then decide (0<=n)&&bh_ k b n t x l false n ⟨#[]⟩ ⟨#[]⟩
  else if k=10 then decide (t.size<=1048576)&&(gp_ x&&bh_ k b n t x l false 0 t x)
  else false
def ib_:List h_->Nat->Bool
 | [],_=>true
 | v::r,d=>K_ v d&&ib_ r d
end
theorem oc_ (l:List h_) (d:Nat):ib_ l d=l.all λv=>K_ v d:=by
 induction l with
 | nil=>simp[ib_]
 | cons v r a=>simp[ib_,a]
theorem Da_ (d:Nat) (y:d<60) (ca:Addr) (v:h_) (s:Value) (r:Bool) (w:World) (j:w.cell? ca=some (.int .i64 (d:Int))) (g:ca.block<w.heap.size)
    (f:∀W:World,Below w.heap.size w W->Calls Tryz.prog 117 #[.agg (c_ v s),.int .i64 ((d+1:Nat):Int)] W (z_ r W)) :
    Calls Tryz.prog 189 #[.agg (c_ v s),.pointer (some ca)] w (z_ (!r) w):=by
 have a:=q_ f;clear f;have m:=q_ (λo:Obj=>show (w.alloc o).cell? ca=some (.int .i64 (d:Int)) from (((Below.refl w.heap.size w).alloc (Nat.le_refl _) o).cell (p:=ca) g).trans j);unfold c_ at a ⊢
 cases v with
 | mk k b n t x l=>
 simp only[h_.kind,h_.truth,h_.num,h_.text,h_.extra]at a ⊢;have u:=m.o (.cells #[.int .i64 k,.bool b,.int .i64 n,.string t,.string x,s] 39);obtain⟨i,c⟩:=a_ (d+1);rw[c.o]at a;have z:IntKind.i64.wrap ((d:Int)+1)=(i:Int):=by rw[IntWalk.i64_in _ (by omega),<-c.o];push_cast;rfl
 have w2:(d:Int)+1=(i:Int):=by rw[<-c.o];push_cast;rfl
 clear j;go_enter Tryz.func189,Tryz.ntmps189
 go_wp2_with fail;refine (a.o _ ((Below.refl _ _).alloc (Nat.le_refl _) _)).mono ?_;rintro e A ⟨rfl,hb⟩
 have q:=q_ (((Below.refl w.heap.size w).alloc (Nat.le_refl _) (.cells #[.int .i64 k,.bool b,.int .i64 n,.string t,.string x,s] 39)).trans (hb.mono (by simp)));clear hb;go_wp2_with fail;go_ret;exact⟨rfl,q.o⟩
def Jd_ (l:List h_) (d:Nat) (w:World) (e:Ending) (w':World):Prop:=∃r:Int,e = .returned (.int .i64 r)/\(decide (0<=r) = !ib_ l d)/\Below w.heap.size w w'
theorem Ha_ (l:List h_) (d:Nat) (hd:d<60) (ca:Addr) (F:Nat->Prop) (A:Option Addr) (n S:Nat) (w:World) (T:∀g,F g->g<w.heap.size) (I:LRd w F l A n) (hn:n<=4096)
    (V:w.cell? ca=some (.int .i64 (d:Int))) (E:ca.block<w.heap.size)
    (D:∀(x:h_) (_:x∈l) (u:Value) (W:World),Below w.heap.size w W->VRd W F x u->Calls Tryz.prog 117 #[u,.int .i64 ((d+1:Nat):Int)] W (z_ (K_ x (d+1)) W)) :
    Calls Tryz.prog 256 #[.slice A n S,.func (.func 189) #[] #[.pointer (some ca)]] w (Jd_ l (d+1) w):=by
 have HL:=q_ I;have R:=q_ T;have P:=q_ D;have HC:=q_ V;have G:=q_ I.1;clear I T D V;go_enter Tryz.func256,Tryz.ntmps256
 go_wp2_with fail;go_loopw [8] (λL wr=>∃k:Nat,k<=n/\L = .int .i64 (k:Nat)/\Q_ (((l.take k).all λv=>K_ v (d+1))=true)/\Q_ (Below w.heap.size w wr)) (λL _=>n-(intOf L).toNat)
 case atStart=>exact⟨0,by omega,rfl,q_ (by simp),q_ (Below.refl _ _)⟩
 case round=>
  obtain⟨k,hk,rfl,m,a⟩:=hrel;by_cases N:k<n
  ·obtain⟨x,q⟩:∃x,l[k]?=some x:=⟨l[k]'(by rw[<-G.o];exact N),List.getElem?_eq_getElem _⟩;have HR:=q_ (HL.o.under a.o R.o);obtain⟨ad,s,rfl,Y,⟨B,M,rfl,Z,X⟩,U,c0,c1,c2,c3,c4,c5⟩:=HR.o.cellsAt q;have HX:=q_ q;have i:=q_ (List.mem_of_getElem? q)
   have j:=q_ (Da_ d hd ca x (.slice B x.list.length M) (K_ x (d+1)) wr ((a.o.cell (p:=ca) E).trans HC.o) (Nat.lt_of_lt_of_le E a.o.size)
    (λW O=>P.o x i.o _ W (a.o.trans (O.mono a.o.size)) (U.under O (λg hg=>Nat.lt_of_lt_of_le (R.o g hg) a.o.size))))
   have f:=q_ (λ(h:K_ x (d+1)=true)=>show ((l.take (k+1)).all λv=>K_ v (d+1))=true from by rw[f_ HX.o,List.all_append,m.o];simp[h]);have c:=q_ (λ(h:K_ x (d+1)=false)=>show ib_ l (d+1)=false from by rw[oc_,List.all_eq_false];exact⟨x,i.o,by simp[h]⟩);obtain⟨r,Hr⟩:=a_ (K_ x (d+1));rw[Hr.o]at j f c;unfold c_ at j;have e1:(0:Int)<=k:=by omega
   have e2:(k:Int)<n:=by omega
   clear q X U Y;go_wp2_with fail;refine j.o.mono ?_;rintro e w2 ⟨rfl,C⟩;have z:=q_ (a.o.trans (C.mono a.o.size));clear C
   cases r with
   | true=>
    have HM:=q_ (f.o rfl);have w1:IntKind.i64.wrap ((k:Int)+1)=(k:Int)+1:=IntWalk.i64_in _ (by omega);go_wp2_with fail;go_roundw
    case rel=>exact⟨k+1,by omega,by go_num,HM,z⟩
    case measure=>simp[intOf];omega
   | false=>
    have J:=q_ (c.o rfl);go_wp2_with fail;go_ret;exact⟨(k:Int),rfl,by rw[J.o];simp,z.o⟩
  ·have y:k=n:=by omega
   have J:=q_ (show ib_ l (d+1)=true from by have:=m.o;rw[List.take_of_length_le (by rw[y,G.o];exact Nat.le_refl _)]at this;rw[oc_];exact this);subst y;go_wp2_with fail;go_ret;exact⟨-1,rfl,by rw[J.o];simp,a.o⟩
theorem Db_ (l:List h_) (d:Nat) (f:Value) (A:Option Addr) (n a:Nat) (w:World)
    (hi:Calls Tryz.prog 256 #[.slice A n a,f] w (Jd_ l d w)) :
    Calls Tryz.prog 188 #[.slice A n a,f] w (z_ (!ib_ l d) w):=by
 have g:=q_ hi;clear hi;go_enter Tryz.func188,Tryz.ntmps188
 go_wp2_with fail;refine g.o.mono ?_;rintro e m ⟨r,rfl,c,hb⟩;have j:=q_ c;have i:=q_ hb;clear c hb;go_wp2_with fail;go_ret;exact⟨by rw[<-j.o];rfl,i.o⟩
theorem od_ (w:World) (a b c:Obj):Below w.heap.size w (((w.alloc a).alloc b).alloc c):=(((Below.refl _ _).alloc (Nat.le_refl _) _).alloc (by simp) _).alloc (by simp;omega) _
theorem sl_ (y:Value) (w:World):(Instr.typeAssert (.iface 233 y) 20 233 true).run Tryz.prog w = .ok (.tuple #[y,.bool true]) w:=by kernel_rfl
theorem m2_ (y:Value) (w:World):(Instr.typeAssert (.iface 194 y) 20 233 true).run Tryz.prog w = .ok (.tuple #[.agg #[],.bool false]) w:=by kernel_rfl
theorem jt_ (y:Value) (w:World):(Instr.typeAssert (.iface 194 y) 20 194 true).run Tryz.prog w = .ok (.tuple #[y,.bool true]) w:=by kernel_rfl
theorem p2_ (y:Value) (w:World):(Instr.typeAssert (.iface 188 y) 20 233 true).run Tryz.prog w = .ok (.tuple #[.agg #[],.bool false]) w:=by kernel_rfl
theorem lm_ (y:Value) (w:World):(Instr.typeAssert (.iface 188 y) 20 194 true).run Tryz.prog w = .ok (.tuple #[.bool false,.bool false]) w:=by kernel_rfl
theorem oe_ (y:Value) (w:World):(Instr.typeAssert (.iface 188 y) 20 188 true).run Tryz.prog w = .ok (.tuple #[y,.bool true]) w:=by kernel_rfl
theorem of_ (y:Value) (w:World):(Instr.typeAssert (.iface 189 y) 20 233 true).run Tryz.prog w = .ok (.tuple #[.agg #[],.bool false]) w:=by kernel_rfl
theorem ki_ (y:Value) (w:World):(Instr.typeAssert (.iface 189 y) 20 194 true).run Tryz.prog w = .ok (.tuple #[.bool false,.bool false]) w:=by kernel_rfl
theorem m3_ (y:Value) (w:World):(Instr.typeAssert (.iface 189 y) 20 188 true).run Tryz.prog w = .ok (.tuple #[.int .i64 0,.bool false]) w:=by kernel_rfl
theorem ln_ (y:Value) (w:World):(Instr.typeAssert (.iface 189 y) 20 189 true).run Tryz.prog w = .ok (.tuple #[y,.bool true]) w:=by kernel_rfl
theorem gq_ (y:Value) (w:World):(Instr.typeAssert (.iface 234 y) 20 233 true).run Tryz.prog w = .ok (.tuple #[.agg #[],.bool false]) w:=by kernel_rfl
theorem d2_ (y:Value) (w:World):(Instr.typeAssert (.iface 234 y) 20 194 true).run Tryz.prog w = .ok (.tuple #[.bool false,.bool false]) w:=by kernel_rfl
theorem fl_ (y:Value) (w:World):(Instr.typeAssert (.iface 234 y) 20 188 true).run Tryz.prog w = .ok (.tuple #[.int .i64 0,.bool false]) w:=by kernel_rfl
theorem ev_ (y:Value) (w:World):(Instr.typeAssert (.iface 234 y) 20 189 true).run Tryz.prog w = .ok (.tuple #[.string ⟨#[]⟩,.bool false]) w:=by kernel_rfl
theorem fm_ (y:Value) (w:World):(Instr.typeAssert (.iface 234 y) 20 234 true).run Tryz.prog w = .ok (.tuple #[y,.bool true]) w:=by kernel_rfl
theorem sm_ (y:Value) (w:World):(Instr.typeAssert (.iface 191 y) 20 233 true).run Tryz.prog w = .ok (.tuple #[.agg #[],.bool false]) w:=by kernel_rfl
theorem m4_ (y:Value) (w:World):(Instr.typeAssert (.iface 191 y) 20 194 true).run Tryz.prog w = .ok (.tuple #[.bool false,.bool false]) w:=by kernel_rfl
theorem p3_ (y:Value) (w:World):(Instr.typeAssert (.iface 191 y) 20 188 true).run Tryz.prog w = .ok (.tuple #[.int .i64 0,.bool false]) w:=by kernel_rfl
theorem og_ (y:Value) (w:World):(Instr.typeAssert (.iface 191 y) 20 189 true).run Tryz.prog w = .ok (.tuple #[.string ⟨#[]⟩,.bool false]) w:=by kernel_rfl
theorem p4_ (y:Value) (w:World):(Instr.typeAssert (.iface 191 y) 20 234 true).run Tryz.prog w = .ok (.tuple #[.string ⟨#[]⟩,.bool false]) w:=by kernel_rfl
theorem sn_ (y:Value) (w:World):(Instr.typeAssert (.iface 191 y) 20 191 true).run Tryz.prog w = .ok (.tuple #[y,.bool true]) w:=by kernel_rfl
theorem jm_ (y:Value) (w:World):(Instr.typeAssert (.iface 193 y) 20 233 true).run Tryz.prog w = .ok (.tuple #[.agg #[],.bool false]) w:=by kernel_rfl
theorem gw_ (y:Value) (w:World):(Instr.typeAssert (.iface 193 y) 20 194 true).run Tryz.prog w = .ok (.tuple #[.bool false,.bool false]) w:=by kernel_rfl
theorem ic_ (y:Value) (w:World):(Instr.typeAssert (.iface 193 y) 20 188 true).run Tryz.prog w = .ok (.tuple #[.int .i64 0,.bool false]) w:=by kernel_rfl
theorem h1_ (y:Value) (w:World):(Instr.typeAssert (.iface 193 y) 20 189 true).run Tryz.prog w = .ok (.tuple #[.string ⟨#[]⟩,.bool false]) w:=by kernel_rfl
theorem id_ (y:Value) (w:World):(Instr.typeAssert (.iface 193 y) 20 234 true).run Tryz.prog w = .ok (.tuple #[.string ⟨#[]⟩,.bool false]) w:=by kernel_rfl
theorem jn_ (y:Value) (w:World):(Instr.typeAssert (.iface 193 y) 20 191 true).run Tryz.prog w = .ok (.tuple #[.slice none 0 0,.bool false]) w:=by kernel_rfl
theorem ie_ (y:Value) (w:World):(Instr.typeAssert (.iface 193 y) 20 193 true).run Tryz.prog w = .ok (.tuple #[y,.bool true]) w:=by kernel_rfl
theorem m5_ (y:Value) (w:World):(Instr.typeAssert (.iface 237 y) 20 233 true).run Tryz.prog w = .ok (.tuple #[.agg #[],.bool false]) w:=by kernel_rfl
theorem ju_ (y:Value) (w:World):(Instr.typeAssert (.iface 237 y) 20 194 true).run Tryz.prog w = .ok (.tuple #[.bool false,.bool false]) w:=by kernel_rfl
theorem lp_ (y:Value) (w:World):(Instr.typeAssert (.iface 237 y) 20 188 true).run Tryz.prog w = .ok (.tuple #[.int .i64 0,.bool false]) w:=by kernel_rfl
theorem kj_ (y:Value) (w:World):(Instr.typeAssert (.iface 237 y) 20 189 true).run Tryz.prog w = .ok (.tuple #[.string ⟨#[]⟩,.bool false]) w:=by kernel_rfl
theorem lq_ (y:Value) (w:World):(Instr.typeAssert (.iface 237 y) 20 234 true).run Tryz.prog w = .ok (.tuple #[.string ⟨#[]⟩,.bool false]) w:=by kernel_rfl
theorem m6_ (y:Value) (w:World):(Instr.typeAssert (.iface 237 y) 20 191 true).run Tryz.prog w = .ok (.tuple #[.slice none 0 0,.bool false]) w:=by kernel_rfl
theorem lr_ (y:Value) (w:World):(Instr.typeAssert (.iface 237 y) 20 193 true).run Tryz.prog w = .ok (.tuple #[.int .i64 0,.bool false]) w:=by kernel_rfl
theorem jv_ (y:Value) (w:World):(Instr.typeAssert (.iface 237 y) 20 237 true).run Tryz.prog w = .ok (.tuple #[y,.bool true]) w:=by kernel_rfl
theorem p5_ (y:Value) (w:World):(Instr.typeAssert (.iface 238 y) 20 233 true).run Tryz.prog w = .ok (.tuple #[.agg #[],.bool false]) w:=by kernel_rfl
theorem ls_ (y:Value) (w:World):(Instr.typeAssert (.iface 238 y) 20 194 true).run Tryz.prog w = .ok (.tuple #[.bool false,.bool false]) w:=by kernel_rfl
theorem oh_ (y:Value) (w:World):(Instr.typeAssert (.iface 238 y) 20 188 true).run Tryz.prog w = .ok (.tuple #[.int .i64 0,.bool false]) w:=by kernel_rfl
theorem m7_ (y:Value) (w:World):(Instr.typeAssert (.iface 238 y) 20 189 true).run Tryz.prog w = .ok (.tuple #[.string ⟨#[]⟩,.bool false]) w:=by kernel_rfl
theorem oi_ (y:Value) (w:World):(Instr.typeAssert (.iface 238 y) 20 234 true).run Tryz.prog w = .ok (.tuple #[.string ⟨#[]⟩,.bool false]) w:=by kernel_rfl
theorem p6_ (y:Value) (w:World):(Instr.typeAssert (.iface 238 y) 20 191 true).run Tryz.prog w = .ok (.tuple #[.slice none 0 0,.bool false]) w:=by kernel_rfl
theorem oj_ (y:Value) (w:World):(Instr.typeAssert (.iface 238 y) 20 193 true).run Tryz.prog w = .ok (.tuple #[.int .i64 0,.bool false]) w:=by kernel_rfl
theorem lt_ (y:Value) (w:World):(Instr.typeAssert (.iface 238 y) 20 237 true).run Tryz.prog w = .ok (.tuple #[.agg #[.string ⟨#[]⟩,.string ⟨#[]⟩],.bool false]) w:=by kernel_rfl
theorem ok_ (y:Value) (w:World):(Instr.typeAssert (.iface 238 y) 20 238 true).run Tryz.prog w = .ok (.tuple #[y,.bool true]) w:=by kernel_rfl
structure kk_ (w:World) (h:Nat) (k:Int) (b:Bool) (n:Int) (t x:ByteArray) (s:Value) (d:Nat) (b':Bool) (n':Int) (t' x':ByteArray) (wr:World):Prop where
 below:Below w.heap.size w wr
 val:wr.heap[h]?=some (.cells #[.int .i64 k,.bool b,.int .i64 n,.string t,.string x,s] 39 (0,0))
 dp:wr.heap[h+1]?=some (.cells #[.int .i64 (d:Int)] 3 (0,0))
 bare:wr.heap[h+1+1]?=some (.cells #[.int .i64 k,.bool b',.int .i64 n',.string t',.string x',.slice none 0 0] 39 (0,0))
 size:h+3<=wr.heap.size
 low:w.heap.size<=h
section
variable {w:World} {h:Nat} {k:Int} {b:Bool} {n:Int} {t x:ByteArray} {s:Value} {d:Nat} {b':Bool} {n':Int} {t' x':ByteArray} {wr:World}
theorem kk_.on (c:kk_ w h k b n t x s d b' n' t' x' wr) {w2:World} (hb:Below wr.heap.size wr w2):kk_ w h k b n t x s d b' n' t' x' w2:=
 ⟨c.below.trans (hb.mono c.below.size),(hb.block h (by have:=c.size;omega)).trans c.val,(hb.block (h+1) (by have:=c.size;omega)).trans c.dp,(hb.block (h+1+1) (by have:=c.size;omega)).trans c.bare,Nat.le_trans c.size hb.size,c.low⟩
theorem kk_.alloc (c:kk_ w h k b n t x s d b' n' t' x' wr) (a:Obj):kk_ w h k b n t x s d b' n' t' x' (wr.alloc a):=c.on ((Below.refl _ _).alloc (Nat.le_refl _) _)
theorem kk_.drew (c:kk_ w h k b n t x s d b' n' t' x' wr):kk_ w h k b n t x s d b' n' t' x' wr.drew:=c.on (gc_ (Below.refl _ _) 1)
theorem kk_.set (c:kk_ w h k b n t x s d b' n' t' x' wr) (j:Nat) (v:Value) {a:Bool} {f:Int} {g i:ByteArray}
    (e:(#[.int .i64 k,.bool b',.int .i64 n',.string t',.string x',.slice none 0 0]:Array Value).setIfInBounds j v=#[.int .i64 k,.bool a,.int .i64 f,.string g,.string i,.slice none 0 0]):kk_ w h k b n t x s d a f g i (wr.setCell ⟨h+1+1,j,none⟩ v):=
 ⟨c.below.setCell (p:=⟨h+1+1,j,none⟩) (by have:=c.low;show _<=h+1+1;omega) v,(Below.heap_setCell _ _ _ _ (by show h≠h+1+1;omega)).trans c.val,(Below.heap_setCell _ _ _ _ (by show h+1≠h+1+1;omega)).trans c.dp,by rw[<-e];exact heap_setCell_same _ _ j _ _ v c.bare,by simpa using c.size,c.low⟩
end
theorem Je_ (b:Bool) (n:Int) (t x:ByteArray) (l:List h_) (d:Nat):K_ (.mk 0 b n t x l) d=bh_ 0 b n t x l false 0 ⟨#[]⟩ ⟨#[]⟩:=by unfold K_;rfl
theorem Jf_ (b:Bool) (n:Int) (t x:ByteArray) (l:List h_) (d:Nat):K_ (.mk 1 b n t x l) d=bh_ 1 b n t x l b 0 ⟨#[]⟩ ⟨#[]⟩:=by unfold K_;rfl
theorem Jg_ (b:Bool) (n:Int) (t x:ByteArray) (l:List h_) (d:Nat):K_ (.mk 2 b n t x l) d=bh_ 2 b n t x l false n ⟨#[]⟩ ⟨#[]⟩:=by unfold K_;rfl
theorem Jh_ (b:Bool) (n:Int) (t x:ByteArray) (l:List h_) (d:Nat):K_ (.mk 3 b n t x l) d=(c1_ t&&bh_ 3 b n t x l false 0 t ⟨#[]⟩):=by unfold K_;rfl
theorem Ji_ (b:Bool) (n:Int) (t x:ByteArray) (l:List h_) (d:Nat):K_ (.mk 4 b n t x l) d=(decide (t.size<=1048576)&&bh_ 4 b n t x l false 0 t ⟨#[]⟩):=by unfold K_;rfl
theorem yu_ (b:Bool) (n:Int) (t x:ByteArray) (l:List h_) (d:Nat):K_ (.mk 8 b n t x l) d=(gp_ t&&bh_ 8 b n t x l false 0 t ⟨#[]⟩):=by unfold K_;rfl
theorem Jj_ (b:Bool) (n:Int) (t x:ByteArray) (l:List h_) (d:Nat):K_ (.mk 9 b n t x l) d=(e2_ t&&bh_ 9 b n t x l false 0 t ⟨#[]⟩):=by unfold K_;rfl
theorem Dc_ (b:Bool) (n:Int) (t x:ByteArray) (l:List h_) (d:Nat):K_ (.mk 5 b n t x l) d=(decide (l.length<=4096)&&(decide (d<60)&&(ib_ l (d+1)&&bh_ 5 b n t x l false 0 ⟨#[]⟩ ⟨#[]⟩))):=by unfold K_;rfl
theorem Jk_ (b:Bool) (n:Int) (t x:ByteArray) (l:List h_) (d:Nat):K_ (.mk 6 b n t x l) d=(decide (0<=n)&&bh_ 6 b n t x l false n ⟨#[]⟩ ⟨#[]⟩):=by unfold K_;rfl
theorem Jl_ (b:Bool) (n:Int) (t x:ByteArray) (l:List h_) (d:Nat):K_ (.mk 7 b n t x l) d=(decide (0<=n)&&bh_ 7 b n t x l false n ⟨#[]⟩ ⟨#[]⟩):=by unfold K_;rfl
theorem Dd_ (b:Bool) (n:Int) (t x:ByteArray) (l:List h_) (d:Nat):K_ (.mk 10 b n t x l) d=(decide (t.size<=1048576)&&(gp_ x&&bh_ 10 b n t x l false 0 t x)):=by unfold K_;rfl
theorem Hb_ (N:Nat):∀(v:h_) (_:U_ v<N) (_:U_ v<=10000000000000000) (d:Nat) (_:d<=60) (F:Nat->Prop) (u:Value) (w:World) (_:∀g,F g->g<w.heap.size) (_:VRd w F v u) (_:M_ w),
    Calls Tryz.prog 117 #[u,.int .i64 (d:Int)] w (z_ (K_ v d) w):=by
 induction N with
 | zero=>exact λ_ h=>absurd h (Nat.not_lt_zero _)
 | succ N ih=>
  intro v hN hs d hd F u w hF hv hg;obtain⟨A,a6,rfl,a9,hl⟩:=hv.inv;have IH:=q_ ih;have HL:=q_ hl;have HF:=q_ hF;have HG:=q_ hg;clear ih hl hF hg hv;obtain⟨s,HS⟩:=a_ (Value.slice A v.list.length a6);have HP:=q_ (λW=>ck_ v s W);rw[HS.o];obtain⟨p,j⟩:=a_ (K_ v d);rw[j.o]
  cases v with
  | mk k b n t x l=>
  obtain⟨pv,m⟩:=a_ (qx_ (.mk k b n t x l) s);unfold d1_ c_ at HP;unfold c_;rw[m.o]at HP;simp only[h_.kind,h_.truth,h_.num,h_.text,h_.extra,h_.list]at HP HL HS a9 ⊢;have Y:t.size<=9223372036854775807/\x.size<=9223372036854775807/\l.length<=10000000000000000/\af_ l<N/\af_ l<=10000000000000000:=by simp only[U_]at hs hN;have:=dd_ l;omega
  obtain⟨Y,au,ay,av,b3⟩:=Y;clear hN hs;go_enter Tryz.func117,Tryz.ntmps117
  go_wp2_with fail;obtain⟨h,Hh⟩:=a_ w.heap.size
  have ab:=q_ (show kk_ w h k b n t x s d false 0 ⟨#[]⟩ ⟨#[]⟩ (((w.alloc (.cells #[.int .i64 k,.bool b,.int .i64 n,.string t,.string x,s] 39)).alloc (.cells #[.int .i64 (d:Int)] 3)).alloc (.cells #[.int .i64 k,.bool false,.int .i64 0,.string ⟨#[]⟩,.string ⟨#[]⟩,.slice none 0 0] 39)) from by
   rw[<-Hh.o];refine⟨od_ w _ _ _,?_,?_,?_,by simp,Nat.le_refl _⟩
   ·rw[Below.heap_alloc _ _ _ (by simp;omega),Below.heap_alloc _ _ _ (by simp)];exact heap_alloc_new w _
   ·rw[Below.heap_alloc _ _ _ (by simp)];have:=heap_alloc_new (w.alloc (.cells #[.int .i64 k,.bool b,.int .i64 n,.string t,.string x,s] 39)) (.cells #[.int .i64 (d:Int)] 3);rwa [show (w.alloc (.cells #[.int .i64 k,.bool b,.int .i64 n,.string t,.string x,s] 39)).heap.size=w.heap.size+1 by simp]at this
   ·have:=heap_alloc_new ((w.alloc (.cells #[.int .i64 k,.bool b,.int .i64 n,.string t,.string x,s] 39)).alloc (.cells #[.int .i64 (d:Int)] 3)) (.cells #[.int .i64 k,.bool false,.int .i64 0,.string ⟨#[]⟩,.string ⟨#[]⟩,.slice none 0 0] 39);rwa [show ((w.alloc (.cells #[.int .i64 k,.bool b,.int .i64 n,.string t,.string x,s] 39)).alloc (.cells #[.int .i64 (d:Int)] 3)).heap.size=w.heap.size+1+1 by simp]at this)
  rw[Hh.o];obtain⟨w0,ar⟩:=a_ (((w.alloc (.cells #[.int .i64 k,.bool b,.int .i64 n,.string t,.string x,s] 39)).alloc (.cells #[.int .i64 (d:Int)] 3)).alloc (.cells #[.int .i64 k,.bool false,.int .i64 0,.string ⟨#[]⟩,.string ⟨#[]⟩,.slice none 0 0] 39));rw[ar.o]at ab ⊢;refine (HP.o _).mono ?_;rintro e G ⟨rfl,ah⟩;have i:=q_ (ab.o.on ah);clear ah ab HP;have ag:G.cell? ⟨h,0,none⟩=some (.int .i64 k):=cell_of_heap i.o.val 0;have cd:G.cell? ⟨h+1,0,none⟩=some (.int .i64 (d:Int)):=cell_of_heap i.o.dp 0;have ao:G.cell? ⟨h+1+1,1,none⟩=some (.bool false):=cell_of_heap i.o.bare 1;have aj:G.cell? ⟨h+1+1,2,none⟩=some (.int .i64 0):=cell_of_heap i.o.bare 2;have a7:G.cell? ⟨h+1+1,3,none⟩=some (.string ⟨#[]⟩):=cell_of_heap i.o.bare 3;have ap:G.cell? ⟨h+1+1,4,none⟩=some (.string ⟨#[]⟩):=cell_of_heap i.o.bare 4;have af:G.frozen? ⟨h+1+1,1,none⟩=false:=Lib.frozen_of_heap i.o.bare 1;have am:G.frozen? ⟨h+1+1,2,none⟩=false:=Lib.frozen_of_heap i.o.bare 2;have a5:G.frozen? ⟨h+1+1,3,none⟩=false:=Lib.frozen_of_heap i.o.bare 3;have ai:G.frozen? ⟨h+1+1,4,none⟩=false:=Lib.frozen_of_heap i.o.bare 4;go_upto_block 0 with fail;go_cut [] (λwx=>Q_ (∃b' n' t' x',kk_ w h k b n t x s d b' n' t' x' wx/\p=bh_ k b n t x l b' n' t' x'))
  case first=>
   by_cases h0:k=0
   ·subst h0;have q:pv = .iface 233 (.agg #[]):=by rw[<-m.o];rfl
    subst q;have a:=q_ (show p=bh_ 0 b n t x l false 0 ⟨#[]⟩ ⟨#[]⟩ from by rw[<-j.o];exact Je_ b n t x l d);have z:=sl_ (.agg #[]);clear m j;go_wp2_with fail;go_meet;exact q_ ⟨_,_,_,_,i.o.alloc _,a.o⟩
   ·have e0:((k:Int)==0)=false:=beq_eq_false_iff_ne.2 h0;by_cases h1:k=1
    ·subst h1;have q:pv = .iface 194 (.bool b):=by rw[<-m.o];rfl
     subst q;have a:=q_ (show p=bh_ 1 b n t x l b 0 ⟨#[]⟩ ⟨#[]⟩ from by rw[<-j.o];exact Jf_ b n t x l d);have z:=m2_ (.bool b);have f:=jt_ (.bool b);clear m j;go_wp2_with fail;go_meet;exact q_ ⟨_,_,_,_,i.o.set 1 _ rfl,a.o⟩
    ·have e1:((k:Int)==1)=false:=beq_eq_false_iff_ne.2 h1;by_cases h2:k=2
     ·subst h2;have q:pv = .iface 188 (.int .i64 n):=by rw[<-m.o];rfl
      subst q;have a:=q_ (show p=bh_ 2 b n t x l false n ⟨#[]⟩ ⟨#[]⟩ from by rw[<-j.o];exact Jg_ b n t x l d);have z:=p2_ (.int .i64 n);have f:=lm_ (.int .i64 n);have D:=oe_ (.int .i64 n);clear m j;go_wp2_with fail;go_meet;exact q_ ⟨_,_,_,_,i.o.set 2 _ rfl,a.o⟩
     ·have e2:((k:Int)==2)=false:=beq_eq_false_iff_ne.2 h2;by_cases h3:k=3
      ·subst h3;have q:pv = .iface 189 (.string t):=by rw[<-m.o];rfl
       subst q;have a:=q_ (show p=(c1_ t&&bh_ 3 b n t x l false 0 t ⟨#[]⟩) from by rw[<-j.o];exact Jh_ b n t x l d);have z:=of_ (.string t);have f:=ki_ (.string t);have D:=m3_ (.string t);have B:=ln_ (.string t);clear m j;have a3:=q_ (sk_ t Y G (g_ HG.o i.o.below));obtain⟨r,V⟩:=a_ (c1_ t);rw[V.o]at a3 a
       cases r with
       | false=>
        have C:=q_ (show false=p from by rw[a.o];rfl);go_wp2_with fail;refine a3.o.mono ?_;rintro e w2 ⟨rfl,I⟩;have c:=q_ (i.o.on I);clear I;go_wp2_with fail;go_ret;exact⟨ay_ C.o,c.o.below⟩
       | true=>
        go_wp2_with fail;refine a3.o.mono ?_;rintro e w2 ⟨rfl,I⟩
        have c:=q_ (i.o.on I);clear I a7 a5;have a7:w2.cell? ⟨h+1+1,3,none⟩=some (.string ⟨#[]⟩):=cell_of_heap c.o.bare 3;have a5:w2.frozen? ⟨h+1+1,3,none⟩=false:=Lib.frozen_of_heap c.o.bare 3;go_wp2_with fail;go_meet;exact q_ ⟨_,_,_,_,c.o.set 3 _ rfl,a.o⟩
      ·have e3:((k:Int)==3)=false:=beq_eq_false_iff_ne.2 h3;by_cases h4:k=4
       ·subst h4;have q:pv = .iface 234 (.string t):=by rw[<-m.o];rfl
        subst q;have a:=q_ (show p=(decide (t.size<=1048576)&&bh_ 4 b n t x l false 0 t ⟨#[]⟩) from by rw[<-j.o];exact Ji_ b n t x l d);have z:=gq_ (.string t);have f:=d2_ (.string t);have D:=fl_ (.string t);have B:=ev_ (.string t);have E:=fm_ (.string t);clear m j;by_cases T:t.size<=1048576
        ·have U:(t.size:Int)<=1048576:=by omega
         have J:=q_ (show p=bh_ 4 b n t x l false 0 t ⟨#[]⟩ from by rw[a.o,decide_eq_true T];rfl);go_wp2_with fail;go_meet;exact q_ ⟨_,_,_,_,i.o.set 3 _ rfl,J.o⟩
        ·have U:¬(t.size:Int)<=1048576:=by omega
         have C:=q_ (show false=p from by rw[a.o];rw[decide_eq_false T];rfl);go_wp2_with fail;go_ret;exact⟨ay_ C.o,i.o.below⟩
       ·have e4:((k:Int)==4)=false:=beq_eq_false_iff_ne.2 h4;by_cases h8:k=8
        ·subst h8;have q:pv = .iface 234 (.string t):=by rw[<-m.o];rfl
         subst q;have a:=q_ (show p=(gp_ t&&bh_ 8 b n t x l false 0 t ⟨#[]⟩) from by rw[<-j.o];exact yu_ b n t x l d);have z:=gq_ (.string t);have f:=d2_ (.string t);have D:=fl_ (.string t);have B:=ev_ (.string t);have E:=fm_ (.string t);clear m j;have R:=q_ (yq_ t Y G);obtain⟨r,V⟩:=a_ (gp_ t);rw[V.o]at R a
         cases r with
         | false=>
          have C:=q_ (show false=p from by rw[a.o];rfl);go_wp2_with fail;refine R.o.mono ?_;rintro e w2 ⟨rfl,rfl⟩;go_wp2_with fail;go_ret;exact⟨ay_ C.o,i.o.below⟩
         | true=>
          go_wp2_with fail;refine R.o.mono ?_;rintro e w2 ⟨rfl,rfl⟩
          go_wp2_with fail;go_meet;exact q_ ⟨_,_,_,_,i.o.set 3 _ rfl,a.o⟩
        ·have e8:((k:Int)==8)=false:=beq_eq_false_iff_ne.2 h8;by_cases h9:k=9
         ·subst h9;have q:pv = .iface 234 (.string t):=by rw[<-m.o];rfl
          subst q;have a:=q_ (show p=(e2_ t&&bh_ 9 b n t x l false 0 t ⟨#[]⟩) from by rw[<-j.o];exact Jj_ b n t x l d);have z:=gq_ (.string t);have f:=d2_ (.string t);have D:=fl_ (.string t);have B:=ev_ (.string t);have E:=fm_ (.string t);clear m j;have R:=q_ (Cv_ t Y G);obtain⟨r,V⟩:=a_ (e2_ t);rw[V.o]at R a
          cases r with
          | false=>
           have C:=q_ (show false=p from by rw[a.o];rfl);go_wp2_with fail;refine R.o.mono ?_;rintro e w2 ⟨rfl,rfl⟩;go_wp2_with fail;go_ret;exact⟨ay_ C.o,i.o.below⟩
          | true=>
           go_wp2_with fail;refine R.o.mono ?_;rintro e w2 ⟨rfl,rfl⟩
           go_wp2_with fail;go_meet;exact q_ ⟨_,_,_,_,i.o.set 3 _ rfl,a.o⟩
         ·have e9:((k:Int)==9)=false:=beq_eq_false_iff_ne.2 h9;by_cases h5:k=5
          ·subst h5;have q:pv = .iface 191 (s):=by rw[<-m.o];rfl
           subst q;have a:=q_ (show p=(decide (l.length<=4096)&&(decide (d<60)&&(ib_ l (d+1)&&bh_ 5 b n t x l false 0 ⟨#[]⟩ ⟨#[]⟩))) from by rw[<-j.o];exact Dc_ b n t x l d);have z:=sm_ (s);have f:=m4_ (s);have D:=p3_ (s);have B:=og_ (s);have E:=p4_ (s);have L:=sn_ (s);clear m j;have ae:=HS.o;subst ae;by_cases ad:l.length<=4096
           ·have U:¬(4096:Int)<(l.length:Int):=by omega
            by_cases aa:d<60
            ·have z2:¬(60:Int)<=(d:Int):=by omega
             have ac:=q_ (Db_ l (d+1) (.func (.func 189) #[] #[.pointer (some ⟨h+1,0,none⟩)]) A l.length a6 G (Ha_ l d aa ⟨h+1,0,none⟩ F A l.length a6 G (λg hg=>Nat.lt_of_lt_of_le (HF.o g hg) i.o.below.size) (HL.o.under i.o.below HF.o) ad cd (by have:=i.o.size;show h+1<_;omega)
              (λy hy u W hW hv=>IH.o y (by have:=fc_ hy;omega) (by have:=fc_ hy;omega) (d+1) (by omega) F u W (λg hg=>Nat.lt_of_lt_of_le (HF.o g hg) (Nat.le_trans i.o.below.size hW.size)) hv (g_ HG.o (i.o.below.trans (hW.mono i.o.below.size))))))
             obtain⟨r,V⟩:=a_ (ib_ l (d+1));rw[V.o]at ac a
             cases r with
             | false=>
              have C:=q_ (show false=p from by rw[a.o];simp);go_wp2_with fail;refine ac.o.mono ?_;rintro e w2 ⟨rfl,I⟩;have c:=q_ (i.o.on I);clear I;go_wp2_with fail;go_ret;exact⟨ay_ C.o,c.o.below⟩
             | true=>
              have J:=q_ (show p=bh_ 5 b n t x l false 0 ⟨#[]⟩ ⟨#[]⟩ from by rw[a.o,decide_eq_true ad,decide_eq_true aa];rfl);go_wp2_with fail;refine ac.o.mono ?_;rintro e w2 ⟨rfl,I⟩;have c:=q_ (i.o.on I);clear I;go_wp2_with fail;go_meet;exact q_ ⟨_,_,_,_,c.o,J.o⟩
            ·have z2:(60:Int)<=(d:Int):=by omega
             have C:=q_ (show false=p from by rw[a.o];rw[decide_eq_false aa];simp);go_wp2_with fail;go_ret;exact⟨ay_ C.o,i.o.below⟩
           ·have U:(4096:Int)<(l.length:Int):=by omega
            have C:=q_ (show false=p from by rw[a.o];rw[decide_eq_false ad];rfl);go_wp2_with fail;go_ret;exact⟨ay_ C.o,i.o.below⟩
          ·have e5:((k:Int)==5)=false:=beq_eq_false_iff_ne.2 h5;by_cases h6:k=6
           ·subst h6;have q:pv = .iface 193 (.int .i64 n):=by rw[<-m.o];rfl
            subst q;have a:=q_ (show p=(decide (0<=n)&&bh_ 6 b n t x l false n ⟨#[]⟩ ⟨#[]⟩) from by rw[<-j.o];exact Jk_ b n t x l d);have z:=jm_ (.int .i64 n);have f:=gw_ (.int .i64 n);have D:=ic_ (.int .i64 n);have B:=h1_ (.int .i64 n);have E:=id_ (.int .i64 n);have L:=jn_ (.int .i64 n);have O:=ie_ (.int .i64 n);clear m j;by_cases a1:0<=n
            ·have U:¬n<0:=by omega
             have J:=q_ (show p=bh_ 6 b n t x l false n ⟨#[]⟩ ⟨#[]⟩ from by rw[a.o,decide_eq_true a1];rfl);go_wp2_with fail;go_meet;exact q_ ⟨_,_,_,_,i.o.set 2 _ rfl,J.o⟩
            ·have U:n<0:=by omega
             have C:=q_ (show false=p from by rw[a.o];rw[decide_eq_false a1];rfl);go_wp2_with fail;go_ret;exact⟨ay_ C.o,i.o.below⟩
           ·have e6:((k:Int)==6)=false:=beq_eq_false_iff_ne.2 h6;by_cases h7:k=7
            ·subst h7;have q:pv = .iface 193 (.int .i64 n):=by rw[<-m.o];rfl
             subst q;have a:=q_ (show p=(decide (0<=n)&&bh_ 7 b n t x l false n ⟨#[]⟩ ⟨#[]⟩) from by rw[<-j.o];exact Jl_ b n t x l d);have z:=jm_ (.int .i64 n);have f:=gw_ (.int .i64 n);have D:=ic_ (.int .i64 n);have B:=h1_ (.int .i64 n);have E:=id_ (.int .i64 n);have L:=jn_ (.int .i64 n);have O:=ie_ (.int .i64 n);clear m j;by_cases a1:0<=n
             ·have U:¬n<0:=by omega
              have J:=q_ (show p=bh_ 7 b n t x l false n ⟨#[]⟩ ⟨#[]⟩ from by rw[a.o,decide_eq_true a1];rfl);go_wp2_with fail;go_meet;exact q_ ⟨_,_,_,_,i.o.set 2 _ rfl,J.o⟩
             ·have U:n<0:=by omega
              have C:=q_ (show false=p from by rw[a.o];rw[decide_eq_false a1];rfl);go_wp2_with fail;go_ret;exact⟨ay_ C.o,i.o.below⟩
            ·have e7:((k:Int)==7)=false:=beq_eq_false_iff_ne.2 h7;by_cases a0:k=10
             ·subst a0;have q:pv = .iface 237 (.agg #[.string t,.string x]):=by rw[<-m.o];rfl
              subst q;have a:=q_ (show p=(decide (t.size<=1048576)&&(gp_ x&&bh_ 10 b n t x l false 0 t x)) from by rw[<-j.o];exact Dd_ b n t x l d);have z:=m5_ (.agg #[.string t,.string x]);have f:=ju_ (.agg #[.string t,.string x]);have D:=lp_ (.agg #[.string t,.string x]);have B:=kj_ (.agg #[.string t,.string x]);have E:=lq_ (.agg #[.string t,.string x]);have L:=m6_ (.agg #[.string t,.string x]);have O:=lr_ (.agg #[.string t,.string x]);have a2:=jv_ (.agg #[.string t,.string x]);clear m j;obtain⟨w2,a8⟩:=a_ (G.alloc (.cells #[.string t,.string x] 237));obtain⟨g,Hg⟩:=a_ G.heap.size;have c:=q_ (i.o.alloc (.cells #[.string t,.string x] 237));rw[a8.o]at c;have a4:=q_ (heap_alloc_new G (.cells #[.string t,.string x] 237));rw[a8.o,Hg.o]at a4;have b2:=q_ (show h+1+1<g from by rw[<-Hg.o];have:=i.o.size;omega);have R:=q_ (yq_ x au w2);obtain⟨r,V⟩:=a_ (gp_ x);rw[V.o]at R a;have l0:w2.cell? ⟨g,0,none⟩=some (.string t):=cell_of_heap a4.o 0;have l1:w2.cell? ⟨g,1,none⟩=some (.string x):=cell_of_heap a4.o 1;have b0:w2.cell? ⟨h+1+1,3,none⟩=some (.string ⟨#[]⟩):=cell_of_heap c.o.bare 3;have b5:w2.frozen? ⟨h+1+1,3,none⟩=false:=Lib.frozen_of_heap c.o.bare 3;have b1:w2.cell? ⟨h+1+1,4,none⟩=some (.string ⟨#[]⟩):=cell_of_heap c.o.bare 4;have aw:w2.frozen? ⟨h+1+1,4,none⟩=false:=Lib.frozen_of_heap c.o.bare 4;have az:w2.cell? ⟨h,0,none⟩=some (.int .i64 10):=cell_of_heap c.o.val 0;clear ao aj a7 ap af am a5 ai ag cd;by_cases T:t.size<=1048576
              ·have U:¬(1048576:Int)<(t.size:Int):=by omega
               go_upto_region 40 with fail;rw[a8.o,Hg.o]
               cases r with
               | false=>
                have C:=q_ (show false=p from by rw[a.o];rw[decide_eq_true T];rfl);go_wp2_with fail;refine R.o.mono ?_;rintro e w3 ⟨rfl,rfl⟩;go_wp2_with fail;go_ret;exact⟨ay_ C.o,c.o.below⟩
               | true=>
                have J:=q_ (show p=bh_ 10 b n t x l false 0 t x from by rw[a.o,decide_eq_true T];rfl);go_wp2_with fail;refine R.o.mono ?_;rintro e w3 ⟨rfl,rfl⟩;go_wp2_with fail;go_region
                go_wp2_with fail;go_meet;exact q_ ⟨_,_,_,_,((c.o.set 3 _ rfl).set 4 _ rfl).drew,J.o⟩
              ·have U:(1048576:Int)<(t.size:Int):=by omega
               have C:=q_ (show false=p from by rw[a.o];rw[decide_eq_false T];rfl);go_upto_region 40 with fail;rw[a8.o,Hg.o];go_wp2_with fail;go_ret;exact⟨ay_ C.o,c.o.below⟩
             ·have b4:((k:Int)==10)=false:=beq_eq_false_iff_ne.2 a0;have q:pv = .iface 238 (.int .i64 k):=by rw[<-m.o];unfold qx_;simp only[h_.kind,h0,h1,h2,h3,h4,h8,h9,h5,h6,h7,a0,if_false]
              subst q;have C:=q_ (show false=p from by rw[<-j.o];unfold K_;simp only[h0,h1,h2,h3,h4,h8,h9,h5,h6,h7,a0,if_false]);have z:=p5_ (.int .i64 k);have f:=ls_ (.int .i64 k);have D:=oh_ (.int .i64 k);have B:=m7_ (.int .i64 k);have E:=oi_ (.int .i64 k);have L:=p6_ (.int .i64 k);have O:=oj_ (.int .i64 k);have a2:=lt_ (.int .i64 k);have aq:=ok_ (.int .i64 k);clear m j h0 h1 h2 h3 h4 h8 h9 h5 h6 h7 a0;go_wp2_with fail;go_ret;exact⟨ay_ C.o,i.o.below⟩
  case rest=>
   obtain⟨b',n',t',x',hc,hm⟩:=hcut.o;have ae:=HS.o;subst ae;have c:=q_ hc;have HM:=q_ hm;clear hc hm hcut i ag cd ao aj a7 ap af am a5 ai;have v0:wc.cell? ⟨h,0,none⟩=some (.int .i64 k):=cell_of_heap c.o.val 0;have v1:wc.cell? ⟨h,1,none⟩=some (.bool b):=cell_of_heap c.o.val 1;have v2:wc.cell? ⟨h,2,none⟩=some (.int .i64 n):=cell_of_heap c.o.val 2;have v3:wc.cell? ⟨h,3,none⟩=some (.string t):=cell_of_heap c.o.val 3;have v4:wc.cell? ⟨h,4,none⟩=some (.string x):=cell_of_heap c.o.val 4;have v5:wc.cell? ⟨h,5,none⟩=some (.slice A l.length a6):=cell_of_heap c.o.val 5;have u1:wc.cell? ⟨h+1+1,1,none⟩=some (.bool b'):=cell_of_heap c.o.bare 1;have u2:wc.cell? ⟨h+1+1,2,none⟩=some (.int .i64 n'):=cell_of_heap c.o.bare 2;have u3:wc.cell? ⟨h+1+1,3,none⟩=some (.string t'):=cell_of_heap c.o.bare 3;have u4:wc.cell? ⟨h+1+1,4,none⟩=some (.string x'):=cell_of_heap c.o.bare 4;obtain⟨ln,ak⟩:=a_ l.length;have M:=q_ (show p=((b==b')&&(decide (n=n')&&(decide (t=t')&&(decide (x=x')&&(decide (ln=0) || decide (k=5)))))) from by rw[HM.o,<-ak.o];rfl);rw[ak.o]at v5;clear a9 HM;by_cases Z:b=b'
   ·have e1:(b==b')=true:=by rw[Z];simp
    by_cases S:n=n'
    ·have e2:(n==n')=true:=by rw[S];simp
     by_cases X:t=t'
     ·have e3:(t.toList==t'.toList)=true:=by rw[X];simp
      by_cases q4:x=x'
      ·have e4:(x.toList==x'.toList)=true:=by rw[q4];simp
       by_cases q5:ln=0
       ·have e5:((ln:Int)==0)=true:=by rw[q5];rfl
        have P:=q_ (show true=p from by rw[M.o,e1,decide_eq_true S,decide_eq_true X,decide_eq_true q4,decide_eq_true q5];rfl);clear Z S X q4 q5;go_wp2_with fail;go_ret;exact⟨ay_ P.o,c.o.below⟩
       ·have e5:((ln:Int)==0)=false:=beq_eq_false_iff_ne.2 (by omega)
        have P:=q_ (show ((k:Int)==5)=p from by
         rw[M.o,e1,decide_eq_true S,decide_eq_true X,decide_eq_true q4,decide_eq_false q5];by_cases q6:k=5
         ·rw[q6];rfl
         ·rw[decide_eq_false q6,beq_eq_false_iff_ne.2 q6];rfl)
        clear Z S X q4 q5;go_wp2_with fail;go_ret;exact⟨ay_ P.o,c.o.below⟩
      ·have e4:(x.toList==x'.toList)=false:=by_ q4;have P:=q_ (show false=p from by rw[M.o,decide_eq_false q4];simp);clear Z S X q4;go_wp2_with fail;go_ret;exact⟨ay_ P.o,c.o.below⟩
     ·have e3:(t.toList==t'.toList)=false:=by_ X;have P:=q_ (show false=p from by rw[M.o,decide_eq_false X];simp);clear Z S X;go_wp2_with fail;go_ret;exact⟨ay_ P.o,c.o.below⟩
    ·have e2:(n==n')=false:=beq_eq_false_iff_ne.2 S;have P:=q_ (show false=p from by rw[M.o,decide_eq_false S];simp);clear Z S;go_wp2_with fail;go_ret;exact⟨ay_ P.o,c.o.below⟩
   ·have e1:(b==b')=false:=beq_eq_false_iff_ne.2 Z;have P:=q_ (show false=p from by rw[M.o,e1];rfl);clear Z;go_wp2_with fail;go_ret;exact⟨ay_ P.o,c.o.below⟩
end
end Go.Proofs.YtefhfadjajcmkaaGreatDoor
