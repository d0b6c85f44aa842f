/- A whole number's decimal. -/
import Derived.Test.YtefhfadjajcmkaaGreatDoorH2
import Derived.Lib.ItoaMem
set_option linter.unusedVariables false
set_option linter.unusedSimpArgs false
set_option maxRecDepth 100000
set_option maxHeartbeats 64000000
namespace Go.Proofs.YtefhfadjajcmkaaGreatDoor
open Go.Lib (cell_of_heap)
section
open Go Go.RowKit Go.Maps Go.WideMaps
mutual
def kn_:h_->Prop
 | .mk _ _ n _ _ l=>(-9223372036854775808<=n/\n<=9223372036854775807)/\sr_ l
def sr_:List h_->Prop
 | []=>True
 | v::r=>kn_ v/\sr_ r
end
theorem cm_ {k:Int} {b:Bool} {n:Int} {t x:ByteArray} {l:List h_} {a:Bool} {f:Int} {d g:ByteArray} (h:bh_ k b n t x l a f d g=true):b=a/\n=f/\t=d/\x=g/\(l=[]\/k=5):=by unfold bh_ at h;simp only[Bool.and_eq_true,decide_eq_true_iff,Bool.or_eq_true,beq_iff_eq]at h;exact⟨h.1,h.2.1,h.2.2.1,h.2.2.2.1,h.2.2.2.2.imp List.eq_nil_of_length_eq_zero id⟩
theorem ub_ (n:Int) (h:-9223372036854775808<=n/\n<=9223372036854775807):IntKind.i64.wrap (((n % 18446744073709551616).toNat:Nat):Int)=n:=by
 have h1:=Int.emod_nonneg n (show (18446744073709551616:Int)≠0 by decide);rw[Int.toNat_of_nonneg h1];by_cases g:0<=n
 ·rw[Int.emod_eq_of_lt g (by omega)];exact IntWalk.i64_in _ (by omega)
 ·have a:n % 18446744073709551616=n+18446744073709551616:=by omega
  rw[a];unfold IntKind.wrap;have d:(2 ^ IntKind.i64.bits:Int)=18446744073709551616:=rfl;have f:(2 ^ (IntKind.i64.bits-1):Int)=9223372036854775808:=rfl;simp only[d,f,show IntKind.i64.signed=true from rfl,Bool.true_and,decide_eq_true_iff];split<;>omega
section
variable {w:World} {h rb G:Nat} {R:List UInt8} {k:Int} {b:Bool} {n:Int} {t x:ByteArray} {l:List h_} {s:Value} {wr:World}
end
theorem Do_ {s:ByteArray} (h:c1_ s=true):s.size<=1048576:=by
 rcases Nat.lt_or_ge 62 s.size with a | a
 ·rw[ob_ a]at h;cases h
 ·omega
theorem uc_ {s:ByteArray} (h:gp_ s=true):s.size<=1048576:=by unfold gp_ at h;simp only[Bool.and_eq_true,decide_eq_true_iff]at h;exact h.1.2
theorem wx_ {s:ByteArray} (h:e2_ s=true):s.size<=1048576:=by unfold e2_ at h;simp only[Bool.and_eq_true,decide_eq_true_iff]at h;omega
theorem Dp_ {b:Bool} {n:Int} {t x:ByteArray} {l:List h_} {d:Nat} (h:K_ (.mk 0 b n t x l) d=true):n=0/\b=false/\t=⟨#[]⟩/\x=⟨#[]⟩/\l=[]:=by rw[Je_]at h;have h:=cm_ h;exact⟨h.2.1,h.1,h.2.2.1,h.2.2.2.1,h.2.2.2.2.elim id (λe=>by cases e)⟩
theorem Dq_ {b:Bool} {n:Int} {t x:ByteArray} {l:List h_} {d:Nat} (h:K_ (.mk 1 b n t x l) d=true):n=0/\t=⟨#[]⟩/\x=⟨#[]⟩/\l=[]:=by rw[Jf_]at h;have h:=cm_ h;exact⟨h.2.1,h.2.2.1,h.2.2.2.1,h.2.2.2.2.elim id (λe=>by cases e)⟩
theorem Dr_ {b:Bool} {n:Int} {t x:ByteArray} {l:List h_} {d:Nat} (h:K_ (.mk 2 b n t x l) d=true):b=false/\t=⟨#[]⟩/\x=⟨#[]⟩/\l=[]:=by rw[Jg_]at h;have h:=cm_ h;exact⟨h.1,h.2.2.1,h.2.2.2.1,h.2.2.2.2.elim id (λe=>by cases e)⟩
theorem ss_ {b:Bool} {n:Int} {t x:ByteArray} {l:List h_} {d:Nat} (h:K_ (.mk 3 b n t x l) d=true):b=false/\n=0/\x=⟨#[]⟩/\l=[]/\t.size<=1048576:=by rw[Jh_]at h;have a:=Bool.and_eq_true_iff.1 h;have h:=cm_ a.2;exact⟨h.1,h.2.1,h.2.2.2.1,h.2.2.2.2.elim id (λe=>by cases e),Do_ a.1⟩
theorem Ds_ {b:Bool} {n:Int} {t x:ByteArray} {l:List h_} {d:Nat} (h:K_ (.mk 6 b n t x l) d=true):b=false/\t=⟨#[]⟩/\x=⟨#[]⟩/\l=[]:=by rw[Jk_]at h;have a:=Bool.and_eq_true_iff.1 h;have h:=cm_ a.2;exact⟨h.1,h.2.2.1,h.2.2.2.1,h.2.2.2.2.elim id (λe=>by cases e)⟩
theorem Dt_ {b:Bool} {n:Int} {t x:ByteArray} {l:List h_} {d:Nat} (h:K_ (.mk 7 b n t x l) d=true):b=false/\t=⟨#[]⟩/\x=⟨#[]⟩/\l=[]:=by rw[Jl_]at h;have a:=Bool.and_eq_true_iff.1 h;have h:=cm_ a.2;exact⟨h.1,h.2.2.1,h.2.2.2.1,h.2.2.2.2.elim id (λe=>by cases e)⟩
theorem st_ {b:Bool} {n:Int} {t x:ByteArray} {l:List h_} {d:Nat} (h:K_ (.mk 4 b n t x l) d=true):b=false/\n=0/\x=⟨#[]⟩/\l=[]/\t.size<=1048576:=by rw[Ji_]at h;have a:=Bool.and_eq_true_iff.1 h;have h:=cm_ a.2;exact⟨h.1,h.2.1,h.2.2.2.1,h.2.2.2.2.elim id (λe=>by cases e),of_decide_eq_true a.1⟩
theorem lz_ {b:Bool} {n:Int} {t x:ByteArray} {l:List h_} {d:Nat} (h:K_ (.mk 8 b n t x l) d=true):b=false/\n=0/\x=⟨#[]⟩/\l=[]/\t.size<=1048576:=by rw[yu_]at h;have a:=Bool.and_eq_true_iff.1 h;have h:=cm_ a.2;exact⟨h.1,h.2.1,h.2.2.2.1,h.2.2.2.2.elim id (λe=>by cases e),uc_ a.1⟩
theorem or_ {b:Bool} {n:Int} {t x:ByteArray} {l:List h_} {d:Nat} (h:K_ (.mk 9 b n t x l) d=true):b=false/\n=0/\x=⟨#[]⟩/\l=[]/\t.size<=1048576:=by rw[Jj_]at h;have a:=Bool.and_eq_true_iff.1 h;have h:=cm_ a.2;exact⟨h.1,h.2.1,h.2.2.2.1,h.2.2.2.2.elim id (λe=>by cases e),wx_ a.1⟩
theorem nn_ {b:Bool} {n:Int} {t x:ByteArray} {l:List h_} {d:Nat} (h:K_ (.mk 10 b n t x l) d=true):b=false/\n=0/\l=[]/\t.size<=1048576/\x.size<=1048576:=by rw[Dd_]at h;have a:=Bool.and_eq_true_iff.1 h;have f:=Bool.and_eq_true_iff.1 a.2;have h:=cm_ f.2;exact⟨h.1,h.2.1,h.2.2.2.2.elim id (λe=>by cases e),of_decide_eq_true a.1,uc_ f.1⟩
theorem Du_ {b:Bool} {n:Int} {t x:ByteArray} {l:List h_} {d:Nat} (h:K_ (.mk 5 b n t x l) d=true):b=false/\n=0/\t=⟨#[]⟩/\x=⟨#[]⟩/\l.length<=4096/\d<60/\ib_ l (d+1)=true:=by rw[Dc_]at h;have a:=Bool.and_eq_true_iff.1 h;have g:=Bool.and_eq_true_iff.1 a.2;have f:=Bool.and_eq_true_iff.1 g.2;have h:=cm_ f.2;exact⟨h.1,h.2.1,h.2.2.1,h.2.2.2.1,of_decide_eq_true a.1,of_decide_eq_true g.1,f.1⟩
theorem wy_ {W a b:Nat} {R S:List UInt8} (f:a<256 ^ W) (hb:b<256 ^ W) (h:beN W a++R=beN W b++S):a=b/\R=S:=by obtain⟨h1,d⟩:=List.append_inj h (by rw[cl_,cl_]);refine⟨?_,d⟩;have:=congrArg Dm_ h1;rwa [y0_ W a f,y0_ W b hb]at this
theorem g0_ {s t:ByteArray} {R S:List UInt8} (g:s.size<=1048576) (i:t.size<=1048576) (h:a4_ s++R=a4_ t++S):s=t/\R=S:=by unfold a4_ at h;rw[List.append_assoc,List.append_assoc]at h;obtain⟨h1,d⟩:=wy_ (by omega) (by omega) h;obtain⟨f,a⟩:=List.append_inj d (by rw[a8_,a8_,h1]);exact⟨by apply ByteArray.ext;exact Array.toList_inj.1 f,a⟩
theorem Dv_ {a b:Int} (f:0<=a/\a<=10) (hb:0<=b/\b<=10) (h:UInt8.ofNat a.toNat=UInt8.ofNat b.toNat):a=b:=by have:=congrArg UInt8.toNat h;rw[UInt8.toNat_ofNat',UInt8.toNat_ofNat']at this;have h1:a.toNat % 2 ^ 8=a.toNat:=Nat.mod_eq_of_lt (by omega);have d:b.toNat % 2 ^ 8=b.toNat:=Nat.mod_eq_of_lt (by omega);rw[h1,d]at this;omega
theorem su_ {n m:Int} {R S:List UInt8} (g:-9223372036854775808<=n/\n<=9223372036854775807) (d:-9223372036854775808<=m/\m<=9223372036854775807) (h:beN 8 (n % 18446744073709551616).toNat++R=beN 8 (m % 18446744073709551616).toNat++S):n=m/\R=S:=by
 have i:(256:Nat) ^ 8=18446744073709551616:=by decide
 have o:=Int.emod_lt_of_pos n (show (0:Int)<18446744073709551616 by decide);have j:=Int.emod_lt_of_pos m (show (0:Int)<18446744073709551616 by decide);obtain⟨h1,f⟩:=wy_ (by omega) (by omega) h;refine⟨?_,f⟩;have a:=ub_ n g;rw[h1,ub_ m d]at a;exact a.symm
theorem Hf_ (N:Nat):∀(v u:h_) (_:U_ v<N) (d:Nat) (_:K_ v d=true) (_:K_ u d=true) (_:kn_ v) (_:kn_ u) (R S:List UInt8) (_:dk_ v++R=dk_ u++S),v=u/\R=S:=by
 induction N with
 | zero=>exact λ_ _ h=>absurd h (Nat.not_lt_zero _)
 | succ N ih=>
  intro v u hN d m j h1 r R S h;have g:=on_ m;have f:=on_ j
  cases v with
  | mk k b n t x l=>
  cases u with
  | mk k2 O V A x2 P=>
  simp only[h_.kind]at g f;unfold dk_ at h;simp only[List.cons_append]at h;obtain⟨L,h⟩:=List.cons_eq_cons.1 h;have L:=Dv_ g f L;subst L;simp only[kn_]at h1 r;by_cases h0:k=0
  ·subst h0;obtain⟨rfl,rfl,rfl,rfl,rfl⟩:=Dp_ m;obtain⟨rfl,rfl,rfl,rfl,rfl⟩:=Dp_ j;clear g f;have h:([]:List UInt8)++R=[]++S:=h;exact⟨rfl,h⟩
  ·have e0:=h0;by_cases h1:k=1
   ·subst h1;obtain⟨rfl,rfl,rfl,rfl⟩:=Dq_ m;obtain⟨rfl,rfl,rfl,rfl⟩:=Dq_ j;clear g f;have h:([if b=true then 1 else 0]:List UInt8)++R=[if O=true then 1 else 0]++S:=h
    obtain⟨hb,i⟩:=List.cons_eq_cons.1 h;have hb:b=O:=by cases b<;>cases O<;>first | rfl | (exact absurd hb (by decide))
    exact⟨by rw[hb],i⟩
   ·have Z:=h1;by_cases r:k=2
    ·subst r;obtain⟨rfl,rfl,rfl,rfl⟩:=Dr_ m;obtain⟨rfl,rfl,rfl,rfl⟩:=Dr_ j;clear g f;have h:beN 8 (n % 18446744073709551616).toNat++R=beN 8 (V % 18446744073709551616).toNat++S:=h;obtain⟨B,i⟩:=su_ h1.1 r.1 h;exact⟨by rw[B],i⟩
    ·have e2:=r;by_cases h6:k=6
     ·subst h6;obtain⟨rfl,rfl,rfl,rfl⟩:=Ds_ m;obtain⟨rfl,rfl,rfl,rfl⟩:=Ds_ j;clear g f;have h:beN 8 (n % 18446744073709551616).toNat++R=beN 8 (V % 18446744073709551616).toNat++S:=h;obtain⟨B,i⟩:=su_ h1.1 r.1 h;exact⟨by rw[B],i⟩
     ·have e6:=h6;by_cases X:k=7
      ·subst X;obtain⟨rfl,rfl,rfl,rfl⟩:=Dt_ m;obtain⟨rfl,rfl,rfl,rfl⟩:=Dt_ j;clear g f;have h:beN 8 (n % 18446744073709551616).toNat++R=beN 8 (V % 18446744073709551616).toNat++S:=h;obtain⟨B,i⟩:=su_ h1.1 r.1 h;exact⟨by rw[B],i⟩
      ·have e7:=X;by_cases Y:k=3
       ·subst Y;obtain⟨rfl,rfl,rfl,rfl,p⟩:=ss_ m;obtain⟨rfl,rfl,rfl,rfl,o⟩:=ss_ j;clear g f;have h:a4_ t++R=a4_ A++S:=h;obtain⟨q,i⟩:=g0_ p o h;exact⟨by rw[q],i⟩
       ·have e3:=Y;by_cases W:k=4
        ·subst W;obtain⟨rfl,rfl,rfl,rfl,p⟩:=st_ m;obtain⟨rfl,rfl,rfl,rfl,o⟩:=st_ j;clear g f;have h:a4_ t++R=a4_ A++S:=h;obtain⟨q,i⟩:=g0_ p o h;exact⟨by rw[q],i⟩
        ·have e4:=W;by_cases h8:k=8
         ·subst h8;obtain⟨rfl,rfl,rfl,rfl,p⟩:=lz_ m;obtain⟨rfl,rfl,rfl,rfl,o⟩:=lz_ j;clear g f;have h:a4_ t++R=a4_ A++S:=h;obtain⟨q,i⟩:=g0_ p o h;exact⟨by rw[q],i⟩
         ·have e8:=h8;by_cases h9:k=9
          ·subst h9;obtain⟨rfl,rfl,rfl,rfl,p⟩:=or_ m;obtain⟨rfl,rfl,rfl,rfl,o⟩:=or_ j;clear g f;have h:a4_ t++R=a4_ A++S:=h;obtain⟨q,i⟩:=g0_ p o h;exact⟨by rw[q],i⟩
          ·have e9:=h9;by_cases D:k=10
           ·subst D;obtain⟨rfl,rfl,rfl,p,M⟩:=nn_ m;obtain⟨rfl,rfl,rfl,o,E⟩:=nn_ j;clear g f;have h:a4_ t++a4_ x++R=a4_ A++a4_ x2++S:=h;rw[List.append_assoc,List.append_assoc]at h;obtain⟨q,h⟩:=g0_ p o h;obtain⟨hx,i⟩:=g0_ M E h;exact⟨by rw[q,hx],i⟩
           ·have a1:=D;by_cases h5:k=5
            ·subst h5;obtain⟨rfl,rfl,rfl,rfl,p,_,M⟩:=Du_ m;obtain⟨rfl,rfl,rfl,rfl,o,_,E⟩:=Du_ j;clear g f;have h:beN 4 l.length++ew_ l++R=beN 4 P.length++ew_ P++S:=h;rw[List.append_assoc,List.append_assoc]at h;obtain⟨I,h⟩:=wy_ (by omega) (by omega) h
             have key:∀(a c:List h_),af_ a<N->a.length=c.length->ib_ a (d+1)=true->ib_ c (d+1)=true->sr_ a->sr_ c->∀R S:List UInt8,ew_ a++R=ew_ c++S->a=c/\R=S:=by
              intro a;induction a with
              | nil=>
               intro c _ C _ _ _ _ R S h;have:c=[]:=List.eq_nil_of_length_eq_zero C.symm;subst this;exact⟨rfl,h⟩
              | cons y a a0=>
               intro c hs C U F T J R S h
               cases c with
               | nil=>cases C
               | cons z c=>
                simp only[ib_,Bool.and_eq_true]at U F;simp only[sr_]at T J;simp only[ew_,List.append_assoc]at h;simp only[af_]at hs;obtain⟨Z,h⟩:=ih y z (by omega) (d+1) U.1 F.1 T.1 J.1 _ _ h;obtain⟨e2,h⟩:=a0 c (by omega) (by simpa using C) U.2 F.2 T.2 J.2 _ _ h;exact⟨by rw[Z,e2],h⟩
             obtain⟨I,i⟩:=key l P (by simp only[U_]at hN;omega) I M E h1.2 r.2 R S h;exact⟨by rw[I],i⟩
            ·omega
theorem J2_ {v u:h_} (d:K_ v 0=true) (f:K_ u 0=true) (h1:kn_ v) (a:kn_ u) (h:dk_ v=dk_ u):v=u:=
 (Hf_ (U_ v+1) v u (by omega) 0 d f h1 a [] [] (by rw[List.append_nil,List.append_nil,h])).1
end
section
open Go Go.RowKit Go.Maps Go.WideMaps Go.MapKept
theorem Dw_ (w:World):(zeroValue 2).run Tryz.prog w = .ok (.int .i64 0) w:=by kernel_rfl
def sv_ (w:World) (m:Nat) (ks:List ByteArray):Prop:=∃D:DataW Unit,w.ownsMap Tryz.prog 9 (plainElem Tryz.prog 2) m ks.length D/\IdsOf VS ji_ D ks/\Tidy D/\Maps.size D=ks.length
theorem sv_.turn {w w':World} {m:Nat} {ks:List ByteArray} {S:Nat->Prop} (h:sv_ w m ks) (f:Turn S w w') (d:¬S m):sv_ w' m ks:=by obtain⟨D,h1,a⟩:=h;exact⟨D,f.map h1 d,a⟩
theorem sv_.lt {w:World} {m:Nat} {ks:List ByteArray} (h:sv_ w m ks):m<w.heap.size:=by obtain⟨D,⟨d,a,hb,_⟩,_⟩:=h;exact b_ hb
theorem sv_.fresh {w:World} {m:Nat} (h:w.heap[m]?=some (.map #[] 0)):sv_ w m []:=
 ⟨.map [],⟨#[],0,h,⟨by simp,stamped_empty 0,by simp⟩,Nat.le_refl _,rfl⟩,ids_empty,tidy_empty,rfl⟩
structure ik_ (w:World) (b m:Nat) (ks:List ByteArray):Prop where
 blk:w.heap[b]?=some (.cells #[.map (some m)] 124 (0,0))
 set:sv_ w m ks
theorem ik_.turn {w w':World} {b m:Nat} {ks:List ByteArray} {S:Nat->Prop} (h:ik_ w b m ks) (a:Turn S w w') (hb:¬S b) (d:¬S m):ik_ w' b m ks:=
 ⟨(a.block b (b_ h.blk) hb).trans h.blk,h.set.turn a d⟩
theorem ik_.on {w w':World} {b m:Nat} {ks:List ByteArray} (h:ik_ w b m ks) (hb:Below w.heap.size w w'):ik_ w' b m ks:=
 h.turn (Turn.of_below hb) (λe=>by have:=b_ h.blk;omega) (λe=>by have:=h.set.lt;omega)
theorem ik_.ne {w:World} {b m:Nat} {ks:List ByteArray} (h:ik_ w b m ks):b≠m:=by
 rintro rfl;obtain⟨D,⟨d,a,hb,_⟩,_⟩:=h.set;rw[h.blk]at hb
 cases hb
theorem j0_ {w:World} {b m:Nat} {ks:List ByteArray} (h:ik_ w b m ks) (k:ByteArray) (p:VS k) (d:k∈ks) :
    Calls Tryz.prog 69 #[.pointer (some ⟨b,0,none⟩),.string k] w λe w'=>e = .returned (.tuple #[.int .i64 ((place ks k:Nat):Int),.bool false])/\w'=w:=by
 obtain⟨D,g,i,_,_⟩:=h.set;have v:w.cell? ⟨b,0,none⟩=some (.map (some m)):=cell_of_heap h.blk 0;have f:=keyOf_string_mk Tryz.underlying9 p;obtain⟨h1,j⟩:=i.2 k p;have r:=q_ (show Maps.has D (.string k.data.toList)=true by rw[show (Lit.string k.data.toList)=ji_ k from rfl,h1];simp[d]);have u:=q_ (j d);clear h1 j;go_enter Tryz.func69,Tryz.ntmps69
 go_wp2_with (at_lookup;refine wpList_lookup_own_ok_int _ rfl _ _ 122 rfl 9 2 .i64 Cw_ Tryz.underlying122 Tryz.underlying2 (Dw_ _) m _ D rfl g _ _ rfl f ?_;intro c a q;obtain rfl:=Jy_ a u.o;rw[r.o];clear a q)
 go_ret2;exact⟨rfl,rfl⟩
theorem wz_ {w:World} {b m:Nat} {ks:List ByteArray} (h:ik_ w b m ks) (k:ByteArray) (v:VS k) (f:k∉ks) (P:ks.length<=1000000) :
    Calls Tryz.prog 69 #[.pointer (some ⟨b,0,none⟩),.string k] w λe w'=>e = .returned (.tuple #[.int .i64 ((ks.length:Nat):Int),.bool true])/\ik_ w' b m (ks++[k])/\Turn (λi=>i=m) w w':=by
 obtain⟨D,a,g,p,j⟩:=h.set;have z:=q_ p;have r:=q_ j;have T:w.cell? ⟨b,0,none⟩=some (.map (some m)):=cell_of_heap h.blk 0;have u:=keyOf_string_mk Tryz.underlying9 v;obtain⟨h1,_⟩:=g.2 k v;have E:=q_ (show Maps.has D (.string k.data.toList)=false by rw[show (Lit.string k.data.toList)=ji_ k from rfl,h1];simp[f]);have C:=q_ g;have A:=q_ f;have B:=q_ h.blk;have L:=q_ h.ne;have F:=b_ h.blk;obtain⟨n,y⟩:=a_ ks.length;rw[y.o]at P a r ⊢;clear h1 h g f p j;go_enter Tryz.func69,Tryz.ntmps69
 go_wp2_with (first
  | (at_lookup;refine wpList_lookup_own_ok_int _ rfl _ _ 122 rfl 9 2 .i64 Cw_ Tryz.underlying122 Tryz.underlying2 (Dw_ _) m _ D rfl a _ _ rfl u ?_;intro c I O;rw[E.o];clear I O)
  | (at_len;refine wpList_len_own _ rfl _ 122 rfl 9 2 Tryz.underlying122 _ m n D rfl a ?_;rw[r.o])
  | (at_mapUpdate;refine wpList_mapUpdate_in _ rfl _ _ _ 122 rfl 9 2 Cw_ Tryz.underlying122 _ m n D rfl a (by unfold maxLen;omega) _ _ _ rfl rfl u _ [] (plainElem_int Tryz.underlying2 (WalkArith.wf_i64 (by omega))) ?_;intro S q d;have J:=q_ d.grown;have M:=q_ q;clear q d))
 go_ret2;have N:Turn (λi=>i=m) w S:=(Turn.of_grown J.o).mono (λi _ hi=>by injection hi);refine⟨rfl,⟨(N.block b F L.o).trans B.o,⟨_,by rw[List.length_append,y.o];exact M.o,?_,z.o.put (n3_ k v) _,?_⟩⟩,N⟩
 ·have:=ids_put t0_ n3_ C.o v A.o;rw[y.o]at this;exact this
 ·rw[size_put z.o,show has D (ji_ k)=false from E.o,if_neg Bool.false_ne_true,r.o,List.length_append,y.o];rfl
end
section
def bW:Nat:=1000000000
def pv (f:Nat->Nat):Nat->Nat
 | 0=>0
 | i+1=>pv f i+f i*bW ^ i
theorem ko_ {f g:Nat->Nat} {n:Nat} (h:∀i,i<n->f i=g i):pv f n=pv g n:=by
 induction n with
 | zero=>rfl
 | succ n a=>rw[pv,pv,a (λi hi=>h i (by omega)),h n (by omega)]
theorem Jm_ {f:Nat->Nat} {n:Nat} (h:∀i,i<n->f i<bW):pv f n<bW ^ n:=by
 induction n with
 | zero=>simp[pv]
 | succ n d=>
  have h1:=d (λi hi=>h i (by omega));have a:=h n (by omega);rw[pv,Nat.pow_succ];have g:(f n+1)*bW ^ n<=bW*bW ^ n:=Nat.mul_le_mul_right _ a;rw[Nat.succ_mul]at g;rw[Nat.mul_comm (bW ^ n) bW];omega
theorem J3_ {f g o:Nat->Nat} {i c:Nat} (h:pv o i+c*bW ^ i=pv f i+pv g i) (d:o i=(f i+g i+c) % bW) :
    pv o (i+1)+(f i+g i+c) / bW*bW ^ (i+1)=pv f (i+1)+pv g (i+1):=by
 have e:=Nat.div_add_mod (f i+g i+c) bW;have a:(o i+bW*((f i+g i+c) / bW))*bW ^ i=(f i+g i+c)*bW ^ i:=by rw[d,Nat.add_comm,e]
 rw[pv,pv,pv,Nat.pow_succ];rw[Nat.add_mul,Nat.mul_assoc]at a;rw[Nat.add_mul,Nat.add_mul]at a;have j:(f i+g i+c) / bW*(bW ^ i*bW)=bW*((f i+g i+c) / bW*bW ^ i):=by rw[<-Nat.mul_assoc,Nat.mul_comm]
 rw[j];omega
theorem J4_ {f g o:Nat->Nat} {i b:Nat} (h:pv o i+pv g i=pv f i+b*bW ^ i) (v:g i<bW) (hb:b<=1) (u:f i<bW) (q:o i=(f i+bW-g i-b) % bW) :
    pv o (i+1)+pv g (i+1)=pv f (i+1)+(1-(f i+bW-g i-b) / bW)*bW ^ (i+1)/\(f i+bW-g i-b) / bW<=1:=by
 have j:f i+bW-g i-b<bW*2:=by omega
 have e:=Nat.div_add_mod (f i+bW-g i-b) bW;have d:(f i+bW-g i-b) / bW<=1:=Nat.le_of_lt_succ (Nat.div_lt_of_lt_mul j);refine⟨?_,d⟩
 have m:o i+g i+b=f i+(1-(f i+bW-g i-b) / bW)*bW:=by
  rw[q];rcases Nat.lt_or_ge ((f i+bW-g i-b) / bW) 1 with h1 | h1
  ·have a:(f i+bW-g i-b) / bW=0:=Nat.lt_one_iff.1 h1;rw[a]at e ⊢;omega
  ·have a:(f i+bW-g i-b) / bW=1:=Nat.le_antisymm d h1;rw[a]at e ⊢;omega
 rw[pv,pv,pv,Nat.pow_succ];have p:=congrArg (· * bW ^ i) m;simp only[Nat.add_mul,Nat.mul_assoc]at p;have r:(1-(f i+bW-g i-b) / bW)*(bW ^ i*bW)=(1-(f i+bW-g i-b) / bW)*(bW*bW ^ i):=by rw[Nat.mul_comm (bW ^ i)]
 rw[r];omega
theorem w0_ {f g o:Nat->Nat} {n b:Nat} (h:pv o n+pv g n=pv f n+b*bW ^ n) (d:∀i,i<n->o i<bW) (j:pv g n<=pv f n):pv o n=pv f n-pv g n:=by
 have h1:=Jm_ d;rcases Nat.eq_zero_or_pos b with a | a
 ·subst a;omega
 ·have m:1*bW ^ n<=b*bW ^ n:=Nat.mul_le_mul_right _ a;omega
theorem Dx_ {f g:Nat->Nat} {n i:Nat} (d:∀j,j<n->f j<bW) (hi:i<n) (a:∀j,i<j->j<n->f j=g j) (m:f i<g i):pv f n<pv g n:=by
 induction n with
 | zero=>omega
 | succ n q=>
  rw[pv,pv];by_cases e:i=n
  ·subst e;have h1:=Jm_ (f:=f) (n:=i) (λj p=>d j (by omega));have o:(f i+1)*bW ^ i<=g i*bW ^ i:=Nat.mul_le_mul_right _ m;rw[Nat.succ_mul]at o;omega
  ·have:=q (λj p=>d j (by omega)) (by omega) (λj h1 o=>a j h1 (by omega));rw[a n (by omega) (by omega)];omega
def ax_:List UInt8->Nat:=λl=>l.foldl (λn c=>n*10+(c.toNat-48)) 0
theorem os_ (l:List UInt8) (c:UInt8):ax_ (l++[c])=ax_ l*10+(c.toNat-48):=by simp[ax_]
theorem Dy_ (m:List UInt8):∀n:Nat,m.foldl (λn c=>n*10+(c.toNat-48)) n=n*10 ^ m.length+ax_ m:=by
 induction m with
 | nil=>intro n;simp[ax_]
 | cons c r a=>
  intro n;have h1:=a (n*10+(c.toNat-48));have d:=a (0*10+(c.toNat-48));rw[List.foldl_cons,h1];show _=n*10 ^ (r.length+1)+(c::r).foldl (λn c=>n*10+(c.toNat-48)) 0;rw[List.foldl_cons,d,Nat.pow_succ,Nat.add_mul,Nat.mul_assoc,Nat.mul_comm 10,Nat.zero_mul,Nat.zero_add,Nat.add_assoc]
theorem d5_ (l m:List UInt8):ax_ (l++m)=ax_ l*10 ^ m.length+ax_ m:=by unfold ax_;rw[List.foldl_append];exact Dy_ m _
end
section
structure Dz_ (s:ByteArray) (neg:Bool) (a b:List UInt8):Prop where
 eq:s.data.toList=cond neg [45] []++(a++46::b)
 la:1<=a.length/\a.length<=40
 lb:1<=b.length/\b.length<=20
 da:a.all bg_=true
 db:b.all bg_=true
theorem ud_ {D:List Nat} (a:∀i,atD D i<=9) (hi lo:Nat):(e3_ D hi lo).all bg_=true:=by rw[List.all_eq_true];intro c d;obtain⟨j,_,rfl⟩:=List.mem_map.1 d;rw[c2_,C0_ (a _)];have:=a (hi-1-j);omega
theorem qz_ {s:ByteArray} (h:c1_ s=true):∃d a b,Dz_ s d a b:=by
 unfold c1_ at h;rw[Bool.and_eq_true,decide_eq_true_iff,decide_eq_true_iff]at h;obtain⟨h1,f⟩:=h
 cases hp:jr_ s with
 | none=>
  unfold fk_ at h1;rw[hp]at h1
  cases h1
 | some q=>
  obtain⟨d,D,S⟩:=q;have g:=(wt_ hp).1;unfold fk_ at h1 f;rw[hp]at h1 f;simp only at h1 f
  cases ho:ee_ D S with
  | true=>rw[ho]at h1;cases h1
  | false=>
   rw[ho]at f;simp only[cond_false]at f;unfold ee_ at ho;rw[Bool.or_eq_false_iff,decide_eq_false_iff_not,decide_eq_false_iff_not]at ho;have j:S+1<=mn_ D S:=Nat.le_max_right _ _;have i:n6_ D S<=S:=G4_ D S S 0 (by omega);refine⟨d && !ml_ D,e3_ D (mn_ D S) S,e3_ D S (n6_ D S)++cond (decide (n6_ D S=S)) [48] [],?_,?_,?_,ud_ g _ _,?_⟩
   ·rw[<-f];show (n7_ d D S).data.toList=_;unfold n7_;simp[List.append_assoc]
   ·rw[hh_];omega
   ·rw[List.length_append,hh_];by_cases e:n6_ D S=S
    ·rw[decide_eq_true e];simp only[cond_true,List.length_singleton];omega
    ·rw[decide_eq_false e];simp only[cond_false,List.length_nil];omega
   ·rw[List.all_append,ud_ g,Bool.true_and];by_cases e:n6_ D S=S
    ·rw[decide_eq_true e];rfl
    ·rw[decide_eq_false e];rfl
def h7_ (s:ByteArray):Int:=
 let l:=s.data.toList
 let a:=l.head?==some 45
 let r:=cond a l.tail l
 let m:Int:=((ax_ (r.takeWhile (· != 46)++(r.dropWhile (· != 46)).tail)*10 ^ (20-((r.dropWhile (· != 46)).tail).length):Nat):Int)
 cond a (-m) m
theorem D0_ {a b:List UInt8} (h:46∉a):(a++46::b).takeWhile (· != 46)=a/\(a++46::b).dropWhile (· != 46)=46::b:=by
 induction a with
 | nil=>simp
 | cons c r g=>
  have i:(c != 46)=true:=by rw[bne_iff_ne];exact λe=>h (by rw[e];exact List.mem_cons_self ..)
  have d:=g (λf=>h (List.mem_cons_of_mem _ f));simp[i,d.1,d.2]
theorem sw_ {s:ByteArray} {d:Bool} {a b:List UInt8} (h:Dz_ s d a b):h7_ s=cond d (-((ax_ (a++b)*10 ^ (20-b.length):Nat):Int)) ((ax_ (a++b)*10 ^ (20-b.length):Nat):Int):=by
 have i:=z2_ h.da
 have j:(a++46::b).head?≠some 45:=by
  cases a with
  | nil=>exact absurd h.la.1 (by simp)
  | cons c r=>
   intro e;have m:c=45:=by simpa using e
   have h1:=h.da;rw[List.all_cons,Bool.and_eq_true,c2_,m]at h1;have:=h1.1.1;revert this
   decide
 obtain⟨f,g⟩:=D0_ (b:=b) i;unfold h7_;simp only[h.eq]
 cases d with
 | true=>simp[f,g]
 | false=>
  simp only[cond_false,List.nil_append];have hb:((a++46::b).head?==some 45)=false:=beq_eq_false_iff_ne.2 j;rw[hb];simp only[cond_false];rw[f,g];rfl
def ey_ (a b:ByteArray):Int:=if h7_ a<h7_ b then -1 else if h7_ b<h7_ a then 1 else 0
theorem z6_ (k:Nat):ax_ (List.replicate k 48)=0:=by
 induction k with
 | zero=>rfl
 | succ k a=>
  rw[List.replicate_succ',os_,a];rfl
theorem Hg_ (l:List UInt8) (k:Nat):ax_ (l++List.replicate k 48)=ax_ l*10 ^ k:=by rw[d5_,z6_,List.length_replicate,Nat.add_zero]
theorem D1_ {w:Nat->Nat} {l r:List UInt8} {i:Nat} (h:pv w i+ax_ r*bW ^ i=ax_ l) (f:w i=ax_ (r.drop (r.length-9))):pv w (i+1)+ax_ (r.take (r.length-9))*bW ^ (i+1)=ax_ l:=by
 have e:=d5_ (r.take (r.length-9)) (r.drop (r.length-9));rw[List.take_append_drop,<-f]at e
 have d:ax_ (r.take (r.length-9))*10 ^ (r.drop (r.length-9)).length=ax_ (r.take (r.length-9))*bW:=by
  rcases Nat.lt_or_ge r.length 9 with h1 | h1
  ·have a:r.length-9=0:=by omega
   rw[a,List.take_zero];simp[ax_]
  ·have a:(r.drop (r.length-9)).length=9:=by rw[List.length_drop];omega
   rw[a];rfl
 rw[d]at e;rw[pv,Nat.pow_succ,<-h,e,Nat.add_mul,Nat.mul_assoc,Nat.mul_comm (bW ^ i) bW];omega
end
section
open Go
structure j1_ {α : Type} (c:α -> α -> Int):Prop where
 val:∀a b,c a b = -1\/c a b=0\/c a b=1
 eqv:∀a b,c a b=0↔a=b
 anti:∀a b,c b a = -c a b
 trans:∀a b d,c a b<=0->c b d<=0->c a d<=0
section
variable {α β : Type} {c:α -> α -> Int} {e:β -> β -> Int}
theorem j1_.refl (h:j1_ c) (a:α):c a a=0:=(h.eqv a a).2 rfl
theorem j1_.lt_trans (h:j1_ c) {a b d:α} (h1:c a b<0) (g:c b d<=0):c a d<0:=by
 have i:=h.trans a b d (by omega) g;rcases Int.lt_or_eq_of_le i with f | f
 ·exact f
 ·have j:=(h.eqv a d).1 f;subst j;have:=h.anti a b;omega
theorem j1_.trans_lt (h:j1_ c) {a b d:α} (h1:c a b<=0) (j:c b d<0):c a d<0:=by
 have g:=h.trans a b d h1 (by omega);rcases Int.lt_or_eq_of_le g with f | f
 ·exact f
 ·have i:=(h.eqv a d).1 f;subst i;have:=h.anti a b;omega
def au_ (x y:Int):Int:=if x=0 then y else x
theorem j1_.prod (h:j1_ c) (k:j1_ e):j1_ (λp q:α × β=>au_ (c p.1 q.1) (e p.2 q.2)) where
 val p q:=by
  unfold au_;split
  ·exact k.val _ _
  ·exact h.val _ _
 eqv p q:=by
  unfold au_;constructor
  ·intro h0;split at h0
   ·rename_i h1;exact Prod.ext ((h.eqv _ _).1 h1) ((k.eqv _ _).1 h0)
   ·rename_i h1;exact absurd h0 h1
  ·rintro rfl;rw[if_pos (h.refl _)];exact k.refl _
 anti p q:=by
  unfold au_;have h1:=h.anti p.1 q.1;have a:=k.anti p.2 q.2;by_cases d:c p.1 q.1=0
  ·rw[if_pos d,if_pos (by omega),a]
  ·rw[if_neg d,if_neg (by omega),h1]
 trans p q r:=by
  unfold au_;intro h1 a;by_cases d:c p.1 q.1=0
  ·rw[if_pos d]at h1;have g:=(h.eqv _ _).1 d;rw[g];by_cases f:c q.1 r.1=0
   ·rw[if_pos f]at a ⊢;exact k.trans _ _ _ h1 a
   ·rw[if_neg f]at a ⊢;exact a
  ·rw[if_neg d]at h1;by_cases f:c q.1 r.1=0
   ·have g:=(h.eqv _ _).1 f;rw[<-g,if_neg d];exact h1
   ·rw[if_neg f]at a;have i:=h.lt_trans (show c p.1 q.1<0 by omega) a;rw[if_neg (by omega)];omega
end
def cw_ (a b:Int):Int:=if a<b then -1 else if b<a then 1 else 0
theorem ej_:j1_ cw_ where
 val a b:=by unfold cw_;split<;>(try split)<;>omega
 eqv a b:=by unfold cw_;split<;>(try split)<;>omega
 anti a b:=by unfold cw_;split<;>(try split)<;>(try split)<;>omega
 trans a b d:=by unfold cw_;split<;>split<;>(try split)<;>(try split)<;>(try split)<;>omega
theorem ue_ (a:List UInt8):Op.bytesLess a a=false:=by
 induction a with
 | nil=>rfl
 | cons x r d=>simp[Op.bytesLess,d]
theorem z7_ (a b:List UInt8):Op.bytesLess a b=true->Op.bytesLess b a=false:=by
 induction a generalizing b with
 | nil=>intro _;cases b<;>rfl
 | cons x r f=>
  cases b with
  | nil=>intro h;cases h
  | cons y s=>
   intro h;simp only[Op.bytesLess,Bool.or_eq_true,Bool.and_eq_true,decide_eq_true_eq,beq_iff_eq]at h;simp only[Op.bytesLess,Bool.or_eq_false_iff,Bool.and_eq_false_iff,decide_eq_false_iff_not,beq_eq_false_iff_ne];rcases h with h | ⟨rfl,h⟩
   ·exact⟨λd=>absurd (UInt8.lt_trans h d) (UInt8.lt_irrefl _),.inl (λe=>by subst e;exact absurd h (UInt8.lt_irrefl _))⟩
   ·exact⟨UInt8.lt_irrefl _,.inr (f s h)⟩
theorem hk_ (a b:List UInt8):Op.bytesLess a b=false->Op.bytesLess b a=false->a=b:=by
 induction a generalizing b with
 | nil=>cases b with
  | nil=>intro _ _;rfl
  | cons y s=>intro h;cases h
 | cons x r i=>
  cases b with
  | nil=>intro _ h;cases h
  | cons y s=>
   intro h1 d;simp only[Op.bytesLess,Bool.or_eq_false_iff,Bool.and_eq_false_iff,decide_eq_false_iff_not,beq_eq_false_iff_ne]at h1 d;have f:x=y:=UInt8.le_antisymm (UInt8.not_lt.1 d.1) (UInt8.not_lt.1 h1.1);subst f;have j:Op.bytesLess r s=false:=by rcases h1.2 with h | h;exact absurd rfl h;exact h
   have g:Op.bytesLess s r=false:=by rcases d.2 with h | h;exact absurd rfl h;exact h
   rw[i s j g]
theorem w1_ (a b d:List UInt8):Op.bytesLess a b=true->Op.bytesLess b d=true->Op.bytesLess a d=true:=by
 induction a generalizing b d with
 | nil=> 
  intro h1 f
  cases d with
  | nil=>cases b<;>cases f
  | cons z t=>rfl
 | cons x r g=>
  cases b with
  | nil=>intro h;cases h
  | cons y s=>
   cases d with
   | nil=>intro _ h;cases h
   | cons z t=>
    intro h1 f;simp only[Op.bytesLess,Bool.or_eq_true,Bool.and_eq_true,decide_eq_true_eq,beq_iff_eq]at h1 f ⊢;rcases h1 with h1 | ⟨rfl,h1⟩
    ·rcases f with f | ⟨rfl,f⟩
     ·exact .inl (UInt8.lt_trans h1 f)
     ·exact .inl h1
    ·rcases f with f | ⟨rfl,f⟩
     ·exact .inl f
     ·exact .inr ⟨rfl,g s t h1 f⟩
def cn_ (a b:List UInt8):Int:=if Op.bytesLess a b=true then -1 else if Op.bytesLess b a=true then 1 else 0
theorem ot_:j1_ cn_ where
 val a b:=by
  unfold cn_;split
  ·exact .inl rfl
  ·split
   ·exact .inr (.inr rfl)
   ·exact .inr (.inl rfl)
 eqv a b:=by
  unfold cn_;constructor
  ·intro h;split at h
   ·cases h
   ·split at h
    ·cases h
    ·exact hk_ a b (by simpa using ‹¬Op.bytesLess a b=true›) (by simpa using ‹¬Op.bytesLess b a=true›)
  ·rintro rfl;rw[ue_,if_neg Bool.false_ne_true,if_neg Bool.false_ne_true]
 anti a b:=by
  unfold cn_
  cases h1:Op.bytesLess a b with
  | true=>rw[z7_ a b h1];rfl
  | false=>
   cases h2:Op.bytesLess b a with
   | true=>rfl
   | false=>rfl
 trans a b d:=by
  unfold cn_
  cases h1:Op.bytesLess a b with
  | true=>
   cases h2:Op.bytesLess b d with
   | true=>rw[w1_ a b d h1 h2,if_pos rfl,if_pos rfl];exact λh _=>h
   | false=>
    cases h3:Op.bytesLess d b with
    | true=>intro _ h;exact absurd h (by decide)
    | false=>
     have:=hk_ b d h2 h3;subst this;rw[h1,if_pos rfl];exact λh _=>h
  | false=>
   cases h2:Op.bytesLess b a with
   | true=>intro h;exact absurd h (by decide)
   | false=>
    have:=hk_ a b h1 h2;subst this;intro _ h;exact h
end
section
open Go Go.RowKit
def R_ (f:Nat->Nat):Array Value:=Array.ofFn (n:=16) λi=>.int .u64 (f i.val:Int)
theorem de_ (f:Nat->Nat) {i:Nat} (h:i<16):(R_ f)[i]?=some (.int .u64 (f i:Int)):=by unfold R_;rw[Array.getElem?_ofFn,dif_pos h]
def WAt (w:World) (b o:Nat) (f:Nat->Nat):Prop:=∀i,i<16->w.cell? ⟨b,o+i,none⟩=some (.int .u64 (f i:Int))
theorem WAt.turn {S:Nat->Prop} {w w':World} {b o:Nat} {f:Nat->Nat} (h:WAt w b o f) (d:Turn S w w') (hb:b<w.heap.size) (a:¬S b):WAt w' b o f:=λi hi=>(d.cell (p:=⟨b,o+i,none⟩) hb a).trans (h i hi)
theorem WAt.congr {w:World} {b o:Nat} {f g:Nat->Nat} (h:WAt w b o f) (a:∀i,i<16->f i=g i):WAt w b o g:=λi hi=>by rw[<-a i hi];exact h i hi
theorem WAt.put {w:World} {b o:Nat} {f:Nat->Nat} (h:WAt w b o f) {i:Nat} (hi:i<16) (m:Nat):WAt (w.setCell ⟨b,o+i,none⟩ (.int .u64 (m:Int))) b o (λj=>if j=i then m else f j):=λj d=>by
 by_cases e:j=i
 ·subst e;simp only[if_pos];exact World.cell?_setCell_same w _ _ (h j d)
 ·simp only[if_neg e];exact (World.cell?_setCell_other w _ _ _ (λa=>by injection a with _ a;omega)).trans (h j d)
theorem kp_ {w:World} {b:Nat} {f:Nat->Nat} {T:TypeId} (h:w.heap[b]?=some (.cells (R_ f) T (0,0))):WAt w b 0 f:=λi hi=>by
 rw[Nat.zero_add];exact (cell_of_heap h i).trans (de_ f hi)
theorem y1_ {S:Nat->Prop} {w w':World} (h:Turn S w w') (m:Nat):Turn S w (w'.drewN m):=⟨h.os,h.tape,h.output,h.size,h.block⟩
theorem w2_ (b o i:Nat):(⟨b,o,none⟩:Addr).add i=⟨b,o+i,none⟩:=by
 unfold Addr.add;split
 ·rename_i h;rw[h];rfl
 ·rfl
theorem kq_ {S:Nat->Prop} {w w':World} {g o:Nat} (h:Turn S w w') (f:g<w.heap.size) (d:¬S g) (a:w.frozen? ⟨g,o,none⟩=false):w'.frozen? ⟨g,o,none⟩=false:=by have hb:=h.block g f d;unfold World.frozen? at *;simpa [hb] using a
theorem dl_ (g n:Nat):(⟨g,0,none⟩:Addr).add n=⟨g,n,none⟩:=by rw[w2_,Nat.zero_add]
theorem u64_in {n:Nat} (h:n<18446744073709551616):IntKind.u64.wrap (n:Int)=(n:Int):=by
 have h1:(n:Int)<18446744073709551616:=by omega
 have a:(0:Int)<=n:=by omega
 unfold IntKind.wrap;simp[IntKind.signed,IntKind.bits];omega
def q0_ (w w':World) (b o:Nat):Prop:=∀j,(j<o\/o+16<=j)->w'.cell? ⟨b,j,none⟩=w.cell? ⟨b,j,none⟩
theorem D2_ (b o:Nat) (f g:Nat->Nat) (w:World) (Y:∀i,i<16->f i<bW) (hg:∀i,i<16->g i<bW) (hw:WAt w b o f) (V:∀j,w.frozen? ⟨b,j,none⟩=false) (hb:b<w.heap.size) :
    Calls Tryz.prog 302 #[.pointer (some ⟨b,o,none⟩),.agg (R_ g)] w λe w'=>e = .returned (.tuple #[])/\∃h,WAt w' b o h/\(∀i,i<16->h i<bW)/\(∃c,pv h 16+c*bW ^ 16=pv f 16+pv g 16)/\Turn (λk=>k=b) w w'/\q0_ w w' b o:=by
 have HF:=q_ Y;have HG:=q_ hg;have a7:=q_ V;obtain⟨z,E⟩:=a_ w.heap.size;obtain⟨u,r⟩:=a_ (w.alloc (.cells (R_ g) 291));have ac:=q_ (show Turn (λk=>k=b) w u from by rw[<-r.o];exact (Turn.refl _ _).alloc _);go_enter Tryz.func302,Tryz.ntmps302
 go_upto_region 1 with fail;rw[r.o,E.o];have ai:b≠z:=by have:=E.o;omega
 have P:=q_ (show b<z from by have:=E.o;omega);have ae:=q_ (show WAt u z 0 g from kp_ (T:=291) (by rw[<-r.o,<-E.o];exact heap_alloc_new w _));have U:=q_ (show z<u.heap.size from by rw[<-r.o,<-E.o];simp)
 have aa:=q_ (show WAt u b o f from λi hi=>by
  rw[<-r.o,World.cell?_alloc_lt w _ _ (by show b<_;exact hb)];exact hw i hi)
 have a5:=q_ (λ(j:Nat)=>(show u.frozen? ⟨b,j,none⟩=false from kq_ (S:=λ_=>False) (by rw[<-r.o];exact (Turn.refl _ _).alloc _) hb (λh=>h) (a7.o j)));have aj:=q_ (show b<u.heap.size from by have:=U.o;have:=P.o;omega);have Z:=q_ (λ(j:Nat)=>(show u.cell? ⟨b,j,none⟩=w.cell? ⟨b,j,none⟩ from by rw[<-r.o];exact World.cell?_alloc_lt w _ _ (by show b<_;exact hb)));clear Y hg hw V hb;go_wp2_with fail;go_loopw [4,7] (λs4 X F=>∃(i c:Nat) (h:Nat->Nat),i<=16/\c<=1/\X = .int .i64 (i:Nat)/\s4 = .int .u64 (c:Nat)/\Q_ (WAt F b o h/\(∀j,j<i->h j<bW)/\(∀j,i<=j->h j=f j)/\pv h i+c*bW ^ i=pv f i+pv g i/\Turn (λk=>k=b) u F/\(∀j,F.frozen? ⟨b,j,none⟩=false)/\q0_ u F b o)) (λ_ X _=>16-(intOf X).toNat)
 case atStart=>exact⟨0,0,f,by omega,by omega,rfl,rfl,q_ ⟨aa.o,λj B=>absurd B (Nat.not_lt_zero _),λ_ _=>rfl,by simp[pv],Turn.refl _ _,a5.o,λ_ _=>rfl⟩⟩
 case round=>
  obtain⟨i,c,h,hi,hc,rfl,rfl,a⟩:=hrel;by_cases v:i<16
  ·obtain⟨x,L⟩:=a_ (f i);obtain⟨y,I⟩:=a_ (g i);have a8:=HF.o i v;have af:=HG.o i v;rw[L.o]at a8;rw[I.o]at af;have ab:bW=1000000000:=rfl;obtain⟨m,M⟩:=a_ ((x+y+c) % 1000000000);obtain⟨q,N⟩:=a_ ((x+y+c) / 1000000000);have a6:m<1000000000:=by rw[<-M.o];exact Nat.mod_lt _ (by decide)
   have ag:q<=1:=by rw[<-N.o];omega
   have c1:wr.cell? ⟨b,o+i,none⟩=some (.int .u64 (x:Int)):=by have:=a.o.1 i v;rw[a.o.2.2.1 i (Nat.le_refl _),L.o]at this;exact this
   have c2:wr.cell? ⟨z,i,none⟩=some (.int .u64 (y:Int)):=by have h1:=(ae.o.turn a.o.2.2.2.2.1 U.o (λe=>by have:=P.o;omega)) i v;rw[Nat.zero_add,I.o]at h1;exact h1
   have f1:wr.frozen? ⟨b,o+i,none⟩=false:=a.o.2.2.2.2.2.1 (o+i);have a1:=w2_ b o i;have a2:=dl_ z i;have e1:(0:Int)<=i:=by omega
   have J:(i:Int)<16:=by omega
   have w0:IntKind.i64.wrap ((i:Int)+1)=(i:Int)+1:=IntWalk.i64_in _ (by omega);obtain⟨S1,O⟩:=a_ (x+y);obtain⟨D,A⟩:=a_ (x+y+c);have ak:IntKind.u64.wrap ((x:Int)+(y:Int))=(S1:Int):=by rw[<-O.o,<-Int.natCast_add];exact u64_in (by omega)
   have w2:IntKind.u64.wrap ((S1:Int)+(c:Int))=(D:Int):=by rw[<-O.o,<-A.o,<-Int.natCast_add];exact u64_in (by omega)
   have r1:Int.tmod (D:Int) 1000000000=(m:Int):=by rw[<-M.o,<-A.o];rfl
   have r2:Int.tdiv (D:Int) 1000000000=(q:Int):=by rw[<-N.o,<-A.o];rfl
   have r3:(D:Int) % 1000000000=(m:Int):=by rw[<-M.o,<-A.o];rfl
   have r4:(D:Int) / 1000000000=(q:Int):=by rw[<-N.o,<-A.o];rfl
   have w3:IntKind.u64.wrap (m:Int)=(m:Int):=u64_in (by omega);have w4:IntKind.u64.wrap (q:Int)=(q:Int):=u64_in (by omega);go_upto_region 5 with fail;go_quiet (fail)
   obtain⟨C,d⟩:=a_ (wr.drewN nq);have d1:C.cell? ⟨b,o+i,none⟩=some (.int .u64 (x:Int)):=by rw[<-d.o];exact c1
   have f2:C.frozen? ⟨b,o+i,none⟩=false:=by rw[<-d.o];exact f1
   have a9:=q_ (show Turn (λk=>k=b) u C from by rw[<-d.o];exact y1_ a.o.2.2.2.2.1 nq);have a3:=q_ (show WAt C b o h from by rw[<-d.o];exact a.o.1);have ad:=q_ (λ(j:Nat)=>(show C.frozen? ⟨b,j,none⟩=false from by rw[<-d.o];exact a.o.2.2.2.2.2.1 j));have ah:=q_ (show q0_ u C b o from by rw[<-d.o];exact a.o.2.2.2.2.2.2);have a4:=q_ (And.intro a.o.2.1 (And.intro a.o.2.2.1 a.o.2.2.2.1));rw[d.o];clear c1 c2 f1 a;go_wp2_with fail;go_roundw
   case measure=>simp[intOf];omega
   case rel=>
    obtain⟨h1,h2,h3⟩:=a4.o;refine⟨i+1,q,λj=>if j=i then m else h j,by omega,ag,by go_num,rfl,q_ ⟨a3.o.put v m,λj B=>?_,λj B=>?_,?_,a9.o.setCell (p:=⟨b,o+i,none⟩) (.inr rfl) _,λj=>?_,λj B=>?_⟩⟩
    ·by_cases e:j=i
     ·simp only[if_pos e];exact a6
     ·simp only[if_neg e];exact h1 j (by omega)
    ·simp only[if_neg (show j≠i by omega)];exact h2 j (by omega)
    ·have W:=J3_ (f:=f) (g:=g) (o:=λj=>if j=i then m else h j) (i:=i) (c:=c) (by
       rw[<-h3];congr 1
       exact ko_ (λj B=>if_neg (by omega))) (by rw[L.o,I.o,ab,M.o];exact if_pos rfl)
     rw[L.o,I.o]at W;rw[show (x+y+c) / bW=q from N.o]at W;exact W
    ·have:=ad.o j;simpa using this
    ·exact (World.cell?_setCell_other C _ _ _ (λJ=>by injection J with _ J;omega)).trans (ah.o j B)
  ·have a0:i=16:=by omega
   have J:¬(i:Int)<16:=by omega
   go_wp2_with fail;go_end0;subst a0;exact⟨rfl,h,a.o.1,a.o.2.1,⟨c,a.o.2.2.2.1⟩,ac.o.trans a.o.2.2.2.2.1,λj B=>(a.o.2.2.2.2.2.2 j B).trans (Z.o j)⟩
theorem D3_ (b o:Nat) (f g:Nat->Nat) (w:World) (hf:∀i,i<16->f i<bW) (hg:∀i,i<16->g i<bW) (hw:WAt w b o f) (Z:∀j,w.frozen? ⟨b,j,none⟩=false) (hb:b<w.heap.size) (a9:pv g 16<=pv f 16) :
    Calls Tryz.prog 304 #[.pointer (some ⟨b,o,none⟩),.agg (R_ g)] w λe w'=>e = .returned (.tuple #[])/\∃h,WAt w' b o h/\(∀i,i<16->h i<bW)/\pv h 16=pv f 16-pv g 16/\Turn (λk=>k=b) w w'/\q0_ w w' b o:=by
 have HF:=q_ hf;have HG:=q_ hg;have aa:=q_ Z;obtain⟨z,F⟩:=a_ w.heap.size;obtain⟨u,r⟩:=a_ (w.alloc (.cells (R_ g) 291));have ae:=q_ (show Turn (λk=>k=b) w u from by rw[<-r.o];exact (Turn.refl _ _).alloc _);go_enter Tryz.func304,Tryz.ntmps304
 go_upto_region 1 with fail;rw[r.o,F.o];have ai:b≠z:=by have:=F.o;omega
 have W:=q_ (show b<z from by have:=F.o;omega);have ag:=q_ (show WAt u z 0 g from kp_ (T:=291) (by rw[<-r.o,<-F.o];exact heap_alloc_new w _));have Y:=q_ (show z<u.heap.size from by rw[<-r.o,<-F.o];simp)
 have ac:=q_ (show WAt u b o f from λi hi=>by
  rw[<-r.o,World.cell?_alloc_lt w _ _ (by show b<_;exact hb)];exact hw i hi)
 have a7:=q_ (λ(j:Nat)=>(show u.frozen? ⟨b,j,none⟩=false from kq_ (S:=λ_=>False) (by rw[<-r.o];exact (Turn.refl _ _).alloc _) hb (λh=>h) (aa.o j)));have aj:=q_ (show b<u.heap.size from by have:=Y.o;have:=W.o;omega);have a3:=q_ (λ(j:Nat)=>(show u.cell? ⟨b,j,none⟩=w.cell? ⟨b,j,none⟩ from by rw[<-r.o];exact World.cell?_alloc_lt w _ _ (by show b<_;exact hb)));clear hf hg hw Z hb;go_wp2_with fail;go_loopw [4,7] (λs4 s7 M=>∃(i c:Nat) (h:Nat->Nat),i<=16/\c<=1/\s7 = .int .i64 (i:Nat)/\s4 = .int .u64 (c:Nat)/\Q_ (WAt M b o h/\(∀j,j<i->h j<bW)/\(∀j,i<=j->h j=f j)/\pv h i+pv g i=pv f i+c*bW ^ i/\Turn (λk=>k=b) u M/\(∀j,M.frozen? ⟨b,j,none⟩=false)/\q0_ u M b o)) (λ_ s7 _=>16-(intOf s7).toNat)
 case atStart=>exact⟨0,0,f,by omega,by omega,rfl,rfl,q_ ⟨ac.o,λj B=>absurd B (Nat.not_lt_zero _),λ_ _=>rfl,by simp[pv],Turn.refl _ _,a7.o,λ_ _=>rfl⟩⟩
 case round=>
  obtain⟨i,c,h,hi,hc,rfl,rfl,a⟩:=hrel;by_cases A:i<16
  ·obtain⟨x,L⟩:=a_ (f i);obtain⟨y,J⟩:=a_ (g i);have X:=HF.o i A;have a0:=HG.o i A;rw[L.o]at X;rw[J.o]at a0;have ad:bW=1000000000:=rfl;obtain⟨m,P⟩:=a_ ((x+1000000000-y-c) % 1000000000);obtain⟨q,U⟩:=a_ ((x+1000000000-y-c) / 1000000000);have a8:m<1000000000:=by rw[<-P.o];exact Nat.mod_lt _ (by decide)
   have am:q<=1:=by rw[<-U.o];omega
   have c1:wr.cell? ⟨b,o+i,none⟩=some (.int .u64 (x:Int)):=by have:=a.o.1 i A;rw[a.o.2.2.1 i (Nat.le_refl _),L.o]at this;exact this
   have c2:wr.cell? ⟨z,i,none⟩=some (.int .u64 (y:Int)):=by have h1:=(ag.o.turn a.o.2.2.2.2.1 Y.o (λe=>by have:=W.o;omega)) i A;rw[Nat.zero_add,J.o]at h1;exact h1
   have f1:wr.frozen? ⟨b,o+i,none⟩=false:=a.o.2.2.2.2.2.1 (o+i);have a1:=w2_ b o i;have a2:=dl_ z i;have e1:(0:Int)<=i:=by omega
   have O:(i:Int)<16:=by omega
   have w0:IntKind.i64.wrap ((i:Int)+1)=(i:Int)+1:=IntWalk.i64_in _ (by omega);obtain⟨S1,V⟩:=a_ (x+1000000000);obtain⟨N,I⟩:=a_ (x+1000000000-y);obtain⟨E,v⟩:=a_ (x+1000000000-y-c);obtain⟨q2,D⟩:=a_ (1-q);have ak:IntKind.u64.wrap ((x:Int)+1000000000)=(S1:Int):=by rw[<-V.o];exact u64_in (n:=x+1000000000) (by omega)
   have w5:IntKind.u64.wrap ((S1:Int)-(y:Int))=(N:Int):=by rw[show (S1:Int)-(y:Int)=(N:Int) by rw[<-V.o,<-I.o];omega];exact u64_in (by rw[<-I.o];omega)
   have w2:IntKind.u64.wrap ((N:Int)-(c:Int))=(E:Int):=by rw[show (N:Int)-(c:Int)=(E:Int) by rw[<-I.o,<-v.o];omega];exact u64_in (by rw[<-v.o];omega)
   have w6:IntKind.u64.wrap ((1:Int)-(q:Int))=(q2:Int):=by rw[show (1:Int)-(q:Int)=(q2:Int) by rw[<-D.o];omega];exact u64_in (by rw[<-D.o];omega)
   have r1:Int.tmod (E:Int) 1000000000=(m:Int):=by rw[<-P.o,<-v.o];rfl
   have r2:Int.tdiv (E:Int) 1000000000=(q:Int):=by rw[<-U.o,<-v.o];rfl
   have r3:(E:Int) % 1000000000=(m:Int):=by rw[<-P.o,<-v.o];rfl
   have r4:(E:Int) / 1000000000=(q:Int):=by rw[<-U.o,<-v.o];rfl
   have w3:IntKind.u64.wrap (m:Int)=(m:Int):=u64_in (by omega);have w4:IntKind.u64.wrap (q:Int)=(q:Int):=u64_in (by omega);go_upto_region 5 with fail;go_quiet (fail)
   obtain⟨C,d⟩:=a_ (wr.drewN nq);have d1:C.cell? ⟨b,o+i,none⟩=some (.int .u64 (x:Int)):=by rw[<-d.o];exact c1
   have f2:C.frozen? ⟨b,o+i,none⟩=false:=by rw[<-d.o];exact f1
   have ab:=q_ (show Turn (λk=>k=b) u C from by rw[<-d.o];exact y1_ a.o.2.2.2.2.1 nq);have a5:=q_ (show WAt C b o h from by rw[<-d.o];exact a.o.1);have af:=q_ (λ(j:Nat)=>(show C.frozen? ⟨b,j,none⟩=false from by rw[<-d.o];exact a.o.2.2.2.2.2.1 j));have ah:=q_ (show q0_ u C b o from by rw[<-d.o];exact a.o.2.2.2.2.2.2);have a6:=q_ (And.intro a.o.2.1 (And.intro a.o.2.2.1 a.o.2.2.2.1));rw[d.o];clear c1 c2 f1 a;go_wp2_with fail;go_roundw
   case measure=>simp[intOf];omega
   case rel=>
    obtain⟨h1,h2,h3⟩:=a6.o;refine⟨i+1,q2,λj=>if j=i then m else h j,by omega,by rw[<-D.o];omega,by go_num,rfl,q_ ⟨a5.o.put A m,λj B=>?_,λj B=>?_,?_,ab.o.setCell (p:=⟨b,o+i,none⟩) (.inr rfl) _,λj=>?_,λj B=>?_⟩⟩
    ·by_cases e:j=i
     ·simp only[if_pos e];exact a8
     ·simp only[if_neg e];exact h1 j (by omega)
    ·simp only[if_neg (show j≠i by omega)];exact h2 j (by omega)
    ·have hp:=(J4_ (f:=f) (g:=g) (o:=λj=>if j=i then m else h j) (i:=i) (b:=c) (by
       rw[<-h3];congr 1
       exact ko_ (λj B=>if_neg (by omega))) (by rw[J.o];exact a0) hc (by rw[L.o];exact X) (by rw[L.o,J.o,ad,P.o];exact if_pos rfl)).1
     rw[L.o,J.o]at hp;rw[show (x+bW-y-c) / bW=q from U.o,D.o]at hp;exact hp
    ·have:=af.o j;simpa using this
    ·exact (World.cell?_setCell_other C _ _ _ (λO=>by injection O with _ O;omega)).trans (ah.o j B)
  ·have a4:i=16:=by omega
   have O:¬(i:Int)<16:=by omega
   go_wp2_with fail;go_end0;subst a4;exact⟨rfl,h,a.o.1,a.o.2.1,w0_ a.o.2.2.2.1 a.o.2.1 a9,ae.o.trans a.o.2.2.2.2.1,λj B=>(a.o.2.2.2.2.2.2 j B).trans (a3.o j)⟩
def uf_ (a b:Nat):Int:=if a<b then -1 else if b<a then 1 else 0
theorem D4_ (f g:Nat->Nat) (w:World) (X:∀i,i<16->f i<bW) (Z:∀i,i<16->g i<bW) :
    Calls Tryz.prog 303 #[.agg (R_ f),.agg (R_ g)] w λe w'=>e = .returned (.int .i64 (uf_ (pv f 16) (pv g 16)))/\Below w.heap.size w w':=by
 have HF:=q_ X;have HG:=q_ Z;obtain⟨z,V⟩:=a_ w.heap.size;obtain⟨F,C⟩:=a_ ((w.alloc (.cells (R_ f) 291)).alloc (.cells (R_ g) 291));have p:=q_ (show Below w.heap.size w F from by rw[<-C.o];exact ((Below.refl _ w).alloc (Nat.le_refl _) _).alloc (by simp) _);have a4:=q_ (show WAt F z 0 f from kp_ (T:=291) (by rw[<-C.o,<-V.o,Below.heap_alloc _ _ _ (by simp)];exact heap_alloc_new w _));have a3:=q_ (show WAt F (z+1) 0 g from kp_ (T:=291) (by rw[<-C.o,<-V.o];have:=heap_alloc_new (w.alloc (.cells (R_ f) 291)) (.cells (R_ g) 291);simpa using this));obtain⟨r,L⟩:=a_ (uf_ (pv f 16) (pv g 16));rw[L.o];clear X Z;go_enter Tryz.func303,Tryz.ntmps303
 go_upto_region 1 with fail;rw[C.o,V.o];go_wp2_with fail;go_loopw [5] (λU wx=>∃(i:Nat) (v:Int) (q:Nat),i<=16/\U = .int .i64 v/\v=(i:Int)-1/\Q_ (wx=F.drewN q/\∀j,i<=j->j<16->f j=g j)) (λU _=>(intOf U+1).toNat)
 case atStart=>exact⟨16,15,0,by omega,rfl,by omega,q_ ⟨rfl,λj h1 u=>by omega⟩⟩
 case round=>
  obtain⟨i,v,q,hi,rfl,hv,B⟩:=hrel;have HV:=q_ hv;have a:=q_ (show Below w.heap.size w wr from by rw[B.o.1];exact⟨p.o.os,p.o.tape,p.o.output,p.o.size,p.o.block⟩);clear hv;by_cases a7:0<i
  ·obtain⟨k,hk⟩:∃k,i=k+1:=⟨i-1,by omega⟩;have a5:v=(k:Int):=by have:=HV.o;omega
   subst a5;have W:=q_ hk;obtain⟨x,N⟩:=a_ (f k);obtain⟨y,M⟩:=a_ (g k);have J:wr.cell? ⟨z,k,none⟩=some (.int .u64 (x:Int)):=by have h1:=a4.o k (by omega);rw[Nat.zero_add,N.o]at h1;rw[B.o.1];exact h1
   have I:wr.cell? ⟨z+1,k,none⟩=some (.int .u64 (y:Int)):=by have h1:=a3.o k (by omega);rw[Nat.zero_add,M.o]at h1;rw[B.o.1];exact h1
   have a1:=dl_ z k;have a2:=dl_ (z+1) k;have e1:(0:Int)<=k:=by omega
   have e2:(k:Int)<16:=by omega
   have D:=q_ B.o.2;have P:=q_ B.o.1;clear B hk;by_cases h1:x<y
   ·have g1:(x:Int)<(y:Int):=by omega
    have E:=q_ (show (-1:Int)=r from by rw[<-L.o];have:=Dx_ (f:=f) (g:=g) (n:=16) (i:=k) HF.o (by omega) (λj h1 u=>D.o j (by have:=W.o;omega) u) (by rw[N.o,M.o];exact h1);unfold uf_;rw[if_pos this]);clear h1;go_upto_region 4 with fail;go_quiet (fail)
    go_wp2_with fail;go_ret;exact⟨congrArg (λv=>Ending.returned (Value.int IntKind.i64 v)) E.o,⟨a.o.os,a.o.tape,a.o.output,a.o.size,a.o.block⟩⟩
   ·have g1:¬(x:Int)<(y:Int):=by omega
    by_cases u:y<x
    ·have g2:(y:Int)<(x:Int):=by omega
     have E:=q_ (show (1:Int)=r from by rw[<-L.o];have:=Dx_ (f:=g) (g:=f) (n:=16) (i:=k) HG.o (by omega) (λj h1 u=>(D.o j (by have:=W.o;omega) u).symm) (by rw[N.o,M.o];exact u);unfold uf_;rw[if_neg (by omega),if_pos this]);clear h1 u;go_upto_region 4 with fail;go_quiet (fail)
     obtain⟨A,d⟩:=a_ (wr.drewN nq);have d1:A.cell? ⟨z,k,none⟩=some (.int .u64 (x:Int)):=by rw[<-d.o];exact J
     have d2:A.cell? ⟨z+1,k,none⟩=some (.int .u64 (y:Int)):=by rw[<-d.o];exact I
     have m:=q_ (show Below w.heap.size w A from by rw[<-d.o];exact⟨a.o.os,a.o.tape,a.o.output,a.o.size,a.o.block⟩);rw[d.o];clear J I;go_upto_region 6 with fail;go_quiet (fail)
     go_wp2_with fail;go_ret;exact⟨congrArg (λv=>Ending.returned (Value.int IntKind.i64 v)) E.o,⟨m.o.os,m.o.tape,m.o.output,m.o.size,m.o.block⟩⟩
    ·have g2:¬(y:Int)<(x:Int):=by omega
     have O:x=y:=by omega
     have HE:=q_ O;clear h1 u O;go_upto_region 4 with fail;go_quiet (fail)
     obtain⟨A,d⟩:=a_ (wr.drewN nq);have d1:A.cell? ⟨z,k,none⟩=some (.int .u64 (x:Int)):=by rw[<-d.o];exact J
     have d2:A.cell? ⟨z+1,k,none⟩=some (.int .u64 (y:Int)):=by rw[<-d.o];exact I
     obtain⟨S,Y⟩:∃S,Q_ (A=F.drewN S):=⟨q+nq,q_ (by rw[<-d.o,P.o,World.drewN_drewN])⟩;have w2:IntKind.i64.wrap ((k:Int)-1)=(k:Int)-1:=IntWalk.i64_in _ (by omega);rw[d.o];clear J I P;go_upto_region 6 with fail;go_quiet (fail)
     go_wp2_with fail;go_roundw
     case measure=>first | (simp[intOf];done) | (simp[intOf];omega)
     case rel=>
      refine⟨k,(k:Int)-1,S+nq,by omega,rfl,rfl,q_ ⟨by rw[Y.o,World.drewN_drewN],λj a8 a0=>?_⟩⟩;by_cases e:j=k
      ·rw[e,N.o,M.o];exact HE.o
      ·exact D.o j (by have:=W.o;omega) a0
  ·have h0:i=0:=by omega
   have a6:v = -1:=by have:=HV.o;omega
   subst a6;have E:=q_ (show (0:Int)=r from by rw[<-L.o];have h1:=ko_ (f:=f) (g:=g) (n:=16) (λj hj=>B.o.2 j (by omega) hj);unfold uf_;rw[h1,if_neg (Nat.lt_irrefl _),if_neg (Nat.lt_irrefl _)]);go_wp2_with fail;go_ret;exact⟨congrArg (λv=>Ending.returned (Value.int IntKind.i64 v)) E.o,a.o⟩
end
section
def bT:Nat:=10
def pt (f:Nat->Nat):Nat->Nat
 | 0=>0
 | i+1=>pt f i+f i*bT ^ i
def ug_ (D:List Nat):Nat:=pt (atD D) D.length
end
section
open Go Go.RowKit
theorem P_ {w w':World} (h:Below w.drew.heap.size w.drew w'):Below w.heap.size w w':=⟨h.os,h.tape,h.output,h.size,h.block⟩
def sgV (b:Bool) (n:Nat):Int:=cond b (-(n:Int)) (n:Int)
end
section
theorem uh_ (x:Nat) (D:List Nat):ug_ (x::D)=x+10*ug_ D:=by
 unfold ug_
 have h:∀n,pt (atD (x::D)) (n+1)=x+10*pt (atD D) n:=by
  intro n;induction n with
  | zero=>simp[pt,atD]
  | succ n a=>
   rw[pt,a,pt,Nat.pow_succ];have h1:atD (x::D) (n+1)=atD D n:=by unfold atD;rw[List.getElem?_cons_succ]
   rw[h1,Nat.mul_add,<-Nat.mul_assoc,show bT=10 from rfl];have d:atD D n*10 ^ n*10=10*(atD D n*10 ^ n):=Nat.mul_comm _ _;omega
 exact h D.length
theorem Hh_ (m:List UInt8):ug_ (m.map e4_)=ax_ m.reverse:=by
 induction m with
 | nil=>rfl
 | cons c r a=>
  rw[List.map_cons,uh_,a,List.reverse_cons,os_];unfold e4_;omega
theorem D5_ (l:List UInt8):ug_ (ci_ l)=ax_ l:=by have h:=Hh_ l.reverse;rw[List.reverse_reverse]at h;unfold ci_;rw[<-h,List.map_reverse]
theorem D6_ {a:List UInt8} (h:1<=a.length) (d:a.all bg_=true) (r:List UInt8):∃c t,a++r=c::t/\c≠45/\c≠43:=by
 cases a with
 | nil=>exact absurd h (by simp)
 | cons c t=>
  rw[List.all_cons,Bool.and_eq_true,c2_]at d;refine⟨c,t++r,rfl,λe=>?_,λe=>?_⟩
  ·rw[e]at d;have:=d.1.1;revert this
   decide
  ·rw[e]at d;have:=d.1.1;revert this
   decide
theorem D7_ {s:ByteArray} {f:Bool} {a b:List UInt8} (h:Dz_ s f a b):dx_ s=f/\(cz_ s).data.toList=a++46::b:=by
 obtain⟨c,t,m,g,j⟩:=D6_ h.la.1 h.da (46::b);have d:=h.eq
 cases f with
 | true=>
  simp only[cond_true,List.singleton_append]at d;have h1:dx_ s=true:=by unfold dx_;rw[d];rfl
  have i:m1_ s=true:=by unfold m1_;rw[d];rfl
  refine⟨h1,?_⟩;unfold cz_;rw[i,cond_true,ByteArray.data_extract,Array.toList_extract,d];have q:s.size=(a++46::b).length+1:=by show s.data.toList.length=_;rw[d,List.length_cons]
  rw[q];simp only[List.extract_eq_take_drop,List.drop_succ_cons,List.drop_zero,Nat.add_sub_cancel];exact List.take_of_length_le (Nat.le_refl _)
 | false=>
  simp only[cond_false,List.nil_append]at d;have h1:dx_ s=false:=by unfold dx_;rw[d,m];exact beq_eq_false_iff_ne.2 (λe=>g (by simpa using e))
  have i:m1_ s=false:=by unfold m1_;rw[d,m];have p:((c::t).head?==some 45)=false:=beq_eq_false_iff_ne.2 (λe=>g (by simpa using e));have o:((c::t).head?==some 43)=false:=beq_eq_false_iff_ne.2 (λe=>j (by simpa using e));rw[p,o];rfl
  refine⟨h1,?_⟩;unfold cz_;rw[i];exact d
theorem z8_ {s:ByteArray} {d:Bool} {a b:List UInt8} (h:Dz_ s d a b):jr_ s=some (d,ci_ (a++b),b.length):=by
 obtain⟨h1,i⟩:=D7_ h;have g:=oa_ a b (z2_ h.da) 0;rw[h.da,h.db]at g;simp only[Bool.and_self,cond_true,Nat.zero_add]at g;have f:(cz_ s).size=a.length+(b.length+1):=by show (cz_ s).data.toList.length=_;rw[i,List.length_append,List.length_cons]
 unfold jr_;rw[i,g];simp only;have e0:decide ((cz_ s).size=0)=false:=decide_eq_false (by rw[f];omega);have q:a.length≠0:=by have:=h.la.1;omega
 have o:a.length≠(cz_ s).size-1:=by have:=h.lb.1;omega
 have p:((some a.length:Option Nat)==some 0)=false:=beq_eq_false_iff_ne.2 (λe=>q (by simpa using e));have j:((some a.length:Option Nat)==some ((cz_ s).size-1))=false:=beq_eq_false_iff_ne.2 (λe=>o (by simpa using e));rw[e0,p,j,h1,t6_ h.da h.db];have m:n5_ (cz_ s).size (some a.length)=b.length:=by show (cz_ s).size-1-a.length=b.length;rw[f];omega
 rw[m];rfl
end
section
theorem Hi_ (b:Bool) (n:Nat):sgV (!b) n = -sgV b n:=by
 cases b
 ·rfl
 ·show (n:Int) = -(-(n:Int));omega
theorem D8_ {b:Bool} {n:Nat}:sgV b n=0↔n=0:=by
 cases b
 ·show (n:Int)=0↔n=0;omega
 ·show -(n:Int)=0↔n=0;omega
end
section
theorem D9_ (O:List Nat):ml_ O=decide (ug_ O=0):=by
 induction O with
 | nil=>rfl
 | cons x r g=>
  have h1:ml_ (x::r)=(x==0&&ml_ r):=rfl;rw[h1,g,uh_];by_cases a:x=0
  ·subst a;by_cases d:ug_ r=0
   ·rw[decide_eq_true d,decide_eq_true (by omega)];rfl
   ·rw[decide_eq_false d,decide_eq_false (by omega)];rfl
  ·have f:(x==0)=false:=beq_eq_false_iff_ne.2 a;have i:¬(x+10*ug_ r=0):=by omega
   rw[f,decide_eq_false i];rfl
end
section
open Go
theorem q1_ (u:Nat):ax_ (Lib.decDigits u)=u:=by
 induction u using Nat.strongRecOn with
 | _ u a=>
  by_cases h:u<10
  ·rw[Lib.decDigits,dif_pos h];show 0*10+((UInt8.ofNat (48+u)).toNat-48)=u;rw[UInt8.toNat_ofNat',Nat.mod_eq_of_lt (by omega)];omega
  ·rw[Lib.decDigits,dif_neg h,os_,a (u / 10) (by omega),UInt8.toNat_ofNat',Nat.mod_eq_of_lt (by omega)];omega
theorem w3_ (u:Nat):(Lib.decDigits u).all bg_=true:=by
 induction u using Nat.strongRecOn with
 | _ u a=>
  by_cases h:u<10
  ·rw[Lib.decDigits,dif_pos h,List.all_cons,List.all_nil,Bool.and_true,c2_,UInt8.toNat_ofNat',Nat.mod_eq_of_lt (by omega)];omega
  ·rw[Lib.decDigits,dif_neg h,List.all_append,a (u / 10) (by omega),Bool.true_and,List.all_cons,List.all_nil,Bool.and_true,c2_,UInt8.toNat_ofNat',Nat.mod_eq_of_lt (by omega)];omega
theorem Ea_ {u:Nat} (h0:0<u):∃c r,Lib.decDigits u=c::r/\c≠48:=by
 induction u using Nat.strongRecOn with
 | _ u a=>
  by_cases h:u<10
  ·rw[Lib.decDigits,dif_pos h];refine⟨_,_,rfl,λe=>?_⟩;have:=congrArg UInt8.toNat e;rw[UInt8.toNat_ofNat',Nat.mod_eq_of_lt (by omega)]at this;have f:(48:UInt8).toNat=48:=rfl;omega
  ·obtain⟨c,r,e,d⟩:=a (u / 10) (by omega) (by omega);rw[Lib.decDigits,dif_neg h,e];exact⟨c,_,rfl,d⟩
theorem y2_ {u:Nat} (h:u<=9223372036854775808):1<=(Lib.decDigits u).length/\(Lib.decDigits u).length<=20:=by
 rw[Lib.decDigits_length];refine⟨Lib.nDigits_pos u,?_⟩;rcases Nat.lt_or_ge 20 (Lib.nDigits u) with h1 | h1
 ·obtain⟨k,f⟩:∃k,Lib.nDigits u=k+1:=⟨Lib.nDigits u-1,by omega⟩;exfalso
  have key:∀k u,Lib.nDigits u=k+1->0<k->10 ^ k<=u:=by
   intro k;induction k with
   | zero=>intro u _ h;omega
   | succ k d=>
    intro u a _;have hb:¬u<10:=λh=>by rw[Lib.nDigits_small h]at a;omega
    rw[Lib.nDigits_big hb]at a;rw[Nat.pow_succ];rcases Nat.eq_zero_or_pos k with h0 | h0
    ·subst h0;omega
    ·have:=d (u / 10) (by omega) h0;omega
  have i:=key k u f (by omega);have j:10 ^ 20<=10 ^ k:=Nat.pow_le_pow_right (by decide) (by omega);have g:(100000000000000000000:Nat)=10 ^ 20:=by decide
  omega
 ·exact h1
def b1_ (n:Int):ByteArray:=⟨(Lib.itoa n++[46,48]).toArray⟩
theorem ou_ (n:Int):Lib.itoa n=cond (decide (n<0)) [45] []++Lib.decDigits n.natAbs:=by
 unfold Lib.itoa;by_cases h:n<0
 ·rw[if_pos h,decide_eq_true h];rfl
 ·rw[if_neg h,decide_eq_false h];have:n.toNat=n.natAbs:=by omega
  rw[this];rfl
theorem ms_ {n:Int} (h0:-9223372036854775808<=n) (h1:n<=9223372036854775807):Dz_ (b1_ n) (decide (n<0)) (Lib.decDigits n.natAbs) [48] where
 eq:=by unfold b1_;rw[ou_];simp
 la:=by have:=y2_ (u:=n.natAbs) (by omega);omega
 lb:=⟨Nat.le_refl _,by decide⟩
 da:=w3_ _
 db:=by decide
theorem w4_ (u:Nat):(u*10 ^ 1+0)*10 ^ 19=u*100000000000000000000:=by
 have e:(10:Nat) ^ 1*10 ^ 19=100000000000000000000:=by decide
 rw[Nat.add_zero,Nat.mul_assoc,e]
theorem hl_ {n:Int} (h0:-9223372036854775808<=n) (h1:n<=9223372036854775807):h7_ (b1_ n)=n*100000000000000000000:=by
 have hz:ax_ [48]=0:=rfl;have d:([48]:List UInt8).length=1:=rfl;rw[sw_ (ms_ h0 h1),d5_,q1_,hz,d];have a:20-1=19:=rfl;rw[a,w4_];by_cases h:n<0
 ·rw[decide_eq_true h,cond_true];have:(n.natAbs:Int) = -n:=by omega
  omega
 ·rw[decide_eq_false h,cond_false];have:(n.natAbs:Int)=n:=by omega
  omega
theorem Hj_ {D:List Nat} {n:Nat} (d:D.length=n+1) (h:n=1\/atD D n≠0):mm_ D 1 D.length=n+1:=by
 rw[d];show (if 1+1<n+1/\atD D n=0 then mm_ D 1 n else n+1)=n+1
 rcases h with h | h
 ·subst h;rfl
 ·rw[if_neg (λa=>h a.2)]
theorem ov_ {n:Int} (h0:-9223372036854775808<=n) (h1:n<=9223372036854775807):c1_ (b1_ n)=true:=by
 have o:=ms_ h0 h1;have F:=z8_ o;obtain⟨a,f⟩:∃a,Lib.decDigits n.natAbs=a:=⟨_,rfl⟩;rw[f]at o F;have N:=o.la;have y:=o.da;have z:ax_ a=n.natAbs:=by rw[<-f];exact q1_ _
 have J:a.length=1\/a[0]'(by omega)≠48:=by
  rcases Nat.eq_zero_or_pos n.natAbs with h | h
  ·left;rw[h]at f;rw[<-f,Lib.decDigits_length,Lib.nDigits_small (by decide)]
  ·right;obtain⟨c,r,e,M⟩:=Ea_ h;rw[f]at e;subst e;exact M
 have D:(ci_ (a++[48])).length=a.length+1:=by rw[mp_];simp
 have v:∀j,j<a.length->atD (ci_ (a++[48])) (a.length-j)=e4_ (a[j]!):=λj L=>by
  rw[nm_ _ (by simp;omega)];congr 1
  simp only[List.length_append,List.length_singleton];rw[getElem!_pos a j L,List.getElem_append_left (by omega)];congr 1
  omega
 have B:atD (ci_ (a++[48])) 0=0:=by rw[nm_ _ (by simp)];simp[e4_]
 have d:mn_ (ci_ (a++[48])) 1=a.length+1:=by
  unfold mn_
  rw[Hj_ D (by
   rcases J with h | h
   ·exact .inl h
   ·right;have C:=v 0 (by omega);rw[Nat.sub_zero]at C;rw[C];intro i;apply h;have hb:bg_ (a[0]'(by omega))=true:=List.all_eq_true.1 y _ (List.getElem_mem _);rw[c2_]at hb;rw[getElem!_pos a 0 (by omega)]at i;unfold e4_ at i;apply UInt8.toNat_inj.1;have O:(48:UInt8).toNat=48:=rfl;omega)]
  exact Nat.max_eq_left (by omega)
 have g:n6_ (ci_ (a++[48])) 1=1:=by
  show (if 0<1/\atD (ci_ (a++[48])) 0=0 then sf_ (ci_ (a++[48])) 1 0 1 else 0)=1
  rw[if_pos ⟨by decide,B⟩];rfl
 have m:e3_ (ci_ (a++[48])) (a.length+1) 1=a:=by
  apply List.ext_getElem
  ·rw[hh_];omega
  ·intro j C i;simp only[e3_,List.getElem_map,List.getElem_range];rw[show a.length+1-1-j=a.length-j by omega,v j i,getElem!_pos a j i];exact t4_ (List.all_eq_true.1 y _ (List.getElem_mem _))
 have u:(decide (n<0) && !ml_ (ci_ (a++[48])))=decide (n<0):=by
  by_cases h:n<0
  ·have I:¬ax_ (a++[48])=0:=by have hz:ax_ [48]=0:=rfl;rw[d5_,z,hz];show ¬n.natAbs*10 ^ 1+0=0;omega
   rw[D9_,D5_,decide_eq_true h,decide_eq_false I];rfl
  ·rw[decide_eq_false h];rfl
 have p:fk_ (b1_ n)=(b1_ n,0):=by
  unfold fk_;rw[F];have E:([48]:List UInt8).length=1:=rfl;simp only[E];have A:ee_ (ci_ (a++[48])) 1=false:=by unfold ee_;rw[d,g,decide_eq_false (by omega),decide_eq_false (by omega)];rfl
  rw[A];simp only[cond_false];have q:n7_ (decide (n<0)) (ci_ (a++[48])) 1=b1_ n:=by unfold n7_ b1_;rw[u,d,g,m,zt_,ou_,f];simp
  rw[q]
 unfold c1_;rw[p];simp
theorem z9_ {a b:Int} (d:-9223372036854775808<=a) (f:a<=9223372036854775807) (j:-9223372036854775808<=b) (i:b<=9223372036854775807) :
    ey_ (b1_ a) (b1_ b)=if a<b then -1 else if b<a then 1 else 0:=by
 unfold ey_;rw[hl_ d f,hl_ j i];by_cases h:a<b
 ·rw[if_pos (by omega),if_pos h]
 ·rw[if_neg (by omega),if_neg h];by_cases g:b<a
  ·rw[if_pos (by omega),if_pos g]
  ·rw[if_neg (by omega),if_neg g]
end
end Go.Proofs.YtefhfadjajcmkaaGreatDoor
