/- Values in order. -/
import Derived.Test.YtefhfadjajcmkaaGreatDoorK3
import Derived.Test.YtefhfadjajcmkaaGreatDoorSH
import Derived.Lib.AppendIntMem
import Derived.Test.YtefhfadjajcmkaaGreatDoorK0
import Derived.Deep.RegionHeld3
import Derived.Deep.MidRow
import Derived.Laws.Tables
import Derived.Test.YtefhfadjajcmkaaGreatDoorK2
set_option linter.unusedVariables false
set_option linter.unusedSimpArgs false
set_option maxRecDepth 100000
set_option maxHeartbeats 8000000
namespace Go.Proofs.YtefhfadjajcmkaaGreatDoor
open Go Go.RowKit Go.Sort
open Go.Lib (hid cell_of_heap)
def GlobT (w : World) : Prop := Lib.TabIs Tryz.prog w "internal/strconv.uint64pow10" .u64 Lib.pow10Tab
theorem below_grow (w:World) (k:Nat) (os:Array Obj):Below w.heap.size w (grow (w.drewN k) os):=
 ⟨rfl,rfl,rfl,by unfold grow;simp,λi hi=>by
  unfold grow
  show (w.heap++os)[i]?=w.heap[i]?
  exact Array.getElem?_append_left hi⟩
theorem format_any (n:Int) (h0:-9223372036854775808≤n) (h1:n≤9223372036854775807) (w:World) (ht:GlobT w) :
    Calls Tryz.prog 305 #[.int .i64 n,.int .i64 10] w λe w'=>e = .returned (.string ⟨(Lib.itoa n).toArray⟩)∧Below w.heap.size w w':=
 (Any.strconv_FormatInt_10 Tryz.laysM173 n h0 h1 w ht).mono λe w' ⟨h1,k,os,h2⟩=>⟨h1,by rw[h2];exact below_grow w k os⟩
theorem globT_under {w w':World} (h:GlobT w) (hb:Below w.heap.size w w'):GlobT w':=Lib.tabBelow_of_tabIs h w' hb
theorem ofIntT_bK (n:Int):ofIntT n=bK (Lib.itoa n++[46,48]):=rfl
theorem itoa_len {n:Int} (h0:-9223372036854775808≤n) (h1:n≤9223372036854775807):(Lib.itoa n).length≤21:=by
 rw[itoa_abs,List.length_append]
 have h2:=(dec_len (u:=n.natAbs) (by omega)).2
 by_cases h:n<0
 ·rw[decide_eq_true h]
  simp only[cond_true,List.length_singleton]
  omega
 ·rw[decide_eq_false h]
  simp only[cond_false,List.length_nil]
  omega
def OfIs (n:Int) (w:World) (e:Ending) (w':World):Prop:=e = .returned (.string (ofIntT n))∧Below w.heap.size w w'
theorem ofInt_any (n:Int) (h0:-9223372036854775808≤n) (h1:n≤9223372036854775807) (w:World) (ht:GlobT w) :
    Calls Tryz.prog 266 #[.int .i64 n] w (OfIs n w):=by
 have hfo:=hid (format_any n h0 h1 w ht)
 have hadd:∀W:World,(Op.stringOp .add (bK (Lib.itoa n)) ⟨#[46,48]⟩).run Tryz.prog W = .ok (.string (ofIntT n)) W:=λW=>by
  have e:ofIntT n=bK (Lib.itoa n)++(⟨#[46,48]⟩:ByteArray):=by
   rw[ofIntT_bK,←bK_app]
   rfl
  rw[e]
  exact run_string_add_sum W _ _ (by rw[bK_size];have:=itoa_len h0 h1;show _+2≤_;omega)
 have e2:(⟨(Lib.itoa n).toArray⟩:ByteArray)=bK (Lib.itoa n):=rfl
 rw[e2]at hfo
 obtain⟨t1,H1⟩:=name_itV (bK (Lib.itoa n))
 obtain⟨t2,H2⟩:=name_itV (ofIntT n)
 have HE:=hid (show ∀w',Below w.heap.size w w'→OfIs n w (.returned (.string t2)) w' from λw' hb=>⟨by rw[H2.out],hb⟩)
 rw[H1.out]at hfo hadd
 rw[H2.out]at hadd
 clear ht h0 h1 e2
 go_enter Tryz.func266,Tryz.ntmps266
 go_wp2_with fail
 refine hfo.out.mono ?_
 rintro e w1 ⟨rfl,hb⟩
 have HB:=hid hb
 clear hb
 go_wp2_with fail
 go_ret
 exact HE.out _ HB.out
theorem dec_step (u:Nat):Lib.decDigits u=if u<10 then [UInt8.ofNat (48+u)] else Lib.decDigits (u / 10)++[UInt8.ofNat (48+u % 10)]:=by
 rw[Lib.decDigits]
 by_cases h:u<10
 ·rw[dif_pos h,if_pos h]
 ·rw[dif_neg h,if_neg h]
theorem one_conv (c:UInt8) (W:World):(convert 197 9 (.slice (some ⟨W.heap.size,0,none⟩) 1 1)).run Tryz.prog (W.alloc (.cells #[.int .u8 (c.toNat:Int)] 5)) = .ok (.string (bK [c])) (W.alloc (.cells #[.int .u8 (c.toNat:Int)] 5)):=by
 have he:Tryz.prog.underlying 5=some (.int .u8):=by kernel_rfl
 have hd:Tryz.prog.underlying 9=some .string:=by kernel_rfl
 exact run_convert_bytes_back _ 197 9 5 ⟨W.heap.size,0,none⟩ 1 [c] Tryz.underlying197 he hd (Lib.bytes_of_row (heap_alloc_new W _) rfl)
structure OfM (w:World) (n:Int) (neg:Bool) (u:Nat) (mm:Int) (l:List UInt8) (wx:World):Prop where
 sg:mm=if neg=true then -(u:Int) else (u:Int)
 ng:neg=decide (n<0)
 dg:Lib.decDigits n.natAbs=Lib.decDigits u++l
 le:u≤9223372036854775808
 ll:l.length≤20
 hb:Below w.heap.size w wx
theorem mod_neg (u:Nat):Int.tmod (-(u:Int)) 10 = -((u % 10:Nat):Int):=by
 rw[Int.neg_tmod]
 rfl
theorem div_neg (u:Nat):Int.tdiv (-(u:Int)) 10 = -((u / 10:Nat):Int):=by
 rw[Int.neg_tdiv]
 rfl
theorem refOfInt_any (n:Int) (h0:-9223372036854775808≤n) (h1:n≤9223372036854775807) (w:World) :
    Calls Tryz.prog 254 #[.int .i64 n] w (OfIs n w):=by
 have hlen:=(dec_len (u:=n.natAbs) (by omega)).2
 have HMO:=hid (show OfM w n (decide (n<0)) n.natAbs n [] w from {
  sg:=by
   by_cases h:n<0
   ·rw[decide_eq_true h,if_pos rfl];omega
   ·rw[decide_eq_false h,if_neg Bool.false_ne_true];omega
  ng:=rfl
  dg:=by simp
  le:=by omega
  ll:=by simp
  hb:=Below.refl _ _ })
 have HLEN:=hid hlen
 obtain⟨neg,Hneg⟩:=name_itV (decide (n<0))
 rw[Hneg.out]at HMO
 clear hlen
 go_enter Tryz.func254,Tryz.ntmps254
 go_wp2_with fail
 go_loopw [3,4] (λs3 s4 wx=>∃(u:Nat) (l:List UInt8) (mm:Int),s3 = .string (bK l)∧s4 = .int .i64 mm∧Hid (OfM w n neg u mm l wx)) (λ_ s4 _=>(intOf s4).natAbs)
 case atStart=>exact⟨n.natAbs,[],n,rfl,rfl,HMO⟩
 case round=>
  obtain⟨u,l,mm,rfl,rfl,hM⟩:=hrel
  obtain⟨d,Hd⟩:=name_itV (u % 10)
  obtain⟨q,Hq⟩:=name_itV (u / 10)
  obtain⟨c,Hc⟩:=name_itV (UInt8.ofNat (48+d))
  have hd9:d≤9:=by rw[←Hd.out];omega
  have hql:q≤9223372036854775808:=by rw[←Hq.out];have:=hM.out.le;omega
  have hcn:c.toNat=48+d:=by rw[←Hc.out,UInt8.toNat_ofNat',Nat.mod_eq_of_lt (by omega)]
  obtain⟨ad,Had⟩:=name_itV (c.toNat)
  have had:ad=48+d:=by rw[←Had.out,hcn]
  have hcv:=hid (λW:World=>one_conv c W)
  have hadd:∀W:World,(Op.stringOp .add (bK [c]) (bK l)).run Tryz.prog W = .ok (.string (bK (c::l))) W:=λW=>by
   have e:bK (c::l)=bK [c]++bK l:=by rw[bK_app];rfl
   rw[e]
   exact run_string_add_sum W _ _ (by rw[bK_size,bK_size];have:=hM.out.ll;simp;omega)
  have v1:IntKind.i64.wrap (48+(d:Int))=(ad:Int):=by rw[IntWalk.i64_in _ (by omega),had];push_cast;rfl
  have v2:IntKind.u8.wrap (ad:Int)=(ad:Int):=IntWalk.u8_in _ (by omega)
  have v3:(48:Int)+(d:Int)=(ad:Int):=by rw[had];push_cast;rfl
  have hadl:ad≤57:=by omega
  rw[Had.out]at hcv
  clear had hcn
  obtain⟨qq,Hqq⟩:=name_itV (if neg=true then -(q:Int) else (q:Int))
  obtain⟨kk,Hkk⟩:=name_itV (if neg=true then -(d:Int) else (d:Int))
  have r1:Int.tmod mm 10=kk:=by
   rw[hM.out.sg,←Hkk.out,←Hd.out]
   cases neg
   ·rfl
   ·exact mod_neg u
  have r2:Int.tdiv mm 10=qq:=by
   rw[hM.out.sg,←Hqq.out,←Hq.out]
   cases neg
   ·rfl
   ·exact div_neg u
  have r3:IntKind.i64.wrap qq=qq:=IntWalk.i64_in _ (by
   rw[←Hqq.out]
   have:=hM.out.le
   have:=Hq.out
   split<;>omega)
  have HSTEP:=hid (show ∀wy,Below w.heap.size w wy→q≠0→OfM w n neg q qq (c::l) wy from λwy hb hq=>{
   sg:=Hqq.out.symm
   ng:=hM.out.ng
   dg:=by
    have h9:=dec_step u
    rw[if_neg (by have:=Hq.out;omega),Hq.out,Hd.out,Hc.out]at h9
    rw[hM.out.dg,h9,List.append_assoc]
    rfl
   le:=hql
   ll:=by
    have h9:=hM.out.dg
    have h8:=dec_step u
    rw[if_neg (by have:=Hq.out;omega),Hq.out,Hd.out,Hc.out]at h8
    rw[h8]at h9
    have h7:=congrArg List.length h9
    have h6:=HLEN.out
    simp only[List.length_append,List.length_singleton]at h7
    simp only[List.length_cons]
    omega
   hb:=hb })
  have HLAST:=hid (show q=0→Lib.decDigits n.natAbs=c::l from λhq=>by
   have h9:=dec_step u
   have hu:u<10:=by have:=Hq.out;omega
   rw[if_pos hu]at h9
   rw[hM.out.dg,h9,←Hc.out,←Hd.out,Nat.mod_eq_of_lt hu]
   rfl)
  have v1':True:=trivial
  have hcw:=hcv.out wr
  by_cases hkk:kk<0
  ·have n1:-kk=(d:Int):=by
     rw[←Hkk.out]at hkk ⊢
     cases neg
     ·simp at hkk
      omega
     ·simp
   have n2:IntKind.i64.wrap (-kk)=(d:Int):=by rw[n1];exact IntWalk.i64_in _ (by omega)
   by_cases hq:q=0
   ·have e8:(qq==0)=true:=by rw[←Hqq.out,hq];cases neg<;>rfl
    have hb:=hid (show Below w.heap.size w (wr.alloc (.cells #[.int .u8 (ad:Int)] 5)) from hM.out.hb.alloc hM.out.hb.size _)
    have HL:=hid (HLAST.out hq)
    have hit:=hid (itoa_abs n)
    rw[HL.out,←hM.out.ng]at hit
    have hof:=hid (ofIntT_bK n)
    rw[hit.out]at hof
    have hll:=hM.out.ll
    have hx1:=hid (hM.out.ng)
    clear hq v1' hM
    cases neg with
    | true=>
     have hn:n<0:=of_decide_eq_true hx1.out.symm
     have ha1:∀W:World,(Op.stringOp .add ⟨#[45]⟩ (bK (c::l))).run Tryz.prog W = .ok (.string (bK (45::c::l))) W:=λW=>by
      have e:bK (45::c::l)=(⟨#[45]⟩:ByteArray)++bK (c::l):=by
       have:=bK_app [45] (c::l)
       exact this.symm
      rw[e]
      exact run_string_add_sum W _ _ (by rw[bK_size];show 1+_≤_;simp;omega)
     have ha2:∀W:World,(Op.stringOp .add (bK (45::c::l)) ⟨#[46,48]⟩).run Tryz.prog W = .ok (.string (ofIntT n)) W:=λW=>by
      have e:ofIntT n=bK (45::c::l)++(⟨#[46,48]⟩:ByteArray):=by
       rw[hof.out]
       have:=bK_app (45::c::l) [46,48]
       exact this.symm
      rw[e]
      exact run_string_add_sum W _ _ (by rw[bK_size];show _+2≤_;simp;omega)
     go_wp2_with fail
     go_ret
     exact⟨rfl,hb.out⟩
    | false=>
     have hn:¬n<0:=of_decide_eq_false hx1.out.symm
     have ha2:∀W:World,(Op.stringOp .add (bK (c::l)) ⟨#[46,48]⟩).run Tryz.prog W = .ok (.string (ofIntT n)) W:=λW=>by
      have e:ofIntT n=bK (c::l)++(⟨#[46,48]⟩:ByteArray):=by
       rw[hof.out]
       have:=bK_app (c::l) [46,48]
       exact this.symm
      rw[e]
      exact run_string_add_sum W _ _ (by rw[bK_size];show _+2≤_;simp;omega)
     go_wp2_with fail
     go_ret
     exact⟨rfl,hb.out⟩
   ·have e8:(qq==0)=false:=by
      rw[←Hqq.out]
      cases neg
      ·simp;omega
      ·simp;omega
    have hst:=hid (HSTEP.out (wr.alloc (.cells #[.int .u8 (ad:Int)] 5)) (hM.out.hb.alloc hM.out.hb.size _) hq)
    have hme:=hid (show qq.natAbs<mm.natAbs from by
     rw[←Hqq.out,hM.out.sg]
     have:=Hq.out
     split<;>omega)
    clear hq
    go_wp2_with fail
    go_roundw
    case measure=>simpa [intOf] using hme.out
    case rel=>exact⟨q,c::l,qq,rfl,rfl,hst⟩
  ·have n3:kk=(d:Int):=by
     rw[←Hkk.out]at hkk ⊢
     cases neg
     ·rfl
     ·simp at hkk
      simp
      omega
   rw[n3]at r1
   have n4:¬(d:Int)<0:=by omega
   clear hkk n3
   by_cases hq:q=0
   ·have e8:(qq==0)=true:=by rw[←Hqq.out,hq];cases neg<;>rfl
    have hb:=hid (show Below w.heap.size w (wr.alloc (.cells #[.int .u8 (ad:Int)] 5)) from hM.out.hb.alloc hM.out.hb.size _)
    have HL:=hid (HLAST.out hq)
    have hit:=hid (itoa_abs n)
    rw[HL.out,←hM.out.ng]at hit
    have hof:=hid (ofIntT_bK n)
    rw[hit.out]at hof
    have hll:=hM.out.ll
    have hx1:=hid (hM.out.ng)
    clear hq v1' hM
    cases neg with
    | true=>
     have hn:n<0:=of_decide_eq_true hx1.out.symm
     have ha1:∀W:World,(Op.stringOp .add ⟨#[45]⟩ (bK (c::l))).run Tryz.prog W = .ok (.string (bK (45::c::l))) W:=λW=>by
      have e:bK (45::c::l)=(⟨#[45]⟩:ByteArray)++bK (c::l):=by
       have:=bK_app [45] (c::l)
       exact this.symm
      rw[e]
      exact run_string_add_sum W _ _ (by rw[bK_size];show 1+_≤_;simp;omega)
     have ha2:∀W:World,(Op.stringOp .add (bK (45::c::l)) ⟨#[46,48]⟩).run Tryz.prog W = .ok (.string (ofIntT n)) W:=λW=>by
      have e:ofIntT n=bK (45::c::l)++(⟨#[46,48]⟩:ByteArray):=by
       rw[hof.out]
       have:=bK_app (45::c::l) [46,48]
       exact this.symm
      rw[e]
      exact run_string_add_sum W _ _ (by rw[bK_size];show _+2≤_;simp;omega)
     go_wp2_with fail
     go_ret
     exact⟨rfl,hb.out⟩
    | false=>
     have hn:¬n<0:=of_decide_eq_false hx1.out.symm
     have ha2:∀W:World,(Op.stringOp .add (bK (c::l)) ⟨#[46,48]⟩).run Tryz.prog W = .ok (.string (ofIntT n)) W:=λW=>by
      have e:ofIntT n=bK (c::l)++(⟨#[46,48]⟩:ByteArray):=by
       rw[hof.out]
       have:=bK_app (c::l) [46,48]
       exact this.symm
      rw[e]
      exact run_string_add_sum W _ _ (by rw[bK_size];show _+2≤_;simp;omega)
     go_wp2_with fail
     go_ret
     exact⟨rfl,hb.out⟩
   ·have e8:(qq==0)=false:=by
      rw[←Hqq.out]
      cases neg
      ·simp;omega
      ·simp;omega
    have hst:=hid (HSTEP.out (wr.alloc (.cells #[.int .u8 (ad:Int)] 5)) (hM.out.hb.alloc hM.out.hb.size _) hq)
    have hme:=hid (show qq.natAbs<mm.natAbs from by
     rw[←Hqq.out,hM.out.sg]
     have:=Hq.out
     split<;>omega)
    clear hq
    go_wp2_with fail
    go_roundw
    case measure=>simpa [intOf] using hme.out
    case rel=>exact⟨q,c::l,qq,rfl,rfl,hst⟩
end Go.Proofs.YtefhfadjajcmkaaGreatDoor
namespace Go.Proofs.YtefhfadjajcmkaaGreatDoor
open Go Go.RowKit
open Go.Lib (hid cell_of_heap)
structure Boxed (p:Prop):Prop where
 out:p
section
variable {P:Program} {md:Region.Mode} {ops:Array Oper} {Q:Exit→Act→World→Prop} {S:World→Prop} {fuel:Nat} {listed:Array Bool} {a:Act} {w:World}
def runsTo (P:Program) (ops:Array Oper) (i:Nat) (a:Act) (w:World) (v:Value):Prop:=
 match ops[i]? with
 | some o=>(execOp a.eval o).run P w = .ok (.value v) w
 | none=>False
def wpAt (P:Program) (ops:Array Oper) (i:Nat) (a:Act) (w:World) (K:Act→World→Prop) (Q:Exit→Act→World→Prop):Prop:=
 match ops[i]? with
 | some o=>Oper.wp P o a w K Q
 | none=>False
def wantedNo (ops:Array Oper) (i:Nat) (a:Act):Option Bool:=ops[i]?.map λo=>Region.wanted o (yielded ops a.tmps)
theorem take_want (i d:Nat) (v:Value) (hd:ops[i]?.map (·.dst)=some (some d)) (hw:wantedNo ops i a=some true) (hs:Region.noSelect ops=true) (hf:Region.free md ops listed i=true) (hr:(Region.ready md ops listed).contains i=true)
    (hQ:∀c a w,Q (.panic c) (a.put (some d) v) w→Q (.panic c) a w) (hS:S w) (hv:∀w,S w→runsTo P ops i a w v)
    (h:S w→Boxed (wpAnyH P md ops Q S fuel (listed.setIfInBounds i true) (a.put (some d) v) w)):Boxed (wpAnyH P md ops Q S (fuel+1) listed a w):=by
 unfold wantedNo at hw
 cases ho:ops[i]? with
 | none=>rw[ho]at hd;cases hd
 | some o=>
  rw[ho]at hd hw
  simp only[Option.map_some,Option.some.injEq]at hd hw
  exact⟨wpAnyH_take ho hs hf hr (λc a w h=>hQ c a w (by rw[←hd];exact h)) (.inl ⟨hw,λw hw=>by have:=hv w hw;unfold runsTo at this;rw[ho]at this;exact this⟩) hS (by rw[hd];exact (h hS).out)⟩
theorem take_call (i:Nat) (hr:Region.ready md ops listed=[i]) (hw:wantedNo ops i a=some true)
    (h:∀K':Act→World→Prop,Shut (∀a w,S w→(S w→Boxed (wpAnyH P md ops Q S fuel (listed.setIfInBounds i true) a w))→K' a w)→wpAt P ops i a w K' Q):Boxed (wpAnyH P md ops Q S (fuel+1) listed a w):=by
 unfold wantedNo at hw
 cases ho:ops[i]? with
 | none=>rw[ho]at hw;cases hw
 | some o=>
  rw[ho]at hw
  simp only[Option.map_some,Option.some.injEq]at hw
  refine⟨wpAnyH_ready hr (by simp) (AllReadyH.cons ho (λK hK=>?_) AllReadyH.nil)⟩
  rw[if_pos hw]
  have:=h K (λa w hS hB=>hK.out a w hS (λhS=>(hB hS).out))
  unfold wpAt at this
  rw[ho]at this
  exact this
theorem take_two (i j:Nat) (hr:Region.ready md ops listed=[i,j]) (hwi:wantedNo ops i a=some true) (hwj:wantedNo ops j a=some true)
    (hi:∀K':Act→World→Prop,Shut (∀a w,S w→(S w→Boxed (wpAnyH P md ops Q S fuel (listed.setIfInBounds i true) a w))→K' a w)→wpAt P ops i a w K' Q)
    (hj:∀K':Act→World→Prop,Shut (∀a w,S w→(S w→Boxed (wpAnyH P md ops Q S fuel (listed.setIfInBounds j true) a w))→K' a w)→wpAt P ops j a w K' Q):Boxed (wpAnyH P md ops Q S (fuel+1) listed a w):=by
 unfold wantedNo at hwi hwj
 cases hoi:ops[i]? with
 | none=>rw[hoi]at hwi;cases hwi
 | some o=>
  cases hoj:ops[j]? with
  | none=>rw[hoj]at hwj;cases hwj
  | some p=>
   rw[hoi]at hwi
   rw[hoj]at hwj
   simp only[Option.map_some,Option.some.injEq]at hwi hwj
   refine⟨wpAnyH_ready hr (by simp) (AllReadyH.cons hoi (λK hK=>?_) (AllReadyH.cons hoj (λK hK=>?_) AllReadyH.nil))⟩
   ·rw[if_pos hwi]
    have:=hi K (λa w hS hB=>hK.out a w hS (λhS=>(hB hS).out))
    unfold wpAt at this
    rw[hoi]at this
    exact this
   ·rw[if_pos hwj]
    have:=hj K (λa w hS hB=>hK.out a w hS (λhS=>(hB hS).out))
    unfold wpAt at this
    rw[hoj]at this
    exact this
theorem aT {α : Type _} (l:List α) (i:Nat) (a:α):l.toArray.setIfInBounds i a=(l.set i a).toArray:=List.setIfInBounds_toArray ..
theorem aZ {α : Type _} (x:α) (l:List α) (a:α):(x::l).set 0 a=a::l:=List.set_cons_zero ..
theorem aS {α : Type _} (x:α) (l:List α) (n:Nat) (a:α):(x::l).set (n+1) a=x::l.set n a:=List.set_cons_succ ..
theorem tkW (i d:Nat) (v:Value) (hS:S w) (hv:∀w,S w→runsTo P ops i a w v)
    (h:S w→Boxed (wpAnyH P md ops Q S fuel (listed.setIfInBounds i true) (a.put (some d) v) w)) (hd:ops[i]?.map (·.dst)=some (some d):=by kernel_rfl) (hw:wantedNo ops i a=some true:=by rfl) (hs:Region.noSelect ops=true:=by kernel_rfl) (hf:Region.free md ops listed i=true:=by kernel_rfl) (hr:(Region.ready md ops listed).contains i=true:=by kernel_rfl)
    (hQ:∀c a w,Q (.panic c) (a.put (some d) v) w→Q (.panic c) a w:=by exact λ_ _ _ h=>h):Boxed (wpAnyH P md ops Q S (fuel+1) listed a w):=take_want i d v hd hw hs hf hr hQ hS hv h
theorem tkV (i d:Nat) (v:Value) (hS:S w)
    (h:S w→Boxed (wpAnyH P md ops Q S fuel (listed.setIfInBounds i true) (a.put (some d) v) w)) (hv:∀w,S w→runsTo P ops i a w v:=by intro w hSw;unfold runsTo;go_simp) (hd:ops[i]?.map (·.dst)=some (some d):=by kernel_rfl) (hw:wantedNo ops i a=some true:=by rfl) (hs:Region.noSelect ops=true:=by kernel_rfl) (hf:Region.free md ops listed i=true:=by kernel_rfl) (hr:(Region.ready md ops listed).contains i=true:=by kernel_rfl)
    (hQ:∀c a w,Q (.panic c) (a.put (some d) v) w→Q (.panic c) a w:=by exact λ_ _ _ h=>h):Boxed (wpAnyH P md ops Q S (fuel+1) listed a w):=take_want i d v hd hw hs hf hr hQ hS hv h
theorem tkC (i:Nat)
    (h:∀K':Act→World→Prop,Shut (∀a w,S w→(S w→Boxed (wpAnyH P md ops Q S fuel (listed.setIfInBounds i true) a w))→K' a w)→wpAt P ops i a w K' Q) (hr:Region.ready md ops listed=[i]:=by kernel_rfl) (hw:wantedNo ops i a=some true:=by rfl):Boxed (wpAnyH P md ops Q S (fuel+1) listed a w):=take_call i hr hw h
end
theorem turn_cells {S:Nat→Prop} {a:World} (g:Nat) (hp:a.heap.size≤g∨S g) (vs:List Value):∀(o:Nat) {w:World},Turn S a w→Turn S a (w.setCells g o vs):=by
 induction vs with
 | nil=>intro o w h;exact h
 | cons v r ih=>intro o w h;exact ih (o+1) (h.setCell (p:=⟨g,o,none⟩) hp v)
theorem cells_heap {g:Nat} {T:TypeId} (vs:List Value):∀(o:Nat) {w:World} {c:Array Value},w.heap[g]?=some (.cells c T (0,0)) →
    ∃c':Array Value,(w.setCells g o vs).heap[g]?=some (.cells c' T (0,0))∧c'.size=c.size∧∀j,c'[j]?=if o≤j∧j<o+vs.length∧j<c.size then vs[j-o]? else c[j]?:=by
 induction vs with
 | nil=>
  intro o w c h
  refine⟨c,h,rfl,λj=>?_⟩
  rw[if_neg (by simp;omega)]
 | cons v r ih=>
  intro o w c h
  obtain⟨c',h1,h2,h3⟩:=ih (o+1) (heap_setCell_same w g o c T v h)
  rw[Array.size_setIfInBounds]at h2
  refine⟨c',h1,h2,λj=>?_⟩
  rw[h3 j,Array.size_setIfInBounds,List.length_cons]
  by_cases e:j=o
  ·subst e
   rw[if_neg (by omega),Array.getElem?_setIfInBounds,if_pos rfl]
   by_cases hlt:j<c.size
   ·rw[if_pos hlt,if_pos ⟨Nat.le_refl _,by omega,hlt⟩,Nat.sub_self]
    rfl
   ·rw[if_neg hlt,if_neg (by omega),Array.getElem?_eq_none (by omega)]
  ·by_cases hin:o+1≤j∧j<o+1+r.length∧j<c.size
   ·rw[if_pos hin,if_pos ⟨by omega,by omega,hin.2.2⟩]
    obtain⟨t,ht⟩:∃t,j-o=t+1:=⟨j-o-1,by omega⟩
    rw[ht,List.getElem?_cons_succ]
    congr 1
    omega
   ·rw[if_neg hin,if_neg (by omega),Array.getElem?_setIfInBounds,if_neg (λe2=>e e2.symm)]
theorem cells_whole {w:World} {g:Nat} {T:TypeId} {c c':Array Value} (h:w.heap[g]?=some (.cells c T (0,0))) (hl:c'.size=c.size):(w.setCells g 0 c'.toList).heap[g]?=some (.cells c' T (0,0)):=by
 obtain⟨d,h1,h2,h3⟩:=cells_heap c'.toList 0 h
 rw[h1]
 congr 2
 apply Array.ext_getElem?
 intro j
 rw[h3 j,Array.length_toList,Nat.zero_add,Nat.sub_zero,Array.getElem?_toList]
 by_cases hj:j<c.size
 ·rw[if_pos ⟨Nat.zero_le _,by omega,hj⟩]
 ·rw[if_neg (λh=>hj h.2.2),Array.getElem?_eq_none (by omega),Array.getElem?_eq_none (by omega)]
theorem range_row {w:World} {g:Nat} {c:Array Value} {T:TypeId} {fr:Nat×Nat} (h:w.heap[g]?=some (.cells c T fr)):w.rangeAt g 0 c.toList:=λj v hv=>by
 rw[Nat.zero_add]
 exact (cell_of_row w g j c T fr h).trans (by rw[←Array.getElem?_toList];exact hv)
theorem there_row {w:World} {g:Nat} {c:Array Value} {T:TypeId} {n:Nat} (h:w.heap[g]?=some (.cells c T (0,0))) (hn:n≤c.size):w.there g 0 n:=λj hj=>by
 rw[Nat.zero_add]
 exact⟨by rw[cell_of_row w g j c T _ h,Array.getElem?_eq_getElem (by omega)];rfl,frozen_of_row _ _ _ _ _ h⟩
theorem ld_run {P:Program} {w:World} {g:Nat} {c:Array Value} {T:TypeId} {fr:Nat×Nat} (h:w.heap[g]?=some (.cells c T fr)) (ty:TypeId) (d:TypeDesc) (hu:P.underlying ty=some d) (hd:d.isRow=true) (hi:(P.info? ty).map (·.size)=some c.size) :
    (Instr.loadAt ty (.pointer (some ⟨g,0,none⟩))).run P w = .ok (.agg c) w:=by
 have:=run_loadAt_mid (P:=P) w g 0 ty c.toList d (range_row h) hu hd (by rw[Array.length_toList];exact hi)
 rwa [Array.toArray_toList]at this
section
variable {P:Program} {ops:Array Oper} {rest:List Oper} {op:Oper} {a:Act} {w:World} {Q:Exit→Act→World→Prop}
theorem st_row (hgd:op.guard=none) (ty:TypeId) (x y:Operand) (ho:op.op = .store ty x y) (g:Nat) (c c':Array Value) (T:TypeId) (hx:a.eval x = .pointer (some ⟨g,0,none⟩)) (hy:a.eval y = .agg c')
    (hg:w.heap[g]?=some (.cells c T (0,0))) (hl:c'.size=c.size) (hi:(P.info? ty).map (·.size)=some c'.size) (h1:c'.all (·.oneCell')=true)
    (h:∀w',w'.heap[g]?=some (.cells c' T (0,0))→Turn (λb=>b=g) w w'→wpList P ops Q rest (a.put op.dst undef) w'):wpList P ops Q (op::rest) a w:=
 wpList_store_mid hgd ty x y ho g 0 c' hx hy (there_row hg (by omega)) hi h1 (h _ (cells_whole hg hl) (turn_cells (S:=λb=>b=g) g (.inr rfl) _ 0 (Turn.refl _ w)))
theorem at_dst (d:Option Nat) {o1:Op} {o2:TypeId} {o3:String} {o4:Array Edge} {o5:Option (Nat×Bool)} (h:wpList P ops Q (⟨d,o1,o2,o3,o4,o5⟩::rest) a w):wpList P ops Q (⟨d,o1,o2,o3,o4,o5⟩::rest) a w:=h
theorem at_st (t:Nat) {ty o2:TypeId} {y:Operand} {d:Option Nat} {o3:String} {o4:Array Edge} {o5:Option (Nat×Bool)} (h:wpList P ops Q (⟨d,.store ty (.tmp t) y,o2,o3,o4,o5⟩::rest) a w):wpList P ops Q (⟨d,.store ty (.tmp t) y,o2,o3,o4,o5⟩::rest) a w:=h
theorem ld_arm (hgd:op.guard=none) (ty:TypeId) (x:Operand) (ho:op.op = .load ty x) (b o:Nat) (hx:a.eval x = .pointer (some ⟨b,o,none⟩)) (c:Array Value) (d:TypeDesc) (hc:w.rangeAt b o c.toList)
    (hu:P.underlying ty=some d) (hd:d.isRow=true) (hi:(P.info? ty).map (·.size)=some c.size) (h:wpList P ops Q rest (a.put op.dst (.agg c)) w):wpList P ops Q (op::rest) a w:=
 wpList_load_mid hgd ty x ho b o hx c.toList d hc hu hd (by rw[Array.length_toList];exact hi) (by rw[Array.toArray_toList];exact h)
theorem st_rowW {K:Act→World→Prop} (ty:TypeId) (x y:Operand) (ho:op.op = .store ty x y) (g:Nat) (c c':Array Value) (T:TypeId) (hx:a.eval x = .pointer (some ⟨g,0,none⟩)) (hy:a.eval y = .agg c')
    (hg:w.heap[g]?=some (.cells c T (0,0))) (hl:c'.size=c.size) (hi:(P.info? ty).map (·.size)=some c'.size) (h1:c'.all (·.oneCell')=true)
    (h:∀w',w'.heap[g]?=some (.cells c' T (0,0))→Turn (λb=>b=g) w w'→K (a.put op.dst undef) w'):op.wp P a w K Q:=
 wp_store_mid ty x y ho g 0 c' hx hy (there_row hg (by omega)) hi h1 (h _ (cells_whole hg hl) (turn_cells (S:=λb=>b=g) g (.inr rfl) _ 0 (Turn.refl _ w)))
theorem val_arm (hgd:op.guard=none) (v:Value) (hv:(execOp a.eval op).run P w = .ok (.value v) w) (h:wpList P ops Q rest (a.put op.dst v) w):wpList P ops Q (op::rest) a w:=
 wpList_plain hgd λ_ hK=>by unfold Oper.wp;rw[hv];exact hK _ _ h
theorem build_arm (hgd:op.guard=none) (ty:TypeId) (parts:Array (Nat×Operand)) (ho:op.op = .build ty parts) (ps:Array (Nat×Value)) (hps:(parts.map λ(i,x)=>(i,a.eval x))=ps) (v:Value) (hv:(Instr.build ty ps).run P w = .ok v w) (h:wpList P ops Q rest (a.put op.dst v) w):wpList P ops Q (op::rest) a w:=
 wpList_plain hgd λ_ hK=>by
  unfold Oper.wp execOp
  simp only[ho]
  have e:(Instr.build ty (parts.map λ(i,x)=>(i,a.eval x))).run P w = .ok v w:=by rw[hps];exact hv
  simp only[Sem.run_bind,Sem.run_pure,e,Result.andThen_ok]
  exact hK _ _ h
theorem val_of {m:Sem Value} {v:Value} (h:m.run P w = .ok v w):(do pure (Next.value (←m)):Sem Next).run P w = .ok (.value v) w:=by
 simp[h]
end
theorem Turn.heap {S:Nat→Prop} {w w':World} {g:Nat} {o:Obj} (ht:Turn S w w') (h:w.heap[g]?=some o) (hS:¬S g):w'.heap[g]?=some o:=(ht.block g (blk_lt h) hS).trans h
def TwoIs (n1 n2:Bool) (D E:List Nat) (S1 S2:Nat) (w:World) (e:Ending) (w':World):Prop:=
 ∃A ca B cb,e = .returned (.tuple #[.agg #[.bool n1,.slice A D.length ca,.int .i64 (S1:Int)],.agg #[.bool n2,.slice B E.length cb,.int .i64 (S2:Int)],.bool true])∧Below w.heap.size w w'∧IntsAt w' A D∧IntsAt w' B E
theorem ints_far {w:World} {A:Option Addr} {D:List Nat} (h:IntsAt w A D) (h2:2≤D.length) {z:Nat} {T:TypeId} {fr:Nat×Nat} {x:Bool} {B:Option Addr} {l c:Nat} {n:Int} (hz:w.heap[z]?=some (.cells #[.bool x,.slice B l c,.int .i64 n] T fr)):∀ad,A=some ad→ad.block≠z:=by
 intro ad hA e
 obtain⟨ad0,h0,_,c0⟩:=h 0 D[0] (List.getElem?_eq_getElem (by omega))
 obtain⟨ad1,h1,_,c1⟩:=h 1 D[1] (List.getElem?_eq_getElem (by omega))
 rw[hA]at h0 h1
 injection h0 with h0
 injection h1 with h1
 subst h0
 subst h1
 obtain⟨b,o,sp⟩:=ad
 subst e
 have key:∀i v,World.cell? w ((⟨b,o,sp⟩:Addr).add i)=some v→(#[Value.bool x,.slice B l c,.int .i64 n]:Array Value)[o+i]?=some v:=λi v hv=>by
  have hb:((⟨b,o,sp⟩:Addr).add i).block=b:=by unfold Addr.add;split<;>rfl
  have ho:((⟨b,o,sp⟩:Addr).add i).off=o+i:=by
   unfold Addr.add
   split
   ·rename_i hi;rw[hi];rfl
   ·rfl
  unfold World.cell? at hv
  rw[hb,hz]at hv
  simp only at hv
  rw[ho]at hv
  split at hv
  ·cases hv
  ·exact hv
 have k0:=key 0 _ c0
 have k1:=key 1 _ c1
 have l0:=(Array.getElem?_eq_some_iff.1 k0).1
 have l1:=(Array.getElem?_eq_some_iff.1 k1).1
 simp only[List.size_toArray,List.length_cons,List.length_nil]at l0 l1
 rcases (by omega:o=0∨o=1) with e | e
 ·subst e;simp at k0
 ·subst e;simp at k0
theorem IntsAt.turn2 {w w':World} {S:Nat→Prop} {A:Option Addr} {D:List Nat} (h:IntsAt w A D) (ht:Turn S w w') (hf:∀ad,A=some ad→¬S ad.block):IntsAt w' A D:=λi x hx=>by
 obtain⟨ad,hA,hl,hc⟩:=h i x hx
 have hb:(ad.add i).block=ad.block:=by unfold Addr.add;split<;>rfl
 exact⟨ad,hA,Nat.lt_of_lt_of_le hl ht.size,(ht.cell (p:=ad.add i) hl (by rw[hb];exact hf ad hA)).trans hc⟩
theorem two_any (s t:ByteArray) (hs:decB s=true) (ht:decB t=true) (hsl:s.size≤1000) (htl:t.size≤1000) (n1 n2:Bool) (D E:List Nat) (S1 S2:Nat) (hD2:2≤D.length) (hE2:2≤E.length) (hp:parseT s=some (n1,D,S1)) (hq:parseT t=some (n2,E,S2)) (w:World) :
    Calls Tryz.prog 251 #[.string s,.string t] w (TwoIs n1 n2 D E S1 S2 w):=by
 have HP:=hid hp
 have HQ:=hid hq
 have HDS:=hid (λ(W:World)=>refDec_any s (by omega) W)
 have HDT:=hid (λ(W:World)=>refDec_any t (by omega) W)
 rw[hs]at HDS
 rw[ht]at HDT
 obtain⟨z,Hz⟩:=name_itV w.heap.size
 obtain⟨w1,HW1⟩:=name_itV ((w.alloc (.cells #[.bool false,.slice none 0 0,.int .i64 0] 277)).alloc (.cells #[.bool false,.slice none 0 0,.int .i64 0] 277))
 have HB1:=hid (show Below w.heap.size w w1 from by rw[←HW1.out];exact two_new w _ _)
 have HX1:=hid (show w1.heap[z]?=some (.cells #[.bool false,.slice none 0 0,.int .i64 0] 277 (0,0)) from by
  rw[←HW1.out,←Hz.out,Below.heap_alloc _ _ _ (by simp)]
  exact heap_alloc_new w _)
 have HY1:=hid (show w1.heap[z+1]?=some (.cells #[.bool false,.slice none 0 0,.int .i64 0] 277 (0,0)) from by
  rw[←HW1.out,←Hz.out]
  have:=heap_alloc_new (w.alloc (.cells #[.bool false,.slice none 0 0,.int .i64 0] 277)) (.cells #[.bool false,.slice none 0 0,.int .i64 0] 277)
  simpa using this)
 have hpa:=hid (λ(W:World)=>parsed_any s (by omega) W)
 have hpb:=hid (λ(W:World)=>parsed_any t (by omega) W)
 clear hs ht hp hq
 obtain⟨n,Hn⟩:=name_itV D.length
 obtain⟨m,Hm⟩:=name_itV E.length
 go_enter Tryz.func251,Tryz.ntmps251
 go_upto_region 1 with fail
 rw[HW1.out,Hz.out]
 go_wp2_with fail
 refine (hpa.out w1).mono ?_
 rintro e w2 ⟨hb2,hm2⟩
 rw[HP.out]at hm2
 obtain⟨A,ca,rfl,hi2⟩:=hm2
 rw[Hn.out]
 have HB2:=hid (HB1.out.trans (hb2.mono HB1.out.size))
 have HB12:=hid hb2
 have HI2:=hid hi2
 obtain⟨za,Hza⟩:=name_itV w2.heap.size
 obtain⟨w3,HW3⟩:=name_itV (w2.alloc (.cells #[.bool n1,.slice A n ca,.int .i64 (S1:Int)] 277))
 have HB23:=hid (show Below w2.heap.size w2 w3 from by rw[←HW3.out];exact (Below.refl _ _).alloc (Nat.le_refl _) _)
 have HA3:=hid (show w3.heap[za]?=some (.cells #[.bool n1,.slice A n ca,.int .i64 (S1:Int)] 277 (0,0)) from by rw[←HW3.out,←Hza.out];exact heap_alloc_new w2 _)
 clear hb2 hi2
 go_upto_region 2 with fail
 rw[HW3.out,Hza.out]
 go_wp2_with fail
 refine (hpb.out w3).mono ?_
 rintro e w4 ⟨hb4,hm4⟩
 rw[HQ.out]at hm4
 obtain⟨B,cb,rfl,hi4⟩:=hm4
 rw[Hm.out]
 have HB34:=hid hb4
 have HI4:=hid hi4
 obtain⟨zb,Hzb⟩:=name_itV w4.heap.size
 obtain⟨w5,HW5⟩:=name_itV (w4.alloc (.cells #[.bool n2,.slice B m cb,.int .i64 (S2:Int)] 277))
 have HB45:=hid (show Below w4.heap.size w4 w5 from by rw[←HW5.out];exact (Below.refl _ _).alloc (Nat.le_refl _) _)
 have HV5:=hid (show w5.heap[zb]?=some (.cells #[.bool n2,.slice B m cb,.int .i64 (S2:Int)] 277 (0,0)) from by rw[←HW5.out,←Hzb.out];exact heap_alloc_new w4 _)
 have HB35:=hid (HB34.out.trans (HB45.out.mono HB34.out.size))
 have HA5:=hid ((HB35.out.block za (blk_lt HA3.out)).trans HA3.out)
 have HB25:=hid (HB23.out.trans (HB35.out.mono HB23.out.size))
 have HB15:=hid (HB12.out.trans (HB25.out.mono HB12.out.size))
 have HX5:=hid ((HB15.out.block z (blk_lt HX1.out)).trans HX1.out)
 have HY5:=hid ((HB15.out.block (z+1) (blk_lt HY1.out)).trans HY1.out)
 have HI25:=hid (HI2.out.under HB25.out)
 have HI45:=hid (HI4.out.under HB45.out)
 have HB5:=hid (HB1.out.trans (HB15.out.mono HB1.out.size))
 have hne:=hid (show z+1<za∧za<zb from ⟨by have h1:=blk_lt HY1.out;have h2:=HB12.out.size;have:=Hza.out;omega,by have h1:=blk_lt HA3.out;have h2:=HB34.out.size;have:=Hzb.out;omega⟩)
 clear hb4 hi4
 go_upto_region 3 with fail
 rw[HW5.out,Hzb.out]
 obtain⟨e1,He1⟩:∃c:Array Value,Hid (#[.bool n1,.slice A n ca,.int .i64 (S1:Int)]=c):=⟨_,hid rfl⟩
 obtain⟨e2,He2⟩:∃c:Array Value,Hid (#[.bool n2,.slice B m cb,.int .i64 (S2:Int)]=c):=⟨_,hid rfl⟩
 have Q1:=hid (show e1.size=3 from by rw[←He1.out];kernel_rfl)
 have Q2:=hid (show e2.size=3 from by rw[←He2.out];kernel_rfl)
 have O1:=hid (show e1.all (·.oneCell')=true from by rw[←He1.out];kernel_rfl)
 have O2:=hid (show e2.all (·.oneCell')=true from by rw[←He2.out];kernel_rfl)
 have HA5:=hid HA5.out
 have HV5:=hid HV5.out
 rw[He1.out]at HA5
 rw[He2.out]at HV5
 have s1:=hid (show w5.drew.heap[za]?=some (.cells e1 277 (0,0))∧w5.drew.heap[zb]?=some (.cells e2 277 (0,0)) from ⟨HA5.out,HV5.out⟩)
 refine wp_region_held_drew (S:=λW'=>W'.heap[za]?=some (.cells e1 277 (0,0))∧W'.heap[zb]?=some (.cells e2 277 (0,0))) (by kernel_rfl) s1.out (λhH=>?_)
 refine Boxed.out ?_
 refine tkW 0 21 (.agg e1) hH (λw hSw=>?_) (λhH=>?_)
 ·exact val_of (ld_run hSw.1 277 _ Tryz.underlying277 rfl (by rw[Q1.out];kernel_rfl))
 simp only[Act.put,aT,aZ,aS]
 refine tkW 1 22 (.agg e2) hH (λw hSw=>?_) (λhH=>?_)
 ·exact val_of (ld_run hSw.2 277 _ Tryz.underlying277 rfl (by rw[Q2.out];kernel_rfl))
 simp only[Act.put,aT,aZ,aS]
 refine tkV 2 23 (.bool true) hH (λhH=>?_)
 simp only[Act.put,aT,aZ,aS]
 refine tkV 3 24 (.bool true) hH (λhH=>?_)
 simp only[Act.put,aT,aZ,aS]
 refine tkV 4 25 (.bool true) hH (λhH=>?_)
 simp only[Act.put,aT,aZ,aS]
 refine tkV 5 26 (.bool true) hH (λhH=>?_)
 simp only[Act.put,aT,aZ,aS]
 refine tkV 6 27 (.bool true) hH (λhH=>?_)
 simp only[Act.put,aT,aZ,aS]
 refine tkV 7 28 (.string s) hH (λhH=>?_)
 simp only[Act.put,aT,aZ,aS]
 refine tkC 8 (λK hK=>?_)
 change Oper.wp _ ⟨some 29,_,_,_,_,_⟩ _ _ _ _
 go_simp
 refine (HDS.out w5.drew).mono ?_
 rintro e w6 ⟨rfl,hb6⟩
 have HB56:=hid (show Below w5.heap.size w5 w6 from below_of_dr hb6)
 have HS6:=hid (show w6.heap[za]?=some (.cells e1 277 (0,0))∧w6.heap[zb]?=some (.cells e2 277 (0,0)) from ⟨(HB56.out.block za (blk_lt HA5.out)).trans HA5.out,(HB56.out.block zb (blk_lt HV5.out)).trans HV5.out⟩)
 clear hb6
 dsimp only
 refine hK.out _ _ HS6.out (λhH=>?_)
 clear hK K
 try simp only[Act.put,aT,aZ,aS]
 refine tkV 9 30 (.bool true) hH (λhH=>?_)
 simp only[Act.put,aT,aZ,aS]
 refine tkV 10 31 (.bool true) hH (λhH=>?_)
 simp only[Act.put,aT,aZ,aS]
 refine tkV 11 32 (.string t) hH (λhH=>?_)
 simp only[Act.put,aT,aZ,aS]
 refine tkC 12 (λK hK=>?_)
 change Oper.wp _ ⟨some 33,_,_,_,_,_⟩ _ _ _ _
 go_simp
 refine (HDT.out w6).mono ?_
 rintro e w7 ⟨rfl,hb7⟩
 have HB57:=hid (HB56.out.trans (hb7.mono HB56.out.size))
 have HS7:=hid (show w7.heap[za]?=some (.cells e1 277 (0,0))∧w7.heap[zb]?=some (.cells e2 277 (0,0)) from ⟨(HB57.out.block za (blk_lt HA5.out)).trans HA5.out,(HB57.out.block zb (blk_lt HV5.out)).trans HV5.out⟩)
 have HX7:=hid ((HB57.out.block z (blk_lt HX5.out)).trans HX5.out)
 have HY7:=hid ((HB57.out.block (z+1) (blk_lt HY5.out)).trans HY5.out)
 have HI7:=hid (HI25.out.under HB57.out)
 have HJ7:=hid (HI45.out.under HB57.out)
 clear hb7
 dsimp only
 refine hK.out _ _ HS7.out (λhH=>?_)
 clear hK K
 try simp only[Act.put,aT,aZ,aS]
 refine tkV 13 34 (.bool true) hH (λhH=>?_)
 simp only[Act.put,aT,aZ,aS]
 refine tkC 14 (λK hK=>?_)
 change Oper.wp _ ⟨none,_,_,_,_,_⟩ _ _ _ _
 refine st_rowW 277 _ _ rfl z #[.bool false,.slice none 0 0,.int .i64 0] e1 277 rfl rfl HX7.out Q1.out (by rw[Q1.out];kernel_rfl) O1.out ?_
 intro w8 hg8 ht8
 have HS8:=hid (show w8.heap[za]?=some (.cells e1 277 (0,0))∧w8.heap[zb]?=some (.cells e2 277 (0,0)) from ⟨ht8.heap HS7.out.1 (show ¬za=z by have:=hne.out;omega),ht8.heap HS7.out.2 (show ¬zb=z by have:=hne.out;omega)⟩)
 have HO8:=hid (ht8.heap HY7.out (show ¬z+1=z by omega))
 refine hK.out _ _ HS8.out (λhH=>?_)
 clear hK K
 try simp only[Act.put]
 refine tkC 15 (λK hK=>?_)
 change Oper.wp _ ⟨none,_,_,_,_,_⟩ _ _ _ _
 refine st_rowW 277 _ _ rfl (z+1) #[.bool false,.slice none 0 0,.int .i64 0] e2 277 rfl rfl HO8.out Q2.out (by rw[Q2.out];kernel_rfl) O2.out ?_
 intro w9 hg9 ht9
 have HS9:=hid (show w9.heap[za]?=some (.cells e1 277 (0,0))∧w9.heap[zb]?=some (.cells e2 277 (0,0)) from ⟨ht9.heap HS8.out.1 (show ¬za=z+1 by have:=hne.out;omega),ht9.heap HS8.out.2 (show ¬zb=z+1 by have:=hne.out;omega)⟩)
 have HA9:=hid (ht9.heap hg8 (show ¬z=z+1 by omega))
 have HV9:=hid hg9
 have HT9:=hid (show Turn (λb=>b=z∨b=z+1) w7 w9 from (ht8.mono (λb _ h=>.inl h)).trans (ht9.mono (λb _ h=>.inr h)))
 refine hK.out _ _ HS9.out (λhH=>?_)
 clear hK K hg8 ht8 hg9 ht9
 try simp only[Act.put]
 refine tkV 16 6 (.bool true) hH (λhH=>?_)
 simp only[Act.put,aT,aZ,aS]
 refine⟨wpAnyH_done (by kernel_rfl) ?_ _⟩
 clear hH
 go_wp2_with fail
 have hl1:=run_loadVar_row (P:=Tryz.prog) w9 z 277 277 e1 (0,0) _ HA9.out Tryz.underlying277 rfl (by rw[Q1.out];kernel_rfl)
 have hl2:=run_loadVar_row (P:=Tryz.prog) w9 (z+1) 277 277 e2 (0,0) _ HV9.out Tryz.underlying277 rfl (by rw[Q2.out];kernel_rfl)
 refine bodyPost_ret (v:=.tuple #[.agg e1,.agg e2,.bool true]) (by simp[results,Tryz.results251,asAddr,hl1,hl2]) rfl ⟨A,ca,B,cb,by rw[←He1.out,←He2.out,Hn.out,Hm.out],?_,?_,?_⟩
 ·exact HB5.out.trans ((HB57.out.mono HB5.out.size).trans (HT9.out.below (λb _ h=>by have:=Hz.out;omega) (Nat.le_trans HB5.out.size HB57.out.size)))
 ·exact HI7.out.turn2 HT9.out (λad hA h=>by
    rcases h with h | h
    ·exact ints_far HI7.out hD2 HX7.out ad hA h
    ·exact ints_far HI7.out hD2 HY7.out ad hA h)
 ·exact HJ7.out.turn2 HT9.out (λad hA h=>by
    rcases h with h | h
    ·exact ints_far HJ7.out hE2 HX7.out ad hA h
    ·exact ints_far HJ7.out hE2 HY7.out ad hA h)
def cells3 (b:Bool) (s:Value) (k:Int):Array Value:=#[.bool b,s,.int .i64 k]
structure Eq3 (c:Array Value) (b:Bool) (s:Value) (k:Int):Prop where
 out:cells3 b s k=c
theorem name3 (b:Bool) (s:Value) (k:Int):∃c,Eq3 c b s k:=⟨_,⟨rfl⟩⟩
theorem Eq3.size {c:Array Value} {b:Bool} {s:Value} {k:Int} (h:Eq3 c b s k):c.size=3:=by rw[←h.out];rfl
theorem Eq3.one {c:Array Value} {b:Bool} {s:Value} {k:Int} (h:Eq3 c b s k) (hs:s.oneCell'=true):c.all (·.oneCell')=true:=by
 rw[←h.out,Array.all_eq_true_iff_forall_mem]
 intro v hv
 unfold cells3 at hv
 simp at hv
 rcases hv with rfl | rfl | rfl
 ·rfl
 ·exact hs
 ·rfl
def RCmpIsD (s t:ByteArray) (w:World) (e:Ending) (w':World):Prop:=e = .returned (.int .i64 (cmpD s t))∧Below w.heap.size w w'
theorem refCompareD_any (s t:ByteArray) (hs:decB s=true) (ht:decB t=true) (w:World) :
    Calls Tryz.prog 182 #[.string s,.string t] w (RCmpIsD s t w):=by
 obtain⟨n1,a1,b1,hs1⟩:=dec_shape hs
 obtain⟨n2,a2,b2,hs2⟩:=dec_shape ht
 have hl1:s.size≤1000:=by
  rcases Nat.lt_or_ge 62 s.size with h | h
  ·have:=dec_long h;rw[hs]at this;cases this
  ·omega
 have hl2:t.size≤1000:=by
  rcases Nat.lt_or_ge 62 t.size with h | h
  ·have:=dec_long h;rw[ht]at this;cases this
  ·omega
 have hp1:=dec_parse hs1
 have hp2:=dec_parse hs2
 have HSH:=hid (And.intro hs1 hs2)
 have hd1:=revD_length (a1++b1)
 have hd2:=revD_length (a2++b2)
 rw[List.length_append]at hd1 hd2
 have h91:=(parse_some hp1).1
 have h92:=(parse_some hp2).1
 have la1:=hs1.la
 have lb1:=hs1.lb
 have la2:=hs2.la
 have lb2:=hs2.lb
 obtain⟨D,HD⟩:=name_itV (revD (a1++b1))
 obtain⟨E,HE⟩:=name_itV (revD (a2++b2))
 obtain⟨S1,HS1⟩:=name_itV b1.length
 obtain⟨S2,HS2⟩:=name_itV b2.length
 have HTW:=hid (two_any s t hs ht hl1 hl2 n1 n2 _ _ _ _ (by omega) (by omega) hp1 hp2 w)
 have HRP:=hid (λ(A B:Option Addr) (ca cb:Nat) (W:World) (hA:IntsAt W A (revD (a1++b1))) (hB:IntsAt W B (revD (a2++b2)))=>rplus_any n1 (!n2) (revD (a1++b1)) (revD (a2++b2)) b1.length b2.length (by omega) (by omega) (by omega) (by omega) (by omega) (by omega) h91 h92 A B ca cb W hA hB)
 rw[HD.out,HE.out,HS1.out,HS2.out]at HTW HRP
 obtain⟨n,Hn⟩:=name_itV D.length
 obtain⟨m,Hm⟩:=name_itV E.length
 have HCM:=hid (λ(ng:Bool) (o:Nat) (h:sgV ng o=sgV n1 (amtD D*bT ^ (max S1 S2-S1))+sgV (!n2) (amtD E*bT ^ (max S1 S2-S2)))=>(show cmpD s t=if o=0 then 0 else if ng=true then -1 else 1 from cmpD_sg hs1 hs2 (by rw[HD.out,HE.out,HS1.out,HS2.out];exact h)))
 clear hs ht hs1 hs2 hl1 hl2 hp1 hp2 hd1 hd2 h91 h92 la1 lb1 la2 lb2
 go_enter Tryz.func182,Tryz.ntmps182
 go_wp2_with fail
 refine HTW.out.mono ?_
 rintro e w2 ⟨A,ca,B,cb,rfl,hb2,hi2,hj2⟩
 have HB2:=hid hb2
 have HI2:=hid hi2
 have HJ2:=hid hj2
 obtain⟨e1,He1⟩:=name3 n1 (.slice A D.length ca) S1
 obtain⟨e2,He2⟩:=name3 n2 (.slice B E.length cb) S2
 obtain⟨e3,He3⟩:=name3 (!n2) (.slice B E.length cb) S2
 have HPL:=hid (λ(W:World) (hA:IntsAt W A D) (hB:IntsAt W B E)=>(show Calls Tryz.prog 252 #[.agg e1,.agg e3] W (RPlusIs n1 (amtD D*bT ^ (max S1 S2-S1)) (!n2) (amtD E*bT ^ (max S1 S2-S2)) W) from by
  rw[←He1.out,←He3.out]
  exact HRP.out A B ca cb W hA hB))
 have e1E:(#[.bool n1,.slice A D.length ca,.int .i64 (S1:Int)]:Array Value)=e1:=He1.out
 have e2E:(#[.bool n2,.slice B E.length cb,.int .i64 (S2:Int)]:Array Value)=e2:=He2.out
 rw[e1E,e2E]
 clear e1E e2E
 have HSN:=hid (show e2.setIfInBounds 0 (.bool (!n2))=e3 from by rw[←He2.out,←He3.out];rfl)
 have HN2:=hid (show e2[0]?=some (.bool n2) from by rw[←He2.out];rfl)
 obtain⟨V1,HV1⟩:=name_itV (amtD D*bT ^ (max S1 S2-S1))
 obtain⟨V2,HV2⟩:=name_itV (amtD E*bT ^ (max S1 S2-S2))
 rw[HV1.out,HV2.out]at HPL HCM
 have Q1:=hid He1.size
 have Q2:=hid He2.size
 have Q3:=hid He3.size
 have O1:=hid (He1.one rfl)
 have O2:=hid (He2.one rfl)
 have I1:=hid (show (Tryz.prog.info? 277).map (·.size)=some e1.size from by rw[Q1.out];kernel_rfl)
 have I2:=hid (show (Tryz.prog.info? 277).map (·.size)=some e2.size from by rw[Q2.out];kernel_rfl)
 have I3:=hid (show (Tryz.prog.info? 277).map (·.size)=some e3.size from by rw[Q3.out];kernel_rfl)
 obtain⟨z,Hz⟩:=name_itV w2.heap.size
 obtain⟨w3,HW3⟩:=name_itV ((w2.alloc (.cells #[.bool false,.slice none 0 0,.int .i64 0] 277)).alloc (.cells #[.bool false,.slice none 0 0,.int .i64 0] 277))
 have HX3:=hid (show w3.heap[z]?=some (.cells #[.bool false,.slice none 0 0,.int .i64 0] 277 (0,0)) from by rw[←HW3.out,←Hz.out];exact heap_alloc2_old w2 _ _)
 have HY3:=hid (show w3.heap[z+1]?=some (.cells #[.bool false,.slice none 0 0,.int .i64 0] 277 (0,0)) from by rw[←HW3.out,←Hz.out];exact heap_alloc2_new w2 _ _)
 have HB3:=hid (show Below w2.heap.size w2 w3 from by rw[←HW3.out];exact two_new _ _ _)
 have HWz:=hid (And.intro HW3.out Hz.out)
 clear hb2 hi2 hj2
 go_upto_region 2 with (first
  | ((with_reducible refine at_st 5 ?_);refine st_row rfl 277 _ _ rfl w2.heap.size #[.bool false,.slice none 0 0,.int .i64 0] e1 277 rfl rfl (by have h:=HX3.out;rw[←HWz.out.1,←HWz.out.2]at h;exact h) Q1.out I1.out O1.out ?_;intro w4 hg4 ht4)
  | ((with_reducible refine at_st 6 ?_);refine st_row rfl 277 _ _ rfl (w2.heap.size+1) #[.bool false,.slice none 0 0,.int .i64 0] e2 277 rfl rfl (by have h:=HY3.out;rw[←HWz.out.1,←HWz.out.2]at h;exact ht4.heap h (show ¬w2.heap.size+1=w2.heap.size by omega)) Q2.out I2.out O2.out ?_;intro w5 hg5 ht5))
 rw[HWz.out.2]at hg4 hg5 ht5 ⊢
 rw[HWz.out.1]at ht4
 rw[HWz.out.2]at ht4
 have HX5:=hid (ht5.heap hg4 (show ¬z=z+1 by omega))
 have HY5:=hid hg5
 have HB25:=hid (HB3.out.trans ((ht4.below (B:=w2.heap.size) (λb _ h=>by have h:b=z:=h;have:=Hz.out;omega) HB3.out.size).trans (ht5.below (B:=w2.heap.size) (λb _ h=>by have h:b=z+1:=h;have:=Hz.out;omega) (Nat.le_trans HB3.out.size ht4.size))))
 have HB5:=hid (HB2.out.trans (HB25.out.mono HB2.out.size))
 clear hg4 hg5 ht4 ht5
 have y0:w5.cell? ⟨z+1,0,none⟩=some (.bool n2):=(cell_of_row _ _ _ _ _ _ HY5.out).trans HN2.out
 have yf:w5.frozen? ⟨z+1,0,none⟩=false:=frozen_of_row _ _ _ _ _ HY5.out
 go_upto_region 5 with fail
 obtain⟨w6,HW6⟩:=name_itV (w5.setCell ⟨z+1,0,none⟩ (.bool (!n2)))
 have HX6:=hid (show w6.heap[z]?=some (.cells e1 277 (0,0)) from by rw[←HW6.out,heap_setCell_other _ _ _ _ (show z≠z+1 by omega)];exact HX5.out)
 have HY6:=hid (show w6.heap[z+1]?=some (.cells e3 277 (0,0)) from by
  rw[←HW6.out,←HSN.out]
  exact heap_setCell_same _ _ _ _ _ _ HY5.out)
 have HB26:=hid (show Below w2.heap.size w2 w6 from by rw[←HW6.out];exact HB25.out.setCell (by show w2.heap.size≤z+1;have:=Hz.out;omega) _)
 have HB6:=hid (HB2.out.trans (HB26.out.mono HB2.out.size))
 have HPL6:=hid (HPL.out w6 (HI2.out.under HB26.out) (HJ2.out.under HB26.out))
 have HL1:=hid (range_row HX6.out)
 have HL2:=hid (range_row HY6.out)
 rw[HW6.out]
 clear y0 yf
 go_wp2_with (first
  | ((with_reducible refine at_dst (some 22) ?_);refine ld_arm rfl 277 _ rfl z 0 rfl e1 _ (HL1.out) Tryz.underlying277 rfl I1.out ?_)
  | ((with_reducible refine at_dst (some 23) ?_);refine ld_arm rfl 277 _ rfl (z+1) 0 rfl e3 _ (HL2.out) Tryz.underlying277 rfl I3.out ?_))
 refine HPL6.out.mono ?_
 rintro e w7 ⟨ng,O,s7,sc,rfl,hb7,ho7,h97,hl7,hv7⟩
 obtain⟨A7,c7,rfl,hi7⟩:=ints_of_own ho7
 have HCS:=hid (HCM.out ng (amtD O) hv7)
 have HB7:=hid (HB6.out.trans (hb7.mono HB6.out.size))
 have HI7:=hid hi7
 have HL7:=hid hl7
 obtain⟨o,Ho⟩:=name_itV O.length
 rw[Ho.out]
 obtain⟨e4,He4⟩:=name3 ng (.slice A7 o c7) sc
 have e4E:(#[.bool ng,.slice A7 o c7,.int .i64 sc]:Array Value)=e4:=He4.out
 rw[e4E]
 clear e4E
 have Q4:=hid He4.size
 have O4:=hid (He4.one rfl)
 have I4:=hid (show (Tryz.prog.info? 277).map (·.size)=some e4.size from by rw[Q4.out];kernel_rfl)
 have N4:=hid (show e4[0]?=some (.bool ng)∧e4[1]?=some (.slice A7 o c7) from by rw[←He4.out];exact⟨rfl,rfl⟩)
 have HX8:=hid (show (w7.alloc (.cells #[.bool false,.slice none 0 0,.int .i64 0] 277)).heap[w7.heap.size]?=some (.cells #[.bool false,.slice none 0 0,.int .i64 0] 277 (0,0)) from heap_alloc_new w7 _)
 have hzr:=hid (λ(W:World) (h:IntsAt W A7 O)=>zero_any O (by omega) A7 c7 W h)
 rw[Ho.out]at hzr
 obtain⟨p,Hp⟩:=name_itV (amtD O)
 rw[Hp.out]at HCS
 have HZP:=hid (show zeroD O=decide (p=0) from by rw[←Hp.out];exact zero_amt O)
 obtain⟨zo,Hzo⟩:=name_itV (zeroD O)
 rw[Hzo.out]at hzr HZP
 clear hb7 ho7 h97 hl7 hv7 hi7 Hp Hzo
 go_upto_region 6 with (first
  | ((with_reducible refine at_st 8 ?_);refine st_row rfl 277 _ _ rfl w7.heap.size #[.bool false,.slice none 0 0,.int .i64 0] e4 277 rfl rfl HX8.out Q4.out I4.out O4.out ?_;intro w8 hg8 ht8))
 have HB78:=hid (((Below.refl w7.heap.size w7).alloc (Nat.le_refl _) _).trans (ht8.below (B:=w7.heap.size) (λb _ h=>by have h:b=w7.heap.size:=h;omega) (by simp)))
 have HB8:=hid (HB7.out.trans (HB78.out.mono HB7.out.size))
 have HI8:=hid (HI7.out.under HB78.out)
 have n0:w8.cell? ⟨w7.heap.size,0,none⟩=some (.bool ng):=(cell_of_row _ _ _ _ _ _ hg8).trans N4.out.1
 have n1':w8.cell? ⟨w7.heap.size,1,none⟩=some (.slice A7 o c7):=(cell_of_row _ _ _ _ _ _ hg8).trans N4.out.2
 obtain⟨z8,Hz8⟩:=name_itV w7.heap.size
 rw[Hz8.out]at n0 n1' ⊢
 clear hg8 ht8
 go_wp2_with fail
 refine (hzr.out w8 HI8.out).mono ?_
 rintro e w9 ⟨rfl,q9,hw9⟩
 have HB9:=hid (show Below w.heap.size w w9 from by rw[hw9];exact below_drewN HB8.out q9)
 have n9:w9.cell? ⟨z8,0,none⟩=some (.bool ng):=by rw[hw9];exact n0
 clear hw9 n0 n1'
 by_cases hp:p=0
 ·have hr:=hid (show (0:Int)=cmpD s t from by rw[HCS.out,if_pos hp])
  have hz:zo=true:=HZP.out.trans (decide_eq_true hp)
  clear hp
  subst hz
  go_wp2_with fail
  go_ret
  exact⟨by rw[hr.out];rfl,HB9.out⟩
 ·have hz:zo=false:=HZP.out.trans (decide_eq_false hp)
  have HNP:=hid hp
  clear hp
  subst hz
  cases ng with
  | true=>
   have hr:=hid (show (-1:Int)=cmpD s t from by rw[HCS.out,if_neg HNP.out,if_pos rfl])
   go_wp2_with fail
   go_ret
   exact⟨by rw[hr.out];rfl,HB9.out⟩
  | false=>
   have hr:=hid (show (1:Int)=cmpD s t from by rw[HCS.out,if_neg HNP.out,if_neg Bool.false_ne_true])
   go_wp2_with fail
   go_ret
   exact⟨by rw[hr.out];rfl,HB9.out⟩
def partV (v:Val) (s:Value):Value:=
 if v.kind=0 then .iface 233 (.agg #[])
 else if v.kind=1 then .iface 194 (.bool v.truth)
 else if v.kind=2 then .iface 188 (.int .i64 v.num)
 else if v.kind=3 then .iface 189 (.string v.text)
 else if v.kind=4 then .iface 234 (.string v.text)
 else if v.kind=8 then .iface 234 (.string v.text)
 else if v.kind=9 then .iface 234 (.string v.text)
 else if v.kind=5 then .iface 191 (s)
 else if v.kind=6 then .iface 193 (.int .i64 v.num)
 else if v.kind=7 then .iface 193 (.int .i64 v.num)
 else if v.kind=10 then .iface 237 (.agg #[.string v.text,.string v.extra])
 else .iface 238 (.int .i64 v.kind)
def PartIs (v:Val) (s:Value) (w:World) (e:Ending) (w':World):Prop:=e = .returned (partV v s)∧Below w.heap.size w w'
theorem part_any (v:Val) (s:Value) (w:World):Calls Tryz.prog 128 #[.agg (cellsV v s)] w (PartIs v s w):=by
 obtain⟨p,HP⟩:=name_itV (partV v s)
 unfold PartIs
 rw[HP.out]
 unfold partV at HP
 cases v with
 | mk k b n t x l=>
 simp only[cellsV,Val.kind,Val.truth,Val.num,Val.text,Val.extra]at HP ⊢
 by_cases h0:k=0
 ·subst h0
  have hp:=hid (show Ending.returned p = .returned (.iface 233 (.agg #[])) from by rw[←HP.out];rfl)
  clear HP
  go_enter Tryz.func128,Tryz.ntmps128
  go_wp2_with fail
  go_ret
  exact⟨hp.out.symm,(Below.refl _ _).alloc (Nat.le_refl _) _⟩
 ·have e0:((k:Int)==0)=false:=beq_eq_false_iff_ne.2 h0
  by_cases h1:k=1
  ·subst h1
   have hp:=hid (show Ending.returned p = .returned (.iface 194 (.bool b)) from by rw[←HP.out];rfl)
   clear HP
   go_enter Tryz.func128,Tryz.ntmps128
   go_wp2_with fail
   go_ret
   exact⟨hp.out.symm,(Below.refl _ _).alloc (Nat.le_refl _) _⟩
  ·have e1:((k:Int)==1)=false:=beq_eq_false_iff_ne.2 h1
   by_cases h2:k=2
   ·subst h2
    have hp:=hid (show Ending.returned p = .returned (.iface 188 (.int .i64 n)) from by rw[←HP.out];rfl)
    clear HP
    go_enter Tryz.func128,Tryz.ntmps128
    go_wp2_with fail
    go_ret
    exact⟨hp.out.symm,(Below.refl _ _).alloc (Nat.le_refl _) _⟩
   ·have e2:((k:Int)==2)=false:=beq_eq_false_iff_ne.2 h2
    by_cases h3:k=3
    ·subst h3
     have hp:=hid (show Ending.returned p = .returned (.iface 189 (.string t)) from by rw[←HP.out];rfl)
     clear HP
     go_enter Tryz.func128,Tryz.ntmps128
     go_wp2_with fail
     go_ret
     exact⟨hp.out.symm,(Below.refl _ _).alloc (Nat.le_refl _) _⟩
    ·have e3:((k:Int)==3)=false:=beq_eq_false_iff_ne.2 h3
     by_cases h4:k=4
     ·subst h4
      have hp:=hid (show Ending.returned p = .returned (.iface 234 (.string t)) from by rw[←HP.out];rfl)
      clear HP
      go_enter Tryz.func128,Tryz.ntmps128
      go_wp2_with fail
      go_ret
      exact⟨hp.out.symm,(Below.refl _ _).alloc (Nat.le_refl _) _⟩
     ·have e4:((k:Int)==4)=false:=beq_eq_false_iff_ne.2 h4
      by_cases h8:k=8
      ·subst h8
       have hp:=hid (show Ending.returned p = .returned (.iface 234 (.string t)) from by rw[←HP.out];rfl)
       clear HP
       go_enter Tryz.func128,Tryz.ntmps128
       go_wp2_with fail
       go_ret
       exact⟨hp.out.symm,(Below.refl _ _).alloc (Nat.le_refl _) _⟩
      ·have e8:((k:Int)==8)=false:=beq_eq_false_iff_ne.2 h8
       by_cases h9:k=9
       ·subst h9
        have hp:=hid (show Ending.returned p = .returned (.iface 234 (.string t)) from by rw[←HP.out];rfl)
        clear HP
        go_enter Tryz.func128,Tryz.ntmps128
        go_wp2_with fail
        go_ret
        exact⟨hp.out.symm,(Below.refl _ _).alloc (Nat.le_refl _) _⟩
       ·have e9:((k:Int)==9)=false:=beq_eq_false_iff_ne.2 h9
        by_cases h5:k=5
        ·subst h5
         have hp:=hid (show Ending.returned p = .returned (.iface 191 (s)) from by rw[←HP.out];rfl)
         clear HP
         go_enter Tryz.func128,Tryz.ntmps128
         go_wp2_with fail
         go_ret
         exact⟨hp.out.symm,(Below.refl _ _).alloc (Nat.le_refl _) _⟩
        ·have e5:((k:Int)==5)=false:=beq_eq_false_iff_ne.2 h5
         by_cases h6:k=6
         ·subst h6
          have hp:=hid (show Ending.returned p = .returned (.iface 193 (.int .i64 n)) from by rw[←HP.out];rfl)
          clear HP
          go_enter Tryz.func128,Tryz.ntmps128
          go_wp2_with fail
          go_ret
          exact⟨hp.out.symm,(Below.refl _ _).alloc (Nat.le_refl _) _⟩
         ·have e6:((k:Int)==6)=false:=beq_eq_false_iff_ne.2 h6
          by_cases h7:k=7
          ·subst h7
           have hp:=hid (show Ending.returned p = .returned (.iface 193 (.int .i64 n)) from by rw[←HP.out];rfl)
           clear HP
           go_enter Tryz.func128,Tryz.ntmps128
           go_wp2_with fail
           go_ret
           exact⟨hp.out.symm,(Below.refl _ _).alloc (Nat.le_refl _) _⟩
          ·have e7:((k:Int)==7)=false:=beq_eq_false_iff_ne.2 h7
           by_cases h10:k=10
           ·subst h10
            have hp:=hid (show Ending.returned p = .returned (.iface 237 (.agg #[.string t,.string x])) from by rw[←HP.out];rfl)
            clear HP
            go_enter Tryz.func128,Tryz.ntmps128
            go_wp2_with fail
            go_ret
            exact⟨hp.out.symm,(Below.refl _ _).alloc (Nat.le_refl _) _⟩
           ·have e10:((k:Int)==10)=false:=beq_eq_false_iff_ne.2 h10
            have hp:=hid (show Ending.returned p = .returned (.iface 238 (.int .i64 k)) from by rw[←HP.out];simp only[h0,h1,h2,h3,h4,h8,h9,h5,h6,h7,h10,if_false])
            clear HP
            go_enter Tryz.func128,Tryz.ntmps128
            go_wp2_with fail
            go_ret
            exact⟨hp.out.symm,(Below.refl _ _).alloc (Nat.le_refl _) _⟩
def cmpB (k:Int) (b:Bool) (n:Int) (t x:ByteArray) (l:List Val) (b':Bool) (n':Int) (t' x':ByteArray):Bool:=
 (b==b')&&(decide (n=n')&&(decide (t=t')&&(decide (x=x')&&(decide (l.length=0) || decide (k=5)))))
mutual
def mayV:Val→Nat→Bool
 | .mk k b n t x l,d=>
  if k=0 then cmpB k b n t x l false 0 ⟨#[]⟩ ⟨#[]⟩
  else if k=1 then cmpB k b n t x l b 0 ⟨#[]⟩ ⟨#[]⟩
  else if k=2 then cmpB k b n t x l false n ⟨#[]⟩ ⟨#[]⟩
  else if k=3 then decB t&&cmpB k b n t x l false 0 t ⟨#[]⟩
  else if k=4 then decide (t.size≤1048576)&&cmpB k b n t x l false 0 t ⟨#[]⟩
  else if k=8 then iriB t&&cmpB k b n t x l false 0 t ⟨#[]⟩
  else if k=9 then nameB t&&cmpB k b n t x l false 0 t ⟨#[]⟩
  else if k=5 then decide (l.length≤4096)&&(decide (d<60)&&(mayL l (d+1)&&cmpB k b n t x l false 0 ⟨#[]⟩ ⟨#[]⟩))
  else if k=6 then decide (0≤n)&&cmpB k b n t x l false n ⟨#[]⟩ ⟨#[]⟩
  else if k=7 then decide (0≤n)&&cmpB k b n t x l false n ⟨#[]⟩ ⟨#[]⟩
  else if k=10 then decide (t.size≤1048576)&&(iriB x&&cmpB k b n t x l false 0 t x)
  else false
def mayL:List Val→Nat→Bool
 | [],_=>true
 | v::r,d=>mayV v d&&mayL r d
end
theorem mayL_all (l:List Val) (d:Nat):mayL l d=l.all λv=>mayV v d:=by
 induction l with
 | nil=>simp[mayL]
 | cons v r ih=>simp[mayL,ih]
theorem clos_any (d:Nat) (hd:d<60) (ca:Addr) (v:Val) (s:Value) (r:Bool) (w:World) (hc:w.cell? ca=some (.int .i64 (d:Int))) (hlt:ca.block<w.heap.size)
    (hck:∀W:World,Below w.heap.size w W→Calls Tryz.prog 117 #[.agg (cellsV v s),.int .i64 ((d+1:Nat):Int)] W (ToldB r W)) :
    Calls Tryz.prog 189 #[.agg (cellsV v s),.pointer (some ca)] w (ToldB (!r) w):=by
 have HCK:=hid hck
 clear hck
 have hca:=hid (λo:Obj=>show (w.alloc o).cell? ca=some (.int .i64 (d:Int)) from (((Below.refl w.heap.size w).alloc (Nat.le_refl _) o).cell (p:=ca) hlt).trans hc)
 unfold cellsV at HCK ⊢
 cases v with
 | mk k b n t x l=>
 simp only[Val.kind,Val.truth,Val.num,Val.text,Val.extra]at HCK ⊢
 have c1:=hca.out (.cells #[.int .i64 k,.bool b,.int .i64 n,.string t,.string x,s] 39)
 obtain⟨d1,HD1⟩:=name_itV (d+1)
 rw[HD1.out]at HCK
 have w1:IntKind.i64.wrap ((d:Int)+1)=(d1:Int):=by rw[IntWalk.i64_in _ (by omega),←HD1.out];push_cast;rfl
 have w2:(d:Int)+1=(d1:Int):=by rw[←HD1.out];push_cast;rfl
 clear hc
 go_enter Tryz.func189,Tryz.ntmps189
 go_wp2_with fail;refine (HCK.out _ ((Below.refl _ _).alloc (Nat.le_refl _) _)).mono ?_;rintro e w3 ⟨rfl,hb⟩
 have HB:=hid (((Below.refl w.heap.size w).alloc (Nat.le_refl _) (.cells #[.int .i64 k,.bool b,.int .i64 n,.string t,.string x,s] 39)).trans (hb.mono (by simp)))
 clear hb
 go_wp2_with fail
 go_ret
 exact⟨rfl,HB.out⟩
def IdxIs (l:List Val) (d:Nat) (w:World) (e:Ending) (w':World):Prop:=∃r:Int,e = .returned (.int .i64 r)∧(decide (0≤r) = !mayL l d)∧Below w.heap.size w w'
theorem idx_any (l:List Val) (d:Nat) (hd:d<60) (ca:Addr) (F:Nat→Prop) (A:Option Addr) (n cap:Nat) (w:World) (hF:∀g,F g→g<w.heap.size) (hl:LRd w F l A n) (hn:n≤4096)
    (hc:w.cell? ca=some (.int .i64 (d:Int))) (hca:ca.block<w.heap.size)
    (hck:∀(x:Val) (_:x∈l) (u:Value) (W:World),Below w.heap.size w W→VRd W F x u→Calls Tryz.prog 117 #[u,.int .i64 ((d+1:Nat):Int)] W (ToldB (mayV x (d+1)) W)) :
    Calls Tryz.prog 256 #[.slice A n cap,.func (.func 189) #[] #[.pointer (some ca)]] w (IdxIs l (d+1) w):=by
 have HL:=hid hl
 have HF:=hid hF
 have HCK:=hid hck
 have HC:=hid hc
 have hln:=hid hl.1
 clear hl hF hck hc
 go_enter Tryz.func256,Tryz.ntmps256
 go_wp2_with fail
 go_loopw [8] (λs8 wr=>∃k:Nat,k≤n∧s8 = .int .i64 (k:Nat)∧Hid (((l.take k).all λv=>mayV v (d+1))=true)∧Hid (Below w.heap.size w wr)) (λs8 _=>n-(intOf s8).toNat)
 case atStart=>exact⟨0,by omega,rfl,hid (by simp),hid (Below.refl _ _)⟩
 case round=>
  obtain⟨k,hk,rfl,hall,hB⟩:=hrel
  by_cases hlt:k<n
  ·obtain⟨x,hx⟩:∃x,l[k]?=some x:=⟨l[k]'(by rw[←hln.out];exact hlt),List.getElem?_eq_getElem _⟩
   have HR:=hid (HL.out.under hB.out HF.out)
   obtain⟨ad,s,rfl,hFa,⟨B,capx,rfl,hcapx,hlx⟩,hv,c0,c1,c2,c3,c4,c5⟩:=HR.out.cellsAt hx
   have HX:=hid hx
   have hmem:=hid (List.mem_of_getElem? hx)
   have hcl:=hid (clos_any d hd ca x (.slice B x.list.length capx) (mayV x (d+1)) wr ((hB.out.cell (p:=ca) hca).trans HC.out) (Nat.lt_of_lt_of_le hca hB.out.size)
    (λW hW=>HCK.out x hmem.out _ W (hB.out.trans (hW.mono hB.out.size)) (hv.under hW (λg hg=>Nat.lt_of_lt_of_le (HF.out g hg) hB.out.size))))
   have hmore:=hid (λ(h:mayV x (d+1)=true)=>show ((l.take (k+1)).all λv=>mayV v (d+1))=true from by
    rw[take_oneMore HX.out,List.all_append,hall.out];simp[h])
   have hstop:=hid (λ(h:mayV x (d+1)=false)=>show mayL l (d+1)=false from by
    rw[mayL_all,List.all_eq_false]
    exact⟨x,hmem.out,by simp[h]⟩)
   obtain⟨r,Hr⟩:=name_itV (mayV x (d+1))
   rw[Hr.out]at hcl hmore hstop
   unfold cellsV at hcl
   have e1:(0:Int)≤k:=by omega
   have e2:(k:Int)<n:=by omega
   clear hx hlx hv hFa
   go_wp2_with fail
   refine hcl.out.mono ?_
   rintro e w2 ⟨rfl,hb2⟩
   have HB2:=hid (hB.out.trans (hb2.mono hB.out.size))
   clear hb2
   cases r with
   | true=>
    have HM:=hid (hmore.out rfl)
    have w1:IntKind.i64.wrap ((k:Int)+1)=(k:Int)+1:=IntWalk.i64_in _ (by omega)
    go_wp2_with fail
    go_roundw
    case rel=>exact⟨k+1,by omega,by go_num,HM,HB2⟩
    case measure=>simp[intOf];omega
   | false=>
    have HS:=hid (hstop.out rfl)
    go_wp2_with fail
    go_ret
    exact⟨(k:Int),rfl,by rw[HS.out];simp,HB2.out⟩
  ·have hke:k=n:=by omega
   have HS:=hid (show mayL l (d+1)=true from by
    have:=hall.out
    rw[List.take_of_length_le (by rw[hke,hln.out];exact Nat.le_refl _)]at this
    rw[mayL_all];exact this)
   subst hke
   go_wp2_with fail
   go_ret
   exact⟨-1,rfl,by rw[HS.out];simp,hB.out⟩
theorem cont_any (l:List Val) (d:Nat) (f:Value) (A:Option Addr) (n cap:Nat) (w:World)
    (hi:Calls Tryz.prog 256 #[.slice A n cap,f] w (IdxIs l d w)) :
    Calls Tryz.prog 188 #[.slice A n cap,f] w (ToldB (!mayL l d) w):=by
 have HI:=hid hi
 clear hi
 go_enter Tryz.func188,Tryz.ntmps188
 go_wp2_with fail
 refine HI.out.mono ?_
 rintro e w1 ⟨r,rfl,hr,hb⟩
 have HR:=hid hr
 have HB:=hid hb
 clear hr hb
 go_wp2_with fail
 go_ret
 exact⟨by rw[←HR.out];rfl,HB.out⟩
end Go.Proofs.YtefhfadjajcmkaaGreatDoor
namespace Go.Proofs.YtefhfadjajcmkaaGreatDoor
open Go
open Go.Lib (hid cell_of_heap)
structure LinC {α : Type} (c:α → α → Int):Prop where
 val:∀a b,c a b = -1∨c a b=0∨c a b=1
 eqv:∀a b,c a b=0↔a=b
 anti:∀a b,c b a = -c a b
 trans:∀a b d,c a b≤0→c b d≤0→c a d≤0
section
variable {α β : Type} {c:α → α → Int} {e:β → β → Int}
theorem LinC.refl (h:LinC c) (a:α):c a a=0:=(h.eqv a a).2 rfl
theorem LinC.lt_trans (h:LinC c) {a b d:α} (h1:c a b<0) (h2:c b d≤0):c a d<0:=by
 have h3:=h.trans a b d (by omega) h2
 rcases Int.lt_or_eq_of_le h3 with h4 | h4
 ·exact h4
 ·have h5:=(h.eqv a d).1 h4
  subst h5
  have:=h.anti a b
  omega
theorem LinC.trans_lt (h:LinC c) {a b d:α} (h1:c a b≤0) (h2:c b d<0):c a d<0:=by
 have h3:=h.trans a b d h1 (by omega)
 rcases Int.lt_or_eq_of_le h3 with h4 | h4
 ·exact h4
 ·have h5:=(h.eqv a d).1 h4
  subst h5
  have:=h.anti a b
  omega
def thenC (x y:Int):Int:=if x=0 then y else x
theorem LinC.prod (h:LinC c) (k:LinC e):LinC (λp q:α × β=>thenC (c p.1 q.1) (e p.2 q.2)) where
 val p q:=by
  unfold thenC
  split
  ·exact k.val _ _
  ·exact h.val _ _
 eqv p q:=by
  unfold thenC
  constructor
  ·intro h0
   split at h0
   ·rename_i h1
    exact Prod.ext ((h.eqv _ _).1 h1) ((k.eqv _ _).1 h0)
   ·rename_i h1
    exact absurd h0 h1
  ·rintro rfl
   rw[if_pos (h.refl _)]
   exact k.refl _
 anti p q:=by
  unfold thenC
  have h1:=h.anti p.1 q.1
  have h2:=k.anti p.2 q.2
  by_cases h3:c p.1 q.1=0
  ·rw[if_pos h3,if_pos (by omega),h2]
  ·rw[if_neg h3,if_neg (by omega),h1]
 trans p q r:=by
  unfold thenC
  intro h1 h2
  by_cases h3:c p.1 q.1=0
  ·rw[if_pos h3]at h1
   have h4:=(h.eqv _ _).1 h3
   rw[h4]
   by_cases h5:c q.1 r.1=0
   ·rw[if_pos h5]at h2 ⊢
    exact k.trans _ _ _ h1 h2
   ·rw[if_neg h5]at h2 ⊢
    exact h2
  ·rw[if_neg h3]at h1
   by_cases h5:c q.1 r.1=0
   ·have h4:=(h.eqv _ _).1 h5
    rw[←h4,if_neg h3]
    exact h1
   ·rw[if_neg h5]at h2
    have h6:=h.lt_trans (show c p.1 q.1<0 by omega) h2
    rw[if_neg (by omega)]
    omega
end
def cmpI (a b:Int):Int:=if a<b then -1 else if b<a then 1 else 0
theorem cmpI_lin:LinC cmpI where
 val a b:=by unfold cmpI;split<;>(try split)<;>omega
 eqv a b:=by unfold cmpI;split<;>(try split)<;>omega
 anti a b:=by unfold cmpI;split<;>(try split)<;>(try split)<;>omega
 trans a b d:=by unfold cmpI;split<;>split<;>(try split)<;>(try split)<;>(try split)<;>omega
theorem less_irr (a:List UInt8):Op.bytesLess a a=false:=by
 induction a with
 | nil=>rfl
 | cons x r ih=>simp[Op.bytesLess,ih]
theorem less_anti (a b:List UInt8):Op.bytesLess a b=true→Op.bytesLess b a=false:=by
 induction a generalizing b with
 | nil=>intro _;cases b<;>rfl
 | cons x r ih=>
  cases b with
  | nil=>intro h;cases h
  | cons y s=>
   intro h
   simp only[Op.bytesLess,Bool.or_eq_true,Bool.and_eq_true,decide_eq_true_eq,beq_iff_eq]at h
   simp only[Op.bytesLess,Bool.or_eq_false_iff,Bool.and_eq_false_iff,decide_eq_false_iff_not,beq_eq_false_iff_ne]
   rcases h with h | ⟨rfl,h⟩
   ·exact⟨λh2=>absurd (UInt8.lt_trans h h2) (UInt8.lt_irrefl _),.inl (λe=>by subst e;exact absurd h (UInt8.lt_irrefl _))⟩
   ·exact⟨UInt8.lt_irrefl _,.inr (ih s h)⟩
theorem less_total (a b:List UInt8):Op.bytesLess a b=false→Op.bytesLess b a=false→a=b:=by
 induction a generalizing b with
 | nil=>cases b with
  | nil=>intro _ _;rfl
  | cons y s=>intro h;cases h
 | cons x r ih=>
  cases b with
  | nil=>intro _ h;cases h
  | cons y s=>
   intro h1 h2
   simp only[Op.bytesLess,Bool.or_eq_false_iff,Bool.and_eq_false_iff,decide_eq_false_iff_not,beq_eq_false_iff_ne]at h1 h2
   have hxy:x=y:=UInt8.le_antisymm (UInt8.not_lt.1 h2.1) (UInt8.not_lt.1 h1.1)
   subst hxy
   have h3:Op.bytesLess r s=false:=by rcases h1.2 with h | h;exact absurd rfl h;exact h
   have h4:Op.bytesLess s r=false:=by rcases h2.2 with h | h;exact absurd rfl h;exact h
   rw[ih s h3 h4]
theorem less_trans (a b d:List UInt8):Op.bytesLess a b=true→Op.bytesLess b d=true→Op.bytesLess a d=true:=by
 induction a generalizing b d with
 | nil=> 
  intro h1 h2
  cases d with
  | nil=>cases b<;>cases h2
  | cons z t=>rfl
 | cons x r ih=>
  cases b with
  | nil=>intro h;cases h
  | cons y s=>
   cases d with
   | nil=>intro _ h;cases h
   | cons z t=>
    intro h1 h2
    simp only[Op.bytesLess,Bool.or_eq_true,Bool.and_eq_true,decide_eq_true_eq,beq_iff_eq]at h1 h2 ⊢
    rcases h1 with h1 | ⟨rfl,h1⟩
    ·rcases h2 with h2 | ⟨rfl,h2⟩
     ·exact .inl (UInt8.lt_trans h1 h2)
     ·exact .inl h1
    ·rcases h2 with h2 | ⟨rfl,h2⟩
     ·exact .inl h2
     ·exact .inr ⟨rfl,ih s t h1 h2⟩
def cmpS (a b:List UInt8):Int:=if Op.bytesLess a b=true then -1 else if Op.bytesLess b a=true then 1 else 0
theorem cmpS_lin:LinC cmpS where
 val a b:=by
  unfold cmpS
  split
  ·exact .inl rfl
  ·split
   ·exact .inr (.inr rfl)
   ·exact .inr (.inl rfl)
 eqv a b:=by
  unfold cmpS
  constructor
  ·intro h
   split at h
   ·cases h
   ·split at h
    ·cases h
    ·exact less_total a b (by simpa using ‹¬Op.bytesLess a b=true›) (by simpa using ‹¬Op.bytesLess b a=true›)
  ·rintro rfl
   rw[less_irr,if_neg Bool.false_ne_true,if_neg Bool.false_ne_true]
 anti a b:=by
  unfold cmpS
  cases h1:Op.bytesLess a b with
  | true=>rw[less_anti a b h1];rfl
  | false=>
   cases h2:Op.bytesLess b a with
   | true=>rfl
   | false=>rfl
 trans a b d:=by
  unfold cmpS
  cases h1:Op.bytesLess a b with
  | true=>
   cases h2:Op.bytesLess b d with
   | true=>rw[less_trans a b d h1 h2,if_pos rfl,if_pos rfl];exact λh _=>h
   | false=>
    cases h3:Op.bytesLess d b with
    | true=>intro _ h;exact absurd h (by decide)
    | false=>
     have:=less_total b d h2 h3
     subst this
     rw[h1,if_pos rfl];exact λh _=>h
  | false=>
   cases h2:Op.bytesLess b a with
   | true=>intro h;exact absurd h (by decide)
   | false=>
    have:=less_total a b h1 h2
    subst this
    intro _ h
    exact h
def zeroT:ByteArray:=⟨#[48,46,48]⟩
def exactT (v:Val):ByteArray:=if v.kind=2 then ofIntT v.num else if decB v.text=true then v.text else zeroT
def rankS (k:Int):Int:=
 if k=5 then 1 else if k=6 then 2 else if k=7 then 3 else if k=9 then 4 else if k=8 then 5 else if k=10 then 6 else if k=4 then 7 else if k=1 then 8 else if k=2 then 9 else if k=3 then 9 else if k=0 then 0 else 11
abbrev KeyO:=Int×Int×Int×List UInt8×List UInt8
def cmpKey:KeyO→KeyO→Int:=λp q=>thenC (cmpI p.1 q.1) (thenC (cmpI p.2.1 q.2.1) (thenC (cmpI p.2.2.1 q.2.2.1) (thenC (cmpS p.2.2.2.1 q.2.2.2.1) (cmpS p.2.2.2.2 q.2.2.2.2))))
theorem cmpKey_lin:LinC cmpKey:=cmpI_lin.prod (cmpI_lin.prod (cmpI_lin.prod (cmpS_lin.prod cmpS_lin)))
def keyN (v:Val):Int:=if v.kind=2∨v.kind=3 then decN (exactT v) else if v.kind=6∨v.kind=7 then v.num else if v.kind=1 then (if v.truth=true then 1 else 0) else 0
def keyK (v:Val):Int:=if v.kind=2∨v.kind=3 then v.kind else 0
def bareK (k:Int):Bool:=decide (k=1∨k=2∨k=5∨k=6∨k=7)
def keyT (v:Val):List UInt8:=if bareK v.kind=true then [] else v.text.data.toList
def keyX (v:Val):List UInt8:=if bareK v.kind=true∨v.kind=3 then [] else v.extra.data.toList
def keyO (v:Val):KeyO:=(rankS v.kind,keyN v,keyK v,keyT v,keyX v)
def ordV (a b:Val):Int:=cmpKey (keyO a) (keyO b)
theorem ordV_refl (a:Val):ordV a a=0:=cmpKey_lin.refl _
theorem ordV_anti (a b:Val):ordV b a = -ordV a b:=cmpKey_lin.anti _ _
theorem ordV_val (a b:Val):ordV a b = -1∨ordV a b=0∨ordV a b=1:=cmpKey_lin.val _ _
theorem thenC_ne {x y:Int} (h:x≠0):thenC x y=x:=by unfold thenC;rw[if_neg h]
theorem thenC_zero (y:Int):thenC 0 y=y:=rfl
theorem cmpI_self (a:Int):cmpI a a=0:=cmpI_lin.refl a
theorem cmpS_self (a:List UInt8):cmpS a a=0:=cmpS_lin.refl a
theorem cmpD_cmpI (s t:ByteArray):cmpD s t=cmpI (decN s) (decN t):=rfl
theorem thenC_zr (x:Int):thenC x 0=x:=by unfold thenC;split<;>omega
theorem ordV_rank {a b:Val} (h:rankS a.kind≠rankS b.kind):ordV a b=cmpI (rankS a.kind) (rankS b.kind):=by
 show thenC (cmpI (rankS a.kind) (rankS b.kind)) _=_
 exact thenC_ne (λh2=>h ((cmpI_lin.eqv _ _).1 h2))
theorem ordV_same {a b:Val} (h:rankS a.kind=rankS b.kind):ordV a b=thenC (cmpI (keyN a) (keyN b)) (thenC (cmpI (keyK a) (keyK b)) (thenC (cmpS (keyT a) (keyT b)) (cmpS (keyX a) (keyX b)))):=by
 show thenC (cmpI (rankS a.kind) (rankS b.kind)) _=_
 rw[h,cmpI_self]
 rfl
theorem rank_nine {k:Int}:rankS k=9↔k=2∨k=3:=by
 unfold rankS
 constructor
 ·intro h
  repeat' split at h
  all_goals omega
 ·intro h
  repeat' split
  all_goals omega
def kindR (r:Int):Int:=if r=1 then 5 else if r=2 then 6 else if r=3 then 7 else if r=4 then 9 else if r=5 then 8 else if r=6 then 10 else if r=7 then 4 else if r=8 then 1 else 0
theorem rank_inv (k:Int):(rankS k=9∧(k=2∨k=3))∨rankS k=11∨(rankS k≠9∧rankS k≠11∧k=kindR (rankS k)):=by
 by_cases h5:k=5
 ·subst h5;right;right;decide
 by_cases h6:k=6
 ·subst h6;right;right;decide
 by_cases h7:k=7
 ·subst h7;right;right;decide
 by_cases h9:k=9
 ·subst h9;right;right;decide
 by_cases h8:k=8
 ·subst h8;right;right;decide
 by_cases h10:k=10
 ·subst h10;right;right;decide
 by_cases h4:k=4
 ·subst h4;right;right;decide
 by_cases h1:k=1
 ·subst h1;right;right;decide
 by_cases h2:k=2
 ·subst h2;left;decide
 by_cases h3:k=3
 ·subst h3;left;decide
 by_cases h0:k=0
 ·subst h0;right;right;decide
 right;left
 unfold rankS
 rw[if_neg h5,if_neg h6,if_neg h7,if_neg h9,if_neg h8,if_neg h10,if_neg h4,if_neg h1,if_neg h2,if_neg h3,if_neg h0]
theorem rank_same {j k:Int} (h:rankS j=rankS k):j=k∨((j=2∨j=3)∧(k=2∨k=3))∨(rankS j=11∧rankS k=11):=by
 rcases rank_inv j with h1 | h1 | h1
 ·rcases rank_inv k with h2 | h2 | h2
  ·exact .inr (.inl ⟨h1.2,h2.2⟩)
  ·omega
  ·exact absurd (h▸h1.1) h2.1
 ·exact .inr (.inr ⟨h1,h▸h1⟩)
 ·rcases rank_inv k with h2 | h2 | h2
  ·exact absurd (h.trans h2.1) h1.1
  ·exact absurd (h.trans h2) h1.2.1
  ·left
   rw[h1.2.2,h2.2.2,h]
theorem ordV_num {a b:Val} (ha:a.kind=2∨a.kind=3) (hb:b.kind=2∨b.kind=3) :
    ordV a b=thenC (cmpD (exactT a) (exactT b)) (thenC (cmpI a.kind b.kind) (if a.kind=3 then cmpS a.text.data.toList b.text.data.toList else 0)):=by
 rw[ordV_same ((rank_nine.2 ha).trans (rank_nine.2 hb).symm),cmpD_cmpI]
 have e1:keyN a=decN (exactT a):=by unfold keyN;rw[if_pos ha]
 have e2:keyN b=decN (exactT b):=by unfold keyN;rw[if_pos hb]
 have e3:keyK a=a.kind:=by unfold keyK;rw[if_pos ha]
 have e4:keyK b=b.kind:=by unfold keyK;rw[if_pos hb]
 rw[e1,e2,e3,e4]
 congr 1
 by_cases hk:a.kind=b.kind
 ·rw[hk,cmpI_self,thenC_zero,thenC_zero]
  unfold keyT keyX bareK
  rw[hk]
  rcases hb with hb | hb
  ·rw[hb]
   simp only[Int.reduceEq,decide_true,true_or,or_true,if_true,if_false]
   rw[cmpS_self]
   rfl
  ·rw[hb]
   have e:decide ((3:Int)=1∨(3:Int)=2∨(3:Int)=5∨(3:Int)=6∨(3:Int)=7)=false:=by decide
   rw[e,if_neg Bool.false_ne_true,if_neg Bool.false_ne_true,if_pos rfl,if_pos (.inr rfl),if_pos (.inr rfl),cmpS_self,thenC_zr]
 ·rw[thenC_ne (λh=>hk ((cmpI_lin.eqv _ _).1 h)),thenC_ne (λh=>hk ((cmpI_lin.eqv _ _).1 h))]
theorem ordV_thing {a b:Val} (ha:a.kind=6∨a.kind=7) (hb:b.kind=a.kind):ordV a b=cmpI a.num b.num:=by
 rw[ordV_same (by rw[hb])]
 have hb':b.kind=6∨b.kind=7:=by rw[hb];exact ha
 have e1:keyN a=a.num:=by unfold keyN;rw[if_neg (by omega),if_pos ha]
 have e2:keyN b=b.num:=by unfold keyN;rw[if_neg (by omega),if_pos hb']
 have e3:keyK a=0:=by unfold keyK;rw[if_neg (by omega)]
 have e4:keyK b=0:=by unfold keyK;rw[if_neg (by omega)]
 have e5:∀k:Int,k=6∨k=7→bareK k=true:=λk hk=>by unfold bareK;exact decide_eq_true (by omega)
 have e6:keyT a=[]:=by unfold keyT;rw[if_pos (e5 _ ha)]
 have e7:keyT b=[]:=by unfold keyT;rw[if_pos (e5 _ hb')]
 have e8:keyX a=[]:=by unfold keyX;rw[if_pos (.inl (e5 _ ha))]
 have e9:keyX b=[]:=by unfold keyX;rw[if_pos (.inl (e5 _ hb'))]
 rw[e1,e2,e3,e4,e6,e7,e8,e9,cmpI_self,cmpS_self,thenC_zero,thenC_zero,thenC_zr]
theorem ordV_bool {a b:Val} (ha:a.kind=1) (hb:b.kind=1):ordV a b=cmpI (if a.truth=true then 1 else 0) (if b.truth=true then 1 else 0):=by
 rw[ordV_same (by rw[ha,hb])]
 have e1:keyN a=if a.truth=true then 1 else 0:=by unfold keyN;rw[if_neg (by omega),if_neg (by omega),if_pos ha]
 have e2:keyN b=if b.truth=true then 1 else 0:=by unfold keyN;rw[if_neg (by omega),if_neg (by omega),if_pos hb]
 have e3:keyK a=0:=by unfold keyK;rw[if_neg (by omega)]
 have e4:keyK b=0:=by unfold keyK;rw[if_neg (by omega)]
 have e5:bareK 1=true:=by decide
 have e6:keyT a=[]:=by unfold keyT;rw[ha,if_pos e5]
 have e7:keyT b=[]:=by unfold keyT;rw[hb,if_pos e5]
 have e8:keyX a=[]:=by unfold keyX;rw[ha,if_pos (.inl e5)]
 have e9:keyX b=[]:=by unfold keyX;rw[hb,if_pos (.inl e5)]
 rw[e1,e2,e3,e4,e6,e7,e8,e9,cmpI_self,cmpS_self,thenC_zero,thenC_zero,thenC_zr]
theorem ordV_text {a b:Val} (h:rankS a.kind=rankS b.kind) (ha:bareK a.kind=false) (ha3:a.kind≠3):ordV a b=thenC (cmpS a.text.data.toList b.text.data.toList) (cmpS a.extra.data.toList b.extra.data.toList):=by
 have e5:∀k:Int,bareK k=false→k≠1∧k≠2∧k≠5∧k≠6∧k≠7:=λk hk=>by
  unfold bareK at hk
  have:=of_decide_eq_false hk
  omega
 have ka:=e5 _ ha
 have hb:bareK b.kind=false∧b.kind≠3:=by
  rcases rank_same h with e | e | e
  ·rw[←e];exact⟨ha,ha3⟩
  ·omega
  ·have h2:=e.2
   have:b.kind≠1∧b.kind≠2∧b.kind≠5∧b.kind≠6∧b.kind≠7∧b.kind≠3:=by
    refine⟨?_,?_,?_,?_,?_,?_⟩<;>(intro e3;exfalso;rw[e3]at h2;revert h2;decide)
   refine⟨?_,this.2.2.2.2.2⟩
   unfold bareK
   exact decide_eq_false (by omega)
 have kb:=e5 _ hb.1
 rw[ordV_same h]
 have e1:keyN a=0:=by unfold keyN;rw[if_neg (by omega),if_neg (by omega),if_neg (by omega)]
 have e2:keyN b=0:=by unfold keyN;rw[if_neg (by omega),if_neg (by omega),if_neg (by omega)]
 have e3:keyK a=0:=by unfold keyK;rw[if_neg (by omega)]
 have e4:keyK b=0:=by unfold keyK;rw[if_neg (by omega)]
 have e6:keyT a=a.text.data.toList:=by unfold keyT;rw[ha,if_neg Bool.false_ne_true]
 have e7:keyT b=b.text.data.toList:=by unfold keyT;rw[hb.1,if_neg Bool.false_ne_true]
 have e8:keyX a=a.extra.data.toList:=by unfold keyX;rw[ha,if_neg (by simpa using ha3)]
 have e9:keyX b=b.extra.data.toList:=by unfold keyX;rw[hb.1,if_neg (by simpa using hb.2)]
 rw[e1,e2,e3,e4,e6,e7,e8,e9,cmpI_self,thenC_zero,thenC_zero]
def ScalV (v:Val):Prop:=mayV v 0=true∧(v.kind=1∨v.kind=2∨v.kind=3∨v.kind=4∨v.kind=8∨v.kind=9∨v.kind=10) ∧ -9223372036854775808≤v.num∧v.num≤9223372036854775807
theorem bytes_eq {s t:ByteArray} (h:s.data.toList=t.data.toList):s=t:=ByteArray.ext (Array.toList_inj.1 h)
theorem cmpB_eq {k:Int} {b:Bool} {n:Int} {t x:ByteArray} {l:List Val} {b':Bool} {n':Int} {t' x':ByteArray} (h:cmpB k b n t x l b' n' t' x'=true) (hk:k≠5):b=b'∧n=n'∧t=t'∧x=x'∧l=[]:=by
 unfold cmpB at h
 simp only[Bool.and_eq_true,beq_iff_eq,decide_eq_true_eq,Bool.or_eq_true,List.length_eq_zero_iff]at h
 refine⟨h.1,h.2.1,h.2.2.1,h.2.2.2.1,?_⟩
 rcases h.2.2.2.2 with h | h
 ·exact h
 ·exact absurd h hk
theorem scal_form {v:Val} (h:ScalV v) :
    (v.kind=1∧v = .mk 1 v.truth 0 ⟨#[]⟩ ⟨#[]⟩ [])∨(v.kind=2∧v = .mk 2 false v.num ⟨#[]⟩ ⟨#[]⟩ [])∨(v.kind=3∧decB v.text=true∧v = .mk 3 false 0 v.text ⟨#[]⟩ []) ∨
    ((v.kind=4∨v.kind=8∨v.kind=9∨v.kind=10)∧v = .mk v.kind false 0 v.text v.extra []):=by
 obtain⟨h1,h2,_,_⟩:=h
 cases v with
 | mk k b n t x l=>
 unfold mayV at h1
 simp only[Val.kind,Val.truth,Val.num,Val.text,Val.extra]at h2 ⊢
 rcases h2 with rfl | rfl | rfl | rfl | rfl | rfl | rfl
 ·simp only[Int.reduceEq,if_true,if_false]at h1
  obtain⟨_,rfl,rfl,rfl,rfl⟩:=cmpB_eq h1 (by decide)
  exact .inl ⟨rfl,rfl⟩
 ·simp only[Int.reduceEq,if_true,if_false]at h1
  obtain⟨rfl,_,rfl,rfl,rfl⟩:=cmpB_eq h1 (by decide)
  exact .inr (.inl ⟨rfl,rfl⟩)
 ·simp only[Int.reduceEq,if_true,if_false,Bool.and_eq_true]at h1
  obtain⟨rfl,rfl,_,rfl,rfl⟩:=cmpB_eq h1.2 (by decide)
  exact .inr (.inr (.inl ⟨rfl,h1.1,rfl⟩))
 ·simp only[Int.reduceEq,if_true,if_false,Bool.and_eq_true]at h1
  obtain⟨rfl,rfl,_,rfl,rfl⟩:=cmpB_eq h1.2 (by decide)
  exact .inr (.inr (.inr ⟨.inl rfl,rfl⟩))
 ·simp only[Int.reduceEq,if_true,if_false,Bool.and_eq_true]at h1
  obtain⟨rfl,rfl,_,rfl,rfl⟩:=cmpB_eq h1.2 (by decide)
  exact .inr (.inr (.inr ⟨.inr (.inl rfl),rfl⟩))
 ·simp only[Int.reduceEq,if_true,if_false,Bool.and_eq_true]at h1
  obtain⟨rfl,rfl,_,rfl,rfl⟩:=cmpB_eq h1.2 (by decide)
  exact .inr (.inr (.inr ⟨.inr (.inr (.inl rfl)),rfl⟩))
 ·simp only[Int.reduceEq,if_true,if_false,Bool.and_eq_true]at h1
  obtain⟨rfl,rfl,_,_,rfl⟩:=cmpB_eq h1.2.2 (by decide)
  exact .inr (.inr (.inr ⟨.inr (.inr (.inr rfl)),rfl⟩))
theorem ordV_eq {a b:Val} (ha:ScalV a) (hb:ScalV b) (h:ordV a b=0):a=b:=by
 have hk:=(cmpKey_lin.eqv _ _).1 h
 unfold keyO at hk
 simp only[Prod.mk.injEq]at hk
 obtain⟨hr,hn,hkk,ht,hx⟩:=hk
 have hkind:a.kind=b.kind:=by
  rcases rank_same hr with e | e | e
  ·exact e
  ·unfold keyK at hkk
   rw[if_pos e.1,if_pos e.2]at hkk
   exact hkk
  ·have h2:=e.1
   rcases ha.2.1 with e3 | e3 | e3 | e3 | e3 | e3 | e3<;>(exfalso;rw[e3]at h2;revert h2;decide)
 rcases scal_form ha with⟨k1,e1⟩ | ⟨k1,e1⟩ | ⟨k1,d1,e1⟩ | ⟨k1,e1⟩
 ·rcases scal_form hb with⟨k2,e2⟩ | ⟨k2,e2⟩ | ⟨k2,d2,e2⟩ | ⟨k2,e2⟩
  ·unfold keyN at hn
   rw[k1,k2]at hn
   simp only[Int.reduceEq,or_self,if_true,if_false]at hn
   have:a.truth=b.truth:=by
    cases h1:a.truth<;>cases h2:b.truth<;>rw[h1,h2]at hn<;>first | rfl | (exfalso;revert hn;decide)
   rw[e1,e2,this]
  all_goals omega
 ·rcases scal_form hb with⟨k2,e2⟩ | ⟨k2,e2⟩ | ⟨k2,d2,e2⟩ | ⟨k2,e2⟩
  ·omega
  ·unfold keyN at hn
   rw[if_pos (.inl k1),if_pos (.inl k2)]at hn
   unfold exactT at hn
   rw[if_pos k1,if_pos k2,decN_ofInt ha.2.2.1 ha.2.2.2,decN_ofInt hb.2.2.1 hb.2.2.2]at hn
   have:a.num=b.num:=by omega
   rw[e1,e2,this]
  all_goals omega
 ·rcases scal_form hb with⟨k2,e2⟩ | ⟨k2,e2⟩ | ⟨k2,d2,e2⟩ | ⟨k2,e2⟩
  ·omega
  ·omega
  ·unfold keyT at ht
   rw[k1,k2]at ht
   have:a.text=b.text:=bytes_eq ht
   rw[e1,e2,this]
  ·omega
 ·rcases scal_form hb with⟨k2,e2⟩ | ⟨k2,e2⟩ | ⟨k2,d2,e2⟩ | ⟨k2,e2⟩
  ·omega
  ·omega
  ·omega
  ·have hbare:∀k:Int,(k=4∨k=8∨k=9∨k=10)→bareK k=false:=λk hk=>by unfold bareK;exact decide_eq_false (by omega)
   unfold keyT at ht
   unfold keyX at hx
   rw[hbare _ k1,hbare _ k2,if_neg Bool.false_ne_true,if_neg Bool.false_ne_true]at ht
   rw[hbare _ k1,hbare _ k2,if_neg (by simp;omega),if_neg (by simp;omega)]at hx
   rw[e1,e2,hkind,bytes_eq ht,bytes_eq hx]
end Go.Proofs.YtefhfadjajcmkaaGreatDoor
