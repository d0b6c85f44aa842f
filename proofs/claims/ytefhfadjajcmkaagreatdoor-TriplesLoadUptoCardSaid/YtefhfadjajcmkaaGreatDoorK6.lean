/- Two numbers held against each other by the program: printed by gen_WZ.py. -/
import Derived.Test.YtefhfadjajcmkaaGreatDoorK5
import Derived.Test.YtefhfadjajcmkaaGreatDoorK3
import Derived.ChangeKeysEq
import Derived.Laws.StructEq
set_option linter.unusedVariables false
set_option linter.unusedSimpArgs false
set_option maxRecDepth 100000
set_option maxHeartbeats 8000000
namespace Go.Proofs.YtefhfadjajcmkaaGreatDoor
open Go Go.RowKit
open Go.Lib (hid cell_of_heap)
theorem cellsN_one (n:Bool) (f:Nat→Nat):(cellsN n f).all (·.oneCell')=true:=by
 have h:=Array.all_eq_true_iff_forall_mem.1 (cellsU_one f)
 rw[Array.all_eq_true_iff_forall_mem]
 intro v hv
 unfold cellsN at hv
 rw[Array.mem_append]at hv
 rcases hv with hv | hv
 ·simp at hv;subst hv;rfl
 ·exact h v hv
theorem built_num (n:Bool) (f:Nat→Nat) (w:World):(Instr.build 293 #[(0,.bool n),(1,.agg (cellsU f))]).run Tryz.prog w = .ok (.agg (cellsN n f)) w:=
 run_build w _ _ _ (by kernel_rfl)
def LoadIs (s:ByteArray) (w:World) (e:Ending) (w':World):Prop:=∃f:Nat→Nat,e = .returned (.tuple #[.agg (cellsN (sgnB s) f),.bool true])∧Below w.heap.size w w'∧(∀i,i<16→f i<bW)∧decN s=sgV (sgnB s) (pv f 16)
theorem digits_pad {a b:List UInt8} (ha:a.all digB=true) (hb:b.all digB=true) (k:Nat):((a++b)++List.replicate k 48).all digB=true:=by
 rw[List.all_append,List.all_append,ha,hb,Bool.true_and,Bool.true_and,List.all_eq_true]
 intro x hx
 rw[List.eq_of_mem_replicate hx]
 decide
theorem load_any (s:ByteArray) (hs:decB s=true) (w:World) (hg:GlobB w) :
    Calls Tryz.prog 301 #[.string s] w (LoadIs s w):=by
 obtain⟨neg,a,b,hsh⟩:=dec_shape hs
 obtain⟨hsg,hst⟩:=sgn_of hsh
 have hsz:s.size≤62:=by
  rcases Nat.lt_or_ge 62 s.size with h | h
  ·have:=dec_long h;rw[hs]at this;cases this
  ·exact h
 have hs0:0<s.size:=by
  have h1:s.size=s.data.toList.length:=(data_len s).symm
  rw[h1,hsh.eq,List.length_append,List.length_append,List.length_cons]
  omega
 have hfirst:s[0].toNat=45↔neg=true:=by
  have h2:s.data.toList.head?=some s[0]:=by rw[List.head?_eq_getElem?];exact data_at s 0 hs0
  have h3:sgnB s=(some s[0]==some (45:UInt8)):=by unfold sgnB;rw[h2]
  rw[hsg]at h3
  constructor
  ·intro h
   have:s[0]=45:=UInt8.toNat_inj.1 h
   rw[h3,this];rfl
  ·intro h
   rw[h]at h3
   have:s[0]=45:=by simpa using h3.symm
   rw[this];rfl
 obtain⟨t,Ht⟩:=name_itV (sgnT s)
 rw[Ht.out]at hst
 have htx:neg=true→s.extract 1 s.size=t:=λh=>by
  have h1:=(sgn_min hs0 (hfirst.2 h)).2.2
  rw[←Ht.out,h1]
 have htn:neg=false→s=t:=λh=>by
  apply ByteArray.ext
  apply Array.toList_inj.1
  rw[hst,hsh.eq,h]
  rfl
 have hts:t.size=a.length+(b.length+1):=by
  show t.data.toList.length=_
  rw[hst,List.length_append,List.length_cons]
 have HSH:=hid hsh
 have HSG:=hid hsg
 have HDEC:=hid (λ(W:World) (hW:GlobB W)=>dec_any s (by omega) W hW)
 rw[hs]at HDEC
 have HCUT:=hid (λ(W:World) (hW:GlobB W)=>show Calls Tryz.prog 295 #[.string t,.string ⟨#[46]⟩] W λe w'=>e = .returned (.tuple #[.string (bK a),.string (bK b),.bool true])∧∃n,w'=W.drewN n from by
  obtain⟨m,hm⟩:=hW
  have:=cut_any t ⟨#[46]⟩ m W (by have:=hsh.la;have:=hsh.lb;omega) hm
  rw[hst,cut_yes (no46 hsh.da)]at this
  exact this)
 have hbl:(bK b).size=b.length:=bK_size b
 have hal:(bK a).size=a.length:=bK_size a
 have hlb:=hsh.lb
 have hla:=hsh.la
 obtain⟨k,Hk⟩:=name_itV (20-b.length)
 have HREP:=hid (λ(W:World)=>show Calls Tryz.prog 325 #[.string ⟨#[48]⟩,.int .i64 (k:Int)] W λe w'=>e = .returned (.string (bK (List.replicate k 48)))∧Below W.heap.size W w' from by
  have:=repeat_any ⟨#[48]⟩ k W (by rw[←Hk.out];omega) (by rw[←Hk.out];show 1*(20-b.length)≤_;omega)
  have e:Lib.repeatL (⟨#[48]⟩:ByteArray).data.toList k=List.replicate k 48:=repeat_zero k
  rw[e]at this
  exact this)
 have HWO:=hid (λ(W:World)=>wordsOf_any (bK ((a++b)++List.replicate k 48)) (by rw[bK_data];exact digits_pad hsh.da hsh.db k) (by rw[bK_size,List.length_append,List.length_append,List.length_replicate,←Hk.out];omega) W)
 have hadd1:∀W:World,(Op.stringOp .add (bK a) (bK b)).run Tryz.prog W = .ok (.string (bK (a++b))) W:=λW=>by
  rw[←bK_app]
  exact run_string_add_sum W _ _ (by rw[hbl,hal];omega)
 have hadd2:∀W:World,(Op.stringOp .add (bK (a++b)) (bK (List.replicate k 48))).run Tryz.prog W = .ok (.string (bK ((a++b)++List.replicate k 48))) W:=λW=>by
  rw[show bK ((a++b)++List.replicate k 48)=bK (a++b)++bK (List.replicate k 48) from by rw[bK_app]]
  exact run_string_add_sum W _ _ (by rw[bK_size,bK_size,List.length_append,List.length_replicate,←Hk.out];omega)
 have hsub:IntKind.i64.wrap (20-(b.length:Int))=(k:Int):=by
  rw[IntWalk.i64_in _ (by omega),←Hk.out];omega
 have hsub2:(20:Int)-(b.length:Int)=(k:Int):=by rw[←Hk.out];omega
 have HVAL:=hid (show digV ((a++b)++List.replicate k 48)=digV (a++b)*10 ^ (20-b.length) from by rw[dig_pad,Hk.out])
 have hdata:=hid (bK_data ((a++b)++List.replicate k 48))
 obtain⟨S3,HS3⟩:=name_itV (bK ((a++b)++List.replicate k 48))
 obtain⟨S2,HS2⟩:=name_itV (bK (List.replicate k 48))
 obtain⟨S1,HS1⟩:=name_itV (bK (a++b))
 obtain⟨Sa,HSa⟩:=name_itV (bK a)
 obtain⟨Sb,HSb⟩:=name_itV (bK b)
 rw[HS3.out]at HWO hadd2 hdata
 rw[HS2.out]at HREP hadd2
 rw[HS1.out]at hadd1 hadd2
 rw[HSa.out]at HCUT hadd1
 rw[HSb.out]at HCUT hadd1 hbl
 obtain⟨z,Hz⟩:=name_itV w.heap.size
 obtain⟨w1,HW1⟩:=name_itV (w.alloc (.cells #[.bool false,.int .u64 0,.int .u64 0,.int .u64 0,.int .u64 0,.int .u64 0,.int .u64 0,.int .u64 0,.int .u64 0,.int .u64 0,.int .u64 0,.int .u64 0,.int .u64 0,.int .u64 0,.int .u64 0,.int .u64 0,.int .u64 0] 293))
 have hzero:(#[.bool false,.int .u64 0,.int .u64 0,.int .u64 0,.int .u64 0,.int .u64 0,.int .u64 0,.int .u64 0,.int .u64 0,.int .u64 0,.int .u64 0,.int .u64 0,.int .u64 0,.int .u64 0,.int .u64 0,.int .u64 0,.int .u64 0]:Array Value)=cellsN false (λ_=>0):=by kernel_rfl
 have HB1:=hid (show Below w.heap.size w w1 from by rw[←HW1.out];exact (Below.refl _ w).alloc (Nat.le_refl _) _)
 have HX1:=hid (show w1.heap[z]?=some (.cells (cellsN false (λ_=>0)) 293 (0,0)) from by
  rw[←HW1.out,←Hz.out,hzero]
  exact heap_alloc_new w _)
 have HG1:=hid (glob_under hg HB1.out)
 clear hsh hsg hg hs hzero hal hst hts hla hlb
 go_enter Tryz.func301,Tryz.ntmps301
 go_upto_region 1 with fail
 rw[HW1.out,Hz.out]
 go_wp2_with fail
 refine (HDEC.out w1 HG1.out).mono ?_
 rintro e w2 ⟨rfl,hb2⟩
 have HB2:=hid (HB1.out.trans (hb2.mono HB1.out.size))
 have HX2:=hid ((hb2.block z (blk_lt HX1.out)).trans HX1.out)
 have HG2:=hid (glob_under HG1.out hb2)
 clear hb2
 have e1:((s[0].toNat:Int)==45)=neg:=by
  cases neg with
  | true=>simp;have:=hfirst.2 rfl;omega
  | false=>simp;intro h;have:=hfirst.1 (by omega);cases this
 go_upto_if 15 with fail
 go_cut [0] (λs0 wx=>s0 = .string t∧wx=w2)
 case first=>
  cases neg with
  | true=>
   have hx:=hid (htx rfl)
   go_wp2_with fail
   go_meet
   exact⟨rfl,rfl⟩
  | false=>
   have hx:=hid (htn rfl)
   go_wp2_with fail
   go_meet
   exact⟨rfl,rfl⟩
 case rest=>
  obtain⟨h0,rfl⟩:=hcut
  subst h0
  go_wp2_with fail
  refine (HCUT.out wc HG2.out).mono ?_
  rintro e w3 ⟨rfl,q3,hw3⟩
  have HX3:=hid (show w3.heap[z]?=some (.cells (cellsN false (λ_=>0)) 293 (0,0)) from by rw[hw3];exact HX2.out)
  have HB3:=hid (show Below w.heap.size w w3 from by rw[hw3];exact below_drewN HB2.out q3)
  clear hw3
  go_wp2_with fail
  refine (HREP.out w3).mono ?_
  rintro e w4 ⟨rfl,hb4⟩
  have HX4:=hid ((hb4.block z (blk_lt HX3.out)).trans HX3.out)
  have HB4:=hid (HB3.out.trans (hb4.mono HB3.out.size))
  clear hb4
  go_wp2_with fail
  refine (HWO.out w4).mono ?_
  rintro e w5 ⟨f,rfl,hb5,hf5,hv5⟩
  have HX5:=hid ((hb5.block z (blk_lt HX4.out)).trans HX4.out)
  have HB5:=hid (HB4.out.trans (hb5.mono HB4.out.size))
  have HF5:=hid hf5
  have HV5:=hid hv5
  clear hb5 hf5 hv5
  dsimp only
  rename_i hK
  refine hK _ _ ?_
  refine build_arm rfl 293 _ rfl #[(0,.bool neg),(1,.agg (cellsU f))] (by kernel_rfl) (.agg (cellsN neg f)) (built_num neg f _) ?_
  refine st_row rfl 293 _ _ rfl z (cellsN false (λ_=>0)) (cellsN neg f) 293 rfl rfl HX5.out (by rw[cellsN_size,cellsN_size]) (by rw[cellsN_size];kernel_rfl) (cellsN_one neg f) ?_
  intro wf hgf htf
  go_wp2_with fail
  have hld:=run_loadVar_row (P:=Tryz.prog) wf z 293 293 (cellsN neg f) (0,0) _ hgf Tryz.underlying293 rfl (by rw[cellsN_size];kernel_rfl)
  have hsh:=HSH.out
  refine bodyPost_ret (v:=.tuple #[.agg (cellsN neg f),.bool true]) (by simp[results,Tryz.results301,asAddr,hld]) rfl ⟨f,by rw[HSG.out],?_,HF5.out,?_⟩
  ·exact HB5.out.trans (htf.below (λb _ h=>by have:=Hz.out;omega) HB5.out.size)
  ·rw[HSG.out,decN_of hsh,HV5.out,hdata.out,HVAL.out]
   rfl
def zeroN:Array Value:=#[.bool false,.int .u64 0,.int .u64 0,.int .u64 0,.int .u64 0,.int .u64 0,.int .u64 0,.int .u64 0,.int .u64 0,.int .u64 0,.int .u64 0,.int .u64 0,.int .u64 0,.int .u64 0,.int .u64 0,.int .u64 0,.int .u64 0]
def NumIs (s:ByteArray) (f:Nat→Nat):Prop:=(∀i,i<16→f i<bW)∧decN s=sgV (sgnB s) (pv f 16)
def BothIs (s t:ByteArray) (w:World) (e:Ending) (w':World):Prop:=∃f g:Nat→Nat,e = .returned (.tuple #[.agg (cellsN (sgnB s) f),.agg (cellsN (sgnB t) g),.bool true])∧Below w.heap.size w w'∧NumIs s f∧NumIs t g
abbrev numB (c:Array Value):Obj:=.cells c 293 (0,0)
theorem both_any (s t:ByteArray) (hs:decB s=true) (ht:decB t=true) (w:World) (hg:GlobB w) :
    Calls Tryz.prog 264 #[.string s,.string t] w (BothIs s t w):=by
 obtain⟨z,Hz⟩:=name_itV w.heap.size
 obtain⟨w1,HW1⟩:=name_itV ((w.alloc (.cells #[.bool false,.int .u64 0,.int .u64 0,.int .u64 0,.int .u64 0,.int .u64 0,.int .u64 0,.int .u64 0,.int .u64 0,.int .u64 0,.int .u64 0,.int .u64 0,.int .u64 0,.int .u64 0,.int .u64 0,.int .u64 0,.int .u64 0] 293)).alloc (.cells #[.bool false,.int .u64 0,.int .u64 0,.int .u64 0,.int .u64 0,.int .u64 0,.int .u64 0,.int .u64 0,.int .u64 0,.int .u64 0,.int .u64 0,.int .u64 0,.int .u64 0,.int .u64 0,.int .u64 0,.int .u64 0,.int .u64 0] 293))
 have HB1:=hid (show Below w.heap.size w w1 from by rw[←HW1.out];exact two_new w _ _)
 have HX1:=hid (show w1.heap[z]?=some (numB zeroN) from by
  rw[←HW1.out,←Hz.out]
  exact heap_alloc2_old w _ _)
 have HY1:=hid (show w1.heap[z+1]?=some (numB zeroN) from by
  rw[←HW1.out,←Hz.out]
  exact heap_alloc2_new w _ _)
 have HG1:=hid (glob_under hg HB1.out)
 have HS:=hid (λ(W:World) (hW:GlobB W)=>load_any s hs W hW)
 have HT:=hid (λ(W:World) (hW:GlobB W)=>load_any t ht W hW)
 clear hg
 go_enter Tryz.func264,Tryz.ntmps264
 go_upto_region 1 with fail
 rw[HW1.out,Hz.out]
 go_wp2_with fail
 refine (HS.out w1 HG1.out).mono ?_
 rintro e w2 ⟨f,rfl,hb2,hf2,hd2⟩
 have HNF:=hid (show NumIs s f from ⟨hf2,hd2⟩)
 have HB12:=hid hb2
 obtain⟨n1,Hn1⟩:=name_itV (sgnB s)
 rw[Hn1.out]
 obtain⟨za,Hza⟩:=name_itV w2.heap.size
 obtain⟨w3,HW3⟩:=name_itV (w2.alloc (.cells #[.bool false,.int .u64 0,.int .u64 0,.int .u64 0,.int .u64 0,.int .u64 0,.int .u64 0,.int .u64 0,.int .u64 0,.int .u64 0,.int .u64 0,.int .u64 0,.int .u64 0,.int .u64 0,.int .u64 0,.int .u64 0,.int .u64 0] 293))
 have HX3:=hid (show w3.heap[za]?=some (numB zeroN) from by rw[←HW3.out,←Hza.out];exact heap_alloc_new w2 _)
 have HB23:=hid (show Below w2.heap.size w2 w3 from by rw[←HW3.out];exact (Below.refl _ _).alloc (Nat.le_refl _) _)
 clear hb2 hf2 hd2
 have HWz:=hid (And.intro HW3.out Hza.out)
 go_wp2_with (first
  | (refine st_row (op:=⟨none,_,_,_,_,_⟩) rfl 293 _ _ rfl w2.heap.size zeroN (cellsN n1 f) 293 rfl rfl (by have h:=HX3.out;rw[←HWz.out.1,←HWz.out.2]at h;exact h) (by rw[cellsN_size];rfl) (by rw[cellsN_size];kernel_rfl) (cellsN_one n1 f) ?_;intro w4 hg4 ht4;rw[HWz.out.1]at ht4;rw[HWz.out.2]at ht4 hg4 ⊢))
 have HB34:=hid (ht4.below (B:=w2.heap.size) (λb _ h=>by have:=Hza.out;omega) HB23.out.size)
 have HB14:=hid (HB12.out.trans ((HB23.out.trans HB34.out).mono HB12.out.size))
 have HA4:=hid hg4
 clear hg4 ht4
 refine (HT.out w4 (glob_under HG1.out HB14.out)).mono ?_
 rintro e w5 ⟨g,rfl,hb5,hf5,hd5⟩
 have HNG:=hid (show NumIs t g from ⟨hf5,hd5⟩)
 have HB45:=hid hb5
 obtain⟨n2,Hn2⟩:=name_itV (sgnB t)
 rw[Hn2.out]
 obtain⟨zb,Hzb⟩:=name_itV w5.heap.size
 obtain⟨w6,HW6⟩:=name_itV (w5.alloc (.cells #[.bool false,.int .u64 0,.int .u64 0,.int .u64 0,.int .u64 0,.int .u64 0,.int .u64 0,.int .u64 0,.int .u64 0,.int .u64 0,.int .u64 0,.int .u64 0,.int .u64 0,.int .u64 0,.int .u64 0,.int .u64 0,.int .u64 0] 293))
 have HX6:=hid (show w6.heap[zb]?=some (numB zeroN) from by rw[←HW6.out,←Hzb.out];exact heap_alloc_new w5 _)
 have HB56:=hid (show Below w5.heap.size w5 w6 from by rw[←HW6.out];exact (Below.refl _ _).alloc (Nat.le_refl _) _)
 clear hb5 hf5 hd5
 have HWz6:=hid (And.intro HW6.out Hzb.out)
 go_upto_region 3 with (first
  | (refine st_row (op:=⟨none,_,_,_,_,_⟩) rfl 293 _ _ rfl w5.heap.size zeroN (cellsN n2 g) 293 rfl rfl (by have h:=HX6.out;rw[←HWz6.out.1,←HWz6.out.2]at h;exact h) (by rw[cellsN_size];rfl) (by rw[cellsN_size];kernel_rfl) (cellsN_one n2 g) ?_;intro w7 hg7 ht7;rw[HWz6.out.1]at ht7;rw[HWz6.out.2]at ht7 hg7 ⊢))
 have HB67:=hid (ht7.below (B:=w5.heap.size) (λb _ h=>by have:=Hzb.out;omega) HB56.out.size)
 have HB47:=hid (HB45.out.trans ((HB56.out.trans HB67.out).mono HB45.out.size))
 have HB17:=hid (HB14.out.trans (HB47.out.mono HB14.out.size))
 have HA7:=hid ((HB47.out.block za (blk_lt HA4.out)).trans HA4.out)
 have HX7:=hid ((HB17.out.block z (blk_lt HX1.out)).trans HX1.out)
 have HY7:=hid ((HB17.out.block (z+1) (blk_lt HY1.out)).trans HY1.out)
 have HV7:=hid hg7
 have HB7:=hid (HB1.out.trans (HB17.out.mono HB1.out.size))
 have hne:=hid (show z+1<za∧za<zb from ⟨by have h1:=blk_lt HY1.out;have h2:=HB12.out.size;have:=Hza.out;omega,by have h1:=blk_lt HA4.out;have h2:=HB45.out.size;have:=Hzb.out;omega⟩)
 clear hg7 ht7
 have z1:=cellsN_size n1 f
 have z2:=cellsN_size n2 g
 have o1:=cellsN_one n1 f
 have o2:=cellsN_one n2 g
 obtain⟨c1,Hc1⟩:=name_itV (cellsN n1 f)
 obtain⟨c2,Hc2⟩:=name_itV (cellsN n2 g)
 rw[Hc1.out]at HA7 z1 o1 ⊢
 rw[Hc2.out]at HV7 z2 o2 ⊢
 have z1:=hid z1
 have z2:=hid z2
 have o1:=hid o1
 have o2:=hid o2
 have s1:=hid (show w7.drew.heap[za]?=some (numB c1)∧w7.drew.heap[zb]?=some (numB c2) from ⟨HA7.out,HV7.out⟩)
 refine wp_region_held_drew (S:=λW'=>W'.heap[za]?=some (numB c1)∧W'.heap[zb]?=some (numB c2)) (by kernel_rfl) s1.out (λhH=>?_)
 refine Boxed.out ?_
 refine tkW 0 21 (.agg c1) hH (λw hSw=>?_) (λhH=>?_)
 ·exact val_of (ld_run hSw.1 293 _ Tryz.underlying293 rfl (by rw[z1.out];kernel_rfl))
 simp only[Act.put,aT,aZ,aS]
 refine tkW 1 22 (.agg c2) hH (λw hSw=>?_) (λhH=>?_)
 ·exact val_of (ld_run hSw.2 293 _ Tryz.underlying293 rfl (by rw[z2.out];kernel_rfl))
 simp only[Act.put,aT,aZ,aS]
 refine tkV 2 23 (.bool true) hH (λhH=>?_)
 simp only[Act.put,aT,aZ,aS]
 refine tkV 3 24 (.bool true) hH (λhH=>?_)
 simp only[Act.put,aT,aZ,aS]
 refine tkV 4 25 (.bool true) hH (λhH=>?_)
 simp only[Act.put,aT,aZ,aS]
 refine tkV 5 26 (.bool true) hH (λhH=>?_)
 simp only[Act.put,aT,aZ,aS]
 refine tkC 6 (λK hK=>?_)
 change Oper.wp _ ⟨none,_,_,_,_,_⟩ _ _ _ _
 refine st_rowW 293 _ _ rfl z zeroN c1 293 rfl rfl HX7.out z1.out (by rw[z1.out];kernel_rfl) (o1.out) ?_
 intro w8 hg8 ht8
 have HS8:=hid (show w8.heap[za]?=some (numB c1)∧w8.heap[zb]?=some (numB c2) from ⟨ht8.heap s1.out.1 (by have:=hne.out;omega),ht8.heap s1.out.2 (by have:=hne.out;omega)⟩)
 have HO8:=hid (show w8.heap[(z+1)]?=some (numB zeroN) from ht8.heap (show w7.drew.heap[(z+1)]?=_ from HY7.out) (by omega))
 refine hK.out _ _ HS8.out (λhH=>?_)
 clear hK K
 try simp only[Act.put]
 refine tkC 7 (λK hK=>?_)
 change Oper.wp _ ⟨none,_,_,_,_,_⟩ _ _ _ _
 refine st_rowW 293 _ _ rfl (z+1) zeroN c2 293 rfl rfl HO8.out z2.out (by rw[z2.out];kernel_rfl) (o2.out) ?_
 intro w9 hg9 ht9
 have HS9:=hid (show w9.heap[za]?=some (numB c1)∧w9.heap[zb]?=some (numB c2) from ⟨ht9.heap HS8.out.1 (by have:=hne.out;omega),ht9.heap HS8.out.2 (by have:=hne.out;omega)⟩)
 have HA9:=hid (show w9.heap[z]?=some (numB c1) from ht9.heap hg8 (by omega))
 have HT9:=hid (show Turn (λb=>b=z∨b=z+1) w7 w9 from (show Turn _ w7 w7.drew from (Turn.refl _ _).drew).trans ((ht8.mono (λb _ h=>by have h:b=z:=h;omega)).andThen (ht9.mono (S':=λb=>b=z∨b=z+1) (λb _ h=>by have h:b=(z+1):=h;omega)) (λb _ h=>h)))
 have HG9:=hid hg9
 refine hK.out _ _ HS9.out (λhH=>?_)
 clear hK K hg8 ht8 hg9 ht9
 try simp only[Act.put]
 refine tkV 8 6 (.bool true) hH (λhH=>?_)
 simp only[Act.put,aT,aZ,aS]
 refine⟨wpAnyH_done (by kernel_rfl) ?_ _⟩
 clear hH
 go_wp2_with fail
 have hl1:=run_loadVar_row (P:=Tryz.prog) w9 z 293 293 c1 (0,0) _ HA9.out Tryz.underlying293 rfl (by rw[z1.out];kernel_rfl)
 have hl2:=run_loadVar_row (P:=Tryz.prog) w9 (z+1) 293 293 c2 (0,0) _ HG9.out Tryz.underlying293 rfl (by rw[z2.out];kernel_rfl)
 refine bodyPost_ret (v:=.tuple #[.agg c1,.agg c2,.bool true]) (by simp[results,Tryz.results264,asAddr,hl1,hl2]) rfl ⟨f,g,by rw[Hn1.out,Hn2.out,Hc1.out,Hc2.out],?_,HNF.out,HNG.out⟩
 exact HB7.out.trans (HT9.out.below (λb _ h=>by have:=Hz.out;omega) HB7.out.size)
theorem cellsN_at (n:Bool) (f:Nat→Nat) {i:Nat} (h:i<16):(cellsN n f)[i+1]?=some (.int .u64 (f i:Int)):=by
 unfold cellsN
 rw[Array.getElem?_append_right (by simp)]
 exact cellsU_at f h
theorem cellsN_zero (n:Bool) (f:Nat→Nat):(cellsN n f)[0]?=some (.bool n):=by
 unfold cellsN
 rw[Array.getElem?_append_left (by simp)]
 rfl
theorem num_wat {w:World} {b:Nat} {n:Bool} {f:Nat→Nat} (h:w.heap[b]?=some (numB (cellsN n f))):WAt w b 1 f:=λi hi=>by
 rw[Nat.add_comm 1 i]
 exact (cell_of_row _ _ _ _ _ _ h).trans (cellsN_at n f hi)
theorem num_neg {w:World} {b:Nat} {n:Bool} {f:Nat→Nat} (h:w.heap[b]?=some (numB (cellsN n f))):w.cell? ⟨b,0,none⟩=some (.bool n):=
 (cell_of_row _ _ _ _ _ _ h).trans (cellsN_zero n f)
theorem wat_range {w:World} {b o:Nat} {f:Nat→Nat} (h:WAt w b o f):w.rangeAt b o (cellsU f).toList:=λj v hv=>by
 rw[Array.getElem?_toList]at hv
 have hj:j<16:=by
  obtain⟨hj,_⟩:=Array.getElem?_eq_some_iff.1 hv
  rwa [cellsU_size]at hj
 rw[cellsU_at f hj]at hv
 injection hv with hv
 rw[h j hj,hv]
theorem num_range {w:World} {b:Nat} {n:Bool} {f:Nat→Nat} (h0:w.cell? ⟨b,0,none⟩=some (.bool n)) (h:WAt w b 1 f):w.rangeAt b 0 (cellsN n f).toList:=λj v hv=>by
 rw[Nat.zero_add]
 rw[Array.getElem?_toList]at hv
 cases j with
 | zero=>rw[cellsN_zero]at hv;rw[h0,hv]
 | succ j=>
  have hj:j<16:=by
   obtain⟨hj,_⟩:=Array.getElem?_eq_some_iff.1 hv
   rw[cellsN_size]at hj
   omega
  rw[cellsN_at n f hj]at hv
  rw[Nat.add_comm j 1,h j hj,hv]
theorem no_carry {x y c B:Nat} (h:x+c*B=y) (hlt:y<B):x=y:=by
 rcases Nat.eq_zero_or_pos c with h0 | h0
 ·rw[h0,Nat.zero_mul]at h;exact h
 ·have h2:1*B≤c*B:=Nat.mul_le_mul_right _ h0
  omega
def PlusM (w:World) (V:Int) (z:Nat) (wx:World):Prop:=∃(na nb:Bool) (fa fb:Nat→Nat),wx.heap[z]?=some (numB (cellsN na fa))∧wx.heap[z+1]?=some (numB (cellsN nb fb))∧wx.heap[z+1+1]?=some (numB zeroN)∧Below w.heap.size w wx ∧
 pv fb 16≤pv fa 16∧(∀i,i<16→fa i<bW)∧(∀i,i<16→fb i<bW)∧sgV na (pv fa 16)+sgV nb (pv fb 16)=V∧na≠nb
theorem sgV_add (n:Bool) (x y:Nat):sgV n (x+y)=sgV n x+sgV n y:=by
 cases n<;>simp[sgV]<;>omega
theorem sgV_sub {na nb:Bool} {x y:Nat} (h:na≠nb) (hle:y≤x):sgV na (x-y)=sgV na x+sgV nb y:=by
 cases na<;>cases nb<;>first | exact absurd rfl h | (simp[sgV];omega)
def PlusIs (V:Int) (w:World) (e:Ending) (w':World):Prop:=∃(ng:Bool) (h:Nat→Nat),e = .returned (.agg (cellsN ng h))∧Below w.heap.size w w'∧(∀i,i<16→h i<bW)∧sgV ng (pv h 16)=V
theorem plus_any (n1 n2:Bool) (f g:Nat→Nat) (hf:∀i,i<16→f i<bW) (hg:∀i,i<16→g i<bW) (hsum:pv f 16+pv g 16<bW ^ 16) (w:World) :
    Calls Tryz.prog 265 #[.agg (cellsN n1 f),.agg (cellsN n2 g)] w (PlusIs (sgV n1 (pv f 16)+sgV n2 (pv g 16)) w):=by
 have HF:=hid hf
 have HG:=hid hg
 have HSUM:=hid hsum
 obtain⟨z,Hz⟩:=name_itV w.heap.size
 obtain⟨c1,Hc1⟩:=nameN n1 f
 obtain⟨c2,Hc2⟩:=nameN n2 g
 obtain⟨w1,HW1⟩:=name_itV (((w.alloc (.cells c1 293)).alloc (.cells c2 293)).alloc (.cells #[.bool false,.int .u64 0,.int .u64 0,.int .u64 0,.int .u64 0,.int .u64 0,.int .u64 0,.int .u64 0,.int .u64 0,.int .u64 0,.int .u64 0,.int .u64 0,.int .u64 0,.int .u64 0,.int .u64 0,.int .u64 0,.int .u64 0] 293))
 have HB1:=hid (show Below w.heap.size w w1 from by rw[←HW1.out];exact (two_new w _ _).alloc (by simp;omega) _)
 have HX1:=hid (show w1.heap[z]?=some (numB (cellsN n1 f)) from by
  rw[←HW1.out,←Hz.out,Hc1.out,Below.heap_alloc _ _ _ (by simp;omega)]
  exact heap_alloc2_old w _ _)
 have HY1:=hid (show w1.heap[z+1]?=some (numB (cellsN n2 g)) from by
  rw[←HW1.out,←Hz.out,Hc2.out,Below.heap_alloc _ _ _ (by simp)]
  exact heap_alloc2_new w _ _)
 have HR1:=hid (show w1.heap[z+2]?=some (numB zeroN) from by
  rw[←HW1.out,←Hz.out]
  have:=heap_alloc_new ((w.alloc (.cells c1 293)).alloc (.cells c2 293)) (.cells zeroN 293)
  simp only[World.size_alloc]at this
  exact this)
 have x0:w1.cell? ⟨z,0,none⟩=some (.bool n1):=num_neg HX1.out
 have y0:w1.cell? ⟨z+1,0,none⟩=some (.bool n2):=num_neg HY1.out
 clear hf hg hsum
 obtain⟨V,HVV⟩:=name_itV (sgV n1 (pv f 16)+sgV n2 (pv g 16))
 rw[Hc1.out,Hc2.out,HVV.out]
 go_enter Tryz.func265,Tryz.ntmps265
 go_upto_region 1 with fail
 rw[HW1.out,Hz.out]
 clear HW1
 by_cases hnn:n1=n2
 ·subst hnn
  have t1:(n1==n1)=true:=beq_self_eq_true _
  have hadd:=hid (wadd_any z 1 f g w1 HF.out HG.out (num_wat HX1.out) (λj=>frozen_of_row _ _ _ _ _ HX1.out) (blk_lt HX1.out))
  have HRU:=hid (wat_range (num_wat HY1.out))
  obtain⟨u2,Hu2⟩:=nameU g
  have HU2:=hid (show (Tryz.prog.info? 291).map (·.size)=some u2.size from by rw[←Hu2.out,cellsU_size];kernel_rfl)
  rw[Hu2.out]at hadd HRU
  go_wp2_with (first
   | ((with_reducible refine at_dst (some 12) ?_);refine ld_arm rfl 291 _ rfl (z+1) 1 rfl u2 _ (HRU.out) Tryz.underlying291 rfl HU2.out ?_))
  refine hadd.out.mono ?_
  rintro e w3 ⟨rfl,h,hh,hb,⟨c,hc⟩,ht3,hk3⟩
  have HH3:=hid hh
  have HHB:=hid hb
  have HV:=hid (no_carry hc HSUM.out)
  have HN3:=hid ((hk3 0 (.inl (by decide))).trans (num_neg HX1.out))
  have HR3:=hid (show w3.heap[z+1+1]?=some (numB zeroN) from ht3.heap HR1.out (show ¬z+1+1=z by omega))
  have HB3:=hid (ht3.below (B:=w.heap.size) (λb _ h=>by have h:b=z:=h;have:=Hz.out;omega) HB1.out.size)
  clear hh hb hc ht3 hk3 x0 y0
  obtain⟨d,Hd⟩:=nameN n1 h
  have HRD:=hid (num_range HN3.out HH3.out)
  have HD1:=hid (show d.size=zeroN.size from by rw[←Hd.out,cellsN_size];rfl)
  have HD2:=hid (show (Tryz.prog.info? 293).map (·.size)=some d.size from by rw[←Hd.out,cellsN_size];kernel_rfl)
  have HD3:=hid (show d.all (·.oneCell')=true from by rw[←Hd.out];exact cellsN_one _ _)
  rw[Hd.out]at HRD
  go_wp2_with (first
   | ((with_reducible refine at_dst (some 14) ?_);refine ld_arm rfl 293 _ rfl z 0 rfl d _ (HRD.out) Tryz.underlying293 rfl HD2.out ?_)
   | ((with_reducible refine at_st 4 ?_);refine st_row rfl 293 _ _ rfl (z+1+1) zeroN d 293 rfl rfl HR3.out HD1.out HD2.out HD3.out ?_;intro w4 hg4 ht4))
  refine bodyPost_ret (v:=.agg d) (results_cell_row (p:=4) (ty:=293) (by kernel_rfl) _ _ (z+1+1) 293 d (0,0) _ rfl hg4 Tryz.underlying293 rfl HD2.out) rfl ⟨n1,h,by rw[Hd.out],?_,HHB.out,?_⟩
  ·exact HB1.out.trans (HB3.out.trans (ht4.below (λb _ h=>by have h:b=z+1+1:=h;have:=Hz.out;omega) (Nat.le_trans HB1.out.size HB3.out.size)))
  ·rw[HV.out,←HVV.out]
   exact sgV_add _ _ _
 ·have t1:(n1==n2)=false:=beq_eq_false_iff_ne.2 hnn
  have HNN:=hid hnn
  have hcm:=hid (wcmp_any f g w1 HF.out HG.out)
  have HRU:=hid (wat_range (num_wat HX1.out))
  have HRV:=hid (wat_range (num_wat HY1.out))
  have HL1:=hid (range_row HX1.out)
  have HL2:=hid (range_row HY1.out)
  obtain⟨u1,Hu1⟩:=nameU f
  obtain⟨u2,Hu2⟩:=nameU g
  have HU1:=hid (show (Tryz.prog.info? 291).map (·.size)=some u1.size from by rw[←Hu1.out,cellsU_size];kernel_rfl)
  have HU2:=hid (show (Tryz.prog.info? 291).map (·.size)=some u2.size from by rw[←Hu2.out,cellsU_size];kernel_rfl)
  have HC1:=hid (show (Tryz.prog.info? 293).map (·.size)=some c1.size from by rw[←Hc1.out,cellsN_size];kernel_rfl)
  have HC2:=hid (show (Tryz.prog.info? 293).map (·.size)=some c2.size from by rw[←Hc2.out,cellsN_size];kernel_rfl)
  have HO1:=hid (show c1.all (·.oneCell')=true from by rw[←Hc1.out];exact cellsN_one _ _)
  have HO2:=hid (show c2.all (·.oneCell')=true from by rw[←Hc2.out];exact cellsN_one _ _)
  have HEQ:=hid (show c2.size=c1.size from by rw[←Hc1.out,←Hc2.out,cellsN_size,cellsN_size])
  rw[Hu1.out]at hcm HRU
  rw[Hu2.out]at hcm HRV
  obtain⟨r,Hr⟩:=name_itV (cmpN (pv f 16) (pv g 16))
  rw[Hr.out]at hcm
  clear hnn
  go_wp2_with (first
   | ((with_reducible refine at_dst (some 16) ?_);refine ld_arm rfl 291 _ rfl z 1 rfl u1 _ (HRU.out) Tryz.underlying291 rfl HU1.out ?_)
   | ((with_reducible refine at_dst (some 18) ?_);refine ld_arm rfl 291 _ rfl (z+1) 1 rfl u2 _ (HRV.out) Tryz.underlying291 rfl HU2.out ?_))
  refine hcm.out.mono ?_
  rintro e w2 ⟨rfl,hb2⟩
  have HX2:=hid ((hb2.block z (blk_lt HX1.out)).trans HX1.out)
  have HY2:=hid ((hb2.block (z+1) (blk_lt HY1.out)).trans HY1.out)
  have HR2:=hid (show w2.heap[z+1+1]?=some (numB zeroN) from (hb2.block (z+1+1) (blk_lt HR1.out)).trans HR1.out)
  have HB2:=hid (HB1.out.trans (hb2.mono HB1.out.size))
  clear hb2 x0 y0
  go_upto_if 20 with fail
  go_cut [] (λwx=>PlusM w V z wx)
  case first=>
   by_cases hlt:pv f 16<pv g 16
   ·have g0:r<0:=by rw[←Hr.out];unfold cmpN;rw[if_pos hlt];decide
    have HLT:=hid hlt
    have HL3:=hid (range_row HX2.out)
    have HL4:=hid (range_row HY2.out)
    have HX3:=hid HX2.out
    have HY3:=hid HY2.out
    rw[Hc1.out]at HX3 HL3
    rw[Hc2.out]at HY3 HL4
    clear hlt
    go_wp2_with (first
     | ((with_reducible refine at_dst (some 21) ?_);refine ld_arm rfl 293 _ rfl (z+1) 0 rfl c2 _ (HL4.out) Tryz.underlying293 rfl HC2.out ?_)
     | ((with_reducible refine at_dst (some 22) ?_);refine ld_arm rfl 293 _ rfl z 0 rfl c1 _ (HL3.out) Tryz.underlying293 rfl HC1.out ?_)
     | ((with_reducible refine at_st 2 ?_);refine st_row rfl 293 _ _ rfl z c1 c2 293 rfl rfl HX3.out HEQ.out HC2.out HO2.out ?_;intro w3 hg3 ht3)
     | ((with_reducible refine at_st 3 ?_);refine st_row rfl 293 _ _ rfl (z+1) c2 c1 293 rfl rfl (ht3.heap HY3.out (show ¬z+1=z by omega)) HEQ.out.symm HC1.out HO1.out ?_;intro w4 hg4 ht4))
    go_meet
    refine⟨n2,n1,g,f,?_,?_,?_,?_,Nat.le_of_lt HLT.out,HG.out,HF.out,(Int.add_comm _ _).trans HVV.out,λh=>HNN.out h.symm⟩
    ·rw[Hc2.out];exact ht4.heap hg3 (show ¬z=z+1 by omega)
    ·rw[Hc1.out];exact hg4
    ·exact ht4.heap (ht3.heap HR2.out (show ¬z+1+1=z by omega)) (show ¬z+1+1=z+1 by omega)
    ·exact HB2.out.trans ((ht3.below (B:=w.heap.size) (λb _ h=>by have h:b=z:=h;have:=Hz.out;omega) HB2.out.size).trans (ht4.below (B:=w.heap.size) (λb _ h=>by have h:b=z+1:=h;have:=Hz.out;omega) (Nat.le_trans HB2.out.size ht3.size)))
   ·have g0:¬r<0:=by rw[←Hr.out];unfold cmpN;rw[if_neg hlt];split<;>decide
    have HLT:=hid hlt
    clear hlt
    go_wp2_with fail
    go_meet
    exact⟨n1,n2,f,g,HX2.out,HY2.out,HR2.out,HB2.out,Nat.le_of_not_lt HLT.out,HF.out,HG.out,HVV.out,HNN.out⟩
  case rest=>
   obtain⟨na,nb,fa,fb,hx,hy,hr,hbl,hle,hfa,hfb,hval,hna⟩:=hcut
   have HBL:=hid hbl
   have HLE:=hid hle
   have HVAL:=hid hval
   have HNA:=hid hna
   have hsub:=hid (wsub_any z 1 fa fb wc hfa hfb (num_wat hx) (λj=>frozen_of_row _ _ _ _ _ hx) (blk_lt hx) hle)
   have HRW:=hid (wat_range (num_wat hy))
   have HNX:=hid (num_neg hx)
   have HRX:=hid hr
   obtain⟨ub,Hub⟩:=nameU fb
   have HUB:=hid (show (Tryz.prog.info? 291).map (·.size)=some ub.size from by rw[←Hub.out,cellsU_size];kernel_rfl)
   rw[Hub.out]at hsub HRW
   clear hx hy hr hbl hle hfa hfb hval hna hcm
   go_wp2_with (first
    | ((with_reducible refine at_dst (some 25) ?_);refine ld_arm rfl 291 _ rfl (z+1) 1 rfl ub _ (HRW.out) Tryz.underlying291 rfl HUB.out ?_))
   refine hsub.out.mono ?_
   rintro e w3 ⟨rfl,h,hh,hb,hp,ht3,hk3⟩
   have HH3:=hid hh
   have HHB:=hid hb
   have HV:=hid hp
   have HN3:=hid ((hk3 0 (.inl (by decide))).trans HNX.out)
   have HR3:=hid (show w3.heap[z+1+1]?=some (numB zeroN) from ht3.heap HRX.out (show ¬z+1+1=z by omega))
   have HB3:=hid (ht3.below (B:=w.heap.size) (λb _ h=>by have h:b=z:=h;have:=Hz.out;omega) HBL.out.size)
   clear hh hb hp ht3 hk3
   obtain⟨d,Hd⟩:=nameN na h
   have HRD:=hid (num_range HN3.out HH3.out)
   have HD1:=hid (show d.size=zeroN.size from by rw[←Hd.out,cellsN_size];rfl)
   have HD2:=hid (show (Tryz.prog.info? 293).map (·.size)=some d.size from by rw[←Hd.out,cellsN_size];kernel_rfl)
   have HD3:=hid (show d.all (·.oneCell')=true from by rw[←Hd.out];exact cellsN_one _ _)
   rw[Hd.out]at HRD
   go_wp2_with (first
    | ((with_reducible refine at_dst (some 27) ?_);refine ld_arm rfl 293 _ rfl z 0 rfl d _ (HRD.out) Tryz.underlying293 rfl HD2.out ?_)
    | ((with_reducible refine at_st 4 ?_);refine st_row rfl 293 _ _ rfl (z+1+1) zeroN d 293 rfl rfl HR3.out HD1.out HD2.out HD3.out ?_;intro w4 hg4 ht4))
   refine bodyPost_ret (v:=.agg d) (results_cell_row (p:=4) (ty:=293) (by kernel_rfl) _ _ (z+1+1) 293 d (0,0) _ rfl hg4 Tryz.underlying293 rfl HD2.out) rfl ⟨na,h,by rw[Hd.out],?_,HHB.out,?_⟩
   ·exact HBL.out.trans (HB3.out.trans (ht4.below (λb _ h=>by have h:b=z+1+1:=h;have:=Hz.out;omega) (Nat.le_trans HBL.out.size HB3.out.size)))
   ·rw[←HVAL.out,HV.out]
    exact sgV_sub HNA.out HLE.out
def zeroU:Array Value:=cellsU (λ_=>0)
theorem eq_items (h:Nat→Nat) (W:World):∀is:List Nat,(∀i,i∈is→i<16)→(Op.eqItems 9999 225 1 (cellsU h) zeroU is).run Tryz.prog W = .ok (is.all λi=>decide (h i=0)) W:=by
 have hu:Tryz.prog.underlying 225=some (.int .u64):=by kernel_rfl
 intro is
 induction is with
 | nil=>intro _;rfl
 | cons i is ih=>
  intro hi
  have h1:=cellsU_at h (hi i (List.mem_cons_self ..))
  have h2:zeroU[i]?=some (.int .u64 ((0:Nat):Int)):=cellsU_at (λ_=>0) (hi i (List.mem_cons_self ..))
  have h3:=ih (λj hj=>hi j (List.mem_cons_of_mem _ hj))
  obtain⟨a,ha⟩:=name_itV (cellsU h)
  rw[ha.out]at h1 h3 ⊢
  obtain⟨b,hb⟩:=name_itV zeroU
  rw[hb.out]at h2 h3 ⊢
  simp only[Op.eqItems,Nat.mul_one,List.all_cons]
  go_simp
  by_cases hz:h i=0
  ·rw[if_pos hz,decide_eq_true hz,Bool.true_and]
  ·rw[if_neg hz,decide_eq_false hz,Bool.false_and]
theorem pv_zero {h:Nat→Nat}:∀n:Nat,pv h n=0↔∀i,i<n→h i=0:=by
 intro n
 induction n with
 | zero=>exact⟨λ_ i hi=>absurd hi (Nat.not_lt_zero _),λ_=>rfl⟩
 | succ n ih=>
  rw[pv,Nat.add_eq_zero_iff,ih,Nat.mul_eq_zero]
  have hp:bW ^ n≠0:=Nat.pos_iff_ne_zero.1 (Nat.pow_pos (by decide))
  constructor
  ·rintro⟨h1,h2⟩ i hi
   rcases Nat.lt_or_ge i n with h3 | h3
   ·exact h1 i h3
   ·have:i=n:=by omega
    rw[this]
    rcases h2 with h2 | h2
    ·exact h2
    ·exact absurd h2 hp
  ·intro h1
   exact⟨λi hi=>h1 i (by omega),.inl (h1 n (by omega))⟩
theorem infoU64:(Tryz.prog.info? 225).map (λi=>(i.zero,i.size,i.bytes))=some (some (.int .u64 0),1,8):=by kernel_rfl
theorem guardU:Tryz.prog.eqGuardType Tryz.prog.depth 291=false:=by kernel_rfl
theorem eq_words (h:Nat→Nat) (W:World):(binOp .eql 291 (.agg (cellsU h)) (.agg zeroU)).run Tryz.prog W = .ok (.bool (decide (pv h 16=0))) W:=by
 obtain⟨i,hi,_⟩:=info_parts infoU64
 have hc:Tryz.prog.cellsOf 225=1:=by kernel_rfl
 rw[run_eql_struct,run_equalIn_array W 9999 _ _ Tryz.underlying291 hi,hc,eq_items h W (List.range 16) (λi hi=>List.mem_range.1 hi)]
 have e:((List.range 16).all λi=>decide (h i=0))=decide (pv h 16=0):=by
  rw[Bool.eq_iff_iff,decide_eq_true_iff,List.all_eq_true]
  exact⟨λh1=>(pv_zero 16).2 λi hi=>of_decide_eq_true (h1 i (List.mem_range.2 hi)),λh1 i hi=>decide_eq_true ((pv_zero 16).1 h1 i (List.mem_range.1 hi))⟩
 rw[e]
 rfl
theorem sgV_abs (b:Bool) (n:Nat):(sgV b n).natAbs=n:=by
 cases b
 ·show ((n:Nat):Int).natAbs=n
  omega
 ·show (-((n:Nat):Int)).natAbs=n
  omega
theorem decN_bound {s:ByteArray} (h:decB s=true):(decN s).natAbs<10 ^ 60:=by
 obtain⟨neg,a,b,hs⟩:=dec_shape h
 have h1:(decN s).natAbs=digV (a++b)*10 ^ (20-b.length):=by
  rw[decN_of hs]
  cases neg
  ·exact sgV_abs false _
  ·exact sgV_abs true _
 rw[h1]
 have h2:=dig_lt (a++b) (by rw[List.all_append,hs.da,hs.db];rfl)
 have h3:digV (a++b)*10 ^ (20-b.length)<10 ^ (a++b).length*10 ^ (20-b.length):=Nat.mul_lt_mul_of_pos_right h2 (Nat.pow_pos (by decide))
 rw[←Nat.pow_add]at h3
 refine Nat.lt_of_lt_of_le h3 (Nat.pow_le_pow_right (by decide) ?_)
 rw[List.length_append]
 have:=hs.la
 have:=hs.lb
 omega
theorem num_lt {s:ByteArray} {f:Nat→Nat} (h:decB s=true) (hn:NumIs s f):pv f 16<10 ^ 60:=by
 have h1:=decN_bound h
 rw[hn.2,sgV_abs]at h1
 exact h1
theorem sum_lt {x y:Nat} (h1:x<10 ^ 60) (h2:y<10 ^ 60):x+y<bW ^ 16:=by
 have h4:∀x y p q r:Nat,x<p→y<p→q=p*10→q≤r→x+y<r:=λx y p q r a b c d=>by omega
 refine h4 x y (10 ^ 60) (10 ^ 61) _ h1 h2 (Nat.pow_succ ..) ?_
 have h5:bW ^ 16=10 ^ (9*16):=(Nat.pow_mul 10 9 16).symm
 rw[h5]
 exact Nat.pow_le_pow_right (by decide) (by decide)
theorem cellsN_neg (n m:Bool) (f:Nat→Nat):(cellsN n f).setIfInBounds 0 (.bool m)=cellsN m f:=by
 apply Array.ext_getElem?
 intro j
 cases j with
 | zero=>rw[Array.getElem?_setIfInBounds,if_pos rfl,if_pos (by rw[cellsN_size];decide),cellsN_zero]
 | succ j=>
  rw[Array.getElem?_setIfInBounds,if_neg (by omega)]
  unfold cellsN
  rw[Array.getElem?_append_right (by simp),Array.getElem?_append_right (by simp)]
  rfl
theorem cmp_abs {s t:ByteArray} {ng:Bool} {p:Nat} (hv:sgV ng p=decN s + -decN t):cmpD s t=if p=0 then 0 else if ng=true then -1 else 1:=by
 unfold cmpD
 by_cases h0:p=0
 ·rw[if_pos h0]
  have:=(sgV_zero (b:=ng)).2 h0
  rw[if_neg (by omega),if_neg (by omega)]
 ·rw[if_neg h0]
  cases ng with
  | true=>
   have h3:sgV true p = -((p:Nat):Int):=rfl
   rw[if_pos rfl,if_pos (by omega)]
  | false=>
   have h3:sgV false p=((p:Nat):Int):=rfl
   rw[if_neg (by omega),if_pos (by omega)]
   rfl
theorem cmp_sum {s t:ByteArray} {f g h:Nat→Nat} {ng:Bool} (hf:NumIs s f) (hg:NumIs t g) (hv:sgV ng (pv h 16)=sgV (sgnB s) (pv f 16)+sgV (!sgnB t) (pv g 16)) :
    cmpD s t=if pv h 16=0 then 0 else if ng=true then -1 else 1:=
 cmp_abs (hv.trans (by rw[sgV_not,←hf.2,←hg.2]))
def CmpIs (s t:ByteArray) (w:World) (e:Ending) (w':World):Prop:=e = .returned (.int .i64 (cmpD s t))∧Below w.heap.size w w'
theorem build_words (W:World):(Instr.build 291 #[]).run Tryz.prog W = .ok (.agg zeroU) W:=run_build W _ _ _ (by kernel_rfl)
theorem compareD_any (s t:ByteArray) (hs:decB s=true) (ht:decB t=true) (w:World) (hg:GlobB w) :
    Calls Tryz.prog 212 #[.string s,.string t] w (CmpIs s t w):=by
 have HBO:=hid (both_any s t hs ht w hg)
 have HST:=hid (And.intro hs ht)
 clear hs ht hg
 go_enter Tryz.func212,Tryz.ntmps212
 go_wp2_with fail
 refine HBO.out.mono ?_
 rintro e w2 ⟨f,g,rfl,hb2,hf,hg⟩
 have HB2:=hid hb2
 have HF:=hid hf
 have HG:=hid hg
 obtain⟨n1,Hn1⟩:=name_itV (sgnB s)
 obtain⟨n2,Hn2⟩:=name_itV (sgnB t)
 have HPL:=hid (λ(W:World)=>plus_any n1 (!n2) f g hf.1 hg.1 (sum_lt (num_lt HST.out.1 hf) (num_lt HST.out.2 hg)) W)
 rw[Hn1.out,Hn2.out]
 obtain⟨c1,Hc1⟩:=nameN n1 f
 obtain⟨c2,Hc2⟩:=nameN n2 g
 obtain⟨c3,Hc3⟩:=nameN (!n2) g
 rw[Hc1.out,Hc2.out]
 rw[Hc1.out,Hc3.out]at HPL
 have HI1:=hid (show (Tryz.prog.info? 293).map (·.size)=some c1.size from by rw[←Hc1.out,cellsN_size];kernel_rfl)
 have HI2:=hid (show (Tryz.prog.info? 293).map (·.size)=some c2.size from by rw[←Hc2.out,cellsN_size];kernel_rfl)
 have HI3:=hid (show (Tryz.prog.info? 293).map (·.size)=some c3.size from by rw[←Hc3.out,cellsN_size];kernel_rfl)
 have HO1:=hid (show c1.all (·.oneCell')=true from by rw[←Hc1.out];exact cellsN_one _ _)
 have HO2:=hid (show c2.all (·.oneCell')=true from by rw[←Hc2.out];exact cellsN_one _ _)
 have HZ1:=hid (show c1.size=zeroN.size from by rw[←Hc1.out,cellsN_size];rfl)
 have HZ2:=hid (show c2.size=zeroN.size from by rw[←Hc2.out,cellsN_size];rfl)
 have HSN:=hid (show c2.setIfInBounds 0 (.bool (!n2))=c3 from by rw[←Hc2.out,←Hc3.out];exact cellsN_neg _ _ _)
 have HN2:=hid (show c2[0]?=some (.bool n2) from by rw[←Hc2.out];exact cellsN_zero _ _)
 obtain⟨z,Hz⟩:=name_itV w2.heap.size
 obtain⟨w3,HW3⟩:=name_itV ((w2.alloc (.cells #[.bool false,.int .u64 0,.int .u64 0,.int .u64 0,.int .u64 0,.int .u64 0,.int .u64 0,.int .u64 0,.int .u64 0,.int .u64 0,.int .u64 0,.int .u64 0,.int .u64 0,.int .u64 0,.int .u64 0,.int .u64 0,.int .u64 0] 293)).alloc (.cells #[.bool false,.int .u64 0,.int .u64 0,.int .u64 0,.int .u64 0,.int .u64 0,.int .u64 0,.int .u64 0,.int .u64 0,.int .u64 0,.int .u64 0,.int .u64 0,.int .u64 0,.int .u64 0,.int .u64 0,.int .u64 0,.int .u64 0] 293))
 have HX3:=hid (show w3.heap[z]?=some (numB zeroN) from by rw[←HW3.out,←Hz.out];exact heap_alloc2_old w2 _ _)
 have HY3:=hid (show w3.heap[z+1]?=some (numB zeroN) from by rw[←HW3.out,←Hz.out];exact heap_alloc2_new w2 _ _)
 have HB3:=hid (show Below w2.heap.size w2 w3 from by rw[←HW3.out];exact two_new _ _ _)
 have HWz:=hid (And.intro HW3.out Hz.out)
 clear hb2 hf hg
 go_upto_region 2 with (first
  | ((with_reducible refine at_st 5 ?_);refine st_row rfl 293 _ _ rfl w2.heap.size zeroN c1 293 rfl rfl (by have h:=HX3.out;rw[←HWz.out.1,←HWz.out.2]at h;exact h) HZ1.out HI1.out HO1.out ?_;intro w4 hg4 ht4)
  | ((with_reducible refine at_st 6 ?_);refine st_row rfl 293 _ _ rfl (w2.heap.size+1) zeroN c2 293 rfl rfl (by have h:=HY3.out;rw[←HWz.out.1,←HWz.out.2]at h;exact ht4.heap h (show ¬w2.heap.size+1=w2.heap.size by omega)) HZ2.out HI2.out HO2.out ?_;intro w5 hg5 ht5))
 rw[HWz.out.2]at hg4 hg5 ht5 ⊢
 rw[HWz.out.1]at ht4
 rw[HWz.out.2]at ht4
 have HX5:=hid (ht5.heap hg4 (show ¬z=z+1 by omega))
 have HY5:=hid hg5
 have HB5:=hid (HB2.out.trans ((HB3.out.trans ((ht4.below (B:=w2.heap.size) (λb _ h=>by have h:b=z:=h;have:=Hz.out;omega) HB3.out.size).trans (ht5.below (B:=w2.heap.size) (λb _ h=>by have h:b=z+1:=h;have:=Hz.out;omega) (Nat.le_trans HB3.out.size ht4.size)))).mono HB2.out.size))
 clear hg4 hg5 ht4 ht5
 have y0:w5.cell? ⟨z+1,0,none⟩=some (.bool n2):=(cell_of_row _ _ _ _ _ _ HY5.out).trans HN2.out
 have yf:w5.frozen? ⟨z+1,0,none⟩=false:=frozen_of_row _ _ _ _ _ HY5.out
 go_upto_region 5 with fail
 obtain⟨w6,HW6⟩:=name_itV (w5.setCell ⟨z+1,0,none⟩ (.bool (!n2)))
 have HX6:=hid (show w6.heap[z]?=some (numB c1) from by rw[←HW6.out,heap_setCell_other _ _ _ _ (show z≠z+1 by omega)];exact HX5.out)
 have HY6:=hid (show w6.heap[z+1]?=some (numB c3) from by
  rw[←HW6.out,←HSN.out]
  exact heap_setCell_same _ _ _ _ _ _ HY5.out)
 have HB6:=hid (show Below w.heap.size w w6 from by rw[←HW6.out];exact HB5.out.setCell (by show w.heap.size≤z+1;have:=HB2.out.size;have:=Hz.out;omega) _)
 have HL1:=hid (range_row HX6.out)
 have HL2:=hid (range_row HY6.out)
 rw[HW6.out]
 clear y0 yf
 go_wp2_with (first
  | ((with_reducible refine at_dst (some 22) ?_);refine ld_arm rfl 293 _ rfl z 0 rfl c1 _ (HL1.out) Tryz.underlying293 rfl HI1.out ?_)
  | ((with_reducible refine at_dst (some 23) ?_);refine ld_arm rfl 293 _ rfl (z+1) 0 rfl c3 _ (HL2.out) Tryz.underlying293 rfl HI3.out ?_))
 refine (HPL.out w6).mono ?_
 rintro e w7 ⟨ng,h,rfl,hb7,hh,hv⟩
 have HCS:=hid (show cmpD s t=if pv h 16=0 then 0 else if ng=true then -1 else 1 from cmp_sum HF.out HG.out (by rw[Hn1.out,Hn2.out];exact hv))
 have HB7:=hid (HB6.out.trans (hb7.mono HB6.out.size))
 obtain⟨d,Hd⟩:=nameN ng h
 obtain⟨u3,Hu3⟩:=nameU h
 obtain⟨zu,Hzu⟩:∃zu,EqU zu (λ_=>0):=nameU _
 have HBZ:=hid (λW:World=>(show (Instr.build 291 #[]).run Tryz.prog W = .ok (.agg zu) W from by rw[←Hzu.out];exact build_words W))
 have hq:∀W,(binOp .eql 291 (.agg u3) (.agg zu)).run Tryz.prog W = .ok (.bool (decide (pv h 16=0))) W:=λW=>by rw[←Hu3.out,←Hzu.out];exact eq_words h W
 obtain⟨p,Hp⟩:=name_itV (pv h 16)
 rw[Hp.out]at hq HCS
 rw[Hd.out]
 have HI4:=hid (show (Tryz.prog.info? 293).map (·.size)=some d.size from by rw[←Hd.out,cellsN_size];kernel_rfl)
 have HO4:=hid (show d.all (·.oneCell')=true from by rw[←Hd.out];exact cellsN_one _ _)
 have HZ4:=hid (show d.size=zeroN.size from by rw[←Hd.out,cellsN_size];rfl)
 have HU4:=hid (show (Tryz.prog.info? 291).map (·.size)=some u3.size from by rw[←Hu3.out,cellsU_size];kernel_rfl)
 have HWA:=hid (λ(W:World) (hW:W.heap[w7.heap.size]?=some (numB d))=>(show W.rangeAt w7.heap.size 1 u3.toList∧W.cell? ⟨w7.heap.size,0,none⟩=some (.bool ng) from by
  rw[←Hd.out]at hW
  rw[←Hu3.out]
  exact⟨wat_range (num_wat hW),num_neg hW⟩))
 have hgu:=guardU
 have HX8:=hid (show (w7.alloc (.cells #[.bool false,.int .u64 0,.int .u64 0,.int .u64 0,.int .u64 0,.int .u64 0,.int .u64 0,.int .u64 0,.int .u64 0,.int .u64 0,.int .u64 0,.int .u64 0,.int .u64 0,.int .u64 0,.int .u64 0,.int .u64 0,.int .u64 0] 293)).heap[w7.heap.size]?=some (numB zeroN) from heap_alloc_new w7 _)
 clear hb7 hh hv Hp Hd
 go_upto_region 6 with (first
  | ((with_reducible refine at_st 8 ?_);refine st_row rfl 293 _ _ rfl w7.heap.size zeroN d 293 rfl rfl HX8.out HZ4.out HI4.out HO4.out ?_;intro w8 hg8 ht8))
 have HWB:=hid (HWA.out w8 hg8)
 have HB8:=hid (HB7.out.trans (((Below.refl w7.heap.size w7).alloc (Nat.le_refl _) _ |>.trans (ht8.below (B:=w7.heap.size) (λb _ h=>by have h:b=w7.heap.size:=h;omega) (by simp))).mono HB7.out.size))
 have n0:w8.cell? ⟨w7.heap.size,0,none⟩=some (.bool ng):=HWB.out.2
 obtain⟨z8,Hz8⟩:=name_itV w7.heap.size
 rw[Hz8.out]at HWB n0 ⊢
 clear hg8 ht8
 by_cases hp:p=0
 ·have hr:=hid (show (0:Int)=cmpD s t from by rw[HCS.out,if_pos hp])
  have hp':decide (p=0)=true:=decide_eq_true hp
  rw[hp']at hq
  clear hp hp'
  go_wp2_with (first
   | ((with_reducible refine at_dst (some 27) ?_);refine ld_arm rfl 291 _ rfl z8 1 rfl u3 _ (HWB.out.1) Tryz.underlying291 rfl HU4.out ?_)
   | ((with_reducible refine at_dst (some 28) ?_);refine build_arm rfl 291 _ rfl #[] (by kernel_rfl) (.agg zu) (HBZ.out _) ?_))
  go_ret
  exact⟨by rw[hr.out];rfl,HB8.out⟩
 ·have hp':decide (p=0)=false:=decide_eq_false hp
  rw[hp']at hq
  have HNP:=hid hp
  clear hp hp'
  cases ng with
  | true=>
   have hr:=hid (show (-1:Int)=cmpD s t from by rw[HCS.out,if_neg HNP.out,if_pos rfl])
   go_wp2_with (first
    | ((with_reducible refine at_dst (some 27) ?_);refine ld_arm rfl 291 _ rfl z8 1 rfl u3 _ (HWB.out.1) Tryz.underlying291 rfl HU4.out ?_)
    | ((with_reducible refine at_dst (some 28) ?_);refine build_arm rfl 291 _ rfl #[] (by kernel_rfl) (.agg zu) (HBZ.out _) ?_))
   go_ret
   exact⟨by rw[hr.out];rfl,HB8.out⟩
  | false=>
   have hr:=hid (show (1:Int)=cmpD s t from by rw[HCS.out,if_neg HNP.out,if_neg Bool.false_ne_true])
   go_wp2_with (first
    | ((with_reducible refine at_dst (some 27) ?_);refine ld_arm rfl 291 _ rfl z8 1 rfl u3 _ (HWB.out.1) Tryz.underlying291 rfl HU4.out ?_)
    | ((with_reducible refine at_dst (some 28) ?_);refine build_arm rfl 291 _ rfl #[] (by kernel_rfl) (.agg zu) (HBZ.out _) ?_))
   go_ret
   exact⟨by rw[hr.out];rfl,HB8.out⟩
def CmpNIs (a b:Val) (w:World) (e:Ending) (w':World):Prop:=e = .returned (.int .i64 (cmpD (exactT a) (exactT b)))∧Below w.heap.size w w'
theorem cmpP_22 (a b:Val) (sa sb:Value) (w:World) (ha:a.kind=2) (hb:b.kind=2) (fa:FitV a) (fb:FitV b) :
    Calls Tryz.prog 129 #[.agg (cellsV a sa),.agg (cellsV b sb)] w (CmpNIs a b w):=by
 have hc:=hid (λW:World=>cmp64_any a.num b.num W)
 have HV:=hid (show cmpD (exactT a) (exactT b)=cmpI a.num b.num from by unfold exactT;rw[if_pos ha,if_pos hb,cmpD_ints fa.n0 fa.n1 fb.n0 fb.n1];rfl)
 unfold CmpNIs
 rw[HV.out]
 clear HV fa fb
 obtain⟨v,Hv⟩:=name_itV (cmpI a.num b.num)
 rw[Hv.out]at hc ⊢
 clear Hv
 cases a with
 | mk k1 b1 n1 t1 x1 l1=>
 cases b with
 | mk k2 b2 n2 t2 x2 l2=>
 unfold cellsV
 simp only[Val.kind,Val.truth,Val.num,Val.text,Val.extra]at hc ha hb ⊢
 subst ha
 subst hb
 have HB:=hid (λo1 o2:Obj=>two_new w o1 o2)
 go_enter Tryz.func129,Tryz.ntmps129
 go_wp2_with fail
 refine (hc.out _).mono ?_
 rintro e w1 ⟨rfl,rfl⟩
 go_wp2_with fail
 go_ret
 exact⟨rfl,HB.out _ _⟩
theorem cmpP_23 (a b:Val) (sa sb:Value) (w:World) (ha:a.kind=2) (hb:b.kind=3) (fa:FitV a) (fb:FitV b) (hgb:GlobB w) (hgt:GlobT w) :
    Calls Tryz.prog 129 #[.agg (cellsV a sa),.agg (cellsV b sb)] w (CmpNIs a b w):=by
 have hd1:=hid (λ(W:World) (hW:Below w.heap.size w W)=>exact_any a sa fa.n0 fa.n1 fa.ts W (glob_under hgb hW) (globT_under hgt hW))
 have hd2:=hid (λ(W:World) (hW:Below w.heap.size w W)=>exact_any b sb fb.n0 fb.n1 fb.ts W (glob_under hgb hW) (globT_under hgt hW))
 have hcm:=hid (λ(W:World) (hW:Below w.heap.size w W)=>compareD_any (exactT a) (exactT b) (decB_exact fa.n0 fa.n1) (decB_exact fb.n0 fb.n1) W (glob_under hgb hW))
 unfold CmpNIs
 unfold CmpIs at hcm
 unfold DecIs at hd1 hd2
 obtain⟨X1,HX1⟩:=name_itV (exactT a)
 obtain⟨X2,HX2⟩:=name_itV (exactT b)
 rw[HX1.out]at hd1 hcm ⊢
 rw[HX2.out]at hd2 hcm ⊢
 obtain⟨c,Hc⟩:=name_itV (cmpD X1 X2)
 rw[Hc.out]at hcm ⊢
 clear Hc HX1 HX2
 have hk1:(cellsV a sa)[0]?=some (.int .i64 2):=by rw[←ha];rfl
 have hk2:(cellsV b sb)[0]?=some (.int .i64 3):=by rw[←hb];rfl
 obtain⟨c1,Hc1⟩:=name6 a sa
 obtain⟨c2,Hc2⟩:=name6 b sb
 rw[Hc1.out]at hd1 hk1 ⊢
 rw[Hc2.out]at hd2 hk2 ⊢
 have Q1:=hid Hc1.size
 have Q2:=hid Hc2.size
 obtain⟨z,Hz⟩:=name_itV w.heap.size
 obtain⟨w1,HW1⟩:=name_itV ((w.alloc (.cells c1 39)).alloc (.cells c2 39))
 have HB:=hid (show Below w.heap.size w w1 from by rw[←HW1.out];exact two_new w _ _)
 have HX:=hid (show w1.heap[z]?=some (.cells c1 39 (0,0)) from by rw[←HW1.out,←Hz.out];exact heap_alloc2_old w _ _)
 have HY:=hid (show w1.heap[z+1]?=some (.cells c2 39 (0,0)) from by rw[←HW1.out,←Hz.out];exact heap_alloc2_new w _ _)
 have p0:w1.cell? ⟨z,0,none⟩=some (.int .i64 2):=(cell_of_row _ _ _ _ _ _ HX.out).trans hk1
 have q0:w1.cell? ⟨z+1,0,none⟩=some (.int .i64 3):=(cell_of_row _ _ _ _ _ _ HY.out).trans hk2
 clear hk1 hk2 ha hb fa fb hgb hgt
 go_enter Tryz.func129,Tryz.ntmps129
 go_upto_region 1 with fail
 rw[HW1.out,Hz.out]
 clear HW1
 go_upto_region 3 with fail
 have s1:=hid (show w1.drew.heap[z]?=some (.cells c1 39 (0,0))∧w1.drew.heap[z+1]?=some (.cells c2 39 (0,0)) from ⟨HX.out,HY.out⟩)
 have HBd:=hid (show Below w.heap.size w w1.drew from HB.out.drew)
 refine wp_region_held_drew (S:=λW'=>W'.heap[z]?=some (.cells c1 39 (0,0))∧W'.heap[z+1]?=some (.cells c2 39 (0,0))) (by kernel_rfl) s1.out (λhH=>?_)
 refine Boxed.out ?_
 refine tkW 0 18 (.agg c1) hH (λw hSw=>?_) (λhH=>?_)
 ·exact val_of (ld_run hSw.1 39 _ Tryz.underlying39 rfl (by rw[Q1.out];kernel_rfl))
 simp only[Act.put,aT,aZ,aS]
 refine tkW 2 20 (.agg c2) hH (λw hSw=>?_) (λhH=>?_)
 ·exact val_of (ld_run hSw.2 39 _ Tryz.underlying39 rfl (by rw[Q2.out];kernel_rfl))
 simp only[Act.put,aT,aZ,aS]
 refine tkC 1 (λK hK=>?_)
 change Oper.wp _ ⟨some 19,_,_,_,_,_⟩ _ _ _ _
 go_simp
 refine (hd1.out w1.drew HBd.out).mono ?_
 rintro e w4 ⟨rfl,hb4⟩
 have HB4:=hid (show Below w1.heap.size w1 w4 from below_of_dr hb4)
 have HG4:=hid (HB.out.trans (HB4.out.mono HB.out.size))
 have HS4:=hid (show w4.heap[z]?=some (.cells c1 39 (0,0))∧w4.heap[z+1]?=some (.cells c2 39 (0,0)) from ⟨(HB4.out.block z (blk_lt HX.out)).trans HX.out,(HB4.out.block (z+1) (blk_lt HY.out)).trans HY.out⟩)
 clear hb4
 dsimp only
 refine hK.out _ _ HS4.out (λhH=>?_)
 clear hK K
 try simp only[Act.put,aT,aZ,aS]
 refine tkC 3 (λK hK=>?_)
 change Oper.wp _ ⟨some 21,_,_,_,_,_⟩ _ _ _ _
 go_simp
 refine (hd2.out w4 HG4.out).mono ?_
 rintro e w5 ⟨rfl,hb5⟩
 have HB5:=hid (HB4.out.trans (hb5.mono HB4.out.size))
 have HG5:=hid (HB.out.trans (HB5.out.mono HB.out.size))
 have HS5:=hid (show w5.heap[z]?=some (.cells c1 39 (0,0))∧w5.heap[z+1]?=some (.cells c2 39 (0,0)) from ⟨(HB5.out.block z (blk_lt HX.out)).trans HX.out,(HB5.out.block (z+1) (blk_lt HY.out)).trans HY.out⟩)
 clear hb5
 dsimp only
 refine hK.out _ _ HS5.out (λhH=>?_)
 clear hK K
 try simp only[Act.put,aT,aZ,aS]
 refine tkC 4 (λK hK=>?_)
 change Oper.wp _ ⟨some 22,_,_,_,_,_⟩ _ _ _ _
 go_simp
 refine (hcm.out w5 HG5.out).mono ?_
 rintro e w6 ⟨rfl,hb6⟩
 have HB6:=hid (HB5.out.trans (hb6.mono HB5.out.size))
 have HG6:=hid (HB.out.trans (HB6.out.mono HB.out.size))
 have HS6:=hid (show w6.heap[z]?=some (.cells c1 39 (0,0))∧w6.heap[z+1]?=some (.cells c2 39 (0,0)) from ⟨(HB6.out.block z (blk_lt HX.out)).trans HX.out,(HB6.out.block (z+1) (blk_lt HY.out)).trans HY.out⟩)
 clear hb6
 dsimp only
 refine hK.out _ _ HS6.out (λhH=>?_)
 clear hK K
 try simp only[Act.put,aT,aZ,aS]
 refine tkV 5 4 (.int .i64 c) hH (λhH=>?_)
 simp only[Act.put,aT,aZ,aS]
 refine⟨wpAnyH_done (by kernel_rfl) ?_ _⟩
 clear hH
 go_wp2_with fail
 go_ret
 exact⟨rfl,HG6.out⟩
theorem cmpP_32 (a b:Val) (sa sb:Value) (w:World) (ha:a.kind=3) (hb:b.kind=2) (fa:FitV a) (fb:FitV b) (hgb:GlobB w) (hgt:GlobT w) :
    Calls Tryz.prog 129 #[.agg (cellsV a sa),.agg (cellsV b sb)] w (CmpNIs a b w):=by
 have hd1:=hid (λ(W:World) (hW:Below w.heap.size w W)=>exact_any a sa fa.n0 fa.n1 fa.ts W (glob_under hgb hW) (globT_under hgt hW))
 have hd2:=hid (λ(W:World) (hW:Below w.heap.size w W)=>exact_any b sb fb.n0 fb.n1 fb.ts W (glob_under hgb hW) (globT_under hgt hW))
 have hcm:=hid (λ(W:World) (hW:Below w.heap.size w W)=>compareD_any (exactT a) (exactT b) (decB_exact fa.n0 fa.n1) (decB_exact fb.n0 fb.n1) W (glob_under hgb hW))
 unfold CmpNIs
 unfold CmpIs at hcm
 unfold DecIs at hd1 hd2
 obtain⟨X1,HX1⟩:=name_itV (exactT a)
 obtain⟨X2,HX2⟩:=name_itV (exactT b)
 rw[HX1.out]at hd1 hcm ⊢
 rw[HX2.out]at hd2 hcm ⊢
 obtain⟨c,Hc⟩:=name_itV (cmpD X1 X2)
 rw[Hc.out]at hcm ⊢
 clear Hc HX1 HX2
 have hk1:(cellsV a sa)[0]?=some (.int .i64 3):=by rw[←ha];rfl
 have hk2:(cellsV b sb)[0]?=some (.int .i64 2):=by rw[←hb];rfl
 obtain⟨c1,Hc1⟩:=name6 a sa
 obtain⟨c2,Hc2⟩:=name6 b sb
 rw[Hc1.out]at hd1 hk1 ⊢
 rw[Hc2.out]at hd2 hk2 ⊢
 have Q1:=hid Hc1.size
 have Q2:=hid Hc2.size
 obtain⟨z,Hz⟩:=name_itV w.heap.size
 obtain⟨w1,HW1⟩:=name_itV ((w.alloc (.cells c1 39)).alloc (.cells c2 39))
 have HB:=hid (show Below w.heap.size w w1 from by rw[←HW1.out];exact two_new w _ _)
 have HX:=hid (show w1.heap[z]?=some (.cells c1 39 (0,0)) from by rw[←HW1.out,←Hz.out];exact heap_alloc2_old w _ _)
 have HY:=hid (show w1.heap[z+1]?=some (.cells c2 39 (0,0)) from by rw[←HW1.out,←Hz.out];exact heap_alloc2_new w _ _)
 have p0:w1.cell? ⟨z,0,none⟩=some (.int .i64 3):=(cell_of_row _ _ _ _ _ _ HX.out).trans hk1
 have q0:w1.cell? ⟨z+1,0,none⟩=some (.int .i64 2):=(cell_of_row _ _ _ _ _ _ HY.out).trans hk2
 clear hk1 hk2 ha hb fa fb hgb hgt
 go_enter Tryz.func129,Tryz.ntmps129
 go_upto_region 1 with fail
 rw[HW1.out,Hz.out]
 clear HW1
 go_upto_region 3 with fail
 have s1:=hid (show w1.drew.heap[z]?=some (.cells c1 39 (0,0))∧w1.drew.heap[z+1]?=some (.cells c2 39 (0,0)) from ⟨HX.out,HY.out⟩)
 have HBd:=hid (show Below w.heap.size w w1.drew from HB.out.drew)
 refine wp_region_held_drew (S:=λW'=>W'.heap[z]?=some (.cells c1 39 (0,0))∧W'.heap[z+1]?=some (.cells c2 39 (0,0))) (by kernel_rfl) s1.out (λhH=>?_)
 refine Boxed.out ?_
 refine tkW 0 18 (.agg c1) hH (λw hSw=>?_) (λhH=>?_)
 ·exact val_of (ld_run hSw.1 39 _ Tryz.underlying39 rfl (by rw[Q1.out];kernel_rfl))
 simp only[Act.put,aT,aZ,aS]
 refine tkW 2 20 (.agg c2) hH (λw hSw=>?_) (λhH=>?_)
 ·exact val_of (ld_run hSw.2 39 _ Tryz.underlying39 rfl (by rw[Q2.out];kernel_rfl))
 simp only[Act.put,aT,aZ,aS]
 refine tkC 1 (λK hK=>?_)
 change Oper.wp _ ⟨some 19,_,_,_,_,_⟩ _ _ _ _
 go_simp
 refine (hd1.out w1.drew HBd.out).mono ?_
 rintro e w4 ⟨rfl,hb4⟩
 have HB4:=hid (show Below w1.heap.size w1 w4 from below_of_dr hb4)
 have HG4:=hid (HB.out.trans (HB4.out.mono HB.out.size))
 have HS4:=hid (show w4.heap[z]?=some (.cells c1 39 (0,0))∧w4.heap[z+1]?=some (.cells c2 39 (0,0)) from ⟨(HB4.out.block z (blk_lt HX.out)).trans HX.out,(HB4.out.block (z+1) (blk_lt HY.out)).trans HY.out⟩)
 clear hb4
 dsimp only
 refine hK.out _ _ HS4.out (λhH=>?_)
 clear hK K
 try simp only[Act.put,aT,aZ,aS]
 refine tkC 3 (λK hK=>?_)
 change Oper.wp _ ⟨some 21,_,_,_,_,_⟩ _ _ _ _
 go_simp
 refine (hd2.out w4 HG4.out).mono ?_
 rintro e w5 ⟨rfl,hb5⟩
 have HB5:=hid (HB4.out.trans (hb5.mono HB4.out.size))
 have HG5:=hid (HB.out.trans (HB5.out.mono HB.out.size))
 have HS5:=hid (show w5.heap[z]?=some (.cells c1 39 (0,0))∧w5.heap[z+1]?=some (.cells c2 39 (0,0)) from ⟨(HB5.out.block z (blk_lt HX.out)).trans HX.out,(HB5.out.block (z+1) (blk_lt HY.out)).trans HY.out⟩)
 clear hb5
 dsimp only
 refine hK.out _ _ HS5.out (λhH=>?_)
 clear hK K
 try simp only[Act.put,aT,aZ,aS]
 refine tkC 4 (λK hK=>?_)
 change Oper.wp _ ⟨some 22,_,_,_,_,_⟩ _ _ _ _
 go_simp
 refine (hcm.out w5 HG5.out).mono ?_
 rintro e w6 ⟨rfl,hb6⟩
 have HB6:=hid (HB5.out.trans (hb6.mono HB5.out.size))
 have HG6:=hid (HB.out.trans (HB6.out.mono HB.out.size))
 have HS6:=hid (show w6.heap[z]?=some (.cells c1 39 (0,0))∧w6.heap[z+1]?=some (.cells c2 39 (0,0)) from ⟨(HB6.out.block z (blk_lt HX.out)).trans HX.out,(HB6.out.block (z+1) (blk_lt HY.out)).trans HY.out⟩)
 clear hb6
 dsimp only
 refine hK.out _ _ HS6.out (λhH=>?_)
 clear hK K
 try simp only[Act.put,aT,aZ,aS]
 refine tkV 5 4 (.int .i64 c) hH (λhH=>?_)
 simp only[Act.put,aT,aZ,aS]
 refine⟨wpAnyH_done (by kernel_rfl) ?_ _⟩
 clear hH
 go_wp2_with fail
 go_ret
 exact⟨rfl,HG6.out⟩
theorem cmpP_33 (a b:Val) (sa sb:Value) (w:World) (ha:a.kind=3) (hb:b.kind=3) (fa:FitV a) (fb:FitV b) (hgb:GlobB w) (hgt:GlobT w) :
    Calls Tryz.prog 129 #[.agg (cellsV a sa),.agg (cellsV b sb)] w (CmpNIs a b w):=by
 have hd1:=hid (λ(W:World) (hW:Below w.heap.size w W)=>exact_any a sa fa.n0 fa.n1 fa.ts W (glob_under hgb hW) (globT_under hgt hW))
 have hd2:=hid (λ(W:World) (hW:Below w.heap.size w W)=>exact_any b sb fb.n0 fb.n1 fb.ts W (glob_under hgb hW) (globT_under hgt hW))
 have hcm:=hid (λ(W:World) (hW:Below w.heap.size w W)=>compareD_any (exactT a) (exactT b) (decB_exact fa.n0 fa.n1) (decB_exact fb.n0 fb.n1) W (glob_under hgb hW))
 unfold CmpNIs
 unfold CmpIs at hcm
 unfold DecIs at hd1 hd2
 obtain⟨X1,HX1⟩:=name_itV (exactT a)
 obtain⟨X2,HX2⟩:=name_itV (exactT b)
 rw[HX1.out]at hd1 hcm ⊢
 rw[HX2.out]at hd2 hcm ⊢
 obtain⟨c,Hc⟩:=name_itV (cmpD X1 X2)
 rw[Hc.out]at hcm ⊢
 clear Hc HX1 HX2
 have hk1:(cellsV a sa)[0]?=some (.int .i64 3):=by rw[←ha];rfl
 have hk2:(cellsV b sb)[0]?=some (.int .i64 3):=by rw[←hb];rfl
 obtain⟨c1,Hc1⟩:=name6 a sa
 obtain⟨c2,Hc2⟩:=name6 b sb
 rw[Hc1.out]at hd1 hk1 ⊢
 rw[Hc2.out]at hd2 hk2 ⊢
 have Q1:=hid Hc1.size
 have Q2:=hid Hc2.size
 obtain⟨z,Hz⟩:=name_itV w.heap.size
 obtain⟨w1,HW1⟩:=name_itV ((w.alloc (.cells c1 39)).alloc (.cells c2 39))
 have HB:=hid (show Below w.heap.size w w1 from by rw[←HW1.out];exact two_new w _ _)
 have HX:=hid (show w1.heap[z]?=some (.cells c1 39 (0,0)) from by rw[←HW1.out,←Hz.out];exact heap_alloc2_old w _ _)
 have HY:=hid (show w1.heap[z+1]?=some (.cells c2 39 (0,0)) from by rw[←HW1.out,←Hz.out];exact heap_alloc2_new w _ _)
 have p0:w1.cell? ⟨z,0,none⟩=some (.int .i64 3):=(cell_of_row _ _ _ _ _ _ HX.out).trans hk1
 have q0:w1.cell? ⟨z+1,0,none⟩=some (.int .i64 3):=(cell_of_row _ _ _ _ _ _ HY.out).trans hk2
 clear hk1 hk2 ha hb fa fb hgb hgt
 go_enter Tryz.func129,Tryz.ntmps129
 go_upto_region 1 with fail
 rw[HW1.out,Hz.out]
 clear HW1
 go_upto_region 3 with fail
 have s1:=hid (show w1.drew.heap[z]?=some (.cells c1 39 (0,0))∧w1.drew.heap[z+1]?=some (.cells c2 39 (0,0)) from ⟨HX.out,HY.out⟩)
 have HBd:=hid (show Below w.heap.size w w1.drew from HB.out.drew)
 refine wp_region_held_drew (S:=λW'=>W'.heap[z]?=some (.cells c1 39 (0,0))∧W'.heap[z+1]?=some (.cells c2 39 (0,0))) (by kernel_rfl) s1.out (λhH=>?_)
 refine Boxed.out ?_
 refine tkW 0 18 (.agg c1) hH (λw hSw=>?_) (λhH=>?_)
 ·exact val_of (ld_run hSw.1 39 _ Tryz.underlying39 rfl (by rw[Q1.out];kernel_rfl))
 simp only[Act.put,aT,aZ,aS]
 refine tkW 2 20 (.agg c2) hH (λw hSw=>?_) (λhH=>?_)
 ·exact val_of (ld_run hSw.2 39 _ Tryz.underlying39 rfl (by rw[Q2.out];kernel_rfl))
 simp only[Act.put,aT,aZ,aS]
 refine tkC 1 (λK hK=>?_)
 change Oper.wp _ ⟨some 19,_,_,_,_,_⟩ _ _ _ _
 go_simp
 refine (hd1.out w1.drew HBd.out).mono ?_
 rintro e w4 ⟨rfl,hb4⟩
 have HB4:=hid (show Below w1.heap.size w1 w4 from below_of_dr hb4)
 have HG4:=hid (HB.out.trans (HB4.out.mono HB.out.size))
 have HS4:=hid (show w4.heap[z]?=some (.cells c1 39 (0,0))∧w4.heap[z+1]?=some (.cells c2 39 (0,0)) from ⟨(HB4.out.block z (blk_lt HX.out)).trans HX.out,(HB4.out.block (z+1) (blk_lt HY.out)).trans HY.out⟩)
 clear hb4
 dsimp only
 refine hK.out _ _ HS4.out (λhH=>?_)
 clear hK K
 try simp only[Act.put,aT,aZ,aS]
 refine tkC 3 (λK hK=>?_)
 change Oper.wp _ ⟨some 21,_,_,_,_,_⟩ _ _ _ _
 go_simp
 refine (hd2.out w4 HG4.out).mono ?_
 rintro e w5 ⟨rfl,hb5⟩
 have HB5:=hid (HB4.out.trans (hb5.mono HB4.out.size))
 have HG5:=hid (HB.out.trans (HB5.out.mono HB.out.size))
 have HS5:=hid (show w5.heap[z]?=some (.cells c1 39 (0,0))∧w5.heap[z+1]?=some (.cells c2 39 (0,0)) from ⟨(HB5.out.block z (blk_lt HX.out)).trans HX.out,(HB5.out.block (z+1) (blk_lt HY.out)).trans HY.out⟩)
 clear hb5
 dsimp only
 refine hK.out _ _ HS5.out (λhH=>?_)
 clear hK K
 try simp only[Act.put,aT,aZ,aS]
 refine tkC 4 (λK hK=>?_)
 change Oper.wp _ ⟨some 22,_,_,_,_,_⟩ _ _ _ _
 go_simp
 refine (hcm.out w5 HG5.out).mono ?_
 rintro e w6 ⟨rfl,hb6⟩
 have HB6:=hid (HB5.out.trans (hb6.mono HB5.out.size))
 have HG6:=hid (HB.out.trans (HB6.out.mono HB.out.size))
 have HS6:=hid (show w6.heap[z]?=some (.cells c1 39 (0,0))∧w6.heap[z+1]?=some (.cells c2 39 (0,0)) from ⟨(HB6.out.block z (blk_lt HX.out)).trans HX.out,(HB6.out.block (z+1) (blk_lt HY.out)).trans HY.out⟩)
 clear hb6
 dsimp only
 refine hK.out _ _ HS6.out (λhH=>?_)
 clear hK K
 try simp only[Act.put,aT,aZ,aS]
 refine tkV 5 4 (.int .i64 c) hH (λhH=>?_)
 simp only[Act.put,aT,aZ,aS]
 refine⟨wpAnyH_done (by kernel_rfl) ?_ _⟩
 clear hH
 go_wp2_with fail
 go_ret
 exact⟨rfl,HG6.out⟩
theorem cmpP_any (a b:Val) (sa sb:Value) (w:World) (ha:a.kind=2∨a.kind=3) (hb:b.kind=2∨b.kind=3) (fa:FitV a) (fb:FitV b) (hgb:GlobB w) (hgt:GlobT w) :
    Calls Tryz.prog 129 #[.agg (cellsV a sa),.agg (cellsV b sb)] w (CmpNIs a b w):=by
 rcases ha with ha | ha
 ·rcases hb with hb | hb
  ·exact cmpP_22 a b sa sb w ha hb fa fb
  ·exact cmpP_23 a b sa sb w ha hb fa fb hgb hgt
 ·rcases hb with hb | hb
  ·exact cmpP_32 a b sa sb w ha hb fa fb hgb hgt
  ·exact cmpP_33 a b sa sb w ha hb fa fb hgb hgt
end Go.Proofs.YtefhfadjajcmkaaGreatDoor
