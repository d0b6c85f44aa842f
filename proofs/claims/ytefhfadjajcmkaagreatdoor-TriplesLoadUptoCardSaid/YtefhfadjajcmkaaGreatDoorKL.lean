/- The memory of the walk of TriplesWalk. -/
import Derived.Test.YtefhfadjajcmkaaGreatDoorKK
import Derived.Test.YtefhfadjajcmkaaGreatDoorK4
import Derived.Maps.AppendAt
import Derived.Test.YtefhfadjajcmkaaGreatDoorK8
import Derived.Test.YtefhfadjajcmkaaGreatDoorK0
import Derived.Deep.DeepCutAuto
set_option linter.unusedVariables false
set_option linter.unusedSimpArgs false
namespace Go.Proofs.YtefhfadjajcmkaaGreatDoor
open Go Go.RowKit Go.Maps
open Go.Lib (hid cell_of_heap)
theorem below_turnP {w0 w w':World} {S:Nat→Prop} (hb:Below w0.heap.size w0 w) (ht:Turn S w w') (hS:∀b,S b→w0.heap.size≤b):Below w0.heap.size w0 w':=
 hb.trans ⟨ht.os,ht.tape,ht.output,ht.size,λk hk=>ht.block k (Nat.lt_of_lt_of_le hk hb.size) (λh=>by have:=hS k h;omega)⟩
structure PlainR {α : Type} (sz:Nat) (R:α → Array Value→Prop):Prop where
 size:∀{x:α} {c:Array Value},R x c→c.size=sz
 one:∀{x:α} {c:Array Value},R x c→∀u∈c.toList,u.oneCell'=true
abbrev ofP {α : Type} (R:α → Array Value→Prop):Lies α:=λ_ _ x c=>R x c
theorem ofP.good {α : Type} (R:α → Array Value→Prop):(ofP R).Good:=⟨λh _=>h,λh _=>h⟩
def POwn {α : Type} (E:TypeId) (sz:Nat) (R:α → Array Value→Prop) (w:World) (l:List α) (v:Value):Prop:=
 ∃cs:Nat→Array Value,w.ownsRow 0 E sz v l.length (flatC cs l.length)∧∀i x,l[i]?=some x→R x (cs i)
section
variable {α : Type} {E:TypeId} {sz:Nat} {R:α → Array Value→Prop} {w w':World} {F:Nat→Prop} {l l2:List α} {v:Value} {A:Option Addr} {n:Nat}
theorem POwn.nil (E:TypeId) (sz:Nat) (R:α → Array Value→Prop) (w:World):POwn E sz R w [] (.slice none 0 0):=⟨λ_=>#[],World.ownsRow_nil _ _ _ _,λi x hx=>by simp at hx⟩
theorem POwn.turn (h:POwn E sz R w l v) {S:Nat→Prop} (ht:Turn S w w') (hS:∀b,v.ownBlock=some b→¬S b):POwn E sz R w' l v:=by
 obtain⟨cs,hrow,hr⟩:=h
 exact⟨cs,ht.owns hrow hS,hr⟩
theorem POwn.lt (h:POwn E sz R w l v) {b:Nat} (hb:v.ownBlock=some b):b<w.heap.size:=by
 obtain⟨cs,hrow,hr⟩:=h
 obtain⟨cur,hc⟩:=own_type hrow hb
 exact blk_lt hc
theorem POwn.on (h:POwn E sz R w l v) (hb:Below w.heap.size w w'):POwn E sz R w' l v:=
 h.turn (Turn.of_below hb) λb hb2 e=>by have e:w.heap.size≤b:=e;have:=h.lt hb2;omega
theorem POwn.form (h:POwn E sz R w l v):∃A cap,v = .slice A l.length cap∧l.length≤cap∧(A=none→cap=0):=by
 obtain⟨cs,hrow,_⟩:=h
 rcases hrow.2 with⟨h0,h1⟩ | ⟨g,cp,cur,h0,_,_,h1,_⟩
 ·exact⟨none,0,by rw[h0,h1],by omega,λ_=>rfl⟩
 ·exact⟨_,cp,h0,h1,λh=>by cases h⟩
theorem POwn.rd {cap:Nat} (hP:PlainR sz R) (h:POwn E sz R w l (.slice A n cap)) (hF:∀b,(Value.slice A n cap).ownBlock=some b→F b) (hn:l.length=n):SRd sz (ofP R) w F l A n:=by
 obtain⟨cs,hrow,hr⟩:=h
 subst hn
 refine⟨rfl,λhn=>?_⟩
 obtain⟨g,cp,hv,_,_⟩:=hrow.form hn
 injection hv with hv _ hcp
 subst hv
 subst hcp
 have h6:∀i,i<l.length→(cs i).size=sz:=λi hi=>hP.size (hr i _ (List.getElem?_eq_getElem hi))
 refine⟨⟨g,0,none⟩,rfl,hF g rfl,λi x hx=>?_⟩
 have hi:=idx_lt hx
 refine⟨cs i,h6 i hi,λj hj=>?_,hr i x hx⟩
 have hij:i*sz+j<l.length*sz:=by
  have h1:(i+1)*sz≤l.length*sz:=Nat.mul_le_mul_right sz (by omega)
  rw[Nat.succ_mul]at h1
  omega
 have h1:=hrow.cellAt (i*sz+j) hij
 rw[flatC_at h6 hi hj]at h1
 rw[Addr.add_mid,Nat.zero_add]
 exact h1
theorem SRd.part (h:SRd sz (ofP R) w F l A n) {lo hi:Nat} (h1:lo≤hi) (h2:hi≤n):SRd sz (ofP R) w F ((l.drop lo).take (hi-lo)) (A.map (·.add (lo*sz))) (hi-lo):=by
 refine⟨by rw[List.length_take,List.length_drop,←h.1];omega,λhn=>?_⟩
 obtain⟨ad,e,hF,hc⟩:=h.2 (by omega)
 refine⟨ad.add (lo*sz),by rw[e];rfl,by rw[block_of_add];exact hF,λi x hx=>?_⟩
 have hi':=(List.getElem?_eq_some_iff.1 hx).1
 rw[List.length_take]at hi'
 rw[List.getElem?_take_of_lt (by omega),List.getElem?_drop]at hx
 obtain⟨c,h3,h4,h5⟩:=hc _ _ hx
 refine⟨c,h3,λj hj=>?_,h5⟩
 rw[add_of_add,←h4 j hj,Nat.add_mul,Nat.add_assoc]
theorem SRd.cells {ad:Addr} (hP:PlainR sz R) (h:SRd sz (ofP R) w F l (some ad) n):∃cs:Nat→Array Value,(∀i x,l[i]?=some x→R x (cs i))∧∀j u,(flatC cs n)[j]?=some u→w.cell? (ad.add j)=some u:=by
 classical
 have hx:∀i,∃c:Array Value,∀x,l[i]?=some x→R x c∧∀j,j<sz→w.cell? (ad.add (i*sz+j))=c[j]?:=λi=>by
  cases hi:l[i]? with
  | none=>exact⟨#[],λx h=>by cases h⟩
  | some x=>
   obtain⟨ad',c,e,_,h1,h2,h3⟩:=h.at_ hi
   injection e with e
   subst e
   exact⟨c,λy hy=>by injection hy with hy;subst hy;exact⟨h3,h2⟩⟩
 refine⟨λi=>(hx i).choose,λi x hi=>((hx i).choose_spec x hi).1,λj u hj=>?_⟩
 have h6:∀i,i<n→((hx i).choose).size=sz:=λi hi=>hP.size ((hx i).choose_spec _ (List.getElem?_eq_getElem (by rw[←h.1];exact hi))).1
 have hl:=(List.getElem?_eq_some_iff.1 hj).1
 rw[flatC_length h6]at hl
 rcases Nat.eq_zero_or_pos sz with h0 | h0
 ·subst h0
  omega
 ·have hi:j / sz<n:=(Nat.div_lt_iff_lt_mul h0).2 hl
  have hm:j % sz<sz:=Nat.mod_lt _ h0
  have e:j=(j / sz)*sz+j % sz:=by rw[Nat.mul_comm];exact (Nat.div_add_mod j sz).symm
  rw[e,flatC_at h6 hi hm]at hj
  rw[e,((hx _).choose_spec _ (List.getElem?_eq_getElem (by rw[←h.1];exact hi))).2 _ hm]
  exact hj
theorem flatC_app (cs ds:Nat→Array Value) (n m:Nat):flatC cs n++flatC ds m=flatC (λi=>if i<n then cs i else ds (i-n)) (n+m):=by
 induction m with
 | zero=>
  rw[Nat.add_zero,show flatC ds 0=[] from rfl,List.append_nil]
  exact flatC_congr λi hi=>(if_pos hi).symm
 | succ m ih=>
  rw[flatC_succ,←List.append_assoc,ih,←Nat.add_assoc,flatC_succ]
  congr 2
  rw[if_neg (by omega),Nat.add_sub_cancel_left]
end
theorem run_app_P {α : Type} {P:Program} {E:TypeId} {sz bytes:Nat} {R:α → Array Value→Prop} (hP:PlainR sz R) (t ty:TypeId) (i:TypeInfo) (z:Value) (ht:P.underlying t=some (.slice E)) (hi:P.info? E=some i) (hz:i.zero=some z)
    (hsize:i.size=sz) (hby:i.bytes=bytes) (hzs:z.cells.size=sz) (hsz:0<sz) {w:World} {F:Nat→Prop} {l l2:List α} {v:Value} {A:Option Addr} {n m c:Nat} (h:POwn E sz R w l v) (hn:l.length=n) (h2:SRd sz (ofP R) w F l2 A m) (hc:A=none→c=0)
    (h63:n+m≤1000000000) (hbb:bytes≤100000) :
    ∃v' w',(Builtin.append_ #[t,t] ty #[v,.slice A m c]).run P w = .ok v' w'∧POwn E sz R w' (l++l2) v'∧w.grownBy w' v.ownBlock∧(v'.ownBlock=v.ownBlock∨v'.ownBlock=some w.heap.size):=by
 subst hn
 obtain⟨cs,hrow,hr⟩:=h
 have hm:m=l2.length:=h2.1
 cases A with
 | none=>
  have h0:m=0:=by
   rcases Nat.eq_zero_or_pos m with h | h
   ·exact h
   ·obtain⟨_,e,_⟩:=h2.2 h;cases e
  have e2:l2=[]:=List.eq_nil_of_length_eq_zero (by omega)
  subst e2
  rw[hc rfl,h0]
  refine⟨v,w,run_append_owned_none (P:=P) (w:=w) 0 t ty E i sz ht hi v _ _ hrow,?_,⟨rfl,rfl,rfl,Nat.le_refl _,λ_ _ _=>rfl⟩,.inl rfl⟩
  rw[List.append_nil]
  exact⟨cs,hrow,hr⟩
 | some ad=>
  obtain⟨ds,hd,hcell⟩:=h2.cells hP
  have h6:∀i,i<m→(ds i).size=sz:=λi hi=>hP.size (hd i _ (List.getElem?_eq_getElem (by omega)))
  have hone:∀u∈flatC ds m,u.oneCell'=true:=λu hu=>by
   unfold flatC at hu
   obtain⟨i,hi,hu⟩:=List.mem_flatMap.1 hu
   rw[List.mem_range]at hi
   exact hP.one (hd i _ (List.getElem?_eq_getElem (by omega))) u hu
  have hbytes:(l.length+m)*bytes≤140737488355328:=Nat.le_trans (Nat.mul_le_mul h63 hbb) (by decide)
  obtain⟨v',w',h1,h3,h4,_,h5⟩:=run_append_own_at (P:=P) w 0 t ty E i z sz bytes ht hi hz hsize hby hzs hsz v l.length _ hrow ad m c (flatC ds m) (flatC_length h6) hcell hone (by unfold maxLen;omega) hbytes (Nat.zero_le _)
  refine⟨v',w',h1,⟨λi=>if i<l.length then cs i else ds (i-l.length),?_,λi x hx=>?_⟩,h4,h5⟩
  ·rw[List.length_append,←hm,←flatC_app]
   exact h3
  ·dsimp only
   split
   ·rename_i hlt
    rw[List.getElem?_append_left hlt]at hx
    exact hr i x hx
   ·rename_i hge
    rw[List.getElem?_append_right (by omega)]at hx
    exact hd _ x hx
theorem wp_app_P {α : Type} {P:Program} {E:TypeId} {sz bytes:Nat} {R:α → Array Value→Prop} (hP:PlainR sz R) {op:Oper} {a:Act} {K:Act→World→Prop} {Q:Exit→Act→World→Prop} (s x:Operand) (t:TypeId) (ho:op.op = .call { callee:=.builtin .append,args:=#[s,x],argTypes:=#[t,t] })
    (i:TypeInfo) (z:Value) (ht:P.underlying t=some (.slice E)) (hi:P.info? E=some i) (hz:i.zero=some z)
    (hsize:i.size=sz) (hby:i.bytes=bytes) (hzs:z.cells.size=sz) (hsz:0<sz) {w:World} {F:Nat→Prop} {l l2:List α} {v:Value} {A:Option Addr} {n m c:Nat} (hs:a.eval s=v) (h:POwn E sz R w l v) (hn:l.length=n) (hx:a.eval x = .slice A m c) (h2:SRd sz (ofP R) w F l2 A m) (hc:A=none→c=0)
    (h63:n+m≤1000000000) (hbb:bytes≤100000)
    (hk:∀v' w',POwn E sz R w' (l++l2) v'→w.grownBy w' v.ownBlock→(v'.ownBlock=v.ownBlock∨v'.ownBlock=some w.heap.size)→K (a.put op.dst v') w'):op.wp P a w K Q:=by
 obtain⟨v',w',h1,h3,h4,h5⟩:=run_app_P (P:=P) hP t op.type i z ht hi hz hsize hby hzs hsz h hn h2 hc h63 hbb
 unfold Oper.wp execOp
 simp only[ho,resolve,invoke,builtin,Sem.run_bind,Sem.run_pure,Result.andThen_ok,List.map_toArray,List.map_cons,List.map_nil,hs,hx,h1]
 exact hk v' w' h3 h4 h5
theorem wpList_app_P {α : Type} {P:Program} {E:TypeId} {sz bytes:Nat} {R:α → Array Value→Prop} (hP:PlainR sz R) {ops:Array Oper} {rest:List Oper} {op:Oper} {a:Act} {Q:Exit→Act→World→Prop} (hgd:op.guard=none) (s x:Operand) (t:TypeId) (ho:op.op = .call { callee:=.builtin .append,args:=#[s,x],argTypes:=#[t,t] })
    (i:TypeInfo) (z:Value) (ht:P.underlying t=some (.slice E)) (hi:P.info? E=some i) (hz:i.zero=some z)
    (hsize:i.size=sz) (hby:i.bytes=bytes) (hzs:z.cells.size=sz) (hsz:0<sz) {w:World} {F:Nat→Prop} {l l2:List α} {v:Value} {A:Option Addr} {n m c:Nat} (hs:a.eval s=v) (h:POwn E sz R w l v) (hn:l.length=n) (hx:a.eval x = .slice A m c) (h2:SRd sz (ofP R) w F l2 A m) (hc:A=none→c=0)
    (h63:n+m≤1000000000) (hbb:bytes≤100000)
    (hk:∀v' w',POwn E sz R w' (l++l2) v'→w.grownBy w' v.ownBlock→(v'.ownBlock=v.ownBlock∨v'.ownBlock=some w.heap.size)→wpList P ops Q rest (a.put op.dst v') w'):wpList P ops Q (op::rest) a w:=
 wpList_plain hgd λ_ hK=>wp_app_P hP s x t ho i z ht hi hz hsize hby hzs hsz hs h hn hx h2 hc h63 hbb λv' w' h1 h3 h4=>hK _ _ (hk v' w' h1 h3 h4)
theorem one_rd {α : Type} {sz:Nat} {R:α → Array Value→Prop} (hP:PlainR sz R) {x:α} {c:Array Value} (h:R x c) (w:World) (T:TypeId):SRd sz (ofP R) (w.alloc (.cells c T)) (λb=>b=w.heap.size) [x] (some ⟨w.heap.size,0,none⟩) 1:=
 ⟨rfl,λ_=>⟨_,rfl,rfl,λi y hy=>by
  have hi:i=0:=by
   have:=(List.getElem?_eq_some_iff.1 hy).1
   simp at this
   omega
  subst hi
  simp at hy
  subst hy
  refine⟨c,hP.size h,λj hj=>?_,h⟩
  rw[Addr.add_mid,Nat.zero_mul,Nat.zero_add,Nat.zero_add]
  exact cell_of_row _ _ _ _ _ _ (heap_alloc_new w _)⟩⟩
section
variable {P:Program} {T E:TypeId} {sz:Nat}
theorem slice_to (hT:P.underlying T=some (.slice (P.elem T))) (hs:∀W,(sizeOf (P.elem T)).run P W = .ok sz W) {A:Option Addr} {n c k:Nat} (hk:k≤n) (hn:n≤c) (hA:A=none→c=0) :
    ∃A' c',(∀W,(Instr.sliceAt T (.slice A n c) none (some (.int .i64 (k:Nat))) none).run P W = .ok (.slice A' k c') W)∧(A'=none→c'=0)∧(0<k→A'=A.map (·.add (0*sz))):=by
 refine⟨if c=0 then A else A.map (·.add (0*sz)),c-0,λW=>?_,λh=>?_,λh=>?_⟩
 ·rw[run_sliceAt_slice (h:=hT),run_slice_h (ht:=hT) (h0:=by omega) (h2:=by omega),hs W]
  rfl
 ·by_cases h0:c=0
  ·omega
  ·rw[if_neg h0,Option.map_eq_none_iff]at h
   have:=hA h
   omega
 ·rw[if_neg (by omega)]
theorem slice_from (hT:P.underlying T=some (.slice (P.elem T))) (hs:∀W,(sizeOf (P.elem T)).run P W = .ok sz W) {A:Option Addr} {n c k:Nat} (hk:k≤n) (hn:n≤c) (hA:A=none→c=0) :
    ∃A' c',(∀W,(Instr.sliceAt T (.slice A n c) (some (.int .i64 (k:Nat))) none none).run P W = .ok (.slice A' (n-k) c') W)∧(A'=none→c'=0)∧(k<n→A'=A.map (·.add (k*sz))):=by
 refine⟨if c=k then A else A.map (·.add (k*sz)),c-k,λW=>?_,λh=>?_,λh=>?_⟩
 ·rw[run_sliceAt_slice (h:=hT),run_slice_l (ht:=hT) (h0:=by omega) (h1:=by omega),hs W]
  rfl
 ·by_cases h0:c=k
  ·omega
  ·rw[if_neg h0,Option.map_eq_none_iff]at h
   have:=hA h
   omega
 ·rw[if_neg (by omega)]
end
section
variable {α : Type} {E:TypeId} {sz:Nat} {R:α → Array Value→Prop} {w wx w':World} {S v v':Value} {l nx:List α}
theorem SRd.at_len {F:Nat→Prop} {A A':Option Addr} {n:Nat} (h:SRd sz (ofP R) w F l A n) (hA:0<n→A'=A):SRd sz (ofP R) w F l A' n:=⟨h.1,λhn=>by
 obtain⟨ad,e,h1,h2⟩:=h.2 hn
 exact⟨ad,by rw[hA hn,e],h1,h2⟩⟩
theorem SRd.part_to {F:Nat→Prop} {A A':Option Addr} {n k:Nat} (h:SRd sz (ofP R) w F l A n) (hk:k≤n) (hA:0<k→A'=A.map (·.add (0*sz))):SRd sz (ofP R) w F (l.take k) A' k:=by
 have:=(h.part (lo:=0) (hi:=k) (Nat.zero_le _) hk).at_len (A':=A') (λh=>hA (by omega))
 rwa [List.drop_zero,Nat.sub_zero]at this
theorem SRd.part_from {F:Nat→Prop} {A A':Option Addr} {n k:Nat} (h:SRd sz (ofP R) w F l A n) (hk:k≤n) (hA:k<n→A'=A.map (·.add (k*sz))):SRd sz (ofP R) w F (l.drop k) A' (n-k):=by
 have:=(h.part (lo:=k) (hi:=n) hk (Nat.le_refl _)).at_len (A':=A') (λh=>hA (by omega))
 rwa [List.take_of_length_le (by rw[List.length_drop,h.1];exact Nat.le_refl _)]at this
theorem POwn.cell {E:TypeId} (hP:PlainR sz R) {A:Option Addr} {n cap:Nat} (h:POwn E sz R w l (.slice A n cap)) (hn:l.length=n) {k:Nat} {x:α} (hx:l[k]?=some x) :
    ∃ad c,A=some ad∧ad.block<w.heap.size∧R x c∧∀j,j<c.size→w.cell? ((ad.add (k*sz)).add j)=c[j]?:=by
 obtain⟨ad,c,e,hF,hs,hc,hr⟩:=(h.rd hP (F:=λb=>b<w.heap.size) (λb hb=>h.lt hb) hn).at_ hx
 exact⟨ad,c,e,hF,hr,λj hj=>by rw[add_of_add];exact hc j (by omega)⟩
structure LdP (E:TypeId) (sz:Nat) (R:α → Array Value→Prop) (w:World) (l:List α) (S:Value) (wx:World):Prop where
 hb:Below w.heap.size w wx
 own:POwn E sz R wx l S
 ow:∀b,S.ownBlock=some b→w.heap.size≤b
theorem LdP.on (h:LdP E sz R w l S wx) (hb:Below wx.heap.size wx w'):LdP E sz R w l S w':=⟨h.hb.trans (hb.mono h.hb.size),h.own.on hb,h.ow⟩
theorem LdP.drew (h:LdP E sz R w l S wx):LdP E sz R w l S wx.drew:=h.on (Below.refl _ _).drew
theorem LdP.start (w:World):LdP E sz R w [] (.slice none 0 0) w:=⟨Below.refl _ _,POwn.nil ..,λb h=>by cases h⟩
theorem LdP.startOn {w0:World} (hb:Below w0.heap.size w0 w):LdP E sz R w0 [] (.slice none 0 0) w:=⟨hb,POwn.nil ..,λb h=>by cases h⟩
structure InP (E:TypeId) (sz:Nat) (R:α → Array Value→Prop) (w:World) (l:List α) (S:Value) (nx:List α) (v:Value) (wx:World):Prop where
 l:LdP E sz R w l S wx
 n:LdP E sz R w nx v wx
 ne:∀b,v.ownBlock=some b→S.ownBlock≠some b
theorem InP.start (h:LdP E sz R w l S wx):InP E sz R w l S [] (.slice none 0 0) wx:=⟨h,⟨h.hb,POwn.nil ..,λb h=>by cases h⟩,λb h=>by cases h⟩
theorem InP.on (h:InP E sz R w l S nx v wx) (hb:Below wx.heap.size wx w'):InP E sz R w l S nx v w':=⟨h.l.on hb,h.n.on hb,h.ne⟩
theorem InP.app {l2:List α} (h:InP E sz R w l S nx v wx) (ho:POwn E sz R w' (nx++l2) v') (hg:wx.grownBy w' v.ownBlock) (hv:v'.ownBlock=v.ownBlock∨v'.ownBlock=some wx.heap.size):InP E sz R w l S (nx++l2) v' w':=by
 have ht:=Turn.of_grown hg
 have hb:Below w.heap.size w w':=below_turnP h.l.hb ht (λb hb=>h.n.ow b hb.symm)
 refine⟨⟨hb,h.l.own.turn ht (λb h1 h2=>h.ne b h2.symm h1),h.l.ow⟩,⟨hb,ho,λb hb=>?_⟩,λb hb=>?_⟩
 ·rcases hv with e | e
  ·rw[e]at hb;exact h.n.ow b hb
  ·rw[e]at hb
   injection hb with hb
   rw[←hb]
   exact h.l.hb.size
 ·rcases hv with e | e
  ·rw[e]at hb;exact h.ne b hb
  ·rw[e]at hb
   injection hb with hb
   intro h2
   have:=h.l.own.lt h2
   omega
theorem InP.done (h:InP E sz R w l S nx v wx):LdP E sz R w nx v wx:=h.n
end
section
variable {α : Type} {o:α → α → Int} {l:List α} {y:α} {k:Nat}
theorem spot_down {x:α} (hk:l[k]?=some x) (h:0<o x y):spotR o y l (k+1)=spotR o y l k:=by
 unfold spotR
 rw[hk]
 simp only
 rw[if_pos h]
 cases k<;>rfl
theorem spot_here {x:α} (hk:l[k]?=some x) (h:¬0<o x y):spotR o y l (k+1)=k+1:=by
 unfold spotR
 rw[hk]
 simp only
 rw[if_neg h]
theorem spot_zero:spotR o y l 0=0:=by unfold spotR;rfl
theorem ins_none (h:spotR o y l l.length=0):insR o l y=l.take 0++([y]++l.drop 0):=by
 unfold insR
 simp only[h]
 rw[if_neg (by rintro⟨h,_⟩;omega)]
 rfl
theorem ins_here {x:α} (hk:l[k]?=some x) (h:spotR o y l l.length=k+1) (h0:o x y≠0):insR o l y=l.take (k+1)++([y]++l.drop (k+1)):=by
 unfold insR
 simp only[h,Nat.add_sub_cancel]
 rw[if_neg (by rintro⟨_,x',hx,h1⟩;rw[hk]at hx;injection hx with hx;subst hx;exact h0 h1)]
 rfl
theorem ins_same {x:α} (hk:l[k]?=some x) (h:spotR o y l l.length=k+1) (h0:o x y=0):insR o l y=l:=by
 unfold insR
 simp only[h,Nat.add_sub_cancel]
 rw[if_pos ⟨by omega,x,hk,h0⟩]
end
theorem cellT_plain:PlainR 18 (λ(t:Trip) c=>CellT c t):=⟨λh=>h.size,fun {x c} h u hu=>by
 obtain⟨_,ss,hs,rfl⟩:=h
 exact cellsT_one x ss (λq hq=>by obtain⟨A,cp,e⟩:=hs q hq;exact⟨A,0,cp,e⟩) u hu⟩
theorem SRd.imp {α : Type} {R R':Lies α} {sz:Nat} {w:World} {F F':Nat→Prop} {l:List α} {A:Option Addr} {n:Nat} (h:SRd sz R w F l A n) (hF:∀b,F b→F' b) (hR:∀x c,R w F x c→R' w F' x c):SRd sz R' w F' l A n:=
 ⟨h.1,λhn=>by
  obtain⟨ad,e,hf,hc⟩:=h.2 hn
  refine⟨ad,e,hF _ hf,λi x hx=>?_⟩
  obtain⟨c,h1,h2,h3⟩:=hc i x hx
  exact⟨c,h1,h2,hR x c h3⟩⟩
theorem CellT.trR {c:Array Value} {t:Trip} (h:CellT c t) (w:World) (F:Nat→Prop):TrR w F t c:=by
 obtain⟨hk,ss,hs,rfl⟩:=h
 refine⟨ss,rfl,λn hn=>?_⟩
 obtain⟨A,cap,e⟩:=hs n hn
 rw[e]
 exact scal_rd w F (hk n).list A cap
theorem TrR.cellT {c:Array Value} {t:Trip} {w:World} {F:Nat→Prop} (h:TrR w F t c) (hk:KeyT t):CellT c t:=by
 obtain⟨ss,rfl,hr⟩:=h
 refine⟨hk,ss,λi hi=>?_,rfl⟩
 obtain⟨A,cap,e,_,_⟩:=(hr i hi).inv
 injection e with e
 have:=congrArg (λa:Array Value=>a[5]?) e
 rw[(hk i).list]at this
 exact⟨A,cap,by simpa [cellsV] using this⟩
theorem sizeOf_tr (W:World):(sizeOf (Tryz.prog.elem 22)).run Tryz.prog W = .ok 18 W:=by kernel_rfl
theorem und_tr:Tryz.prog.underlying 22=some (.slice (Tryz.prog.elem 22)):=by kernel_rfl
set_option maxRecDepth 100000 in
set_option maxHeartbeats 8000000 in
theorem refMatch_any {F G:Nat→Prop} {T:List Trip} {w:World} {A:Option Addr} {n cp:Nat} (h:SRd 18 TrR w F T A n) (hF:∀b,F b→b<w.heap.size) (hn:n≤65536) (hs:∀t,t∈T→ScalT t) (hf:∀t,t∈T→∀n,FitV (t.get n))
    (P:Trip) (ps:Nat→Value) (hG:∀g,G g→g<w.heap.size) (hp:∀e,e<3→VRd w G (P.get e) (.agg (cellsV (P.get e) (ps e)))) (hsz:∀e,e<3→sizeL (P.get e).list≤999999999) :
    Calls Tryz.prog 20 #[.slice A n cp,.agg (cellsT P ps)] w (AllIs (T.filter (fitsT P)) w):=by
 have HFI:=hid (λ(t:Trip) (ts:Nat→Value) (W:World) (hb:Below w.heap.size w W) (hs:ScalT t) (ht:∀e,e<3→∃A cap,ts e = .slice A 0 cap)=>refFits_any t P ts ps W G (λg hg=>Nat.lt_of_lt_of_le (hG g hg) hb.size) (λe _=>scal_list (hs.get e)) ht (λe he=>(hp e he).under hb hG) hsz)
 unfold ToldB at HFI
 have H1:=hid h
 have L1:=hid h.1
 have HF:=hid hF
 have HSC:=hid hs
 have HFT:=hid hf
 have HN:=hid hn
 obtain⟨c2,Hc2⟩:=name18 P ps
 have HFI:=hid (show ∀(t:Trip) (ts:Nat→Value) (W:World),Below w.heap.size w W→ScalT t→(∀e,e<3→∃A cap,ts e = .slice A 0 cap)→Calls Tryz.prog 63 #[.agg c2,.agg (cellsT t ts)] W (λe w'=>e = .returned (.bool (fitsT P t))∧Below W.heap.size W w') from by have:=HFI.out;rw[Hc2.out]at this;exact this)
 rw[Hc2.out]
 have Q2:=hid (show (Tryz.prog.info? 45).map (·.size)=some c2.size from by rw[Hc2.size];kernel_rfl)
 obtain⟨z,Hz⟩:=name_itV w.heap.size
 obtain⟨w1,HW1⟩:=name_itV (w.alloc (.cells c2 45))
 have HB1:=hid (show Below w.heap.size w w1 from by rw[←HW1.out];exact (Below.refl _ _).alloc (Nat.le_refl _) _)
 have HP1:=hid (show w1.heap[z]?=some (.cells c2 45 (0,0)) from by rw[←HW1.out,←Hz.out];exact heap_alloc_new w _)
 have HST:=hid (show AllM w [] (.slice none 0 0) w1 from ⟨HB1.out,SOwn.nil ..⟩)
 clear h hF hn hs hf hG hp hsz
 go_enter Tryz.func20,Tryz.ntmps20
 go_upto_region 1 with fail
 rw[HW1.out,Hz.out]
 clear HW1
 go_wp2_with fail
 go_loopw [5,6] (λs5 s6 wx=>∃(k:Nat) (S:Value),k≤n∧s6 = .int .i64 (k:Nat)∧S=s5∧Hid (AllM w ((T.take k).filter (fitsT P)) S wx)∧Hid (wx.heap[z]?=some (.cells c2 45 (0,0)))) (λ_ s _=>n-(intOf s).toNat)
 case atStart=>exact⟨0,_,by omega,rfl,rfl,HST,HP1⟩
 case round=>
  obtain⟨k,S,hk,rfl,rfl,hM,hP⟩:=hrel
  by_cases hlt:k<n
  ·have HK:=hid hlt
   have a1:(0:Int)≤k:=by omega
   have a2:(k:Int)<n:=by omega
   have w8:IntKind.i64.wrap ((k:Int)+1)=(k:Int)+1:=IntWalk.i64_in _ (by have:=HN.out;omega)
   obtain⟨t,ht⟩:∃t,T[k]?=some t:=⟨_,List.getElem?_eq_getElem (by rw[←L1.out];exact hlt)⟩
   have HT:=hid ht
   have htm:=List.mem_of_getElem? ht
   obtain⟨ad,ss,rfl,hfa,hq,hr⟩:=TrR.cells H1.out ht
   have hss:∀e,e<3→∃A cap,ss e = .slice A 0 cap:=λe he=>by
    obtain⟨A,cap,e1,_,_⟩:=(hr e he).inv
    injection e1 with e1
    have:=congrArg (λa:Array Value=>a[5]?) e1
    rw[scal_list ((HSC.out t htm).get e)]at this
    exact⟨A,cap,by simpa [cellsV] using this⟩
   have HTR:=hid (λ(w:World) (F:Nat→Prop)=>(show TrS w F t (cellsT t ss) from ⟨HSC.out t htm,HFT.out t htm,ss,hss,rfl⟩))
   have HF1:=hid (λW hb=>HFI.out t ss W hb (HSC.out t htm) hss)
   obtain⟨c1,Hc1⟩:=name18 t ss
   rw[Hc1.out]at hq HTR HF1
   obtain⟨b,Hb⟩:=name_itV (fitsT P t)
   rw[Hb.out]at HF1
   have Z1:=hid Hc1.size
   have I1:=hid (infoTr.trans (congrArg some Hc1.size.symm))
   have HQ1:=hid (λ(W:World) (hb:Below w.heap.size w W) (j:Nat) (hj:j<c1.size)=>(hb.cell (p:=(ad.add (k*18)).add j) (by rw[add_blk,add_blk];exact HF.out _ hfa)).trans (hq j hj))
   have HLD:=hid (λ(W:World) (hb:Below w.heap.size w W)=>run_loadVar_at (P:=Tryz.prog) W (ad.add (k*18)) 41 c1 _ (HQ1.out W hb) Tryz.underlying41 rfl I1.out)
   obtain⟨mm,Hmm⟩:=name_itV ((T.take k).filter (fitsT P)).length
   have HMM:=hid (show mm≤65536 from by
    have h1:=List.length_filter_le (fitsT P) (T.take k)
    have h2:(T.take k).length≤k:=by rw[List.length_take];omega
    have h3:=HN.out
    have h4:=Hmm.out
    omega)
   clear ht hfa hq hr hss htm
   go_upto_region 5 with fail
   refine wp_region_held_drew (S:=λW'=>Below w.heap.size w W'∧W'.heap[z]?=some (.cells c2 45 (0,0))) (by kernel_rfl) ⟨hM.out.hb.drew,hP.out⟩ (λhH=>?_)
   refine Boxed.out ?_
   refine tkW 0 13 (.agg c2) hH (λw hSw=>?_) (λhH=>?_)
   ·exact val_of (ld_run hSw.2 45 _ Tryz.underlying45 rfl Q2.out)
   try simp only[Act.put,aT,aZ,aS]
   refine tkV 1 14 (.slice (some ad) n cp) hH (λhH=>?_)
   try simp only[Act.put,aT,aZ,aS]
   refine tkV 2 15 (.int .i64 (k:Nat)) hH (λhH=>?_)
   try simp only[Act.put,aT,aZ,aS]
   refine tkV 3 16 (.pointer (some (ad.add (k*18)))) hH (λhH=>?_)
   try simp only[Act.put,aT,aZ,aS]
   refine tkW 4 17 (.agg c1) hH (λw hSw=>?_) (λhH=>?_)
   ·have p:=HLD.out w hSw.1
    exact val_of (by simp only[Instr.loadAt,Instr.sureAddr,Sem.run_bind];exact p)
   try simp only[Act.put,aT,aZ,aS]
   refine tkC 5 (λK hK=>?_)
   change Oper.wp _ ⟨some 18,_,_,_,_,_⟩ _ _ _ _
   go_simp
   refine (HF1.out _ hM.out.hb.drew).mono ?_
   rintro e w4 ⟨rfl,hb4⟩
   have HB4:=hid (show Below wr.heap.size wr w4 from below_of_dr hb4)
   have HP4:=hid ((HB4.out.block z (blk_lt hP.out)).trans hP.out)
   clear hb4 HF1
   dsimp only
   refine hK.out _ _ ⟨hM.out.hb.trans (HB4.out.mono hM.out.hb.size),HP4.out⟩ (λhH=>?_)
   clear hK K
   try simp only[Act.put,aT,aZ,aS]
   refine⟨wpAnyH_done (by kernel_rfl) ?_ _⟩
   clear hH
   cases b with
   | false=>
    have HN4:=hid (show AllM w ((T.take (k+1)).filter (fitsT P)) S w4 from by
     rw[take_oneMore HT.out,List.filter_append,List.filter_cons_of_neg (by rw[Hb.out];exact Bool.false_ne_true),List.filter_nil,List.append_nil]
     exact hM.out.on HB4.out)
    go_wp2_with fail
    go_roundw
    case rel=>exact⟨k+1,_,by omega,by first | rfl | go_num,rfl,HN4,HP4⟩
    case measure=>simp[intOf];omega
   | true=>
    have HM4:=hid (hM.out.on HB4.out)
    have HBW:=hid (hM.out.hb.trans (HB4.out.mono hM.out.hb.size))
    go_wp2_with (first
     | ((with_reducible refine at_dst (some 23) ?_);refine ld_armA rfl 41 _ rfl rfl c1 _ (HQ1.out _ HBW.out) Tryz.underlying41 rfl I1.out ?_)
     | ((with_reducible refine at_dst (some 24) ?_);refine bs_arm rfl 22 1 _ rfl #[(0,.agg c1)] (by kernel_rfl) (.slice (some ⟨w4.heap.size,0,none⟩) 1 1) _ (bs1_run c1 Z1.out w4) ?_)
     | ((with_reducible refine at_dst (some 25) ?_);refine wpList_plain rfl λK hK=>?_;refine wp_app_L (.tmp 19) (.tmp 24) rfl rfl HM4.out.own Hmm.out rfl HTR.out (by have:=HMM.out;omega) (λb hb=>hb.2) (λg7 c7 w7 ho7 hg7 hl7 hw7=>hK _ _ ?_);clear hK K))
    have HM7:=hid (show AllM w ((T.take (k+1)).filter (fitsT P)) (.slice (some ⟨g7,0,none⟩) (mm+1) c7) w7 from by
     rw[take_oneMore HT.out,List.filter_append,List.filter_cons_of_pos (by rw[Hb.out]),List.filter_nil]
     exact HM4.out.more hg7 hl7 hw7 ho7)
    have HP7:=hid (show w7.heap[z]?=some (.cells c2 45 (0,0)) from (Turn.of_grown hg7).heap HP4.out (λe=>by
     obtain⟨_,hrow,_⟩:=HM4.out.own
     exact own_ne hrow HP4.out (by decide) e.symm))
    clear ho7 hg7 hl7 hw7
    go_wp2_with fail
    go_roundw
    case rel=>exact⟨k+1,_,by omega,by first | rfl | go_num,rfl,HM7,HP7⟩
    case measure=>simp[intOf];omega
  ·have a2:¬(k:Int)<n:=by omega
   have HE:=hid (show AllIs (T.filter (fitsT P)) w (.returned S) wr from ⟨S,rfl,by have:=hM.out.own;rwa [List.take_of_length_le (by rw[←L1.out];omega)]at this,hM.out.hb⟩)
   go_wp2_with fail
   go_ret
   exact HE.out
end Go.Proofs.YtefhfadjajcmkaaGreatDoor
namespace Go.Proofs.YtefhfadjajcmkaaGreatDoor
open Go
open Go.Lib (hid cell_of_heap)
end Go.Proofs.YtefhfadjajcmkaaGreatDoor
namespace Go.Proofs.YtefhfadjajcmkaaGreatDoor
open Go Go.RowKit Go.Maps
open Go.Lib (hid cell_of_heap)
noncomputable def sameTs (L M:List Trip):Bool:=by classical exact decide (L=M)
theorem sameTs_iff {L M:List Trip}:sameTs L M=true↔L=M:=by unfold sameTs;simp
theorem sameTs_no {L M:List Trip} (h:L≠M):sameTs L M=false:=by
 cases e:sameTs L M with
 | false=>rfl
 | true=>exact absurd (sameTs_iff.1 e) h
theorem list_same {L M:List Trip} {n:Nat} (h1:L.length=n) (h2:M.length=n) (h:∀m,m<n→L[m]?=M[m]?):L=M:=List.ext_getElem? λm=>by
 by_cases hm:m<n
 ·exact h m hm
 ·rw[List.getElem?_eq_none (by omega),List.getElem?_eq_none (by omega)]
set_option maxRecDepth 100000 in
set_option maxHeartbeats 8000000 in
theorem eqTs_any {F G:Nat→Prop} {w:World} {L M:List Trip} {A B:Option Addr} {n m ca cb:Nat} (h1:SRd 18 TrR w F L A n) (h2:SRd 18 TrR w G M B m) (hF:∀b,F b→b<w.heap.size) (hG:∀b,G b→b<w.heap.size) (hn:n≤1000000000)
    (hsz:∀t,t∈L→∀i,sizeL (t.get i).list≤999999999):Calls Tryz.prog 14 #[.slice A n ca,.slice B m cb] w (ToldB (sameTs L M) w):=by
 have H1:=hid h1
 have H2:=hid h2
 have HF:=hid hF
 have HG:=hid hG
 have HSZ:=hid hsz
 have L1:=hid h1.1
 have L2:=hid h2.1
 have HN:=hid hn
 clear h1 h2 hF hG hsz
 by_cases hnm:n=m
 ·subst hnm
  obtain⟨r,Hr⟩:=name_itV (sameTs L M)
  rw[Hr.out]
  go_enter Tryz.func14,Tryz.ntmps14
  go_wp2_with fail
  go_loopw [5] (λs5 wx=>∃i:Nat,i≤n∧s5 = .int .i64 (i:Nat)∧Hid (Below w.heap.size w wx∧∀m,m<i→L[m]?=M[m]?)) (λs5 _=>n-(intOf s5).toNat)
  case atStart=>exact⟨0,by omega,rfl,hid ⟨Below.refl _ _,λm hm=>absurd hm (by omega)⟩⟩
  case round=>
   obtain⟨i,hi,rfl,hM⟩:=hrel
   by_cases hlt:i<n
   ·have a1:(0:Int)≤i:=by omega
    have a2:(i:Int)<n:=by omega
    have w1:IntKind.i64.wrap ((i:Int)+1)=(i:Int)+1:=IntWalk.i64_in _ (by omega)
    obtain⟨t,ht⟩:∃t,L[i]?=some t:=⟨_,List.getElem?_eq_getElem (by rw[←L1.out];exact hlt)⟩
    obtain⟨u,hu⟩:∃u,M[i]?=some u:=⟨_,List.getElem?_eq_getElem (by rw[←L2.out];exact hlt)⟩
    obtain⟨ad1,s1,rfl,hfa,hq1,hr1⟩:=TrR.cells H1.out ht
    obtain⟨ad2,s2,rfl,hfb,hq2,hr2⟩:=TrR.cells H2.out hu
    have HT:=hid ht
    have HU:=hid hu
    have heq:=λ(W:World) (hb:Below w.heap.size w W)=>eqTR_any (a:=t) (b:=u) (sa:=s1) (sb:=s2) (F:=F) (G:=G) (λq _=>HSZ.out t (List.mem_of_getElem? ht) q) W (λg h=>Nat.lt_of_lt_of_le (HF.out g h) hb.size) (λg h=>Nat.lt_of_lt_of_le (HG.out g h) hb.size) (λq hq=>(hr1 q hq).under hb HF.out) (λq hq=>(hr2 q hq).under hb HG.out)
    unfold ToldB at heq
    obtain⟨ct,Hct⟩:=name18 t s1
    obtain⟨cu,Hcu⟩:=name18 u s2
    rw[Hct.out]at hq1 heq
    rw[Hcu.out]at hq2 heq
    obtain⟨b,Hb⟩:=name_itV (sameT t u)
    rw[Hb.out]at heq
    have HEQ:=hid heq
    have HQ1:=hid (λ(W:World) (hb:Below w.heap.size w W) (j:Nat) (hj:j<ct.size)=>(hb.cell (p:=(ad1.add (i*18)).add j) (by rw[add_blk,add_blk];exact HF.out _ hfa)).trans (hq1 j hj))
    have HQ2:=hid (λ(W:World) (hb:Below w.heap.size w W) (j:Nat) (hj:j<cu.size)=>(hb.cell (p:=(ad2.add (i*18)).add j) (by rw[add_blk,add_blk];exact HG.out _ hfb)).trans (hq2 j hj))
    have I1:=hid (infoTr.trans (congrArg some Hct.size.symm))
    have I2:=hid (infoTr.trans (congrArg some Hcu.size.symm))
    have HLT:=hid hlt
    clear ht hu hfa hfb hq1 hq2 hr1 hr2 heq
    go_upto_region 6 with fail
    refine wp_region_held_drew (S:=λW'=>Below w.heap.size w W') (by kernel_rfl) hM.out.1.drew (λhH=>?_)
    refine Boxed.out ?_
    refine tkV 0 17 (.slice (some ad1) n ca) hH (λhH=>?_)
    try simp only[Act.put,aT,aZ,aS]
    refine tkV 1 18 (.int .i64 (i:Nat)) hH (λhH=>?_)
    try simp only[Act.put,aT,aZ,aS]
    refine tkW 2 19 (.pointer (some (ad1.add (i*18)))) hH (λw hSw=>?_) (λhH=>?_)
    ·exact val_of (idx_tr ad1 n ca i HLT.out w)
    try simp only[Act.put,aT,aZ,aS]
    refine tkW 3 20 (.agg ct) hH (λw hSw=>?_) (λhH=>?_)
    ·have p:=run_loadVar_at w (ad1.add (i*18)) 41 ct _ (HQ1.out _ hSw) Tryz.underlying41 rfl I1.out
     exact val_of (by simp only[Instr.loadAt,Instr.sureAddr,Sem.run_bind];exact p)
    try simp only[Act.put,aT,aZ,aS]
    refine tkV 4 21 (.slice (some ad2) n cb) hH (λhH=>?_)
    try simp only[Act.put,aT,aZ,aS]
    refine tkV 5 22 (.int .i64 (i:Nat)) hH (λhH=>?_)
    try simp only[Act.put,aT,aZ,aS]
    refine tkW 6 23 (.pointer (some (ad2.add (i*18)))) hH (λw hSw=>?_) (λhH=>?_)
    ·exact val_of (idx_tr ad2 n cb i HLT.out w)
    try simp only[Act.put,aT,aZ,aS]
    refine tkW 7 24 (.agg cu) hH (λw hSw=>?_) (λhH=>?_)
    ·have p:=run_loadVar_at w (ad2.add (i*18)) 41 cu _ (HQ2.out _ hSw) Tryz.underlying41 rfl I2.out
     exact val_of (by simp only[Instr.loadAt,Instr.sureAddr,Sem.run_bind];exact p)
    try simp only[Act.put,aT,aZ,aS]
    refine tkC 8 (λK hK=>?_)
    change Oper.wp _ ⟨some 25,_,_,_,_,_⟩ _ _ _ _
    go_simp
    refine (HEQ.out _ hH).mono ?_
    rintro e x ⟨rfl,hb⟩
    have HX:=hid (hH.trans (hb.mono hH.size))
    clear hb
    dsimp only
    refine hK.out _ _ HX.out (λhH=>?_)
    clear hK K
    try simp only[Act.put,aT,aZ,aS]
    cases b with
    | false=>
     refine tkV 9 26 (.bool true) hH (λhH=>?_)
     try simp only[Act.put,aT,aZ,aS]
     refine⟨wpAnyH_done (by kernel_rfl) ?_ _⟩
     have HE:=hid (show sameTs L M=false from sameTs_no λe=>by
      have h1:=HT.out
      rw[e,HU.out]at h1
      injection h1 with h1
      have h2:=Hb.out
      rw[h1,sameT_refl]at h2
      cases h2)
     have HB:=hid hH
     clear hH
     go_wp2_with fail
     go_ret
     exact⟨congrArg (λb=>Ending.returned (Value.bool b)) (HE.out.symm.trans Hr.out),HB.out⟩
    | true=>
     refine tkV 9 26 (.bool false) hH (λhH=>?_)
     try simp only[Act.put,aT,aZ,aS]
     refine⟨wpAnyH_done (by kernel_rfl) ?_ _⟩
     have HB:=hid hH
     clear hH
     go_wp2_with fail
     go_roundw
     case rel=>exact⟨i+1,by omega,by go_num,hid ⟨HB.out,λm hm=>by
      by_cases e:m=i
      ·subst e
       rw[HT.out,HU.out,sameT_eq.1 Hb.out]
      ·exact hM.out.2 m (by omega)⟩⟩
     case measure=>simp[intOf];omega
   ·have a2:¬(i:Int)<n:=by omega
    have HE:=hid (show sameTs L M=true from sameTs_iff.2 (list_same (n:=n) L1.out.symm L2.out.symm λq hq=>hM.out.2 q (by omega)))
    have HB:=hid hM.out.1
    go_wp2_with fail
    go_ret
    exact⟨congrArg (λb=>Ending.returned (Value.bool b)) (HE.out.symm.trans Hr.out),HB.out⟩
 ·have HE:=hid (show sameTs L M=false from sameTs_no λe=>hnm (by rw[L1.out,L2.out,e]))
  have hne:¬(n:Int)=m:=by omega
  rw[HE.out]
  go_enter Tryz.func14,Tryz.ntmps14
  go_wp2_with fail
  go_ret
  exact⟨rfl,Below.refl _ _⟩
set_option maxRecDepth 100000 in
set_option maxHeartbeats 8000000 in
theorem refCmpT_any {a b:Trip} {ca cb:Array Value} (ha:CellT ca a) (hb:CellT cb b) (w:World) :
    Calls Tryz.prog 56 #[.agg ca,.agg cb] w (AlIs (wayN 0) a b w):=by
 obtain⟨ka,sa,h1,ea⟩:=ha
 obtain⟨kb,sb,h2,eb⟩:=hb
 have Hca:Eq18 ca a sa:=⟨ea.symm⟩
 have Hcb:Eq18 cb b sb:=⟨eb.symm⟩
 clear ea eb
 obtain⟨z,Hz⟩:=name_itV w.heap.size
 obtain⟨w2,HW2⟩:=name_itV ((w.alloc (.cells ca 41)).alloc (.cells cb 41))
 have HB2:=hid (show Below w.heap.size w w2 from by rw[←HW2.out];exact two_new w _ _)
 have HXA:=hid (show w2.heap[z]?=some (.cells ca 41 (0,0)) from by rw[←HW2.out,←Hz.out];exact heap_alloc2_old w _ _)
 have HXB:=hid (show w2.heap[z+1]?=some (.cells cb 41 (0,0)) from by rw[←HW2.out,←Hz.out];exact heap_alloc2_new w _ _)
 have HPOST:=hid (show ∀W,Below w2.heap.size w2 W→Below w.heap.size w W from λW hb=>HB2.out.trans (hb.mono HB2.out.size))
 obtain⟨u0,Hu0⟩:=name6 (a.get 0) (sa 0)
 obtain⟨v0,Hv0⟩:=name6 (b.get 0) (sb 0)
 have IU0:=hid (infoV6.trans (congrArg some Hu0.size.symm))
 have IV0:=hid (infoV6.trans (congrArg some Hv0.size.symm))
 have LU0:=hid (λ(W:World) (hb:Below w2.heap.size w2 W) i (hi:i<u0.size)=>(show W.cell? ((⟨z,0,none⟩:Addr).add i)=u0[i]? from by
  rw[Addr.add_mid,cell_of_row W z (0+i) ca _ _ ((hb.block z (blk_lt HXA.out)).trans HXA.out),←Hu0.out,←Hca.out]
  exact cellsT_part a sa 0 (by omega) i (by rwa [Hu0.size]at hi)))
 have LV0:=hid (λ(W:World) (hb:Below w2.heap.size w2 W) i (hi:i<v0.size)=>(show W.cell? ((⟨z+1,0,none⟩:Addr).add i)=v0[i]? from by
  rw[Addr.add_mid,cell_of_row W (z+1) (0+i) cb _ _ ((hb.block (z+1) (blk_lt HXB.out)).trans HXB.out),←Hv0.out,←Hcb.out]
  exact cellsT_part b sb 0 (by omega) i (by rwa [Hv0.size]at hi)))
 obtain⟨t0,Ht0⟩:=name_itV (ordV (a.get 0) (b.get 0))
 have hs0:=λ(W:World)=>refOrder_any (a.get 0) (b.get 0) (sa 0) (sb 0) W (ka 0).k5 (ka 0).fit (kb 0).fit
 unfold OrdIs at hs0
 rw[Hu0.out,Hv0.out,Ht0.out]at hs0
 have HS0:=hid hs0
 clear hs0
 obtain⟨u1,Hu1⟩:=name6 (a.get 1) (sa 1)
 obtain⟨v1,Hv1⟩:=name6 (b.get 1) (sb 1)
 have IU1:=hid (infoV6.trans (congrArg some Hu1.size.symm))
 have IV1:=hid (infoV6.trans (congrArg some Hv1.size.symm))
 have LU1:=hid (λ(W:World) (hb:Below w2.heap.size w2 W) i (hi:i<u1.size)=>(show W.cell? ((⟨z,6,none⟩:Addr).add i)=u1[i]? from by
  rw[Addr.add_mid,cell_of_row W z (6+i) ca _ _ ((hb.block z (blk_lt HXA.out)).trans HXA.out),←Hu1.out,←Hca.out]
  exact cellsT_part a sa 1 (by omega) i (by rwa [Hu1.size]at hi)))
 have LV1:=hid (λ(W:World) (hb:Below w2.heap.size w2 W) i (hi:i<v1.size)=>(show W.cell? ((⟨z+1,6,none⟩:Addr).add i)=v1[i]? from by
  rw[Addr.add_mid,cell_of_row W (z+1) (6+i) cb _ _ ((hb.block (z+1) (blk_lt HXB.out)).trans HXB.out),←Hv1.out,←Hcb.out]
  exact cellsT_part b sb 1 (by omega) i (by rwa [Hv1.size]at hi)))
 obtain⟨t1,Ht1⟩:=name_itV (ordV (a.get 1) (b.get 1))
 have hs1:=λ(W:World)=>refOrder_any (a.get 1) (b.get 1) (sa 1) (sb 1) W (ka 1).k5 (ka 1).fit (kb 1).fit
 unfold OrdIs at hs1
 rw[Hu1.out,Hv1.out,Ht1.out]at hs1
 have HS1:=hid hs1
 clear hs1
 obtain⟨u2,Hu2⟩:=name6 (a.get 2) (sa 2)
 obtain⟨v2,Hv2⟩:=name6 (b.get 2) (sb 2)
 have IU2:=hid (infoV6.trans (congrArg some Hu2.size.symm))
 have IV2:=hid (infoV6.trans (congrArg some Hv2.size.symm))
 have LU2:=hid (λ(W:World) (hb:Below w2.heap.size w2 W) i (hi:i<u2.size)=>(show W.cell? ((⟨z,12,none⟩:Addr).add i)=u2[i]? from by
  rw[Addr.add_mid,cell_of_row W z (12+i) ca _ _ ((hb.block z (blk_lt HXA.out)).trans HXA.out),←Hu2.out,←Hca.out]
  exact cellsT_part a sa 2 (by omega) i (by rwa [Hu2.size]at hi)))
 have LV2:=hid (λ(W:World) (hb:Below w2.heap.size w2 W) i (hi:i<v2.size)=>(show W.cell? ((⟨z+1,12,none⟩:Addr).add i)=v2[i]? from by
  rw[Addr.add_mid,cell_of_row W (z+1) (12+i) cb _ _ ((hb.block (z+1) (blk_lt HXB.out)).trans HXB.out),←Hv2.out,←Hcb.out]
  exact cellsT_part b sb 2 (by omega) i (by rwa [Hv2.size]at hi)))
 obtain⟨t2,Ht2⟩:=name_itV (ordV (a.get 2) (b.get 2))
 have hs2:=λ(W:World)=>refOrder_any (a.get 2) (b.get 2) (sa 2) (sb 2) W (ka 2).k5 (ka 2).fit (kb 2).fit
 unfold OrdIs at hs2
 rw[Hu2.out,Hv2.out,Ht2.out]at hs2
 have HS2:=hid hs2
 clear hs2
 obtain⟨r,Hr⟩:=name_itV (along (wayN 0) a b)
 have HR:=hid (show r=thenC t0 (thenC t1 t2) from by rw[←Hr.out,←Ht0.out,←Ht1.out,←Ht2.out];rfl)
 unfold AlIs
 rw[Hr.out]
 clear h1 h2 ka kb
 go_enter Tryz.func56,Tryz.ntmps56
 go_upto_region 1 with fail
 rw[HW2.out,Hz.out]
 clear HW2
 go_wp2_with (first
  | ((with_reducible refine at_dst (some 7) ?_);refine ld_armG (by rfl) 39 _ rfl rfl u0 _ (LU0.out _ (Below.refl _ _)) Tryz.underlying39 rfl IU0.out ?_)
  | ((with_reducible refine at_dst (some 9) ?_);refine ld_armG (by rfl) 39 _ rfl rfl v0 _ (LV0.out _ (Below.refl _ _)) Tryz.underlying39 rfl IV0.out ?_))
 refine (HS0.out _).mono ?_
 rintro e x0 ⟨rfl,hb⟩
 have HX0:=hid (show Below w2.heap.size w2 x0 from hb)
 clear hb
 by_cases hz0:t0=0
 ·subst hz0
  go_wp2_with (first
   | ((with_reducible refine at_dst (some 14) ?_);refine ld_armG (by rfl) 39 _ rfl rfl u1 _ (LU1.out _ HX0.out) Tryz.underlying39 rfl IU1.out ?_)
   | ((with_reducible refine at_dst (some 16) ?_);refine ld_armG (by rfl) 39 _ rfl rfl v1 _ (LV1.out _ HX0.out) Tryz.underlying39 rfl IV1.out ?_))
  refine (HS1.out _).mono ?_
  rintro e x1 ⟨rfl,hb⟩
  have HX1:=hid (show Below w2.heap.size w2 x1 from HX0.out.trans (hb.mono HX0.out.size))
  clear hb
  by_cases hz1:t1=0
  ·subst hz1
   go_wp2_with (first
    | ((with_reducible refine at_dst (some 21) ?_);refine ld_armG (by rfl) 39 _ rfl rfl u2 _ (LU2.out _ HX1.out) Tryz.underlying39 rfl IU2.out ?_)
    | ((with_reducible refine at_dst (some 23) ?_);refine ld_armG (by rfl) 39 _ rfl rfl v2 _ (LV2.out _ HX1.out) Tryz.underlying39 rfl IV2.out ?_))
   refine (HS2.out _).mono ?_
   rintro e x2 ⟨rfl,hb⟩
   have HX2:=hid (show Below w2.heap.size w2 x2 from HX1.out.trans (hb.mono HX1.out.size))
   clear hb
   have HE:=hid (show t2=r from by rw[HR.out];rfl)
   go_wp2_with fail
   go_ret
   exact⟨congrArg (λx=>Ending.returned (Value.int .i64 x)) HE.out,HPOST.out _ HX2.out⟩
  ·have HE:=hid (show t1=r from by rw[HR.out,show thenC (0:Int) (thenC t1 t2)=thenC t1 t2 from rfl];unfold thenC;rw[if_neg hz1])
   go_wp2_with fail
   go_ret
   exact⟨congrArg (λx=>Ending.returned (Value.int .i64 x)) HE.out,HPOST.out _ HX1.out⟩
 ·have HE:=hid (show t0=r from by rw[HR.out];unfold thenC;rw[if_neg hz0])
  go_wp2_with fail
  go_ret
  exact⟨congrArg (λx=>Ending.returned (Value.int .i64 x)) HE.out,HPOST.out _ HX0.out⟩
end Go.Proofs.YtefhfadjajcmkaaGreatDoor
namespace Go.Proofs.YtefhfadjajcmkaaGreatDoor
open Go Go.RowKit
open Go.Lib (hid cell_of_heap)
def CopyIs (l:List Val) (w:World) (e:Ending) (w':World):Prop:=∃s,e = .returned s∧Below w.heap.size w w'∧LOwn w' (λb=>w.heap.size≤b∧b<w'.heap.size) l s
def CopyVIs (v:Val) (w:World) (e:Ending) (w':World):Prop:=∃s,e = .returned (.agg (cellsV v s))∧Below w.heap.size w w'∧LOwn w' (λb=>w.heap.size≤b∧b<w'.heap.size) v.list s
set_option maxRecDepth 100000 in
set_option maxHeartbeats 1000000 in
theorem copy_step (v:Val) {F:Nat→Prop} (A:Option Addr) (cap:Nat) (w:World) (hF:∀g,F g→g<w.heap.size) (hA:LRd w F v.list A v.list.length)
    (hrow:∀w',LRd w' F v.list A v.list.length→(∀g,F g→g<w'.heap.size)→Calls Tryz.prog 110 #[.slice A v.list.length cap] w' (CopyIs v.list w')) :
    Calls Tryz.prog 44 #[.agg (cellsV v (.slice A v.list.length cap))] w (CopyVIs v w):=by
 obtain⟨k,t,n,s,x,l⟩:=v
 unfold cellsV
 simp only[Val.kind,Val.truth,Val.num,Val.text,Val.extra,Val.list]at hA hrow ⊢
 have HN:=hid (two_new w (.cells #[.int .i64 k,.bool t,.int .i64 n,.string s,.string x,.slice A l.length cap] 39) (.cells #[.int .i64 0,.bool false,.int .i64 0,.string ⟨#[]⟩,.string ⟨#[]⟩,.slice none 0 0] 39))
 have hs2:((w.alloc (.cells #[.int .i64 k,.bool t,.int .i64 n,.string s,.string x,.slice A l.length cap] 39)).alloc (.cells #[.int .i64 0,.bool false,.int .i64 0,.string ⟨#[]⟩,.string ⟨#[]⟩,.slice none 0 0] 39)).heap.size=w.heap.size+2:=by simp
 have hb1:((w.alloc (.cells #[.int .i64 k,.bool t,.int .i64 n,.string s,.string x,.slice A l.length cap] 39)).alloc (.cells #[.int .i64 0,.bool false,.int .i64 0,.string ⟨#[]⟩,.string ⟨#[]⟩,.slice none 0 0] 39)).heap[w.heap.size]?=some (.cells #[.int .i64 k,.bool t,.int .i64 n,.string s,.string x,.slice A l.length cap] 39 (0,0)):=by
  rw[Below.heap_alloc _ _ _ (by simp)]
  exact heap_alloc_new w _
 have hb2:((w.alloc (.cells #[.int .i64 k,.bool t,.int .i64 n,.string s,.string x,.slice A l.length cap] 39)).alloc (.cells #[.int .i64 0,.bool false,.int .i64 0,.string ⟨#[]⟩,.string ⟨#[]⟩,.slice none 0 0] 39)).heap[w.heap.size+1]?=some (.cells #[.int .i64 0,.bool false,.int .i64 0,.string ⟨#[]⟩,.string ⟨#[]⟩,.slice none 0 0] 39 (0,0)):=by
  have:=heap_alloc_new (w.alloc (.cells #[.int .i64 k,.bool t,.int .i64 n,.string s,.string x,.slice A l.length cap] 39)) (.cells #[.int .i64 0,.bool false,.int .i64 0,.string ⟨#[]⟩,.string ⟨#[]⟩,.slice none 0 0] 39)
  simpa using this
 obtain⟨z,HZ⟩:=name_itV w.heap.size
 obtain⟨W2,HW2⟩:=name_itV ((w.alloc (.cells #[.int .i64 k,.bool t,.int .i64 n,.string s,.string x,.slice A l.length cap] 39)).alloc (.cells #[.int .i64 0,.bool false,.int .i64 0,.string ⟨#[]⟩,.string ⟨#[]⟩,.slice none 0 0] 39))
 rw[HW2.out]at HN hs2 hb1 hb2
 have HC:=hid (hrow W2 (hA.under HN.out hF) (λg hg=>by have:=hF g hg;have:=HN.out.size;omega))
 rw[HZ.out]at HN hs2 hb1 hb2
 have HB1:=hid hb1
 have HB2:=hid hb2
 have HS2:=hid hs2
 have c5:W2.cell? ⟨z,5,none⟩=some (.slice A l.length cap):=cell_of_heap hb1 5
 clear hA hrow hF hb1 hb2 hs2
 go_enter Tryz.func44,Tryz.ntmps44
 go_upto_region 1 with fail
 rw[HW2.out,HZ.out]
 go_wp2_with fail
 refine HC.out.mono ?_
 rintro e w5 ⟨s',rfl,hb5,hl5⟩
 obtain⟨A',cp',rfl⟩:=hl5.form
 have HL5:=hid hl5
 have HB5:=hid hb5
 have hz5:z+2≤w5.heap.size:=by have:=hb5.size;have:=HS2.out;omega
 have HB15:=hid ((hb5.block z (by have:=HS2.out;omega)).trans HB1.out)
 have HB25:=hid ((hb5.block (z+1) (by have:=HS2.out;omega)).trans HB2.out)
 have d0:w5.cell? ⟨z,0,none⟩=some (.int .i64 k):=cell_of_heap HB15.out 0
 have d5:w5.cell? ⟨z,5,none⟩=some (.slice A l.length cap):=cell_of_heap HB15.out 5
 have f5:w5.frozen? ⟨z,5,none⟩=false:=Lib.frozen_of_heap HB15.out 5
 have hb6:=heap_setCell_same w5 z 5 _ 39 (.slice A' l.length cp') HB15.out
 have hb62:(w5.setCell ⟨z,5,none⟩ (.slice A' l.length cp')).heap[z+1]?=_:=(Below.heap_setCell w5 ⟨z,5,none⟩ (.slice A' l.length cp') (z+1) (by simp)).trans HB25.out
 have ht6:=(Turn.refl (λb=>b=z∨b=z+1) w5).setCell (p:=⟨z,5,none⟩) (.inr (.inl rfl)) (.slice A' l.length cp')
 obtain⟨W6,HW6⟩:=name_itV (w5.setCell ⟨z,5,none⟩ (.slice A' l.length cp'))
 rw[HW6.out]at hb6 hb62 ht6
 have g0:W6.cell? ⟨z,0,none⟩=some (.int .i64 k):=cell_of_heap hb6 0
 have g1:W6.cell? ⟨z,1,none⟩=some (.bool t):=cell_of_heap hb6 1
 have g2:W6.cell? ⟨z,2,none⟩=some (.int .i64 n):=cell_of_heap hb6 2
 have g3:W6.cell? ⟨z,3,none⟩=some (.string s):=cell_of_heap hb6 3
 have g4:W6.cell? ⟨z,4,none⟩=some (.string x):=cell_of_heap hb6 4
 have g5:W6.cell? ⟨z,5,none⟩=some (.slice A' l.length cp'):=cell_of_heap hb6 5
 have r0:W6.cell? ⟨z+1,0,none⟩=some (.int .i64 0):=cell_of_heap hb62 0
 have y0:W6.frozen? ⟨z+1,0,none⟩=false:=Lib.frozen_of_heap hb62 0
 have r1:W6.cell? ⟨z+1,1,none⟩=some (.bool false):=cell_of_heap hb62 1
 have y1:W6.frozen? ⟨z+1,1,none⟩=false:=Lib.frozen_of_heap hb62 1
 have r2:W6.cell? ⟨z+1,2,none⟩=some (.int .i64 0):=cell_of_heap hb62 2
 have y2:W6.frozen? ⟨z+1,2,none⟩=false:=Lib.frozen_of_heap hb62 2
 have r3:W6.cell? ⟨z+1,3,none⟩=some (.string ⟨#[]⟩):=cell_of_heap hb62 3
 have y3:W6.frozen? ⟨z+1,3,none⟩=false:=Lib.frozen_of_heap hb62 3
 have r4:W6.cell? ⟨z+1,4,none⟩=some (.string ⟨#[]⟩):=cell_of_heap hb62 4
 have y4:W6.frozen? ⟨z+1,4,none⟩=false:=Lib.frozen_of_heap hb62 4
 have r5:W6.cell? ⟨z+1,5,none⟩=some (.slice none 0 0):=cell_of_heap hb62 5
 have y5:W6.frozen? ⟨z+1,5,none⟩=false:=Lib.frozen_of_heap hb62 5
 have HB6:=hid hb6
 have HB62:=hid hb62
 have HT6:=hid ht6
 clear hb5 hl5 hb6 hb62 ht6 c5
 go_upto_region 2 with fail
 rw[HW6.out]
 go_wp2_with fail
 have hz9:((((((W6.setCell ⟨z+1,0,none⟩ (.int .i64 k)).setCell ⟨z+1,1,none⟩ (.bool t)).setCell ⟨z+1,2,none⟩ (.int .i64 n)).setCell ⟨z+1,3,none⟩ (.string s)).setCell ⟨z+1,4,none⟩ (.string x)).setCell ⟨z+1,5,none⟩ (.slice A' l.length cp')).heap[z+1]?=some (.cells #[.int .i64 k,.bool t,.int .i64 n,.string s,.string x,.slice A' l.length cp'] 39 (0,0)):=(heap_setCell_same _ (z+1) 5 _ 39 _ (heap_setCell_same _ (z+1) 4 _ 39 _ (heap_setCell_same _ (z+1) 3 _ 39 _ (heap_setCell_same _ (z+1) 2 _ 39 _ (heap_setCell_same _ (z+1) 1 _ 39 _ (heap_setCell_same _ (z+1) 0 _ 39 _ HB62.out))))))
 have ht9:Turn (λb=>b=z∨b=z+1) w5 ((((((W6.setCell ⟨z+1,0,none⟩ (.int .i64 k)).setCell ⟨z+1,1,none⟩ (.bool t)).setCell ⟨z+1,2,none⟩ (.int .i64 n)).setCell ⟨z+1,3,none⟩ (.string s)).setCell ⟨z+1,4,none⟩ (.string x)).setCell ⟨z+1,5,none⟩ (.slice A' l.length cp')):=((((((HT6.out.setCell (p:=⟨z+1,0,none⟩) (.inr (.inr rfl)) _).setCell (p:=⟨z+1,1,none⟩) (.inr (.inr rfl)) _).setCell (p:=⟨z+1,2,none⟩) (.inr (.inr rfl)) _).setCell (p:=⟨z+1,3,none⟩) (.inr (.inr rfl)) _).setCell (p:=⟨z+1,4,none⟩) (.inr (.inr rfl)) _).setCell (p:=⟨z+1,5,none⟩) (.inr (.inr rfl)) _)
 obtain⟨W9,HW9⟩:=name_itV ((((((W6.setCell ⟨z+1,0,none⟩ (.int .i64 k)).setCell ⟨z+1,1,none⟩ (.bool t)).setCell ⟨z+1,2,none⟩ (.int .i64 n)).setCell ⟨z+1,3,none⟩ (.string s)).setCell ⟨z+1,4,none⟩ (.string x)).setCell ⟨z+1,5,none⟩ (.slice A' l.length cp'))
 rw[HW9.out]at hz9 ht9 ⊢
 have q0:W9.cell? ⟨z+1,0,none⟩=some (.int .i64 k):=cell_of_heap hz9 0
 have q1:W9.cell? ⟨z+1,1,none⟩=some (.bool t):=cell_of_heap hz9 1
 have q2:W9.cell? ⟨z+1,2,none⟩=some (.int .i64 n):=cell_of_heap hz9 2
 have q3:W9.cell? ⟨z+1,3,none⟩=some (.string s):=cell_of_heap hz9 3
 have q4:W9.cell? ⟨z+1,4,none⟩=some (.string x):=cell_of_heap hz9 4
 have q5:W9.cell? ⟨z+1,5,none⟩=some (.slice A' l.length cp'):=cell_of_heap hz9 5
 have HT9:=hid ht9
 clear ht9 hz9 r0 r1 r2 r3 r4 r5 y0 y1 y2 y3 y4 y5 g0 g1 g2 g3 g4 g5 d0 d5 f5
 go_wp2_with fail
 refine bodyPost_ret (v:=.agg #[.int .i64 k,.bool t,.int .i64 n,.string s,.string x,.slice A' l.length cp']) (by simp[results,Tryz.results44,go_sem,q0,q1,q2,q3,q4,q5]) rfl ⟨.slice A' l.length cp',rfl,?_,?_⟩
 ·rw[HZ.out]
  exact (HN.out.trans (HB5.out.mono (by have:=HS2.out;omega))).trans (HT9.out.below (λi _ h=>by omega) (by omega))
 ·have h1:=HL5.out.turn HT9.out (λb hb h=>by have:=HS2.out;omega)
  refine h1.mono (λb hb=>⟨?_,?_⟩)
  ·have:=HS2.out;have:=HZ.out;omega
  ·have:=HT9.out.size;omega
theorem infoVal:(Tryz.prog.info? 39).map (λi=>(i.zero,i.size,i.bytes))=some (some (.agg #[.int .i64 0,.bool false,.int .i64 0,.string ⟨#[]⟩,.string ⟨#[]⟩,.slice none 0 0]),6,80):=by kernel_rfl
theorem one_val (x:Val) (B:Option Addr) (n c:Nat):∀u∈(cellsV x (.slice B n c)).toList,u.oneCell'=true:=by
 intro u hu
 simp[cellsV]at hu
 rcases hu with h | h | h | h | h | h<;>subst h<;>rfl
set_option maxRecDepth 100000 in
set_option maxHeartbeats 1000000 in
theorem copy_any (N:Nat):∀(l:List Val) (_:sizeL l<N) (_:sizeL l≤100000000) (F:Nat→Prop) (A:Option Addr) (n cap:Nat) (w:World) (_:∀g,F g→g<w.heap.size) (_:LRd w F l A n),
    Calls Tryz.prog 110 #[.slice A n cap] w (CopyIs l w):=by
 induction N with
 | zero=>exact λ_ h=>absurd h (Nat.not_lt_zero _)
 | succ N ih=>
  intro l hN hs F A n cap w hF hl
  have HL:=hid hl
  have HF:=hid hF
  have IH:=hid ih
  have hl1:n≤l.length:=Nat.le_of_eq hl.1
  have hl2:l.length≤n:=Nat.le_of_eq hl.1.symm
  have hll:=len_le_size l
  clear hl hF ih
  go_enter Tryz.func110,Tryz.ntmps110
  go_wp2_with fail
  go_loopw [3,4] (λs3 s4 wr=>∃k:Nat,k≤n∧s4 = .int .i64 (k:Nat)∧Below w.heap.size w wr∧LOwn wr (λb=>w.heap.size≤b∧b<wr.heap.size) (l.take k) s3) (λ_ s4 _=>n-(intOf s4).toNat)
  case atStart=>exact⟨0,by omega,rfl,Below.refl _ _,LOwn.nil _ _⟩
  case round=>
   obtain⟨k,hk,rfl,hbz,hown⟩:=hrel
   have HBZ:=hid hbz
   have HOWN:=hid hown
   have HL2:=hid (HL.out.under hbz HF.out)
   have hws:w.heap.size≤wr.heap.size:=hbz.size
   have htkl:(l.take k).length=k:=by simp;omega
   have HTKL:=hid htkl
   obtain⟨A3,c3,h3⟩:=hown.form
   rw[htkl]at h3
   subst h3
   clear hbz hown htkl
   by_cases hlt:k<n
   ·obtain⟨x,hx⟩:∃x,l[k]?=some x:=⟨l[k]'(by omega),List.getElem?_eq_getElem _⟩
    have hxm:=sizeV_mem (List.mem_of_getElem? hx)
    have hxl:=sizeL_list x
    obtain⟨ad,sx,rfl,_,⟨Bx,cx,rfl,_,hlx⟩,_,d0,d1,d2,d3,d4,d5⟩:=HL2.out.cellsAt hx
    have HC:=hid (copy_step x Bx cx wr (F:=F) (λg hg=>Nat.lt_of_lt_of_le (HF.out g hg) hws) hlx (λw' h1 h2=>IH.out x.list (by omega) (by omega) F Bx _ cx w' h2 h1))
    have HX:=hid hx
    have e1:(0:Int)≤k:=by omega
    have e2:(k:Int)<n:=by omega
    clear hx hxm hxl hlx
    unfold cellsV at HC
    obtain⟨lx,HLX⟩:=name_itV x.list.length
    rw[HLX.out]at d5 HC
    go_wp2_with fail
    refine HC.out.mono ?_
    rintro e w5 ⟨s',rfl,hb5,hl5⟩
    obtain⟨A',cp',rfl⟩:=hl5.form
    unfold cellsV
    rw[HLX.out]
    have HL5:=hid hl5
    have HB5:=hid hb5
    obtain⟨cs,Fs,hrow,h6,hFw,hFs,hdis,hr⟩:=HOWN.out.turn (Turn.of_below hb5) (λb hb h=>by omega)
    rw[HTKL.out]at hrow
    have HROW:=hid hrow
    have hs5:wr.heap.size≤w5.heap.size:=hb5.size
    have HREST:=hid (And.intro h6 (And.intro hFw (And.intro hFs (And.intro hdis hr))))
    rw[HLX.out]at HL5
    clear hb5 hl5 hrow h6 hFw hFs hdis hr
    go_wp2_with (at_builtin;refine app_new rfl _ _ 37 rfl 0 39 (.agg #[.int .i64 0,.bool false,.int .i64 0,.string ⟨#[]⟩,.string ⟨#[]⟩,.slice none 0 0]) 6 80 Tryz.underlying37 infoVal rfl (by decide) _ _ _ rfl HROW.out (Nat.zero_le _) _ 1 1 rfl rfl (one_val x A' lx cp') (by omega) (by omega) (by decide) ?_)
    intro g4 c4 w6 ho6 hg6 hl6
    have HO6:=hid ho6
    have HG6:=hid (show w5.grownBy w6 (Value.slice A3 k c3).ownBlock from hg6)
    have HL6:=hid (show (Value.slice A3 k c3).ownBlock=some g4∨w5.heap.size≤g4 from hl6)
    clear ho6 hg6 hl6
    go_wp2_with fail
    go_roundw
    case rel=>
     obtain⟨h6,hFw,hFs,hdis,hr⟩:=HREST.out
     have hxl5:=HL5.out
     rw[←HLX.out]at hxl5
     have ho6:=HO6.out
     have hg4:g4<w6.heap.size:=(ho6.lt g4 rfl).2
     have hs6:w5.heap.size≤w6.heap.size:=HG6.out.size
     have hown4:∀b,some b=(Value.slice A3 k c3).ownBlock→w.heap.size≤b:=λb hb=>(hFw b hb.symm).1
     have hsn:=own_snoc (w5:=w5) (w6:=w6) (F:=λb=>w.heap.size≤b∧b<wr.heap.size) (G:=λb=>wr.heap.size≤b∧b<w5.heap.size) (l:=l.take k) (x:=x) (s:=.slice A3 k c3) (sx:=.slice A' x.list.length cp') (g4:=g4) (c4:=c4) (cs:=cs) (Fs:=Fs) h6 hFw hFs hdis hr hxl5
      (λb hb h=>by obtain⟨_,h1⟩:=hb;obtain⟨h2,_⟩:=h;omega) (λb hb=>by obtain⟨_,h1⟩:=hb;omega) (λb hb=>hb.2) (by
      rw[HTKL.out]
      unfold cellsV
      rw[HLX.out]
      exact ho6) HG6.out HL6.out
     rw[HTKL.out]at hsn
     refine⟨k+1,by omega,by go_num,(HBZ.out.trans (HB5.out.mono hws)).trans ((Turn.of_grown HG6.out).below (λb _ hb=>hown4 b hb) (by omega)),?_⟩
     rw[take_oneMore HX.out]
     refine hsn.mono (λb hb=>?_)
     rcases hb with hb | hb | hb
     ·exact⟨hb.1,by omega⟩
     ·exact⟨by omega,by omega⟩
     ·subst hb
      refine⟨?_,hg4⟩
      rcases HL6.out with h | h
      ·exact hown4 b h.symm
      ·omega
    case measure=>simp[intOf];omega
   ·have hke:k=n:=by omega
    subst hke
    have htk:l.take k=l:=List.take_of_length_le (by omega)
    have HTK:=hid htk
    clear htk
    go_wp2_with fail
    go_ret
    exact⟨_,rfl,HBZ.out,by have h:=HOWN.out;rw[HTK.out]at h;exact h⟩
end Go.Proofs.YtefhfadjajcmkaaGreatDoor
namespace Go.Proofs.YtefhfadjajcmkaaGreatDoor
open Go Go.RowKit Go.Maps
open Go.Lib (hid cell_of_heap)
theorem insR_len {α : Type} (o:α → α → Int) (l:List α) (v:α):(insR o l v).length≤l.length+1:=by
 unfold insR
 simp only
 split
 ·omega
 ·rw[List.length_append,List.length_cons,List.length_take,List.length_drop]
  omega
theorem loadR_len {α : Type} (o:α → α → Int) (l:List α):(loadR o l).length≤l.length:=by
 unfold loadR
 suffices h:∀(l a:List α),(l.foldl (insR o) a).length≤a.length+l.length by
  have:=h l []
  simpa using this
 intro l
 induction l with
 | nil=>intro a;simp
 | cons x r ih=>
  intro a
  rw[List.foldl_cons]
  have h1:=ih (insR o a x)
  have h2:=insR_len o a x
  rw[List.length_cons]
  omega
def WkS (K:List Trip) (w:Way) (c:CurA) (wt:Trip) (G:List Trip) (dn:Bool) (st k:Nat):Prop:=
 (K.length=0∧c=⟨[],false⟩∧dn=true∧G=[]∧st=0∧k=500)∨(∃m d,dn=true∧WkA K w m d c wt G∧st≤posA m d∧k+posA m d=500)∨(∃m d,dn=false∧WkB K w m d c wt G∧st≤posB m d∧k+posB m d=500)
section
variable {T K:List Trip} {w:Way} {m d st k:Nat} {c:CurA} {wt:Trip} {G:List Trip}
theorem WkS.start (wt:Trip) (K:List Trip) (w:Way):WkS K w ⟨[],false⟩ wt [] true 0 500:=by
 rcases Nat.eq_zero_or_pos K.length with h | h
 ·exact .inl ⟨h,rfl,rfl,rfl,rfl,rfl⟩
 ·exact .inr (.inl ⟨0,0,rfl,WkA.start h wt,Nat.zero_le _,rfl⟩)
end
structure WkM (F:Nat→Prop) (w0:World) (q zw j:Nat) (T:List Trip) (c:CurA) (wt:Trip) (sw:Nat→Value) (G:List Trip) (S:Value) (wx:World):Prop where
 b:Below w0.heap.size w0 wx
 cur:CurRd F wx q j T c
 way:wx.heap[zw]?=some (.cells (cellsT wt sw) 98 (0,0))
 own:SOwn 41 18 TrS wx (λb=>zw<b∧b<wx.heap.size) G S
 sl:∀i,i<3→∃A cap,sw i = .slice A 0 cap
 q0:w0.heap.size≤q
 qz:q<zw
 fz:∀b,F b→b<w0.heap.size
section
variable {F:Nat→Prop} {w0 wx w':World} {q zw j:Nat} {T:List Trip} {c c':CurA} {wt:Trip} {sw:Nat→Value} {G:List Trip} {S:Value}
theorem WkM.on (h:WkM F w0 q zw j T c wt sw G S wx) (hb:Below wx.heap.size wx w'):WkM F w0 q zw j T c wt sw G S w':=
 ⟨h.b.trans (hb.mono h.b.size),h.cur.on hb,(hb.block zw (blk_lt h.way)).trans h.way,(h.own.turn TrS.good (Turn.of_below hb) (λb hb=>hb.2) (λb hb=>λe=>by have e:wx.heap.size≤b:=e;have:=hb.2;omega)).mono TrS.good λb h1=>⟨h1.1,Nat.lt_of_lt_of_le h1.2 hb.size⟩,h.sl,h.q0,h.qz,h.fz⟩
theorem WkM.drew (h:WkM F w0 q zw j T c wt sw G S wx):WkM F w0 q zw j T c wt sw G S wx.drew:=h.on (Below.refl _ _).drew
theorem WkM.more {g cap n:Nat} {t:Trip} (h:WkM F w0 q zw j T c wt sw G S wx) (hg:wx.grownBy w' S.ownBlock) (hl:S.ownBlock=some g∨wx.heap.size≤g) (hgw:g<w'.heap.size)
    (ho:SOwn 41 18 TrS w' (λb=>(zw<b∧b<wx.heap.size)∨b=g) (G++[t]) (.slice (some ⟨g,0,none⟩) n cap)):WkM F w0 q zw j T c wt sw (G++[t]) (.slice (some ⟨g,0,none⟩) n cap) w':=by
 have hB:∀b,S.ownBlock=some b→zw<b∧b<wx.heap.size:=λb hb=>by
  obtain⟨_,_,_,hF,_⟩:=h.own
  exact hF b hb
 have ht:=Turn.of_grown hg
 refine⟨below_turn h.b ht (λb hb=>by have:=hB b hb.symm;have:=h.q0;have:=h.qz;omega),h.cur.turn ht (λb hb e=>by have:=hB b e.symm;have:=h.fz b hb;have:=h.q0;have:=h.qz;omega) (λe=>by have:=hB q e.symm;have:=h.qz;omega),ht.heap h.way (λe=>by have:=hB zw e.symm;omega),ho.mono TrS.good λb hb=>?_,h.sl,h.q0,h.qz,h.fz⟩
 rcases hb with hb | rfl
 ·exact⟨hb.1,Nat.lt_of_lt_of_le hb.2 hg.size⟩
 ·refine⟨?_,hgw⟩
  rcases hl with h1 | h1
  ·exact (hB _ h1).1
  ·have:=blk_lt h.way
   omega
end
theorem wp_bsL {op:Oper} {a:Act} {K:Act→World→Prop} {Q:Exit→Act→World→Prop} {w:World} (x:Operand) (ho:op.op = .buildSlice 22 1 #[(0,x)]) {c:Array Value} (hx:a.eval x = .agg c) (hc:c.size=18) (h:K (a.put op.dst (.slice (some ⟨w.heap.size,0,none⟩) 1 1)) (w.alloc (.cells c 41))):op.wp Tryz.prog a w K Q:=by
 unfold Oper.wp execOp
 simp only[ho,List.map_toArray,List.map_cons,List.map_nil,hx,Sem.run_bind,Sem.run_pure,bs1_run c hc w,Result.andThen_ok]
 exact h
end Go.Proofs.YtefhfadjajcmkaaGreatDoor
