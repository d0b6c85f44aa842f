/- slices.Clone at texts and at values; 'copied'. -/
import Derived.Test.YtefhfadjajcmkaaGreatDoorO6
set_option linter.unusedVariables false
set_option linter.unusedSimpArgs false
set_option maxRecDepth 100000
set_option maxHeartbeats 64000000
namespace Go.Proofs.YtefhfadjajcmkaaGreatDoor
open _root_.Go.Proofs.Tryz
open Go.Act renaming put→VK
open Go.Instr renaming buildSlice→UQ
open Bool renaming and_eq_true→YW
open Go.IntWalk renaming i64_in→YU
open Go.Ending renaming returned→YQ
open Go.RowKit renaming Below→XW
open Go.RowKit.Below renaming refl→XV
open Nat renaming lt_of_lt_of_le→XZ,le_refl→XK,le_trans→ZX,lt_or_ge→VZ
open Go.Obj renaming cells→XX
open List renaming getElem?_eq_getElem→XQ,mem_of_getElem?→YZ,take_of_length_le→YJ,length_append→ZZ,getElem?_eq_none→ZK,length_take→UJ,eq_nil_of_length_eq_zero→UK,append_assoc→UW,mem_cons_self→VJ
open _root_.Go.Proofs.Tryz renaming prog→QW,underlying39→YV
open Go renaming World→QV,Value→XJ,heap_alloc_new→XU,bodyPost_ret→ZV,wp_region_held_drew→UZ,cell_of_row→UU,wpAnyH_done→VX
open Go.IntKind renaming i64→QU
open Option renaming some→QJ,none→QK
open Go.Lib renaming cell_of_heap→QX
open Go.Value renaming slice→QQ,string→QZ,int→QY,bool→XY,pointer→YK,tuple→ZJ
open Go.Lib (cell_of_heap)
section
open Go Go.RowKit
section
variable {P:Program} {md:Region.Mode} {ops:Array Oper} {Q:Exit->Act->QV->Prop} {S:QV->Prop} {k fuel:Nat} {listed:Array Bool} {a:Act} {w:QV}
def wpK (P:Program) (md:Region.Mode) (ops:Array Oper) (Q:Exit->Act->QV->Prop) (S:QV->Prop) (k:Nat):Nat->Array Bool->Act->QV->Prop
 | 0,listed,a,w=>Region.ready md ops listed=[]/\Q .normal a w
 | fuel+1,listed,a,w=>(Region.ready md ops listed=[]->Q .normal a w) /\
  ∀i∈Region.ready md ops listed,wpOp P ops Q i (λb w'=>(i≠k->S w')/\wpK P md ops Q S k fuel (listed.setIfInBounds i true) b w') a w
theorem Mg_:∀(fuel:Nat) (listed:Array Bool) (a:Act) (w:QV),wpK P md ops Q S k fuel listed a w->wpAny P md ops Q fuel listed a w:=by
 intro fuel;induction fuel with
 | zero=>exact λ_ _ _ h=>h
 | succ fuel b=>exact λlisted a w h=>⟨h.1,λi hi=>wpOp_mono (λa w h=>b _ a w h.2) (h.2 i hi)⟩
theorem me_ {d:Nat} (k:Nat) (S:QV->Prop) (b:S w.drew) (h:S w.drew->H_ (wpK P .any ops Q S k ops.size (Array.replicate ops.size false) a w.drew)) (c:P.follows .mixedOrders=true:=by kernel_rfl):(Code.region d ops true).wp P Q a w:=
 wp_region_any c (Mg_ _ _ _ _ (h b).o)
theorem qw_ {i:Nat} (h:listed.getD i true=false):listed.getD i false≠true:=by
 intro h1;rcases VZ i listed.size with b | b
 ·simp[b]at h h1;rw[h]at h1
  cases h1
 ·simp[Array.getElem?_eq_none b]at h1
theorem Fm_ {i:Nat} {s T:Oper} {v:XJ} (hi:ops[i]?=QJ s) (X:ops[k]?=QJ T) (J:∃e∈T.after,Region.binds md e=true/\e.on=i) (O:Region.noSelect ops=true)
    (W:∀c a w,Q (.panic c) (a.put s.dst v) w->Q (.panic c) a w) :
    ∀(fuel:Nat) (listed:Array Bool) (a:Act) (w:QV),
     (∀j q,ops[j]?=QJ q->j≠i->listed.getD j true=false->(∀e∈q.after,Region.binds md e=true->e.on≠i)->s.apart ops q=true) ->
     i∈Region.ready md ops listed->YieldsIf P ops S s v a->S w ->
     wpK P md ops Q S k fuel (listed.setIfInBounds i true) (a.put s.dst v) w->wpK P md ops Q S k (fuel+1) listed a w:=by
 have L:∀listed:Array Bool,i∈Region.ready md ops listed->∀j∈Region.ready md ops listed,j≠k:=λlisted f j p e=>by
  subst e;obtain⟨_,o,z,g⟩:=mem_ready.1 p;rw[X]at z;injection z with z;subst z;obtain⟨e,D,hb,h1⟩:=J;exact qw_ (mem_ready.1 f).1 (h1▸g e D hb)
 intro fuel;induction fuel with
 | zero=>
  intro listed a w _ f A t H;refine⟨λh=>(by rw[h]at f;cases f),λj p=>?_⟩;by_cases d:j=i
  ·subst d;exact A.wpOp hi t ⟨λ_=>t,H⟩
  ·have:=ready_mono p d;rw[H.1]at this
   cases this
 | succ fuel Z=>
  intro listed a w r f A t H;refine⟨λh=>(by rw[h]at f;cases f),λj p=>?_⟩;by_cases d:j=i
  ·subst d;exact A.wpOp hi t ⟨λ_=>t,H⟩
  ·have h1:=H.2 j (ready_mono p d);obtain⟨u,q,x,g⟩:=mem_ready.1 p;have E:∀e∈q.after,Region.binds md e=true->e.on≠i:=λe D hb G=>qw_ (mem_ready.1 f).1 (G▸g e D hb);have h2:=wpOp_putIf x (r j q x d u E) (λcs b=>Region.noSelect_spec O i s cs b hi) (λcs b=>Region.noSelect_spec O j q cs b x) W A h1;have I:=L listed f j p;refine wpOp_mono (λU w' y=>⟨y.2.1,Z (listed.setIfInBounds j true) U w' ?_ (ready_mono f (Ne.symm d)) y.1 (y.2.1 I) ?_⟩) h2
   ·intro m om Y M C N;refine r m om Y M ?_ N;by_cases B:j=m
    ·subst B;exact u
    ·rw[getD_set_ne true B]at C;exact C
   ·rw[Array.setIfInBounds_comm _ _ d];exact y.2.2
theorem ca_ (i d:Nat) (v:XJ) (j:S w) (z:∀w,S w->z_ P ops i a w v) {p:Array Bool} {g:Act} (h:S w->H_ (wpK P md ops Q S k fuel p g w)) (b:ops[i]?.map (·.dst)=QJ (QJ d):=by kernel_rfl) (f:ao_ ops i a=QJ true:=by rfl)
    (y:Region.noSelect ops=true:=by kernel_rfl) (t:Region.free md ops listed i=true:=by kernel_rfl) (x:(Region.ready md ops listed).contains i=true:=by kernel_rfl) (q:∀c a w,Q (.panic c) (a.put (QJ d) v) w->Q (.panic c) a w:=by exact λ_ _ _ h=>h)
    (hb:(match ops[k]? with | some o=>o.after.any λe=>Region.binds md e&&e.on==i | none=>false)=true:=by kernel_rfl) (u:listed.setIfInBounds i true=p:=by (try simp only[List.setIfInBounds_toArray,List.set_cons_zero,List.set_cons_succ]);rfl)
    (r:a.put (QJ d) v=g:=by (try simp only[VK,aT,aZ,aS]);rfl):H_ (wpK P md ops Q S k (fuel+1) listed a w):=by
 unfold ao_ at f
 cases ho:ops[i]? with
 | none=>rw[ho]at b;cases b
 | some o=>
  rw[ho]at b f;simp only[Option.map_some,Option.some.injEq]at b f
  cases hk:ops[k]? with
  | none=>rw[hk]at hb;cases hb
  | some A=>
   rw[hk]at hb;obtain⟨e,s,hb⟩:=Array.any_eq_true'.1 hb;simp only[YW,beq_iff_eq]at hb;subst u;subst r;refine⟨Fm_ ho hk ⟨e,s,hb⟩ y (λc a w h=>q c a w (by rw[<-b];exact h)) fuel listed a w (Region.free_spec ho t) (by simpa using x) (.inl ⟨f,λw f=>by have:=z w f;unfold z_ at this;rw[ho]at this;exact this⟩) j ?_⟩;rw[b];exact (h j).o
theorem k_wantV (i d:Nat) (v:XJ) (j:S w) {p:Array Bool} {g:Act} (h:S w->H_ (wpK P md ops Q S k fuel p g w)) (z:∀w,S w->z_ P ops i a w v:=by intro w hSw;unfold z_;go_simp) (b:ops[i]?.map (·.dst)=QJ (QJ d):=by kernel_rfl) (f:ao_ ops i a=QJ true:=by rfl)
    (y:Region.noSelect ops=true:=by kernel_rfl) (t:Region.free md ops listed i=true:=by kernel_rfl) (x:(Region.ready md ops listed).contains i=true:=by kernel_rfl) (q:∀c a w,Q (.panic c) (a.put (QJ d) v) w->Q (.panic c) a w:=by exact λ_ _ _ h=>h)
    (hb:(match ops[k]? with | some o=>o.after.any λe=>Region.binds md e&&e.on==i | none=>false)=true:=by kernel_rfl) (u:listed.setIfInBounds i true=p:=by (try simp only[List.setIfInBounds_toArray,List.set_cons_zero,List.set_cons_succ]);rfl)
    (r:a.put (QJ d) v=g:=by (try simp only[VK,aT,aZ,aS]);rfl):H_ (wpK P md ops Q S k (fuel+1) listed a w):=ca_ i d v j z h b f y t x q hb u r
theorem d7_ (i:Nat) {o:Oper} (h:∀c:Act->QV->Prop,Shut (∀a w,S w->(S w->H_ (wpK P md ops Q S k fuel (listed.setIfInBounds i true) a w))->c a w)->o.wp P a w c Q) (p:Region.ready md ops listed=[i]:=by kernel_rfl) (b:ao_ ops i a=QJ true:=by rfl)
    (g:ops[i]?=QJ o:=by (simp only[List.getElem?_toArray,List.getElem?_cons_succ,List.getElem?_cons_zero]);rfl):H_ (wpK P md ops Q S k (fuel+1) listed a w):=by
 unfold ao_ at b;rw[g]at b;simp only[Option.map_some,Option.some.injEq]at b;refine⟨⟨λh=>(by rw[p]at h;cases h),λj f=>?_⟩⟩;rw[p]at f;have e:=List.mem_singleton.1 f;subst e;refine wpOp_step g λK r=>?_;rw[iP_ b];exact h K λa w d q=>r a w ⟨λ_=>d,(q d).o⟩
theorem u8_ (i:Nat) {o:Oper} (h:∀c:Act->QV->Prop,Shut (∀a w,H_ (wpK P md ops Q S i fuel (listed.setIfInBounds i true) a w)->c a w)->o.wp P a w c Q) (g:Region.ready md ops listed=[i]:=by kernel_rfl) (b:ao_ ops i a=QJ true:=by rfl)
    (f:ops[i]?=QJ o:=by (simp only[List.getElem?_toArray,List.getElem?_cons_succ,List.getElem?_cons_zero]);rfl):H_ (wpK P md ops Q S i (fuel+1) listed a w):=by
 unfold ao_ at b;rw[f]at b;simp only[Option.map_some,Option.some.injEq]at b;refine⟨⟨λh=>(by rw[g]at h;cases h),λj d=>?_⟩⟩;rw[g]at d;have e:=List.mem_singleton.1 d;subst e;refine wpOp_step f λK q=>?_;rw[iP_ b];exact h K λa w p=>q a w ⟨λh=>absurd rfl h,p.o⟩
theorem No_ (h:Q .normal a w) (c:Region.ready md ops listed=[]:=by kernel_rfl):H_ (wpK P md ops Q S k fuel listed a w):=by
 cases fuel with
 | zero=>exact⟨c,h⟩
 | succ n=>exact⟨λ_=>h,λj b=>by rw[c]at b;cases b⟩
theorem d6_ {K:Act->QV->Prop} {c:Array Bool} {b:Act} (d:Shut (∀a w,S w->(S w->H_ (wpK P md ops Q S k fuel listed a w))->K a w)) (e:S w) (h:S w->H_ (wpK P md ops Q S k fuel c b w)) (g:listed=c:=by (try simp only[List.setIfInBounds_toArray,List.set_cons_zero,List.set_cons_succ]);rfl)
    (f:a=b:=by (try simp only[VK,aT,aZ,aS]);rfl):K a w:=d.out _ _ e (by rw[g,f];exact h)
theorem Bz_ {K:Act->QV->Prop} {c:Array Bool} {b:Act} (d:Shut (∀a w,H_ (wpK P md ops Q S k fuel listed a w)->K a w)) (h:Q .normal b w) (f:listed=c:=by (try simp only[List.setIfInBounds_toArray,List.set_cons_zero,List.set_cons_succ]);rfl)
    (e:a=b:=by (try simp only[VK,aT,aZ,aS]);rfl) (g:Region.ready md ops c=[]:=by kernel_rfl):K a w:=d.out _ _ (by rw[f,e];exact No_ h g)
end
end
section
open Go Go.RowKit Go.Maps
def he_ (L:List e_) (w:QV) (e:Ending) (w':QV):Prop:=
 (¬(L.length<=65536/\L.all ch_=true)/\e = YQ (ZJ #[.agg #[QQ QK 0 0,QQ QK 0 0],QY QU 20])/\XW w.heap.size w w') \/
 (L.length<=65536/\L.all ch_=true/\∃N E,e = YQ (ZJ #[.agg #[N,E],QY QU 0])/\GrR w' (λb=>w.heap.size<=b/\b<w'.heap.size) (bn_ (an_ (s_ (aa_ 0)) L)) (.agg #[N,E])/\XW w.heap.size w w')
theorem LdP.app {α : Type} {E:TypeId} {sz:Nat} {R:α -> Array XJ->Prop} {w d w':QV} {l f:List α} {v c:XJ} (h:LdP E sz R w l v d) (i:c0_ E sz R w' (l++f) c) (g:d.grownBy w' v.ownBlock) (j:c.ownBlock=v.ownBlock\/c.ownBlock=QJ d.heap.size):LdP E sz R w (l++f) c w':=by
 have ht:=Turn.of_grown g;refine⟨nz_ h.hb ht (λb hb=>h.ow b hb.symm),i,λb hb=>?_⟩;rcases j with e | e
 ·rw[e]at hb;exact h.ow b hb
 ·rw[e]at hb;injection hb with hb;rw[<-hb];exact h.hb.size
theorem qd_ (T:List e_) (t:e_):dh_ (T++[t])=dh_ T++[t.s,t.o]:=by unfold dh_;rw[List.flatMap_append];simp
theorem nh_ (T:List e_):(dh_ T).length=2*T.length:=by
 unfold dh_;induction T with
 | nil=>rfl
 | cons t r b=>rw[List.flatMap_cons,ZZ,b,List.length_cons];simp;omega
theorem P_ (N E:XJ):(Tryz.prog.info? 54).map (·.size)=QJ (#[N,E]:Array XJ).size:=by kernel_rfl
theorem cz_ (A:Option Addr) (n c:Nat) (B:Option Addr) (m d:Nat):(#[QQ A n c,QQ B m d]:Array XJ).all (·.oneCell')=true:=by kernel_rfl
theorem fv_ {T:List e_} {v:g_} (h:v∈dh_ T):∃t,t∈T/\(v=t.s\/v=t.o):=by unfold dh_ at h;obtain⟨t,ht,b⟩:=List.mem_flatMap.1 h;simp at b;exact⟨t,ht,b⟩
theorem dd_ (id:Int) (v:g_):(U_ id v).id=id:=by unfold U_;(repeat' split)<;>rfl
theorem s4_ (e:Int) (A:Option Addr) (n c:Nat) (B:Option Addr) (m d:Nat):∀u∈(#[QY QU e,QQ A n c,QQ B m d]:Array XJ).toList,u.oneCell'=true:=by intro u b;simp at b;rcases b with rfl | rfl | rfl<;>rfl
theorem z7_ {α : Type} {l:List α} {v:α} (h:v∈ay_ l):ay_ (l++[v])=ay_ l:=by rw[ev_,iP_ h]
theorem z6_ {α : Type} {l:List α} {v:α} (h:v∉ay_ l):ay_ (l++[v])=ay_ l++[v]:=by rw[ev_,iN_ h]
theorem z5_ {α : Type} (l:List α):(ay_ l).length<=l.length:=by
 have h:∀n,(ay_ (l.take n)).length<=n:=λn=>by
  induction n with
  | zero=>exact XK _
  | succ n c=>
   by_cases b:n<l.length
   ·rw[List.take_succ_eq_append_getElem b,ev_];split
    ·omega
    ·rw[ZZ,List.length_singleton];omega
   ·rw[YJ (by omega)];rw[YJ (by omega)]at c;omega
 have:=h l.length;rwa [List.take_length]at this
theorem Bm_ (i a b:Int) (s:ByteArray) (w:QV):(Instr.build 74 #[(0,QY QU i),(1,QY QU a),(2,QY QU b),(3,QZ s)]).run QW w = .ok (.agg #[QY QU i,QY QU a,QY QU b,QZ s,QQ QK 0 0]) w:=by kernel_rfl
theorem s3_ (i a b:Int) (s:ByteArray):∀u∈(#[QY QU i,QY QU a,QY QU b,QZ s,QQ none 0 0]:Array XJ).toList,u.oneCell'=true:=by intro u c;simp at c;rcases c with rfl | rfl | rfl | rfl | rfl<;>rfl
theorem Nq_ (w:QV):(Instr.makeMap 122 QK).run QW w = .ok (.map (QJ w.heap.size)) (w.alloc (.map #[] 0)):=by kernel_rfl
theorem Io_ {P:Program} {ops:Array Oper} {rest:List Oper} {op:Oper} {a:Act} {w:QV} {Q:Exit->Act->QV->Prop} (b:op.guard=QK) (ty:TypeId) (d:op.op = .makeMap ty QK) (m:Nat) (w':QV) (e:(Instr.makeMap ty QK).run P w = .ok (.map (QJ m)) w') (h:wpList P ops Q rest (a.put op.dst (.map (QJ m))) w'):wpList P ops Q (op::rest) a w:=
 wpList_plain b λ_ c=>by
  unfold Oper.wp execOp;simp only[d,Option.map_none,Sem.run_bind,Sem.run_pure,e,Result.andThen_ok];exact c _ _ h
theorem nj_ (L:List e_) (f3:∀t,t∈L->OkT t) (F:Nat->Prop) (A:Option Addr) (n0 cp:Nat) (w:QV) (hF:∀g,F g->g<w.heap.size) (h:SRd 18 TrR w F L A n0) (hn:n0<=1000000000) (dm:ad_ w) (dn:ci_ w) :
    Calls QW 25 #[QQ A n0 cp] w (he_ L w):=by
 have HG:=q_ (λ(W:QV) (hb:XW w.heap.size w W)=>And.intro (j_ dm hb) (K_ dn hb));have ec:=q_ (λ(W:QV) (hb:XW w.heap.size w W)=>D1_ L f3 F A n0 cp W (λb h=>XZ (hF b h) hb.size) (h.under TrR.good hb hF) hn (j_ dm hb) (K_ dn hb));unfold k6_ at ec;unfold he_;clear h f3 dm dn hF;obtain⟨z,HZ⟩:=a_ w.heap.size;obtain⟨w1,c7⟩:=a_ (w.alloc (XX #[QQ QK 0 0,QQ QK 0 0] 54));have ap:=q_ (show XW w.heap.size w w1 from by rw[<-c7.o];exact (XV _ _).alloc (XK _) _);have b9:=q_ (show w1.heap[z]?=QJ (XX #[QQ QK 0 0,QQ QK 0 0] 54 (0,0)) from by rw[<-c7.o,<-HZ.o];exact XU w _);go_enter func25,ntmps25
 go_upto_region 1 with fail;rw[c7.o,HZ.o];clear c7;go_wp2_with fail;refine (ec.o w1 ap.o).mono ?_;rintro e w2 (⟨y,rfl,hb⟩ | ⟨b1,di,c,rfl,hb,hs⟩)
 ·have d4:=q_ y;have b4:=q_ (ap.o.trans (hb.mono ap.o.size));have ba:=q_ ((hb.block z (b_ b9.o)).trans b9.o);clear y hb;go_wp2_with ((with_reducible refine w_ 2 ?_);refine o_ rfl 54 _ _ rfl z (#[QQ QK 0 0,QQ QK 0 0]) (#[QQ QK 0 0,QQ QK 0 0]) 54 rfl rfl ba.o rfl (P_ _ _) (cz_ _ _ _ _ _ _) ?_;intro w3 gg gf)
  refine ZV (v:=ZJ #[.agg #[QQ QK 0 0,QQ QK 0 0],QY QU 20]) (cn_ results25 (g:=z) rfl gg _ underlying54 rfl (P_ _ _) rfl) rfl (.inl ⟨d4.o,rfl,h_ b4.o gf (λb e=>by have e:b=z:=e;have h2:w.heap.size=z:=HZ.o;omega)⟩)
 ·have da:=q_ (And.intro b1 di);have fb:=q_ hb;have b4:=q_ (ap.o.trans (hb.mono ap.o.size));have ba:=q_ ((hb.block z (b_ b9.o)).trans b9.o);obtain⟨T,HT⟩:=a_ (an_ (s_ (aa_ 0)) L);rw[HT.o]at hs;have HS:=q_ hs;have aw:=q_ hs.scal;have bt:=q_ hs.fit;obtain⟨n,HN⟩:=a_ T.length;have au:=q_ (show n<=65536 from by rw[<-HN.o];exact hs.len);clear hs hb b1 di;go_wp2_with fail;refine (Kh_ HS.o (λb h=>h.2)).mono ?_;unfold Fo_;rintro e w3 ⟨v3,rfl,ds,hb⟩;obtain⟨A6,c6,rfl,dt⟩:=Nw_ ds;have fe:=q_ hb;have b5:=q_ (b4.o.trans (hb.mono b4.o.size));have e9:=q_ ((hb.block z (b_ ba.o)).trans ba.o);rw[HN.o]at dt ⊢;have eg:=q_ (λ(W:QV) (hk:∀b,b<w3.heap.size->W.heap[b]?=w3.heap[b]?)=>dt.keep (w':=W) (ofP.good CTx) (λp hp=>World.cell?_of_block (hk p.block hp.2)));have e3:=q_ (λ(W:QV) (hb:XW w3.heap.size w3 W) b (h:b<w3.heap.size)=>hb.block b h);clear ds hb dt HS;have fv:=q_ (show LdP 39 6 CV6 w3 [] (QQ QK 0 0) w3 from LdP.start w3);go_wp2_with fail;go_loopw [34,7] (λdw s7 O=>∃k:Nat,k<=n/\dw = QY QU (k:Nat)/\Q_ (LdP 39 6 CV6 w3 (dh_ (T.take k)) s7 O)) (λdw _ _=>n-(intOf dw).toNat)
  case atStart=>exact⟨0,by omega,rfl,fv⟩
  case round=>
   obtain⟨k,hk,rfl,hM⟩:=hrel;have e4:=q_ (b5.o.trans (hM.o.hb.mono b5.o.size));by_cases J:k<n
   ·have a1:(0:Int)<=k:=by omega
    have a2:(k:Int)<n:=by omega
    have b1:=au.o;have fa:IntKind.i64.wrap ((k:Int)+1)=(k:Int)+1:=YU _ (by omega);clear b1;have a8:=q_ J;obtain⟨t,ht⟩:∃t,T[k]?=QJ t:=⟨_,XQ (by rw[HN.o];exact J)⟩;have d8:=q_ ht;obtain⟨ad,f,eA,dl,ae,hc,bp,ss,ac,aj⟩:=(eg.o wr (e3.o wr hM.o.hb)).at_ ht;subst eA;have b8:=q_ (show vy_ f t ss from ⟨aj.symm⟩);have b3:=q_ (λj (hj:j<f.size)=>(show wr.cell? ((ad.add (k*18)).add j)=f[j]? from by rw[add_of_add];exact hc j (by rw[ae]at hj;exact hj)));have bh:=q_ (e8_.trans (congrArg QJ ae.symm));have dg:=q_ (show f.all (·.oneCell')=true from ii_ (by rw[aj];exact ck_ t ss (λi hi=>by obtain⟨A,aa,e⟩:=ac i hi;exact⟨A,0,aa,e⟩)));obtain⟨A0,q0,e0⟩:=ac 0 (by omega);obtain⟨A2,q2,e2⟩:=ac 2 (by omega);obtain⟨u0,ah⟩:=L_ (t.get 0) (ss 0);obtain⟨u2,ai⟩:=L_ (t.get 2) (ss 2);have a5:=YZ ht;have g8:=q_ (show CV6 t.s u0 from ⟨(aw.o t a5).get 0,bt.o t a5 0,A0,q0,by rw[<-ah.o,e0];rfl⟩);have g9:=q_ (show CV6 t.o u2 from ⟨(aw.o t a5).get 2,bt.o t a5 2,A2,q2,by rw[<-ai.o,e2];rfl⟩);have SZ:=q_ (show f.size=(#[QY QU 0,XY false,QY QU 0,QZ ⟨#[]⟩,QZ ⟨#[]⟩,QQ QK 0 0,QY QU 0,XY false,QY QU 0,QZ ⟨#[]⟩,QZ ⟨#[]⟩,QQ QK 0 0,QY QU 0,XY false,QY QU 0,QZ ⟨#[]⟩,QZ ⟨#[]⟩,QQ QK 0 0]:Array XJ).size from ae);clear ht dl ae hc bp ac aj e0 e2 a5 J hk;obtain⟨z9,db⟩:=a_ wr.heap.size;obtain⟨wa,C⟩:=a_ (wr.alloc (XX #[QY QU 0,XY false,QY QU 0,QZ ⟨#[]⟩,QZ ⟨#[]⟩,QQ QK 0 0,QY QU 0,XY false,QY QU 0,QZ ⟨#[]⟩,QZ ⟨#[]⟩,QQ QK 0 0,QY QU 0,XY false,QY QU 0,QZ ⟨#[]⟩,QZ ⟨#[]⟩,QQ QK 0 0] 41));have b7:=q_ (show XW wr.heap.size wr wa from by rw[<-C.o];exact (XV _ _).alloc (XK _) _);have ag:=q_ (show wa.heap[z9]?=QJ (XX #[QY QU 0,XY false,QY QU 0,QZ ⟨#[]⟩,QZ ⟨#[]⟩,QQ QK 0 0,QY QU 0,XY false,QY QU 0,QZ ⟨#[]⟩,QZ ⟨#[]⟩,QQ QK 0 0,QY QU 0,XY false,QY QU 0,QZ ⟨#[]⟩,QZ ⟨#[]⟩,QQ QK 0 0] 41 (0,0)) from by rw[<-C.o,<-db.o];exact XU wr _)
    go_upto_region 9 with (first
     | ((with_reducible refine d_ (some 37) ?_);refine C_ (by rfl) 41 _ rfl rfl f _ b3.o underlying41 rfl bh.o ?_)
     | ((with_reducible refine w_ 9 ?_);rw[C.o,db.o];refine o_ rfl 41 _ _ rfl z9 (#[QY QU 0,XY false,QY QU 0,QZ ⟨#[]⟩,QZ ⟨#[]⟩,QQ QK 0 0,QY QU 0,XY false,QY QU 0,QZ ⟨#[]⟩,QZ ⟨#[]⟩,QQ QK 0 0,QY QU 0,XY false,QY QU 0,QZ ⟨#[]⟩,QZ ⟨#[]⟩,QQ QK 0 0]) f 41 rfl rfl ag.o SZ.o bh.o dg.o ?_;intro U am ak))
    have a4:=q_ am;have a7:=q_ (show XW wr.heap.size wr U from h_ b7.o ak (λb e=>by have e:b=z9:=e;have h2:wr.heap.size=z9:=db.o;omega));have g2:=q_ (hM.o.on a7.o);clear am ak C ag;obtain⟨zs,dc⟩:=a_ U.heap.size;obtain⟨wc,d9⟩:=a_ (U.alloc (XX (u0++u2) 39));have fs:=q_ (show (UQ 37 2 #[(0,.agg u0),(1,.agg u2)]).run QW U = .ok (QQ (QJ ⟨zs,0,QK⟩) 2 2) wc from by rw[<-dc.o,<-d9.o];exact Kr_ u0 u2 ah.size ai.size U);have fr:=q_ (show XW U.heap.size U wc from by rw[<-d9.o];exact (XV _ _).alloc (XK _) _);have d2:=q_ (g2.o.on fr.o);have fp:=q_ (show SRd 6 (ofP CV6) wc (λb=>b=zs) [t.s,t.o] (QJ ⟨zs,0,QK⟩) 2 from by rw[<-dc.o,<-d9.o];exact Oa_ jd_ g8.o g9.o U _);have de:=q_ (show (Tryz.prog.info? 39).map (·.size)=QJ u0.size from ai_.trans (congrArg QJ ah.size.symm));have df:=q_ (show (Tryz.prog.info? 39).map (·.size)=QJ u2.size from ai_.trans (congrArg QJ ai.size.symm));have bx:=q_ (show U.rangeAt z9 0 u0.toList from by rw[<-ah.o];exact b4_ a4.o b8.o (n:=0) (by omega));have bz:=q_ (show U.rangeAt z9 12 u2.toList from by rw[<-ai.o];exact b4_ a4.o b8.o (n:=2) (by omega));obtain⟨i0,f1,f7,f8,f9⟩:=info_parts sw_;obtain⟨l0,d0⟩:=a_ (dh_ (T.take k));have g0:=q_ (show l0.length<=131072 from by rw[<-d0.o,nh_,UJ];have:=a8.o;have:=au.o;omega);rw[d0.o]at d2
    go_wp2_with (first
     | ((with_reducible refine d_ (some 40) ?_);refine G_ rfl 39 _ rfl z9 0 rfl u0 _ bx.o YV rfl de.o ?_)
     | ((with_reducible refine d_ (some 42) ?_);refine G_ rfl 39 _ rfl z9 12 rfl u2 _ bz.o YV rfl df.o ?_)
     | ((with_reducible refine d_ (some 43) ?_);refine b6_ rfl 37 2 _ rfl #[(0,.agg u0),(1,.agg u2)] (by kernel_rfl) (QQ (QJ ⟨zs,0,QK⟩) 2 2) wc fs.o ?_)
     | ((with_reducible refine d_ (some 44) ?_);refine ae_ jd_ rfl _ _ 37 rfl i0 (.agg #[QY QU 0,XY false,QY QU 0,QZ ⟨#[]⟩,QZ ⟨#[]⟩,QQ none 0 0]) underlying37 f1 f7 f8 f9 rfl (by decide) rfl d2.o.own rfl rfl fp.o (λh=>by cases h) (by have:=g0.o;omega) (by decide) ?_;intro v5 w5 f2 ey f6))
    have g1:=q_ (d2.o.app f2 ey f6);clear f2 ey f6 f1 f7 f8 f9;go_wp2_with fail;go_roundw
    case rel=>exact⟨k+1,by have:=a8.o;omega,by go_num,q_ (by rw[f_ d8.o,qd_,d0.o];exact g1.o)⟩
    case measure=>have:=a8.o;simp[intOf];omega
   ·have a2:¬(k:Int)<n:=by omega
    have ek:k=n:=by omega
    subst ek;clear J hk;have eo:=q_ (show T.take k=T from YJ (by rw[HN.o];omega));rw[eo.o]at hM;go_wp2_with fail;clear a2 eo
    have bs:=q_ (show ∀v,v∈dh_ T->af_ v/\cg_ v from λv hv=>by
     obtain⟨t,ht,e⟩:=fv_ hv;rcases e with e | e
     ·rw[e];exact⟨(aw.o t ht).get 0,bt.o t ht 0⟩
     ·rw[e];exact⟨(aw.o t ht).get 2,bt.o t ht 2⟩)
    have cq:=q_ (show (dh_ T).length=2*k from by rw[nh_,HN.o]);refine (E0_ w (Ei_ hM.o.own) (by rw[cq.o];have:=au.o;omega) (λb hb=>hM.o.own.lt hb) e4.o (λb hb=>ZX b5.o.size (hM.o.ow b hb)) (HG.o w (XV _ _)).1 (HG.o w (XV _ _)).2).mono ?_;rintro e r ⟨rfl,M,ab,ch,f4,ht⟩;have c4:=q_ (show ∀v,v∈M->af_ v/\cg_ v from λv hv=>bs.o v (ab.mem_iff.1 hv));have d5:=q_ (λv (hv:v∈dh_ T)=>ab.mem_iff.2 hv);have c5:=q_ (show ay_ M=ab_ T from w0_ dp_ ab ch (λa ha b hb h0=>d9_ (bs.o a ha).1 (bs.o b hb).1 h0));obtain⟨ne,bf⟩:=a_ M.length;have ef:=q_ (show ne<=131072 from by rw[<-bf.o,ab.length_eq,cq.o];have:=au.o;omega);have b6:=q_ (show XW w.heap.size w r from h_ e4.o ht (λb hb=>ZX b5.o.size (hM.o.ow b hb)));have c0:=q_ (E1_ f4);have ea:=q_ (show ∀b,b<w3.heap.size->r.heap[b]?=w3.heap[b]? from λb hb=>(ht.block b (XZ hb hM.o.hb.size) (λe=>by have:=hM.o.ow b e;omega)).trans (hM.o.hb.block b hb));have d6:=q_ (ZX hM.o.hb.size ht.size);obtain⟨Ae,ce,eS,_,dz⟩:=c0.o.form;rw[bf.o]at eS;rw[eS]at c0;clear ab ch f4 ht hM dz bs cq ap fb b9 ba b4 fe;subst eS;obtain⟨m,Hm⟩:=a_ r.heap.size;obtain⟨bn,c9⟩:=a_ (r.heap.size+1);obtain⟨u,cd⟩:=a_ (r.heap.size+1+1);obtain⟨w6,az⟩:=a_ (((r.alloc (.map #[] 0)).alloc (XX #[.map (QJ m)] 124)).alloc (XX #[QQ QK 0 0,QQ QK 0 0] 54));have ee:=q_ (show (Instr.makeMap 122 QK).run QW r = .ok (.map (QJ m)) (r.alloc (.map #[] 0)) from by rw[<-Hm.o];exact Nq_ r);go_upto_region 14 with ((with_reducible refine d_ (some 48) ?_);refine Io_ rfl 122 rfl m _ ee.o ?_)
    rw[az.o,cd.o,c9.o];have I:=q_ (show bn=m+1/\u=m+2 from by have h0:r.heap.size=m:=Hm.o;have h1:r.heap.size+1=bn:=c9.o;have h2:r.heap.size+1+1=u:=cd.o;omega);have ao:=q_ (show XW r.heap.size r w6 from by rw[<-az.o];exact (((XV r.heap.size r).alloc (XK _) _).alloc (by simp) _).alloc (by simp;omega) _);have ed:=q_ (show w6.heap[m]?=QJ (.map #[] 0) from by rw[<-az.o,<-Hm.o,heap_alloc_old _ _ (by simp;omega),heap_alloc_old _ _ (by simp)];exact XU r _);have ci:=q_ (show w6.heap[bn]?=QJ (XX #[.map (QJ m)] 124 (0,0)) from by rw[<-az.o,<-c9.o,heap_alloc_old _ _ (by simp)];have h:=XU (r.alloc (.map #[] 0)) (XX #[.map (QJ m)] 124);rwa [show (r.alloc (.map #[] 0)).heap.size=r.heap.size+1 from by simp]at h);have e6:=q_ (show w6.heap[u]?=QJ (XX #[QQ QK 0 0,QQ QK 0 0] 54 (0,0)) from by rw[<-az.o,<-cd.o];have h:=XU ((r.alloc (.map #[] 0)).alloc (XX #[.map (QJ m)] 124)) (XX #[QQ QK 0 0,QQ QK 0 0] 54);rwa [show ((r.alloc (.map #[] 0)).alloc (XX #[.map (QJ m)] 124)).heap.size=r.heap.size+1+1 from by simp]at h);have a9:=q_ (show r.heap.size=m from Hm.o);have e1:=q_ (b6.o.trans (ao.o.mono b6.o.size));have e8:=q_ (show GnM w6 m u (bv_ (ay_ (M.take 0))) (QQ QK 0 0) w6/\j6_ w6 bn m ((ay_ (M.take 0)).map keyV) from ⟨⟨Turn.refl _ _,e6.o,x_.nil ..,by have:=I.o;omega⟩,⟨ci.o,ua_.fresh ed.o⟩⟩);clear az ed ci e6 ee Hm c9 cd;go_wp2_with fail;go_loopw [53] (λdx O=>∃j:Nat,j<=ne/\dx = QY QU (j:Nat)/\Q_ (∃N,GnM w6 m u (bv_ (ay_ (M.take j))) N O/\j6_ O bn m ((ay_ (M.take j)).map keyV))) (λdx _=>ne-(intOf dx).toNat)
    case atStart=>exact⟨0,by omega,rfl,q_ ⟨_,e8.o⟩⟩
    case round=>
     rename QV=>X
     obtain⟨j,hj,rfl,hR⟩:=hrel;obtain⟨N,f0,bj⟩:=hR.o;have Z:=q_ f0;have bg:=q_ bj;clear f0 bj hR e8;have cj:=q_ (show XW w.heap.size w X from h_ e1.o Z.o.t (λb h=>by have h1:=b6.o.size;have h2:=a9.o;have h3:=I.o;rcases h with h | h<;>omega))
     have cz:=q_ (λb (hb:b<m)=>(Z.o.t.block b (by have h2:=a9.o;have:=ao.o.size;omega) (λh=>by have h3:=I.o;rcases h with h | h<;>omega)).trans (ao.o.block b (by have h2:=a9.o;omega)))
     by_cases J:j<ne
     ·have a1:(0:Int)<=j:=by omega
      have a2:(j:Int)<ne:=by omega
      have ge:=ef.o;have fa:IntKind.i64.wrap ((j:Int)+1)=(j:Int)+1:=YU _ (by omega);clear ge;have bd:=q_ J;obtain⟨v,hv⟩:∃v,M[j]?=QJ v:=⟨_,XQ (by rw[bf.o];exact J)⟩;have ep:=q_ hv;have ay:=q_ (c4.o v (YZ hv));obtain⟨ad,f,eA,gd,⟨_,_,Av,qv,cf⟩,ex⟩:=c0_.cell jd_ c0.o bf.o hv;subst eA;obtain⟨sv,d7⟩:=a_ (Value.slice Av 0 qv);rw[d7.o]at cf;have co:=q_ (show Eq6 f v sv from ⟨cf.symm⟩);have d1:=q_ (λi (hi:i<f.size)=>(show X.cell? ((ad.add (j*6)).add i)=f[i]? from (World.cell?_of_block (cz.o _ (by rw[A_,A_];have:=a9.o;omega))).trans (ex i hi)));have I6:=q_ (show (Tryz.prog.info? 39).map (·.size)=QJ f.size from ai_.trans (congrArg QJ co.o.size.symm));have O6:=q_ (show f.all (·.oneCell')=true from by rw[cf,<-d7.o];kernel_rfl);have gc:=q_ (show f.size=(#[QY QU 0,XY false,QY QU 0,QZ ⟨#[]⟩,QZ ⟨#[]⟩,QQ QK 0 0]:Array XJ).size from co.o.size);have dp:=qt_ v ay.o.1 Av qv;have dr:=λid=>s0_ id v (Ci_ ay.o.1) Av qv;rw[d7.o,co.o.o]at dp dr;have fy:=q_ dp;have g3:=q_ dr;obtain⟨D,HD⟩:=a_ (ay_ (M.take j));rw[HD.o]at Z bg;have fu:=q_ (show v∈D->ay_ (M.take (j+1))=D from λh=>by rw[f_ ep.o,z7_ (by rw[HD.o];exact h),HD.o]);have ft:=q_ (show v∉D->ay_ (M.take (j+1))=D++[v] from λh=>by rw[f_ ep.o,z6_ (by rw[HD.o];exact h),HD.o]);have af:=q_ (show ∀x,x∈D->af_ x from λx hx=>by rw[<-HD.o]at hx;exact (c4.o x (List.mem_of_mem_take ((fw_ M j x).1 hx))).1);have cm:=q_ (show D.length<=131072 from by rw[<-HD.o];exact ZX (z5_ (M.take j)) (by rw[UJ];have:=ef.o;have:=bd.o;omega));clear hv gd cf ex dp dr J hj;obtain⟨d,a6⟩:=a_ X.heap.size;obtain⟨wa,C⟩:=a_ (X.alloc (XX #[QY QU 0,XY false,QY QU 0,QZ ⟨#[]⟩,QZ ⟨#[]⟩,QQ QK 0 0] 39));have b7:=q_ (show XW X.heap.size X wa from by rw[<-C.o];exact (XV _ _).alloc (XK _) _);have ag:=q_ (show wa.heap[d]?=QJ (XX #[QY QU 0,XY false,QY QU 0,QZ ⟨#[]⟩,QZ ⟨#[]⟩,QQ QK 0 0] 39 (0,0)) from by rw[<-C.o,<-a6.o];exact XU X _)
      go_upto_region 17 with (first
       | ((with_reducible refine d_ (some 56) ?_);refine C_ (by rfl) 39 _ rfl rfl f _ d1.o YV rfl I6.o ?_)
       | ((with_reducible refine w_ 13 ?_);rw[C.o,a6.o];refine o_ rfl 39 _ _ rfl d (#[QY QU 0,XY false,QY QU 0,QZ ⟨#[]⟩,QZ ⟨#[]⟩,QQ QK 0 0]) f 39 rfl rfl ag.o gc.o I6.o O6.o ?_;intro U am ak))
      have a4:=q_ am;have a7:=q_ (show XW X.heap.size X U from h_ b7.o ak (λb e=>by have e:b=d:=e;have h2:X.heap.size=d:=a6.o;omega));have cs:=q_ (Z.o.on a7.o);have d3:=q_ (bg.o.on a7.o);have bl:=q_ (cj.o.trans (a7.o.mono cj.o.size));clear am ak C ag d1;go_wp2_with ((with_reducible refine d_ (some 59) ?_);refine G_ rfl 39 _ rfl d 0 rfl f _ (m_ a4.o) YV rfl I6.o ?_)
      refine (fy.o U (HG.o U bl.o).1).mono ?_;unfold pe_;rintro e wc ⟨rfl,hb⟩;have ar:=q_ ((hb.block d (b_ a4.o)).trans a4.o);have bu:=q_ (cs.o.on hb);have av:=q_ (d3.o.on hb);have fg:=q_ (bl.o.trans (hb.mono bl.o.size));clear hb;by_cases b2:v∈D
      ·have y:=kr_ av.o (keyV v) (pa_ ay.o.1) ((lx_ af.o ay.o.1).2 b2);have cl:=q_ (show ay_ (M.take (j+1))=D from fu.o b2);clear b2;go_wp2_with fail;refine y.mono ?_;rintro e wd ⟨rfl,rfl⟩;clear y;go_wp2_with fail;go_roundw
       case rel=>exact⟨j+1,by have:=bd.o;omega,by go_num,q_ ⟨N,by rw[cl.o];exact⟨bu.o,av.o⟩⟩⟩
       case measure=>have:=bd.o;simp[intOf];omega
      ·have cg:=Aj_ av.o (keyV v) (pa_ ay.o.1) (λh=>b2 ((lx_ af.o ay.o.1).1 h)) (by rw[List.length_map];have:=cm.o;omega);have cl:=q_ (show ay_ (M.take (j+1))=D++[v] from ft.o b2);clear b2;rw[List.length_map]at cg;obtain⟨q,Hq⟩:=a_ D.length;rw[Hq.o]at cg cm;go_wp2_with fail;refine cg.mono ?_;rintro e wd ⟨rfl,bj,ht⟩;have fn:=q_ bj;have fw:=q_ ((ht.block d (b_ ar.o) (λe=>by have e:d=m:=e;have h2:X.heap.size=d:=a6.o;have h3:=a9.o;have h4:=ao.o.size;have h5:=Z.o.t.size;have h6:=I.o;have:=b_ Z.o.box;omega)).trans ar.o);have e7:=q_ (bu.o.map ht);have gi:=q_ (h_ fg.o ht (λb e=>by have e:b=m:=e;have:=b6.o.size;have:=a9.o;omega));clear bj ht cg;go_upto_region 19 with fail;have fc:=q_ (show ∀b,N.ownBlock=QJ b->b<d from λb h=>by have:=(Z.o.blk h).2;have h2:X.heap.size=d:=a6.o;omega);have fd:=q_ (show u<d from by have:=b_ Z.o.box;have h2:X.heap.size=d:=a6.o;omega);obtain⟨we,dd⟩:=a_ wd.drew;have aq:=q_ (show GnM w6 m u (bv_ D) N we from by rw[<-dd.o];exact e7.o.on (XV _ _).drew);have bm:=q_ (show j6_ we bn m (D.map keyV++[keyV v]) from by rw[<-dd.o];exact fn.o.on (XV _ _).drew);refine me_ 8 (λW:QV=>W.heap[d]?=QJ (Obj.cells f 39 (0,0))/\W.heap[u]?=QJ (Obj.cells #[N,QQ QK 0 0] 54 (0,0))) ⟨fw.o,e7.o.box⟩ λhH=>?_;rw[dd.o]at hH ⊢;refine k_wantV 0 65 (YK (QJ ⟨u,0,QK⟩)) hH λhH=>?_;refine ca_ 1 66 (N) hH (λw dh=>?_) λhH=>?_
       ·have p:=QX dh.2 0;unfold z_;go_simp
       refine k_wantV 2 67 (QY QU (q:Nat)) hH λhH=>?_;refine ca_ 3 68 (.agg f) hH (λw dh=>?_) λhH=>?_
       ·exact k_ (cb_ dh.1 39 _ YV rfl I6.o)
       refine d7_ 4 λK hK=>?_;go_simp;refine (g3.o _ _).mono ?_;unfold i7_;rintro e wf ⟨L,P,rfl,hl,hp,hb⟩;obtain⟨⟨AL,cL,eL,_,_⟩,⟨AP,cP,eP,_,_⟩⟩:=And.intro (id hl) (id hp);obtain⟨lL,ga⟩:=a_ (U_ (q:Nat) v).labels.length;obtain⟨lP,gb⟩:=a_ (U_ (q:Nat) v).props.length;rw[ga.o]at eL;rw[gb.o]at eP;subst eL;subst eP;have d4:=q_ (show NoR wf (λb=>we.heap.size<=b/\b<wf.heap.size) (U_ (q:Nat) v) (#[QY QU (q:Nat),QQ AL lL cL,QQ AP lP cP]) from ⟨_,_,by rw[dd_],hl,hp⟩);have a3:=q_ (aq.o.on hb);have g4:=q_ (bm.o.on hb);have bb:=q_ ((hb.block d (b_ hH.1)).trans hH.1);have fo:=q_ (s4_ (q:Nat) AL lL cL AP lP cP);have fj:=q_ ((heap_alloc_old wf (Obj.cells (#[QY QU (q:Nat),QQ AL lL cL,QQ AP lP cP]) 72) (b_ bb.o)).trans bb.o);have e5:=q_ (show u<we.heap.size/\∀b,N.ownBlock=QJ b->b<we.heap.size from ⟨b_ aq.o.box,λb h=>(aq.o.blk h).2⟩);clear hl hp hb;dsimp only;refine d6_ hK ⟨bb.o,a3.o.box⟩ λhH=>?_;refine d7_ 5 λK hK=>?_;refine dk_ 51 1 _ rfl #[(0,.agg (#[QY QU (q:Nat),QQ AL lL cL,QQ AP lP cP]))] (by kernel_rfl) _ _ (wc_ _ _ _ _) ?_;dsimp only;refine d6_ hK ⟨fj.o,(heap_alloc_old wf _ (b_ a3.o.box)).trans a3.o.box⟩ λhH=>?_;refine d7_ 6 λK hK=>?_;refine mn_ NoR.good _ _ 51 rfl (.agg #[QY QU 0,QQ QK 0 0,QQ QK 0 0]) underlying51 sv_ rfl (by decide) (by decide) rfl a3.o.own (qv_ D) rfl d4.o rfl fo.o (by rw[Hq.o];have:=cm.o;omega) (λb h=>h.2) (λb h=>h.2) (λb h e=>by have:=e5.o.2 b e;have:=h.1;omega) λg aa wg ho hg hl bi=>?_;rw[Hq.o]at ho ⊢;have b0:=q_ ((hg.block u (b_ a3.o.box) (λe=>by have:=(a3.o.blk e.symm).1;omega)).trans a3.o.box);have cy:=q_ ((hg.block d (b_ bb.o) (λe=>by have h1:=aq.o.blk (b:=d) e.symm;have h2:=a6.o;have h3:=fc.o d e.symm;omega)).trans bb.o);have cv:=q_ ho;have bw:=q_ hg;have cu:=q_ hl;have cw:=q_ bi;clear ho hg hl bi;dsimp only;refine d6_ hK ⟨cy.o,b0.o⟩ λhH=>?_;refine k_wantV 7 72 (YK (QJ ⟨u,0,QK⟩)) hH λhH=>?_;refine u8_ 8 λK hK=>?_;refine dq_ 51 _ _ rfl u 0 (#[N,QQ QK 0 0]) 54 (QQ (QJ ⟨g,0,QK⟩) (q+1) aa) rfl rfl (mg_ b0.o (by show 0<2;omega) _ _ _) b0.o λwh hw ht=>?_;have ct:=q_ (show GnM w6 m u (bv_ D++[U_ (q:Nat) v]) (QQ (QJ ⟨g,0,QK⟩) (q+1) aa) wh from a3.o.more (G:=λb=>we.heap.size<=b/\b<wf.heap.size) (λb h=>⟨by have:=e5.o.1;omega,h.2⟩) bw.o cu.o cw.o (cv.o.mono NoR.good λb h=>h) hw ht);have g5:=q_ (show j6_ wh bn m (D.map keyV++[keyV v]) from (g4.o.turn (Turn.of_grown bw.o) (λe=>by have:=(a3.o.blk e.symm).1;have:=I.o;omega) (λe=>by have:=(a3.o.blk e.symm).1;have:=I.o;omega)).turn ht (λe=>by have e:bn=u:=e;have:=I.o;omega) (λe=>by have e:m=u:=e;have:=I.o;omega));have gl:=q_ ((ht.block d (b_ cy.o) (λe=>by have e:d=u:=e;have:=fd.o;omega)).trans cy.o);clear hw ht;refine Bz_ hK ?_;go_wp2_with fail;go_roundw
       case rel=>exact⟨j+1,by have:=bd.o;omega,by go_num,q_ ⟨_,by rw[cl.o,n7_,Hq.o,List.map_append];exact⟨ct.o,g5.o⟩⟩⟩
       case measure=>have:=bd.o;simp[intOf];omega
     ·have a2:¬(j:Int)<ne:=by omega
      have ej:j=ne:=by omega
      subst ej;clear J hj;have en:=q_ (show M.take j=M from YJ (by rw[bf.o];omega));rw[en.o,c5.o]at Z bg
      have cn:=q_ (show ∀t,t∈T->t.s∈ab_ T/\t.o∈ab_ T from λt ht=>by
       have hm:=λv=>(fw_ M M.length v);rw[List.take_length,c5.o]at hm;exact⟨(hm _).2 (d5.o _ (List.mem_flatMap.2 ⟨t,ht,by simp⟩)),(hm _).2 (d5.o _ (List.mem_flatMap.2 ⟨t,ht,by simp⟩))⟩)
      have af:=q_ (show ∀x,x∈ab_ T->af_ x from λx hx=>by
       have hm:=(fw_ M M.length x);rw[List.take_length,c5.o]at hm;exact (c4.o x (hm.1 hx)).1)
      have cx:=q_ (Bw_ T);obtain⟨D,HD⟩:=a_ (ab_ T);rw[HD.o]at Z bg cn af cx;obtain⟨ze,eq⟩:=a_ X.heap.size;have aq:=q_ (show GeM X u ze (bv_ D) N (c2_ D (T.take 0)) (QQ QK 0 0) X from by rw[<-eq.o];exact Z.o.next);have c8:=q_ (show z<w3.heap.size from b_ e9.o);have bc:=q_ (show ∀b,b<w3.heap.size->X.heap[b]?=w3.heap[b]?/\b<m from λb hb=>⟨(cz.o b (by have:=d6.o;have:=a9.o;omega)).trans (ea.o b hb),by have:=d6.o;have:=a9.o;omega⟩);clear en c4 c5 d5 c0 ea cz e3 b5 b6;go_wp2_with fail;clear a2;go_loopw [76] (λdy O=>∃i:Nat,i<=k/\dy = QY QU (i:Nat)/\Q_ (∃E,GeM X u ze (bv_ D) N (c2_ D (T.take i)) E O)) (λdy _=>k-(intOf dy).toNat)
      case atStart=>exact⟨0,by omega,rfl,q_ ⟨_,aq.o⟩⟩
      case round=>
       rename QV=>O
       obtain⟨i,hi,rfl,hR⟩:=hrel;obtain⟨E,ez⟩:=hR.o;have B:=q_ ez;clear ez hR;have ck:=q_ (show XW w.heap.size w O from h_ cj.o B.o.t (λb h=>by have h1:=e1.o.size;have h3:=I.o;have h4:=ao.o.size;have h5:=a9.o;have h6:=B.o.lt;have h7:=HZ.o;have h8:=c8.o;have h9:=(bc.o z c8.o).2;rcases h with h | h<;>omega))
       have eb:=q_ (show ∀b,b<w3.heap.size->O.heap[b]?=w3.heap[b]? from λb hb=>(B.o.t.block b (by have:=eq.o;have:=(bc.o b hb).2;have:=I.o;have:=B.o.lt;omega) (λh=>by have:=(bc.o b hb).2;have:=I.o;have:=B.o.lt;rcases h with h | h<;>omega)).trans (bc.o b hb).1)
       have g6:=q_ (bg.o.turn B.o.t (λh=>by have:=I.o;have:=B.o.lt;rcases h with h | h<;>omega) (λh=>by have:=I.o;have:=B.o.lt;rcases h with h | h<;>omega))
       by_cases J:i<k
       ·have a1:(0:Int)<=i:=by omega
        have a2:(i:Int)<k:=by omega
        have b1:=au.o;have fa:IntKind.i64.wrap ((i:Int)+1)=(i:Int)+1:=YU _ (by omega);clear b1;have a8:=q_ J;obtain⟨t,ht⟩:∃t,T[i]?=QJ t:=⟨_,XQ (by rw[HN.o];exact J)⟩;have d8:=q_ ht;have a5:=YZ ht;have em:=q_ a5;obtain⟨ad,f,eA,dl,ae,hc,bp,ss,ac,aj⟩:=(eg.o O eb.o).at_ ht;subst eA;have b8:=q_ (show vy_ f t ss from ⟨aj.symm⟩);have b3:=q_ (λj (hj:j<f.size)=>(show O.cell? ((ad.add (i*18)).add j)=f[j]? from by rw[add_of_add];exact hc j (by rw[ae]at hj;exact hj)));have bh:=q_ (e8_.trans (congrArg QJ ae.symm));have dg:=q_ (show f.all (·.oneCell')=true from ii_ (by rw[aj];exact ck_ t ss (λi hi=>by obtain⟨A,aa,e⟩:=ac i hi;exact⟨A,0,aa,e⟩)));obtain⟨A0,q0,e0⟩:=ac 0 (by omega);obtain⟨A2,q2,e2⟩:=ac 2 (by omega);obtain⟨u0,ah⟩:=L_ (t.get 0) (ss 0);obtain⟨u2,ai⟩:=L_ (t.get 2) (ss 2);have c2:=q_ (show af_ t.s from (aw.o t a5).get 0);have c3:=q_ (show af_ t.o from (aw.o t a5).get 2);have bq:=qt_ t.s c2.o A0 q0;have br:=qt_ t.o c3.o A2 q2;rw[show c_ t.s (QQ A0 0 q0)=u0 from by rw[<-ah.o,e0];rfl]at bq;rw[show c_ t.o (QQ A2 0 q2)=u2 from by rw[<-ai.o,e2];rfl]at br;have fk:=q_ bq;have fl:=q_ br;have SZ:=q_ (show f.size=(#[QY QU 0,XY false,QY QU 0,QZ ⟨#[]⟩,QZ ⟨#[]⟩,QQ QK 0 0,QY QU 0,XY false,QY QU 0,QZ ⟨#[]⟩,QZ ⟨#[]⟩,QQ QK 0 0,QY QU 0,XY false,QY QU 0,QZ ⟨#[]⟩,QZ ⟨#[]⟩,QQ QK 0 0]:Array XJ).size from ae);have g7:=q_ (show f[9]?=QJ (QZ t.p.text) from by rw[aj];rfl);clear ht dl ae hc bp ac aj e0 e2 a5 J hi bq br;obtain⟨a0,bo⟩:=a_ O.heap.size;obtain⟨wa,C⟩:=a_ (O.alloc (XX #[QY QU 0,XY false,QY QU 0,QZ ⟨#[]⟩,QZ ⟨#[]⟩,QQ QK 0 0,QY QU 0,XY false,QY QU 0,QZ ⟨#[]⟩,QZ ⟨#[]⟩,QQ QK 0 0,QY QU 0,XY false,QY QU 0,QZ ⟨#[]⟩,QZ ⟨#[]⟩,QQ QK 0 0] 41));have b7:=q_ (show XW O.heap.size O wa from by rw[<-C.o];exact (XV _ _).alloc (XK _) _);have ag:=q_ (show wa.heap[a0]?=QJ (XX #[QY QU 0,XY false,QY QU 0,QZ ⟨#[]⟩,QZ ⟨#[]⟩,QQ QK 0 0,QY QU 0,XY false,QY QU 0,QZ ⟨#[]⟩,QZ ⟨#[]⟩,QQ QK 0 0,QY QU 0,XY false,QY QU 0,QZ ⟨#[]⟩,QZ ⟨#[]⟩,QQ QK 0 0] 41 (0,0)) from by rw[<-C.o,<-bo.o];exact XU O _)
        go_upto_region 24 with (first
         | ((with_reducible refine d_ (some 80) ?_);refine C_ (by rfl) 41 _ rfl rfl f _ b3.o underlying41 rfl bh.o ?_)
         | ((with_reducible refine w_ 17 ?_);rw[C.o,bo.o];refine o_ rfl 41 _ _ rfl a0 (#[QY QU 0,XY false,QY QU 0,QZ ⟨#[]⟩,QZ ⟨#[]⟩,QQ QK 0 0,QY QU 0,XY false,QY QU 0,QZ ⟨#[]⟩,QZ ⟨#[]⟩,QQ QK 0 0,QY QU 0,XY false,QY QU 0,QZ ⟨#[]⟩,QZ ⟨#[]⟩,QQ QK 0 0]) f 41 rfl rfl ag.o SZ.o bh.o dg.o ?_;intro U am ak))
        have a4:=q_ am;have a7:=q_ (show XW O.heap.size O U from h_ b7.o ak (λb e=>by have e:b=a0:=e;have h2:O.heap.size=a0:=bo.o;omega));have cs:=q_ (B.o.on a7.o);have d3:=q_ (g6.o.on a7.o);have bk:=q_ (ck.o.trans (a7.o.mono ck.o.size));clear am ak C ag b3;have de:=q_ (show (Tryz.prog.info? 39).map (·.size)=QJ u0.size from ai_.trans (congrArg QJ ah.size.symm));have df:=q_ (show (Tryz.prog.info? 39).map (·.size)=QJ u2.size from ai_.trans (congrArg QJ ai.size.symm));have bx:=q_ (show U.rangeAt a0 0 u0.toList from by rw[<-ah.o];exact b4_ a4.o b8.o (n:=0) (by omega));go_wp2_with ((with_reducible refine d_ (some 84) ?_);refine G_ rfl 39 _ rfl a0 0 rfl u0 _ bx.o YV rfl de.o ?_)
        refine (fk.o U (HG.o U bk.o).1).mono ?_;unfold pe_;rintro e wc ⟨rfl,hb⟩;have ar:=q_ ((hb.block a0 (b_ a4.o)).trans a4.o);have bu:=q_ (cs.o.on hb);have av:=q_ (d3.o.on hb);have ff:=q_ (bk.o.trans (hb.mono bk.o.size));clear hb bx;have y:=kr_ av.o (keyV t.s) (pa_ c2.o) ((lx_ af.o c2.o).2 (cn.o t em.o).1);rw[mkey_place af.o c2.o]at y;obtain⟨pa,er⟩:=a_ (bb_ D t.s);rw[er.o]at y;go_wp2_with fail;refine y.mono ?_;rintro e wd ⟨rfl,ev⟩;rw[ev];clear ev y;have bz:=q_ (show wc.rangeAt a0 12 u2.toList from by rw[<-ai.o];exact b4_ ar.o b8.o (n:=2) (by omega));go_wp2_with ((with_reducible refine d_ (some 92) ?_);refine G_ rfl 39 _ rfl a0 12 rfl u2 _ bz.o YV rfl df.o ?_)
        refine (fl.o wc (HG.o wc ff.o).1).mono ?_;unfold pe_;rintro e we ⟨rfl,hb⟩;have fx:=q_ ((hb.block a0 (b_ ar.o)).trans ar.o);have Y:=q_ (bu.o.on hb);have bm:=q_ (av.o.on hb);clear hb bz;have y:=kr_ bm.o (keyV t.o) (pa_ c3.o) ((lx_ af.o c3.o).2 (cn.o t em.o).2);rw[mkey_place af.o c3.o]at y;obtain⟨pb,et⟩:=a_ (bb_ D t.o);rw[et.o]at y;have p1:we.cell? ⟨u,1,QK⟩=QJ E:=QX Y.o.box 1;have p9:we.cell? ⟨a0,9,QK⟩=QJ (QZ t.p.text):=(QX fx.o 9).trans g7.o;obtain⟨tx,eu⟩:=a_ t.p.text;rw[eu.o]at p9;obtain⟨zs,dc⟩:=a_ we.heap.size;obtain⟨es,cr⟩:=a_ (c2_ D (T.take i));have fi:=q_ (show es.length=i from by rw[<-cr.o,qb_,UJ];have:=a8.o;have:=HN.o;omega);rw[cr.o]at Y;have fh:=q_ (show EdR we (λb=>False) (⟨(i:Nat),pa,pb,tx,[]⟩:l_) #[QY QU (i:Nat),QY QU pa,QY QU pb,QZ tx,QQ QK 0 0] from ⟨_,rfl,SlR.nil ..⟩);go_wp2_with fail;refine y.mono ?_;rintro e wf ⟨rfl,ew⟩;rw[ew];clear ew y
        go_upto_region 27 with (first
         | ((with_reducible refine d_ (some 105) ?_);refine W_ rfl 74 _ rfl #[(0,QY QU (i:Nat)),(1,QY QU pa),(2,QY QU pb),(3,QZ tx)] (by kernel_rfl) (.agg #[QY QU (i:Nat),QY QU pa,QY QU pb,QZ tx,QQ QK 0 0]) (Bm_ _ _ _ _ _) ?_)
         | ((with_reducible refine d_ (some 106) ?_);refine b6_ rfl 52 1 _ rfl #[(0,.agg #[QY QU (i:Nat),QY QU pa,QY QU pb,QZ tx,QQ QK 0 0])] (by kernel_rfl) _ _ (wb_ _ _ _ _ _ _) ?_)
         | ((with_reducible refine d_ (some 107) ?_);refine vw_ EdR.good rfl _ _ 52 rfl (.agg #[QY QU 0,QY QU 0,QY QU 0,QZ ⟨#[]⟩,QQ QK 0 0]) underlying52 su_ rfl (by decide) (by decide) rfl Y.o.own fi.o rfl fh.o rfl (s3_ _ _ _ _) (by have:=a8.o;have:=au.o;omega) (λb h=>h.2) (λb h=>h.elim) (λb h=>h.elim) ?_;intro g aa wg ho hg hl bi;have b0:=q_ ((hg.block u (b_ Y.o.box) (λe=>by have:=(Y.o.blk e.symm).1;have:=Y.o.lt;omega)).trans Y.o.box);have cv:=q_ ho;have bw:=q_ hg;have cu:=q_ hl;have cw:=q_ bi;clear ho hg hl bi)
         | ((with_reducible refine w_ 108 ?_);refine dg_ rfl 52 _ _ rfl u 1 (#[N,E]) 54 (QQ (QJ ⟨g,0,QK⟩) (i+1) aa) rfl rfl (mf_ b0.o (by show 1<2;omega) _ _ _) b0.o ?_;intro wh hw ht))
        have ct:=q_ (show GeM X u ze (bv_ D) N (es++[⟨(i:Nat),pa,pb,tx,[]⟩]) (QQ (QJ ⟨g,0,QK⟩) (i+1) aa) wh from Y.o.more (G:=λb=>False) (λb h=>h.elim) bw.o cu.o cw.o (cv.o.mono EdR.good λb h=>h) hw ht);clear hw ht;go_wp2_with fail;go_roundw
        case rel=>exact⟨i+1,by have:=a8.o;omega,by go_num,q_ ⟨_,by rw[f_ d8.o,n2_,cr.o,UJ,HN.o,Nat.min_eq_left (Nat.le_of_lt a8.o),er.o,et.o,eu.o];exact ct.o⟩⟩
        case measure=>have:=a8.o;simp[intOf];omega
       ·have a2:¬(i:Int)<k:=by omega
        have ei:i=k:=by omega
        have fq:=q_ (show T.take i=T from YJ (by rw[HN.o];omega));rw[fq.o]at B;clear J hi ei;have fz:=q_ ((eb.o z c8.o).trans e9.o);obtain⟨AN,qN,eN,dk,dv⟩:=B.o.nodes.rd NoR.good;obtain⟨AE,qE,eE,dj,du⟩:=B.o.own.rd EdR.good;obtain⟨nN,cb⟩:=a_ (bv_ D).length;obtain⟨nE,ca⟩:=a_ (c2_ D T).length;rw[cb.o]at eN dk dv;rw[ca.o]at eE dj du;subst eN;subst eE;have el:=q_ (And.intro dk dv);have eh:=q_ (And.intro dj du);have dq:=B.o.lt;have fm:=q_ dq
        have c1:=q_ (show ∀wy:QV,Turn (λb=>b=z) O wy->GrR wy (λb=>w.heap.size<=b/\b<wy.heap.size) (bn_ T) (.agg #[QQ AN nN qN,QQ AE nE qE])/\XW w.heap.size w wy from λwy ht=>by
         have hz:w.heap.size=z:=HZ.o;have h9:=(bc.o z c8.o).2;have h6:=I.o;have hs:=ht.size;have gn:=fm.o;have go:=cb.o;have gm:=ca.o;have gk:=el.o.1;have gj:=eh.o.1;refine⟨?_,h_ ck.o ht (λb e=>by have e:b=z:=e;omega)⟩;rw[cx.o];refine⟨_,_,rfl,⟨AN,qN,by rw[cb.o],by show (bv_ D).length<=qN;omega,?_⟩,⟨AE,qE,by rw[ca.o],by show (c2_ D T).length<=qE;omega,?_⟩⟩
         ·have h1:=el.o.2.keep (w':=wy) NoR.good (λp hp=>ht.cell (by omega) (λe=>by have e:p.block=z:=e;omega));rw[<-cb.o]at h1;exact h1.mono NoR.good (λb h=>by omega)
         ·have h1:=eh.o.2.keep (w':=wy) EdR.good (λp hp=>ht.cell (by omega) (λe=>by have e:p.block=z:=e;omega));rw[<-ca.o]at h1;exact h1.mono EdR.good (λb h=>by omega))
        clear dk dv dj du dq
        go_wp2_with (first
         | ((with_reducible refine d_ (some 110) ?_);refine G_ rfl 54 _ rfl u 0 rfl (#[QQ AN nN qN,QQ AE nE qE]) _ (m_ B.o.box) underlying54 rfl (P_ _ _) ?_)
         | ((with_reducible refine w_ 2 ?_);refine o_ rfl 54 _ _ rfl z (#[QQ QK 0 0,QQ QK 0 0]) (#[QQ AN nN qN,QQ AE nE qE]) 54 rfl rfl fz.o rfl (P_ _ _) (cz_ _ _ _ _ _ _) ?_;intro wy gh f5))
        refine ZV (v:=ZJ #[.agg #[QQ AN nN qN,QQ AE nE qE],QY QU 0]) (cn_ results25 (g:=z) rfl gh _ underlying54 rfl (P_ _ _) rfl) rfl (.inr ⟨da.o.1,List.all_eq_true.1 da.o.2,_,_,rfl,?_,(c1.o wy f5).2⟩);rw[HT.o];exact (c1.o wy f5).1
def em_ (w:QV) (sz:Nat) (A:Option Addr) (n:Nat) (cs:Nat->Array XJ):Prop:=∀i,i<n->∃ad,A=QJ ad/\ad.block<w.heap.size/\(cs i).size=sz/\(cs i).all (·.oneCell')=true/\∀j,j<sz->w.cell? (ad.add (i*sz+j))=(cs i)[j]?
theorem em_.on {w w':QV} {sz:Nat} {A:Option Addr} {n:Nat} {cs:Nat->Array XJ} (h:em_ w sz A n cs) (hb:XW w.heap.size w w'):em_ w' sz A n cs:=λi hi=>by
 obtain⟨ad,e,h1,h2,b,c⟩:=h i hi;exact⟨ad,e,XZ h1 hb.size,h2,b,λj d=>by rw[hb.cell (p:=ad.add (i*sz+j)) (by rw[A_];exact h1)];exact c j d⟩
theorem fo_ (q:Nat->Bool) (k:Nat):(List.range (k+1)).all q=((List.range k).all q&&q k):=by rw[List.range_succ,List.all_append];simp
theorem e2_ {q:Nat->Bool} {n k:Nat} (b:k<n) (h:q k=false):(List.range n).all q=false:=by rw[List.all_eq_false];exact⟨k,List.mem_range.2 b,by rw[h];exact Bool.false_ne_true⟩
theorem u6_:(Tryz.prog.info? 72).map (·.size)=some 3:=by kernel_rfl
theorem Aa_:(Tryz.prog.info? 74).map (·.size)=some 5:=by kernel_rfl
theorem Hx_:(Tryz.prog.info? 69).map (·.size)=some 7:=by kernel_rfl
theorem Dl_ (cs ds:Nat->Array XJ) (q:Nat->Bool) (A B:Option Addr) (n m ca cb:Nat) (w:QV) (hn:n<=1000000000) (hA:em_ w 3 A n cs) (hB:em_ w 3 B m ds)
    (hF:∀i,i<n->i<m->∀W:QV,XW w.heap.size w W->Calls QW 141 #[.agg (cs i),.agg (ds i)] W (n_ (q i) W)) :
    Calls QW 143 #[QQ A n ca,QQ B m cb,.func (.func 141) #[] #[]] w (n_ (decide (n=m)&&(List.range n).all q) w):=by
 have HA:=q_ hA;have HB:=q_ hB;have HF:=q_ hF;unfold n_ at HF ⊢;clear hA hB hF;go_enter func143,ntmps143
 by_cases a7:n=m
 ·subst a7;rw[dT_ rfl,Bool.true_and];obtain⟨r,HR⟩:=a_ ((List.range n).all q);rw[HR.o];go_wp2_with fail;go_loopw [17] (λT g=>∃k:Nat,k<=n/\T = QY QU (k:Nat)/\Q_ (XW w.heap.size w g/\(List.range k).all q=true)) (λT _=>n-(intOf T).toNat)
  case atStart=>exact⟨0,by omega,rfl,q_ ⟨XV _ _,rfl⟩⟩
  case round=>
   rename QV=>g
   obtain⟨k,hk,rfl,t⟩:=hrel;by_cases s:k<n
   ·have a1:(0:Int)<=k:=by omega
    have a2:(k:Int)<n:=by omega
    have w1:IntKind.i64.wrap ((k:Int)+1)=(k:Int)+1:=YU _ (by omega);have E:=q_ s;have Z:=q_ t.o.1;have ac:=q_ t.o.2;have ae:=q_ (HA.o.on t.o.1);have ah:=q_ (HB.o.on t.o.1);have f:=q_ (HF.o k s s);obtain⟨ad,rfl,_,u,N,J⟩:=HA.o.on t.o.1 k s;obtain⟨bd,rfl,a6,v,O,L⟩:=HB.o.on t.o.1 k s;obtain⟨c,Hc⟩:=a_ (cs k);obtain⟨d,Hd⟩:=a_ (ds k);obtain⟨qk,Hq⟩:=a_ (q k);rw[Hc.o]at u N J f;rw[Hd.o]at v O L f;rw[Hq.o]at f;have IC:=q_ (show (Tryz.prog.info? 72).map (·.size)=QJ c.size from u6_.trans (congrArg QJ u.symm));have ID:=q_ (show (Tryz.prog.info? 72).map (·.size)=QJ d.size from u6_.trans (congrArg QJ v.symm));have OC:=q_ N;have OD:=q_ O;have SC:=q_ (show c.size=(#[QY QU 0,QQ QK 0 0,QQ QK 0 0]:Array XJ).size from u);have SD:=q_ (show d.size=(#[QY QU 0,QQ QK 0 0,QQ QK 0 0]:Array XJ).size from v);have LC:=q_ (λj (M:j<c.size)=>(show g.cell? ((ad.add (k*3)).add j)=c[j]? from by rw[add_of_add];exact J j (by rw[u]at M;exact M)));have LD:=q_ (λ(W:QV) (hb:XW g.heap.size g W) j (M:j<d.size)=>(show W.cell? ((bd.add (k*3)).add j)=d[j]? from by rw[add_of_add,hb.cell (p:=bd.add (k*3+j)) (by rw[A_];exact a6)];exact L j (by rw[v]at M;exact M)));clear u v N O J L a6 t ae ah s;obtain⟨z,G⟩:=a_ g.heap.size;obtain⟨wa,x⟩:=a_ (g.alloc (XX #[QY QU 0,QQ QK 0 0,QQ QK 0 0] 72));have af:=q_ (show XW g.heap.size g wa from by rw[<-x.o];exact (XV _ _).alloc (XK _) _);have a0:=q_ (show wa.heap[z]?=QJ (XX #[QY QU 0,QQ QK 0 0,QQ QK 0 0] 72 (0,0)) from by rw[<-x.o,<-G.o];exact XU g _)
    go_upto_region 6 with (first
     | ((with_reducible refine d_ (some 21) ?_);refine C_ (by rfl) 72 _ rfl rfl c _ LC.o underlying72 rfl IC.o ?_)
     | ((with_reducible refine w_ 8 ?_);rw[x.o,G.o];refine o_ rfl 72 _ _ rfl z (#[QY QU 0,QQ QK 0 0,QQ QK 0 0]) c 72 rfl rfl a0.o SC.o IC.o OC.o ?_;intro h aa a8))
    have a3:=q_ aa;have C:=q_ (show XW g.heap.size g h from h_ af.o a8 (λb e=>by have e:b=z:=e;have h2:g.heap.size=z:=G.o;omega));clear aa a8 x a0 LC;obtain⟨U,I⟩:=a_ h.heap.size;obtain⟨wc,y⟩:=a_ (h.alloc (XX #[QY QU 0,QQ QK 0 0,QQ QK 0 0] 72));have ag:=q_ (show XW h.heap.size h wc from by rw[<-y.o];exact (XV _ _).alloc (XK _) _);have a4:=q_ (show wc.heap[U]?=QJ (XX #[QY QU 0,QQ QK 0 0,QQ QK 0 0] 72 (0,0)) from by rw[<-y.o,<-I.o];exact XU h _);have a5:=q_ (LD.o h C.o)
    go_upto_region 7 with (first
     | ((with_reducible refine d_ (some 25) ?_);refine C_ (by rfl) 72 _ rfl rfl d _ a5.o underlying72 rfl ID.o ?_)
     | ((with_reducible refine w_ 9 ?_);rw[y.o,I.o];refine o_ rfl 72 _ _ rfl U (#[QY QU 0,QQ QK 0 0,QQ QK 0 0]) d 72 rfl rfl a4.o SD.o ID.o OD.o ?_;intro we ab a9))
    have aj:=q_ ab;have X:=q_ (show XW h.heap.size h we from h_ ag.o a9 (λb e=>by have e:b=U:=e;have h2:h.heap.size=U:=I.o;omega));have ai:=q_ ((X.o.block z (b_ a3.o)).trans a3.o);have D:=q_ (show XW w.heap.size w we from Z.o.trans ((C.o.trans (X.o.mono C.o.size)).mono Z.o.size));clear ab a9 y a4 a5
    go_wp2_with (first
     | ((with_reducible refine d_ (some 27) ?_);refine G_ rfl 72 _ rfl z 0 rfl c _ (m_ ai.o) underlying72 rfl IC.o ?_)
     | ((with_reducible refine d_ (some 28) ?_);refine G_ rfl 72 _ rfl U 0 rfl d _ (m_ aj.o) underlying72 rfl ID.o ?_))
    refine (f.o we D.o).mono ?_;rintro e wf ⟨rfl,hb⟩;have Y:=q_ (D.o.trans (hb.mono D.o.size));clear hb f
    cases qk with
    | false=>
     have HN:=q_ (show r=false from by rw[<-HR.o];exact e2_ E.o Hq.o);go_wp2_with fail;go_ret;exact⟨(by rw[HN.o];rfl),Y.o⟩
    | true=>
     go_wp2_with fail;go_roundw
     case rel=>exact⟨k+1,by have:=E.o;omega,by go_num,q_ ⟨Y.o,by rw[fo_,ac.o,Hq.o];rfl⟩⟩
     case measure=>simp[intOf];have:=E.o;omega
   ·have a2:¬(k:Int)<n:=by omega
    have ak:k=n:=by omega
    have HN:=q_ (show r=true from by rw[<-HR.o,<-ak];exact t.o.2);go_wp2_with fail;go_ret;exact⟨(by rw[HN.o];rfl),t.o.1⟩
 ·have am:¬((n:Int)=(m:Int)):=by omega
  rw[dF_ a7,Bool.false_and];go_wp2_with fail;go_ret;exact⟨rfl,XV _ _⟩
theorem Dk_ (cs ds:Nat->Array XJ) (q:Nat->Bool) (A B:Option Addr) (n m ca cb:Nat) (w:QV) (hn:n<=1000000000) (hA:em_ w 5 A n cs) (hB:em_ w 5 B m ds)
    (hF:∀i,i<n->i<m->∀W:QV,XW w.heap.size w W->Calls QW 142 #[.agg (cs i),.agg (ds i)] W (n_ (q i) W)) :
    Calls QW 144 #[QQ A n ca,QQ B m cb,.func (.func 142) #[] #[]] w (n_ (decide (n=m)&&(List.range n).all q) w):=by
 have HA:=q_ hA;have HB:=q_ hB;have HF:=q_ hF;unfold n_ at HF ⊢;clear hA hB hF;go_enter func144,ntmps144
 by_cases a7:n=m
 ·subst a7;rw[dT_ rfl,Bool.true_and];obtain⟨r,HR⟩:=a_ ((List.range n).all q);rw[HR.o];go_wp2_with fail;go_loopw [17] (λT g=>∃k:Nat,k<=n/\T = QY QU (k:Nat)/\Q_ (XW w.heap.size w g/\(List.range k).all q=true)) (λT _=>n-(intOf T).toNat)
  case atStart=>exact⟨0,by omega,rfl,q_ ⟨XV _ _,rfl⟩⟩
  case round=>
   rename QV=>g
   obtain⟨k,hk,rfl,t⟩:=hrel;by_cases s:k<n
   ·have a1:(0:Int)<=k:=by omega
    have a2:(k:Int)<n:=by omega
    have w1:IntKind.i64.wrap ((k:Int)+1)=(k:Int)+1:=YU _ (by omega);have E:=q_ s;have Z:=q_ t.o.1;have ac:=q_ t.o.2;have ae:=q_ (HA.o.on t.o.1);have ah:=q_ (HB.o.on t.o.1);have f:=q_ (HF.o k s s);obtain⟨ad,rfl,_,u,N,J⟩:=HA.o.on t.o.1 k s;obtain⟨bd,rfl,a6,v,O,L⟩:=HB.o.on t.o.1 k s;obtain⟨c,Hc⟩:=a_ (cs k);obtain⟨d,Hd⟩:=a_ (ds k);obtain⟨qk,Hq⟩:=a_ (q k);rw[Hc.o]at u N J f;rw[Hd.o]at v O L f;rw[Hq.o]at f;have IC:=q_ (show (Tryz.prog.info? 74).map (·.size)=QJ c.size from Aa_.trans (congrArg QJ u.symm));have ID:=q_ (show (Tryz.prog.info? 74).map (·.size)=QJ d.size from Aa_.trans (congrArg QJ v.symm));have OC:=q_ N;have OD:=q_ O;have SC:=q_ (show c.size=(#[QY QU 0,QY QU 0,QY QU 0,QZ ⟨#[]⟩,QQ QK 0 0]:Array XJ).size from u);have SD:=q_ (show d.size=(#[QY QU 0,QY QU 0,QY QU 0,QZ ⟨#[]⟩,QQ QK 0 0]:Array XJ).size from v);have LC:=q_ (λj (M:j<c.size)=>(show g.cell? ((ad.add (k*5)).add j)=c[j]? from by rw[add_of_add];exact J j (by rw[u]at M;exact M)));have LD:=q_ (λ(W:QV) (hb:XW g.heap.size g W) j (M:j<d.size)=>(show W.cell? ((bd.add (k*5)).add j)=d[j]? from by rw[add_of_add,hb.cell (p:=bd.add (k*5+j)) (by rw[A_];exact a6)];exact L j (by rw[v]at M;exact M)));clear u v N O J L a6 t ae ah s;obtain⟨z,G⟩:=a_ g.heap.size;obtain⟨wa,x⟩:=a_ (g.alloc (XX #[QY QU 0,QY QU 0,QY QU 0,QZ ⟨#[]⟩,QQ QK 0 0] 74));have af:=q_ (show XW g.heap.size g wa from by rw[<-x.o];exact (XV _ _).alloc (XK _) _);have a0:=q_ (show wa.heap[z]?=QJ (XX #[QY QU 0,QY QU 0,QY QU 0,QZ ⟨#[]⟩,QQ QK 0 0] 74 (0,0)) from by rw[<-x.o,<-G.o];exact XU g _)
    go_upto_region 6 with (first
     | ((with_reducible refine d_ (some 21) ?_);refine C_ (by rfl) 74 _ rfl rfl c _ LC.o underlying74 rfl IC.o ?_)
     | ((with_reducible refine w_ 8 ?_);rw[x.o,G.o];refine o_ rfl 74 _ _ rfl z (#[QY QU 0,QY QU 0,QY QU 0,QZ ⟨#[]⟩,QQ QK 0 0]) c 74 rfl rfl a0.o SC.o IC.o OC.o ?_;intro h aa a8))
    have a3:=q_ aa;have C:=q_ (show XW g.heap.size g h from h_ af.o a8 (λb e=>by have e:b=z:=e;have h2:g.heap.size=z:=G.o;omega));clear aa a8 x a0 LC;obtain⟨U,I⟩:=a_ h.heap.size;obtain⟨wc,y⟩:=a_ (h.alloc (XX #[QY QU 0,QY QU 0,QY QU 0,QZ ⟨#[]⟩,QQ QK 0 0] 74));have ag:=q_ (show XW h.heap.size h wc from by rw[<-y.o];exact (XV _ _).alloc (XK _) _);have a4:=q_ (show wc.heap[U]?=QJ (XX #[QY QU 0,QY QU 0,QY QU 0,QZ ⟨#[]⟩,QQ QK 0 0] 74 (0,0)) from by rw[<-y.o,<-I.o];exact XU h _);have a5:=q_ (LD.o h C.o)
    go_upto_region 7 with (first
     | ((with_reducible refine d_ (some 25) ?_);refine C_ (by rfl) 74 _ rfl rfl d _ a5.o underlying74 rfl ID.o ?_)
     | ((with_reducible refine w_ 9 ?_);rw[y.o,I.o];refine o_ rfl 74 _ _ rfl U (#[QY QU 0,QY QU 0,QY QU 0,QZ ⟨#[]⟩,QQ QK 0 0]) d 74 rfl rfl a4.o SD.o ID.o OD.o ?_;intro we ab a9))
    have aj:=q_ ab;have X:=q_ (show XW h.heap.size h we from h_ ag.o a9 (λb e=>by have e:b=U:=e;have h2:h.heap.size=U:=I.o;omega));have ai:=q_ ((X.o.block z (b_ a3.o)).trans a3.o);have D:=q_ (show XW w.heap.size w we from Z.o.trans ((C.o.trans (X.o.mono C.o.size)).mono Z.o.size));clear ab a9 y a4 a5
    go_wp2_with (first
     | ((with_reducible refine d_ (some 27) ?_);refine G_ rfl 74 _ rfl z 0 rfl c _ (m_ ai.o) underlying74 rfl IC.o ?_)
     | ((with_reducible refine d_ (some 28) ?_);refine G_ rfl 74 _ rfl U 0 rfl d _ (m_ aj.o) underlying74 rfl ID.o ?_))
    refine (f.o we D.o).mono ?_;rintro e wf ⟨rfl,hb⟩;have Y:=q_ (D.o.trans (hb.mono D.o.size));clear hb f
    cases qk with
    | false=>
     have HN:=q_ (show r=false from by rw[<-HR.o];exact e2_ E.o Hq.o);go_wp2_with fail;go_ret;exact⟨(by rw[HN.o];rfl),Y.o⟩
    | true=>
     go_wp2_with fail;go_roundw
     case rel=>exact⟨k+1,by have:=E.o;omega,by go_num,q_ ⟨Y.o,by rw[fo_,ac.o,Hq.o];rfl⟩⟩
     case measure=>simp[intOf];have:=E.o;omega
   ·have a2:¬(k:Int)<n:=by omega
    have ak:k=n:=by omega
    have HN:=q_ (show r=true from by rw[<-HR.o,<-ak];exact t.o.2);go_wp2_with fail;go_ret;exact⟨(by rw[HN.o];rfl),t.o.1⟩
 ·have am:¬((n:Int)=(m:Int)):=by omega
  rw[dF_ a7,Bool.false_and];go_wp2_with fail;go_ret;exact⟨rfl,XV _ _⟩
theorem Dm_ (cs ds:Nat->Array XJ) (q:Nat->Bool) (A B:Option Addr) (n m ca cb:Nat) (w:QV) (hn:n<=1000000000) (hA:em_ w 7 A n cs) (hB:em_ w 7 B m ds)
    (hF:∀i,i<n->i<m->∀W:QV,XW w.heap.size w W->Calls QW 219 #[.agg (cs i),.agg (ds i)] W (n_ (q i) W)) :
    Calls QW 218 #[QQ A n ca,QQ B m cb,.func (.func 219) #[] #[]] w (n_ (decide (n=m)&&(List.range n).all q) w):=by
 have HA:=q_ hA;have HB:=q_ hB;have HF:=q_ hF;unfold n_ at HF ⊢;clear hA hB hF;go_enter func218,ntmps218
 by_cases a7:n=m
 ·subst a7;rw[dT_ rfl,Bool.true_and];obtain⟨r,HR⟩:=a_ ((List.range n).all q);rw[HR.o];go_wp2_with fail;go_loopw [17] (λT g=>∃k:Nat,k<=n/\T = QY QU (k:Nat)/\Q_ (XW w.heap.size w g/\(List.range k).all q=true)) (λT _=>n-(intOf T).toNat)
  case atStart=>exact⟨0,by omega,rfl,q_ ⟨XV _ _,rfl⟩⟩
  case round=>
   rename QV=>g
   obtain⟨k,hk,rfl,t⟩:=hrel;by_cases s:k<n
   ·have a1:(0:Int)<=k:=by omega
    have a2:(k:Int)<n:=by omega
    have w1:IntKind.i64.wrap ((k:Int)+1)=(k:Int)+1:=YU _ (by omega);have E:=q_ s;have Z:=q_ t.o.1;have ac:=q_ t.o.2;have ae:=q_ (HA.o.on t.o.1);have ah:=q_ (HB.o.on t.o.1);have f:=q_ (HF.o k s s);obtain⟨ad,rfl,_,u,N,J⟩:=HA.o.on t.o.1 k s;obtain⟨bd,rfl,a6,v,O,L⟩:=HB.o.on t.o.1 k s;obtain⟨c,Hc⟩:=a_ (cs k);obtain⟨d,Hd⟩:=a_ (ds k);obtain⟨qk,Hq⟩:=a_ (q k);rw[Hc.o]at u N J f;rw[Hd.o]at v O L f;rw[Hq.o]at f;have IC:=q_ (show (Tryz.prog.info? 69).map (·.size)=QJ c.size from Hx_.trans (congrArg QJ u.symm));have ID:=q_ (show (Tryz.prog.info? 69).map (·.size)=QJ d.size from Hx_.trans (congrArg QJ v.symm));have OC:=q_ N;have OD:=q_ O;have SC:=q_ (show c.size=(#[QZ ⟨#[]⟩,QY QU 0,XY false,QY QU 0,QZ ⟨#[]⟩,QZ ⟨#[]⟩,QQ QK 0 0]:Array XJ).size from u);have SD:=q_ (show d.size=(#[QZ ⟨#[]⟩,QY QU 0,XY false,QY QU 0,QZ ⟨#[]⟩,QZ ⟨#[]⟩,QQ QK 0 0]:Array XJ).size from v);have LC:=q_ (λj (M:j<c.size)=>(show g.cell? ((ad.add (k*7)).add j)=c[j]? from by rw[add_of_add];exact J j (by rw[u]at M;exact M)));have LD:=q_ (λ(W:QV) (hb:XW g.heap.size g W) j (M:j<d.size)=>(show W.cell? ((bd.add (k*7)).add j)=d[j]? from by rw[add_of_add,hb.cell (p:=bd.add (k*7+j)) (by rw[A_];exact a6)];exact L j (by rw[v]at M;exact M)));clear u v N O J L a6 t ae ah s;obtain⟨z,G⟩:=a_ g.heap.size;obtain⟨wa,x⟩:=a_ (g.alloc (XX #[QZ ⟨#[]⟩,QY QU 0,XY false,QY QU 0,QZ ⟨#[]⟩,QZ ⟨#[]⟩,QQ QK 0 0] 69));have af:=q_ (show XW g.heap.size g wa from by rw[<-x.o];exact (XV _ _).alloc (XK _) _);have a0:=q_ (show wa.heap[z]?=QJ (XX #[QZ ⟨#[]⟩,QY QU 0,XY false,QY QU 0,QZ ⟨#[]⟩,QZ ⟨#[]⟩,QQ QK 0 0] 69 (0,0)) from by rw[<-x.o,<-G.o];exact XU g _)
    go_upto_region 6 with (first
     | ((with_reducible refine d_ (some 21) ?_);refine C_ (by rfl) 69 _ rfl rfl c _ LC.o underlying69 rfl IC.o ?_)
     | ((with_reducible refine w_ 8 ?_);rw[x.o,G.o];refine o_ rfl 69 _ _ rfl z (#[QZ ⟨#[]⟩,QY QU 0,XY false,QY QU 0,QZ ⟨#[]⟩,QZ ⟨#[]⟩,QQ QK 0 0]) c 69 rfl rfl a0.o SC.o IC.o OC.o ?_;intro h aa a8))
    have a3:=q_ aa;have C:=q_ (show XW g.heap.size g h from h_ af.o a8 (λb e=>by have e:b=z:=e;have h2:g.heap.size=z:=G.o;omega));clear aa a8 x a0 LC;obtain⟨U,I⟩:=a_ h.heap.size;obtain⟨wc,y⟩:=a_ (h.alloc (XX #[QZ ⟨#[]⟩,QY QU 0,XY false,QY QU 0,QZ ⟨#[]⟩,QZ ⟨#[]⟩,QQ QK 0 0] 69));have ag:=q_ (show XW h.heap.size h wc from by rw[<-y.o];exact (XV _ _).alloc (XK _) _);have a4:=q_ (show wc.heap[U]?=QJ (XX #[QZ ⟨#[]⟩,QY QU 0,XY false,QY QU 0,QZ ⟨#[]⟩,QZ ⟨#[]⟩,QQ QK 0 0] 69 (0,0)) from by rw[<-y.o,<-I.o];exact XU h _);have a5:=q_ (LD.o h C.o)
    go_upto_region 7 with (first
     | ((with_reducible refine d_ (some 25) ?_);refine C_ (by rfl) 69 _ rfl rfl d _ a5.o underlying69 rfl ID.o ?_)
     | ((with_reducible refine w_ 9 ?_);rw[y.o,I.o];refine o_ rfl 69 _ _ rfl U (#[QZ ⟨#[]⟩,QY QU 0,XY false,QY QU 0,QZ ⟨#[]⟩,QZ ⟨#[]⟩,QQ QK 0 0]) d 69 rfl rfl a4.o SD.o ID.o OD.o ?_;intro we ab a9))
    have aj:=q_ ab;have X:=q_ (show XW h.heap.size h we from h_ ag.o a9 (λb e=>by have e:b=U:=e;have h2:h.heap.size=U:=I.o;omega));have ai:=q_ ((X.o.block z (b_ a3.o)).trans a3.o);have D:=q_ (show XW w.heap.size w we from Z.o.trans ((C.o.trans (X.o.mono C.o.size)).mono Z.o.size));clear ab a9 y a4 a5
    go_wp2_with (first
     | ((with_reducible refine d_ (some 27) ?_);refine G_ rfl 69 _ rfl z 0 rfl c _ (m_ ai.o) underlying69 rfl IC.o ?_)
     | ((with_reducible refine d_ (some 28) ?_);refine G_ rfl 69 _ rfl U 0 rfl d _ (m_ aj.o) underlying69 rfl ID.o ?_))
    refine (f.o we D.o).mono ?_;rintro e wf ⟨rfl,hb⟩;have Y:=q_ (D.o.trans (hb.mono D.o.size));clear hb f
    cases qk with
    | false=>
     have HN:=q_ (show r=false from by rw[<-HR.o];exact e2_ E.o Hq.o);go_wp2_with fail;go_ret;exact⟨(by rw[HN.o];rfl),Y.o⟩
    | true=>
     go_wp2_with fail;go_roundw
     case rel=>exact⟨k+1,by have:=E.o;omega,by go_num,q_ ⟨Y.o,by rw[fo_,ac.o,Hq.o];rfl⟩⟩
     case measure=>simp[intOf];have:=E.o;omega
   ·have a2:¬(k:Int)<n:=by omega
    have ak:k=n:=by omega
    have HN:=q_ (show r=true from by rw[<-HR.o,<-ak];exact t.o.2);go_wp2_with fail;go_ret;exact⟨(by rw[HN.o];rfl),t.o.1⟩
 ·have am:¬((n:Int)=(m:Int)):=by omega
  rw[dF_ a7,Bool.false_and];go_wp2_with fail;go_ret;exact⟨rfl,XV _ _⟩
theorem ir_ (p:J_) (s:XJ):∀i,i<6->(c1_ p s)[1+i]?=(c_ p.v s)[i]?:=by
 intro i hi;rcases i with _ | _ | _ | _ | _ | _ | i
 ·rfl
 ·rfl
 ·rfl
 ·rfl
 ·rfl
 ·rfl
 ·omega
theorem Ec_ (p r:J_) (L:p.v.list=[]) (A B:Option Addr) (ca cb:Nat) (w:QV) :
    Calls QW 219 #[.agg (c1_ p (QQ A 0 ca)),.agg (c1_ r (QQ B r.v.list.length cb))] w (n_ (decide (p.key=r.key)&&cv_ p.v r.v) w):=by
 obtain⟨c,D⟩:=h9_ p (QQ A 0 ca);obtain⟨d,E⟩:=h9_ r (QQ B r.v.list.length cb);rw[D.o,E.o];obtain⟨z,j⟩:=a_ w.heap.size;obtain⟨w2,b⟩:=a_ ((w.alloc (XX c 69)).alloc (XX d 69));have f:=q_ (show XW w.heap.size w w2 from by rw[<-b.o];exact F_ w _ _);have q:=q_ (show w2.heap[z]?=some (XX c 69 (0,0)) from by rw[<-b.o,<-j.o];exact heap_alloc2_old w _ _);have s:=q_ (show w2.heap[z+1]?=some (XX d 69 (0,0)) from by rw[<-b.o,<-j.o];exact heap_alloc2_new w _ _);obtain⟨M,x⟩:=a_ p.key;obtain⟨N,y⟩:=a_ r.key;have p0:w2.cell? ⟨z,0,none⟩=some (QZ M):=(QX q.o 0).trans (by rw[<-D.o,<-x.o];rfl);have p1:w2.cell? ⟨z+1,0,none⟩=some (QZ N):=(QX s.o 0).trans (by rw[<-E.o,<-y.o];rfl);obtain⟨u,g⟩:=L_ p.v (QQ A 0 ca);obtain⟨v,h⟩:=L_ r.v (QQ B r.v.list.length cb);have T:=q_ (a2_.trans (congrArg some g.size.symm));have U:=q_ (a2_.trans (congrArg some h.size.symm));have X:=q_ (λi (hi:i<u.size)=>(show w2.cell? ((⟨z,1,none⟩:Addr).add i)=u[i]? from by rw[Addr.add_mid,UU w2 z (1+i) c _ _ q.o,<-g.o,<-D.o];exact ir_ p _ i (by rwa [g.size]at hi)));have Y:=q_ (λi (hi:i<v.size)=>(show w2.cell? ((⟨z+1,1,none⟩:Addr).add i)=v[i]? from by rw[Addr.add_mid,UU w2 (z+1) (1+i) d _ _ s.o,<-h.o,<-E.o];exact ir_ r _ i (by rwa [h.size]at hi)));have I:=λW:QV=>Es_ p.v r.v L A B ca cb W;rw[g.o,h.o]at I;have C:=q_ I;clear I L;obtain⟨t,O⟩:=a_ (cv_ p.v r.v);rw[O.o]at C ⊢;unfold n_ at C ⊢;rw[x.o,y.o];by_cases G:M=N
 ·subst G;rw[dT_ rfl,Bool.true_and];go_enter func219,ntmps219
  go_upto_region 1 with fail;rw[b.o,j.o];clear b
  go_wp2_with (first
   | ((with_reducible refine d_ (some 12) ?_);refine C_ (by rfl) 39 _ rfl rfl u _ X.o YV rfl T.o ?_)
   | ((with_reducible refine d_ (some 14) ?_);refine C_ (by rfl) 39 _ rfl rfl v _ Y.o YV rfl U.o ?_))
  refine (C.o _).mono ?_;rintro e x0 ⟨rfl,hb⟩;have J:=q_ (f.o.trans (hb.mono f.o.size));clear hb;go_wp2_with fail;go_ret;exact⟨rfl,J.o⟩
 ·rw[dF_ G,Bool.false_and];have Z:=br_ G;go_enter func219,ntmps219
  go_upto_region 1 with fail;rw[b.o,j.o];clear b;go_wp2_with fail;go_ret;exact⟨rfl,f.o⟩
theorem Dd_ (i s d J I G:Int) (t D:ByteArray) (A B:Option Addr) (n m ca cb:Nat) (w:QV) :
    Calls QW 142 #[.agg #[QY QU i,QY QU s,QY QU d,QZ t,QQ A n ca],.agg #[QY QU J,QY QU I,QY QU G,QZ D,QQ B m cb]] w (n_ (decide (i=J)&&decide (s=I)&&decide (d=G)&&decide (t=D)&&decide (n=0)&&decide (m=0)) w):=by
 obtain⟨z,E⟩:=a_ w.heap.size;obtain⟨w2,e⟩:=a_ ((w.alloc (XX #[QY QU i,QY QU s,QY QU d,QZ t,QQ A n ca] 74)).alloc (XX #[QY QU J,QY QU I,QY QU G,QZ D,QQ B m cb] 74));have f:=q_ (show XW w.heap.size w w2 from by rw[<-e.o];exact F_ w _ _);have b:=q_ (show w2.heap[z]?=some (XX #[QY QU i,QY QU s,QY QU d,QZ t,QQ A n ca] 74 (0,0)) from by rw[<-e.o,<-E.o];exact heap_alloc2_old w _ _);have c:=q_ (show w2.heap[z+1]?=some (XX #[QY QU J,QY QU I,QY QU G,QZ D,QQ B m cb] 74 (0,0)) from by rw[<-e.o,<-E.o];exact heap_alloc2_new w _ _);by_cases h0:i=J
 ·subst h0;by_cases h1:s=I
  ·subst h1;by_cases h2:d=G
   ·subst h2;by_cases L:t=D
    ·subst L;by_cases M:n=0
     ·subst M;by_cases N:m=0
      ·subst N;have g:=q_ (show true=(decide (i=i)&&decide (s=s)&&decide (d=d)&&decide (t=t)&&decide (0=0)&&decide (0=0)) from by simp);go_enter func142,ntmps142
       go_upto_region 1 with fail;rw[e.o,E.o];clear e;have h:=QX b.o 0;have j:=QX b.o 1;have p:=QX b.o 2;have q:=QX b.o 3;have r:=QX b.o 4;have u:=QX c.o 0;have v:=QX c.o 1;have x:=QX c.o 2;have y:=QX c.o 3;have C:=QX c.o 4;simp only[List.getElem?_toArray,List.getElem?_cons_zero,List.getElem?_cons_succ]at h j p q r u v x y C;go_wp2_with fail;go_ret
       first
        | exact E_ g.o f.o
        | exact E_ rfl f.o
      ·have g:=q_ (show false=(decide (i=i)&&decide (s=s)&&decide (d=d)&&decide (t=t)&&decide (0=0)&&decide (m=0)) from by simp[N]);have t5:((m:Int)==0)=false:=by simp;omega
       go_enter func142,ntmps142
       go_upto_region 1 with fail;rw[e.o,E.o];clear e;have h:=QX b.o 0;have j:=QX b.o 1;have p:=QX b.o 2;have q:=QX b.o 3;have r:=QX b.o 4;have u:=QX c.o 0;have v:=QX c.o 1;have x:=QX c.o 2;have y:=QX c.o 3;have C:=QX c.o 4;simp only[List.getElem?_toArray,List.getElem?_cons_zero,List.getElem?_cons_succ]at h j p q r u v x y C;go_wp2_with fail;go_ret
       first
        | exact E_ g.o f.o
        | exact E_ rfl f.o
     ·have g:=q_ (show false=(decide (i=i)&&decide (s=s)&&decide (d=d)&&decide (t=t)&&decide (n=0)&&decide (m=0)) from by simp[M]);have W:((n:Int)==0)=false:=by simp;omega
      go_enter func142,ntmps142
      go_upto_region 1 with fail;rw[e.o,E.o];clear e;have h:=QX b.o 0;have j:=QX b.o 1;have p:=QX b.o 2;have q:=QX b.o 3;have r:=QX b.o 4;have u:=QX c.o 0;have v:=QX c.o 1;have x:=QX c.o 2;have y:=QX c.o 3;have C:=QX c.o 4;simp only[List.getElem?_toArray,List.getElem?_cons_zero,List.getElem?_cons_succ]at h j p q r u v x y C;go_wp2_with fail;go_ret
      first
       | exact E_ g.o f.o
       | exact E_ rfl f.o
    ·have g:=q_ (show false=(decide (i=i)&&decide (s=s)&&decide (d=d)&&decide (t=D)&&decide (n=0)&&decide (m=0)) from by simp[L]);have U:=br_ L;go_enter func142,ntmps142
     go_upto_region 1 with fail;rw[e.o,E.o];clear e;have h:=QX b.o 0;have j:=QX b.o 1;have p:=QX b.o 2;have q:=QX b.o 3;have r:=QX b.o 4;have u:=QX c.o 0;have v:=QX c.o 1;have x:=QX c.o 2;have y:=QX c.o 3;have C:=QX c.o 4;simp only[List.getElem?_toArray,List.getElem?_cons_zero,List.getElem?_cons_succ]at h j p q r u v x y C;go_wp2_with fail;go_ret
     first
      | exact E_ g.o f.o
      | exact E_ rfl f.o
   ·have g:=q_ (show false=(decide (i=i)&&decide (s=s)&&decide (d=G)&&decide (t=D)&&decide (n=0)&&decide (m=0)) from by simp[h2]);have D:(d==G)=false:=by simpa using h2
    go_enter func142,ntmps142
    go_upto_region 1 with fail;rw[e.o,E.o];clear e;have h:=QX b.o 0;have j:=QX b.o 1;have p:=QX b.o 2;have q:=QX b.o 3;have r:=QX b.o 4;have u:=QX c.o 0;have v:=QX c.o 1;have x:=QX c.o 2;have y:=QX c.o 3;have C:=QX c.o 4;simp only[List.getElem?_toArray,List.getElem?_cons_zero,List.getElem?_cons_succ]at h j p q r u v x y C;go_wp2_with fail;go_ret
    first
     | exact E_ g.o f.o
     | exact E_ rfl f.o
  ·have g:=q_ (show false=(decide (i=i)&&decide (s=I)&&decide (d=G)&&decide (t=D)&&decide (n=0)&&decide (m=0)) from by simp[h1]);have T:(s==I)=false:=by simpa using h1
   go_enter func142,ntmps142
   go_upto_region 1 with fail;rw[e.o,E.o];clear e;have h:=QX b.o 0;have j:=QX b.o 1;have p:=QX b.o 2;have q:=QX b.o 3;have r:=QX b.o 4;have u:=QX c.o 0;have v:=QX c.o 1;have x:=QX c.o 2;have y:=QX c.o 3;have C:=QX c.o 4;simp only[List.getElem?_toArray,List.getElem?_cons_zero,List.getElem?_cons_succ]at h j p q r u v x y C;go_wp2_with fail;go_ret
   first
    | exact E_ g.o f.o
    | exact E_ rfl f.o
 ·have g:=q_ (show false=(decide (i=J)&&decide (s=I)&&decide (d=G)&&decide (t=D)&&decide (n=0)&&decide (m=0)) from by simp[h0]);have O:(i==J)=false:=by simpa using h0
  go_enter func142,ntmps142
  go_upto_region 1 with fail;rw[e.o,E.o];clear e;have h:=QX b.o 0;have j:=QX b.o 1;have p:=QX b.o 2;have q:=QX b.o 3;have r:=QX b.o 4;have u:=QX c.o 0;have v:=QX c.o 1;have x:=QX c.o 2;have y:=QX c.o 3;have C:=QX c.o 4;simp only[List.getElem?_toArray,List.getElem?_cons_zero,List.getElem?_cons_succ]at h j p q r u v x y C;go_wp2_with fail;go_ret
  first
   | exact E_ g.o f.o
   | exact E_ rfl f.o
def i9_ (w:QV) (A:Option Addr) (l:List ByteArray):Prop:=∀i x,l[i]?=QJ x->∃ad,A=QJ ad/\ad.block<w.heap.size/\w.cell? (ad.add i)=QJ (QZ x)
theorem i9_.on {w w':QV} {A:Option Addr} {l:List ByteArray} (h:i9_ w A l) (hb:XW w.heap.size w w'):i9_ w' A l:=λi x b=>by
 obtain⟨ad,e,h1,h2⟩:=h i x b;exact⟨ad,e,XZ h1 hb.size,by rw[hb.cell (p:=ad.add i) (by rw[A_];exact h1)];exact h2⟩
theorem K6_ (l r:List ByteArray) (A B:Option Addr) (n m ca cb:Nat) (w:QV) (Z:l.length=n) (hr:r.length=m) (hn:n<=1000000000) (X:i9_ w A l) (Y:i9_ w B r) :
    Calls QW 217 #[QQ A n ca,QQ B m cb] w (n_ (decide (l=r)) w):=by
 have L:=q_ X;have N:=q_ Y;have E:=q_ Z;have G:=q_ hr;obtain⟨t,z⟩:=a_ (decide (l=r));rw[z.o];unfold n_;clear X Y Z hr;go_enter func217,ntmps217
 by_cases D:n=m
 ·subst D;go_wp2_with fail;go_loopw [13] (λv d=>∃k:Nat,k<=n/\v = QY QU (k:Nat)/\Q_ (XW w.heap.size w d/\l.take k=r.take k)) (λv _=>n-(intOf v).toNat)
  case atStart=>exact⟨0,by omega,rfl,q_ ⟨XV _ _,rfl⟩⟩
  case round=>
   rename QV=>d
   obtain⟨k,hk,rfl,g⟩:=hrel;by_cases h:k<n
   ·have a1:(0:Int)<=k:=by omega
    have a2:(k:Int)<n:=by omega
    have w1:IntKind.i64.wrap ((k:Int)+1)=(k:Int)+1:=YU _ (by omega);have C:=q_ h;have f:=q_ g.o.1;have M:=q_ g.o.2;obtain⟨x,I⟩:∃x,l[k]?=some x:=⟨_,XQ (by rw[E.o];exact h)⟩;obtain⟨y,J⟩:∃y,r[k]?=some y:=⟨_,XQ (by rw[G.o];exact h)⟩;have q:=q_ I;have s:=q_ J;obtain⟨ad,rfl,_,pa⟩:=L.o.on g.o.1 k x I;obtain⟨u,rfl,_,pb⟩:=N.o.on g.o.1 k y J;have O:=q_ (λ(W:QV) (hb:XW d.heap.size d W)=>(show W.cell? (ad.add k)=some (QZ x) from by obtain⟨U,e,_,p⟩:=L.o.on (f.o.trans (hb.mono f.o.size)) k x q.o;injection e with e;rw[e];exact p));have T:=q_ (λ(W:QV) (hb:XW d.heap.size d W)=>(show W.cell? (u.add k)=some (QZ y) from by obtain⟨U,e,_,p⟩:=N.o.on (f.o.trans (hb.mono f.o.size)) k y s.o;injection e with e;rw[e];exact p));clear I J g h;by_cases i:x=y
    ·subst i;go_upto_region 6 with fail;refine UZ (S:=λW:QV=>XW d.heap.size d W) (by kernel_rfl) (XV _ _).drew λb=>?_;refine H_.o ?_;refine O_ 0 16 (QQ (QJ ad) n ca) b λb=>?_;refine O_ 1 17 (QY QU (k:Nat)) b λb=>?_;refine O_ 2 18 (YK (QJ (ad.add k))) b λb=>?_;refine tlW 3 19 (QZ x) b (λw c=>?_) λb=>?_
     ·have p:=O.o w c;unfold z_;go_simp
     refine O_ 4 20 (QQ (QJ u) n cb) b λb=>?_;refine O_ 5 21 (QY QU (k:Nat)) b λb=>?_;refine O_ 6 22 (YK (QJ (u.add k))) b λb=>?_;refine tlW 7 23 (QZ x) b (λw c=>?_) λb=>?_
     ·have p:=T.o w c;unfold z_;go_simp
     refine O_ 8 24 (XY false) b λb=>?_;refine⟨VX (by kernel_rfl) ?_ _⟩;clear b;go_wp2_with fail;go_roundw
     case rel=>exact⟨k+1,by have:=C.o;omega,by go_num,q_ ⟨f.o.drew,by rw[f_ q.o,f_ s.o,M.o]⟩⟩
     case measure=>simp[intOf];have:=C.o;omega
    ·have a0:=br_ i;have j:=q_ (show t=false from by rw[<-z.o];refine dF_ (λe=>i ?_);have h1:=q.o;rw[e,s.o]at h1;injection h1 with h1;exact h1.symm);clear i;go_upto_region 6 with fail;refine UZ (S:=λW:QV=>XW d.heap.size d W) (by kernel_rfl) (XV _ _).drew λb=>?_;refine H_.o ?_;refine O_ 0 16 (QQ (QJ ad) n ca) b λb=>?_;refine O_ 1 17 (QY QU (k:Nat)) b λb=>?_;refine O_ 2 18 (YK (QJ (ad.add k))) b λb=>?_;refine tlW 3 19 (QZ x) b (λw c=>?_) λb=>?_
     ·have p:=O.o w c;unfold z_;go_simp
     refine O_ 4 20 (QQ (QJ u) n cb) b λb=>?_;refine O_ 5 21 (QY QU (k:Nat)) b λb=>?_;refine O_ 6 22 (YK (QJ (u.add k))) b λb=>?_;refine tlW 7 23 (QZ y) b (λw c=>?_) λb=>?_
     ·have p:=T.o w c;unfold z_;go_simp
     refine O_ 8 24 (XY true) b λb=>?_;refine⟨VX (by kernel_rfl) ?_ _⟩;clear b;go_wp2_with fail;go_ret;exact⟨(by rw[j.o];rfl),f.o.drew⟩
   ·have a2:¬(k:Int)<n:=by omega
    have a3:k=n:=by omega
    have j:=q_ (show t=true from by rw[<-z.o];refine dT_ ?_;have h1:=g.o.2;rwa [YJ (by rw[E.o];omega),YJ (by rw[G.o];omega)]at h1);go_wp2_with fail;go_ret;exact⟨(by rw[j.o];rfl),g.o.1⟩
 ·have a0:¬((n:Int)=(m:Int)):=by omega
  have j:=q_ (show t=false from by rw[<-z.o];exact dF_ (λe=>D (by rw[<-E.o,<-G.o,e])));go_wp2_with fail;go_ret;exact⟨(by rw[j.o];rfl),XV _ _⟩
noncomputable def nt_ (p r:J_):Bool:=decide (p.key=r.key)&&cv_ p.v r.v
theorem A3_ {p r:J_}:nt_ p r=true↔p=r:=by
 unfold nt_;rw[YW,decide_eq_true_eq,fm_]
 cases p
 cases r;simp
def at2 {α : Type} (f:α -> α -> Bool) (l r:List α) (i:Nat):Bool:=match l[i]?,r[i]? with | some x,some y=>f x y | _,_=>true
def gr_ {α : Type} (f:α -> α -> Bool) (l r:List α):Bool:=decide (l.length=r.length)&&(List.range l.length).all (at2 f l r)
theorem ky_ {α : Type} {f:α -> α -> Bool} {l r:List α} (b:∀x,x∈l->∀y,y∈r->(f x y=true↔x=y)):gr_ f l r=true↔l=r:=by
 unfold gr_;rw[YW,decide_eq_true_eq,List.all_eq_true];constructor
 ·rintro⟨h1,h2⟩;refine List.ext_getElem? λi=>?_;by_cases hi:i<l.length
  ·have c:i<r.length:=by omega
   have h:=h2 i (List.mem_range.2 hi);unfold at2 at h;rw[XQ hi,XQ c]at h ⊢;rw[(b _ (List.getElem_mem hi) _ (List.getElem_mem c)).1 h]
  ·rw[ZK (by omega),ZK (by omega)]
 ·rintro rfl;refine⟨rfl,λi hi=>?_⟩;have hi:=List.mem_range.1 hi;unfold at2;rw[XQ hi];exact (b _ (List.getElem_mem hi) _ (List.getElem_mem hi)).2 rfl
noncomputable def f1_ (a b:i_):Bool:=decide (a.id=b.id)&&(decide (a.labels=b.labels)&&gr_ nt_ a.props b.props)
theorem ra_ {a b:i_}:f1_ a b=true↔a=b:=by
 unfold f1_;rw[YW,YW,decide_eq_true_eq,decide_eq_true_eq,ky_ λx _ y _=>A3_]
 cases a
 cases b;simp
theorem ff_ {α : Type} {R:bu_ α} {sz:Nat} {w:QV} {F:Nat->Prop} {l:List α} {A:Option Addr} {n:Nat} (h:SRd sz R w F l A n) (r:∀b,F b->b<w.heap.size) (p:∀x c,R w F x c->c.all (·.oneCell')=true) :
    ∃cs:Nat->Array XJ,em_ w sz A n cs/\∀i x,l[i]?=QJ x->R w F x (cs i):=by
 have q:∀i,∃c:Array XJ,∀x,l[i]?=QJ x->(∃ad,A=QJ ad/\F ad.block/\c.size=sz/\(∀j,j<sz->w.cell? (ad.add (i*sz+j))=c[j]?))/\R w F x c:=λi=>by
  by_cases hi:i<l.length
  ·obtain⟨ad,c,e,o,h1,h2,g⟩:=h.at_ (XQ hi);refine⟨c,λx d=>?_⟩;rw[XQ hi]at d;injection d with d;exact⟨⟨ad,e,o,h1,h2⟩,d▸g⟩
  ·exact⟨#[],λx d=>by rw[ZK (by omega)]at d;cases d⟩
 obtain⟨cs,f⟩:=Classical.skolem.1 q;refine⟨cs,λi hi=>?_,λi x d=>(f i x d).2⟩;have hi:i<l.length:=by rw[<-h.1];exact hi
 obtain⟨⟨ad,e,o,h1,h2⟩,g⟩:=f i _ (XQ hi);exact⟨ad,e,r _ o,h1,p _ _ g,h2⟩
theorem y0_ {w:QV} {F:Nat->Prop} {l:List ByteArray} {A:Option Addr} {n:Nat} (h:SRd 1 TxR w F l A n) (f:∀b,F b->b<w.heap.size):i9_ w A l:=λi x j=>by
 obtain⟨ad,c,e,g,_,h2,d⟩:=h.at_ j;have d:c=#[QZ x]:=d;refine⟨ad,e,f _ g,?_⟩;have:=h2 0 (by omega);rw[Nat.mul_one,Nat.add_zero,d]at this;exact this
theorem i1_ {w:QV} {F:Nat->Prop} {p:J_} {c:Array XJ} (h:PaR w F p c):∃A b,c=c1_ p (QQ A p.v.list.length b):=by obtain⟨s,rfl,f⟩:=h;obtain⟨A,b,e,_⟩:=f.inv;refine⟨A,b,?_⟩;unfold c_ at e;injection e with e;have d:=congrArg (λa:Array XJ=>a[5]?) e;have d:QJ s=QJ (QQ A p.v.list.length b):=d;injection d with d;rw[d]
theorem Cc_ {w:QV} {F:Nat->Prop} {p:J_} {c:Array XJ} (h:PaR w F p c):c.all (·.oneCell')=true:=by obtain⟨A,b,rfl⟩:=i1_ h;kernel_rfl
theorem tj_ (a b:i_) (F G:Nat->Prop) (u v:Array XJ) (w:QV) (hF:∀g,F g->g<w.heap.size) (hG:∀g,G g->g<w.heap.size) (h1:NoR w F a u) (h2:NoR w G b v) (hn:a.labels.length<=1000000000/\a.props.length<=1000000000) (hl:∀p,p∈a.props->p.v.list=[]) :
    Calls QW 141 #[.agg u,.agg v] w (n_ (f1_ a b) w):=by
 obtain⟨_,_,rfl,⟨A,I,rfl,_,a1⟩,⟨B,J,rfl,_,a2⟩⟩:=h1;obtain⟨_,_,rfl,⟨C,L,rfl,_,a3⟩,⟨D,M,rfl,_,a4⟩⟩:=h2;obtain⟨cs,a6,a5⟩:=ff_ a2 hF λ_ _ h=>Cc_ h;obtain⟨ds,a8,a7⟩:=ff_ a4 hG λ_ _ h=>Cc_ h;have f:=q_ λ(W:QV) (hb:XW w.heap.size w W)=>K6_ a.labels b.labels A C _ _ I L W rfl rfl hn.1 ((y0_ a1 hF).on hb) ((y0_ a3 hG).on hb)
 have j:=q_ (λ(W:QV) (hb:XW w.heap.size w W)=>Dm_ cs ds (at2 nt_ a.props b.props) B D _ _ J M W hn.2 (a6.on hb) (a8.on hb) (λi hi hj W2 _=>by
  have e1:=XQ hi;have e2:=XQ hj;obtain⟨P,q,e3⟩:=i1_ (a5 i _ e1);obtain⟨Q,q',e4⟩:=i1_ (a7 i _ e2);have hz:=hl _ (List.getElem_mem hi);rw[hz]at e3;have:=Ec_ a.props[i] b.props[i] hz P Q q q' W2;unfold at2;rw[e1,e2,e3,e4];exact this))
 obtain⟨i,Hi⟩:=a_ a.id;obtain⟨y,aa⟩:=a_ b.id;obtain⟨n1,X⟩:=a_ a.labels.length;obtain⟨n2,Y⟩:=a_ a.props.length;obtain⟨m1,T⟩:=a_ b.labels.length;obtain⟨m2,U⟩:=a_ b.props.length;obtain⟨x1,Z⟩:=a_ (decide (a.labels=b.labels));obtain⟨x2,a0⟩:=a_ (gr_ nt_ a.props b.props);unfold f1_;rw[Z.o]at f;have N:=q_ (show (decide (a.props.length=b.props.length)&&(List.range a.props.length).all (at2 nt_ a.props b.props))=x2 from a0.o);rw[N.o]at j;rw[X.o,T.o]at f;rw[Y.o,U.o]at j;rw[Z.o,a0.o,Hi.o,aa.o,X.o,Y.o,T.o,U.o];clear a1 a2 a3 a4 a6 a5 a8 a7 hl hn hF hG N;obtain⟨z,E⟩:=a_ w.heap.size;obtain⟨w2,c⟩:=a_ ((w.alloc (XX #[QY QU i,QQ A n1 I,QQ B n2 J] 72)).alloc (XX #[QY QU y,QQ C m1 L,QQ D m2 M] 72));have d:=q_ (show XW w.heap.size w w2 from by rw[<-c.o];exact F_ w _ _);have s:=q_ (show w2.heap[z]?=some (XX #[QY QU i,QQ A n1 I,QQ B n2 J] 72 (0,0)) from by rw[<-c.o,<-E.o];exact heap_alloc2_old w _ _);have t:=q_ (show w2.heap[z+1]?=some (XX #[QY QU y,QQ C m1 L,QQ D m2 M] 72 (0,0)) from by rw[<-c.o,<-E.o];exact heap_alloc2_new w _ _);have p0:w2.cell? ⟨z,0,none⟩=some (QY QU i):=QX s.o 0;have q0:w2.cell? ⟨z+1,0,none⟩=some (QY QU y):=QX t.o 0;unfold n_ at f j;by_cases hi:i=y
 ·subst hi;rw[dT_ rfl,Bool.true_and];obtain⟨r,Hr⟩:=a_ (x1&&x2);rw[Hr.o];have p1:w2.cell? ⟨z,1,QK⟩=QJ (QQ A n1 I):=QX s.o 1;have q1:w2.cell? ⟨z+1,1,QK⟩=QJ (QQ C m1 L):=QX t.o 1;unfold n_;go_enter func141,ntmps141
  go_upto_region 1 with fail;rw[c.o,E.o];clear c;go_wp2_with fail;refine (f.o w2 d.o).mono ?_;rintro e x0 ⟨rfl,hb⟩;have O:=q_ hb;have x:=q_ (d.o.trans (hb.mono d.o.size));clear hb
  cases x1 with
  | false=>
   have HN:=q_ (show false=r from Hr.o);go_wp2_with fail;go_ret;exact⟨(by rw[<-HN.o];rfl),x.o⟩
  | true=>
   have HN:=q_ (show x2=r from Hr.o);have p2:x0.cell? ⟨z,2,QK⟩=QJ (QQ B n2 J):=(O.o.cell (b_ s.o)).trans (QX s.o 2);have q2:x0.cell? ⟨z+1,2,QK⟩=QJ (QQ D m2 M):=(O.o.cell (b_ t.o)).trans (QX t.o 2);go_wp2_with fail;refine (j.o x0 x.o).mono ?_;rintro e x5 ⟨rfl,hb⟩;have a9:=q_ (x.o.trans (hb.mono x.o.size));clear hb;go_wp2_with fail;go_ret;exact⟨(by rw[<-HN.o];rfl),a9.o⟩
 ·rw[dF_ hi,Bool.false_and];have t3:(i==y)=false:=by simpa using hi
  unfold n_;go_enter func141,ntmps141
  go_upto_region 1 with fail;rw[c.o,E.o];clear c;go_wp2_with fail;go_ret;exact⟨rfl,d.o⟩
def nr_ (x y:l_):Bool:=decide (x.id=y.id)&&decide (x.src=y.src)&&decide (x.dst=y.dst)&&decide (x.type=y.type)&&decide (x.props.length=0)&&decide (y.props.length=0)
theorem A0_ {x y:l_} (e:x.props=[]):nr_ x y=true↔x=y:=by
 unfold nr_;simp only[YW,decide_eq_true_eq,List.length_eq_zero_iff]
 cases x
 cases y;simp only at e;subst e;simp only[l_.mk.injEq];constructor
 ·rintro⟨⟨⟨⟨⟨h1,h2⟩,b⟩,c⟩,_⟩,d⟩;exact⟨h1,h2,b,c,d.symm⟩
 ·rintro⟨h1,h2,b,c,d⟩;exact⟨⟨⟨⟨⟨h1,h2⟩,b⟩,c⟩,trivial⟩,d.symm⟩
noncomputable def ns_ (g h:D_):Bool:=gr_ f1_ g.nodes h.nodes&&gr_ nr_ g.edges h.edges
theorem A1_ {g h:D_} (b:∀e,e∈g.edges->e.props=[]):ns_ g h=true↔g=h:=by
 unfold ns_;rw[YW,ky_ λx _ y _=>ra_,ky_ λx c y _=>A0_ (b x c)]
 cases g
 cases h;simp
theorem vb_ {w:QV} {F:Nat->Prop} {x:i_} {c:Array XJ} (h:NoR w F x c):c.all (·.oneCell')=true:=by obtain⟨_,_,rfl,⟨_,_,rfl,_⟩,⟨_,_,rfl,_⟩⟩:=h;kernel_rfl
theorem ur_ {w:QV} {F:Nat->Prop} {x:l_} {c:Array XJ} (h:EdR w F x c):c.all (·.oneCell')=true:=by obtain⟨_,rfl,⟨_,_,rfl,_⟩⟩:=h;kernel_rfl
theorem qa_ {w:QV} {F:Nat->Prop} {x:l_} {c:Array XJ} (h:EdR w F x c):∃A b,c=#[QY QU x.id,QY QU x.src,QY QU x.dst,QZ x.type,QQ A x.props.length b]:=by obtain⟨_,rfl,⟨A,b,rfl,_⟩⟩:=h;exact⟨A,b,rfl⟩
theorem z4_ (g h:D_) (F G:Nat->Prop) (u v:XJ) (w:QV) (f:∀b,F b->b<w.heap.size) (j:∀b,G b->b<w.heap.size) (h1:GrR w F g u) (h2:GrR w G h v) (hn:g.nodes.length<=1000000000/\g.edges.length<=1000000000)
    (hl:∀n,n∈g.nodes->n.labels.length<=1000000000/\n.props.length<=1000000000/\∀p,p∈n.props->p.v.list=[]) :
    Calls QW 79 #[u,v] w (n_ (ns_ g h) w):=by
 obtain⟨_,_,rfl,⟨t,J,rfl,_,a7⟩,⟨x,L,rfl,_,a8⟩⟩:=h1;obtain⟨_,_,rfl,⟨y,M,rfl,_,a9⟩,⟨A,N,rfl,_,c⟩⟩:=h2
 have D:=q_ (show ∀W:QV,XW w.heap.size w W->Calls QW 143 #[QQ t g.nodes.length J,QQ y h.nodes.length M,.func (.func 141) #[] #[]] W (n_ (gr_ f1_ g.nodes h.nodes) W) from λW hb=>by
  obtain⟨cs,X,U⟩:=ff_ (a7.under NoR.good hb f) (λb k=>XZ (f b k) hb.size) λ_ _ h=>vb_ h;obtain⟨ds,Z,Y⟩:=ff_ (a9.under NoR.good hb j) (λb k=>XZ (j b k) hb.size) λ_ _ h=>vb_ h;refine Dl_ cs ds (at2 f1_ g.nodes h.nodes) t y _ _ J M W hn.1 X Z (λi hi hj W2 c=>?_);have O:=XQ hi;have T:=XQ hj;have hz:=hl _ (List.getElem_mem hi);have:=tj_ g.nodes[i] h.nodes[i] F G (cs i) (ds i) W2 (λb k=>XZ (f b k) (hb.trans (c.mono hb.size)).size) (λb k=>XZ (j b k) (hb.trans (c.mono hb.size)).size) (NoR.good.keep (U i _ O) (λp hp=>c.cell (XZ (f _ hp) hb.size))) (NoR.good.keep (Y i _ T) (λp hp=>c.cell (XZ (j _ hp) hb.size))) ⟨hz.1,hz.2.1⟩ hz.2.2;unfold at2;rw[O,T];exact this)
 have C:=q_ (show ∀W:QV,XW w.heap.size w W->Calls QW 144 #[QQ x g.edges.length L,QQ A h.edges.length N,.func (.func 142) #[] #[]] W (n_ (gr_ nr_ g.edges h.edges) W) from λW hb=>by
  obtain⟨cs,X,U⟩:=ff_ (a8.under EdR.good hb f) (λb k=>XZ (f b k) hb.size) λ_ _ h=>ur_ h;obtain⟨ds,Z,Y⟩:=ff_ (c.under EdR.good hb j) (λb k=>XZ (j b k) hb.size) λ_ _ h=>ur_ h;refine Dk_ cs ds (at2 nr_ g.edges h.edges) x A _ _ L N W hn.2 X Z (λi hi hj W2 c=>?_);have O:=XQ hi;have T:=XQ hj;obtain⟨P,q,e3⟩:=qa_ (U i _ O);obtain⟨Q,q',e4⟩:=qa_ (Y i _ T);unfold at2;rw[O,T,e3,e4];exact Dd_ _ _ _ _ _ _ _ _ _ _ _ _ _ _ W2)
 unfold ns_;obtain⟨n1,a3⟩:=a_ g.nodes.length;obtain⟨n2,a4⟩:=a_ g.edges.length;obtain⟨m1,a1⟩:=a_ h.nodes.length;obtain⟨m2,a2⟩:=a_ h.edges.length;obtain⟨x1,a5⟩:=a_ (gr_ f1_ g.nodes h.nodes);obtain⟨x2,a6⟩:=a_ (gr_ nr_ g.edges h.edges);rw[a5.o,a3.o,a1.o]at D;rw[a6.o,a4.o,a2.o]at C;rw[a5.o,a6.o,a3.o,a4.o,a1.o,a2.o];clear a7 a8 a9 c hl hn f j;obtain⟨z,Hz⟩:=a_ w.heap.size;obtain⟨w2,d⟩:=a_ ((w.alloc (XX #[QQ t n1 J,QQ x n2 L] 54)).alloc (XX #[QQ y m1 M,QQ A m2 N] 54));have B:=q_ (show XW w.heap.size w w2 from by rw[<-d.o];exact F_ w _ _);have E:=q_ (show w2.heap[z]?=QJ (XX #[QQ t n1 J,QQ x n2 L] 54 (0,0)) from by rw[<-d.o,<-Hz.o];exact heap_alloc2_old w _ _);have I:=q_ (show w2.heap[z+1]?=QJ (XX #[QQ y m1 M,QQ A m2 N] 54 (0,0)) from by rw[<-d.o,<-Hz.o];exact heap_alloc2_new w _ _);have p0:w2.cell? ⟨z,0,QK⟩=QJ (QQ t n1 J):=QX E.o 0;have q0:w2.cell? ⟨z+1,0,QK⟩=QJ (QQ y m1 M):=QX I.o 0;obtain⟨r,Hr⟩:=a_ (x1&&x2);rw[Hr.o];unfold n_ at D C ⊢;go_enter func79,ntmps79
 go_upto_region 1 with fail;rw[d.o,Hz.o];clear d;go_wp2_with fail;refine (D.o w2 B.o).mono ?_;rintro e x0 ⟨rfl,hb⟩;have a0:=q_ hb;have s:=q_ (B.o.trans (hb.mono B.o.size));clear hb
 cases x1 with
 | false=>
  have HN:=q_ (show false=r from Hr.o);go_wp2_with fail;go_ret;exact⟨(by rw[<-HN.o];rfl),s.o⟩
 | true=>
  have HN:=q_ (show x2=r from Hr.o);have p2:x0.cell? ⟨z,1,QK⟩=QJ (QQ x n2 L):=(a0.o.cell (b_ E.o)).trans (QX E.o 1);have q2:x0.cell? ⟨z+1,1,QK⟩=QJ (QQ A m2 N):=(a0.o.cell (b_ I.o)).trans (QX I.o 1);go_wp2_with fail;refine (C.o x0 s.o).mono ?_;rintro e x5 ⟨rfl,hb⟩;have aa:=q_ (s.o.trans (hb.mono s.o.size));clear hb;go_wp2_with fail;go_ret;exact⟨(by rw[<-HN.o];rfl),aa.o⟩
abbrev CVm:g_->Array XJ->Prop:=λv c=>gu_ c v
theorem hg_ {c:Array XJ} {v:g_} (h:gu_ c v):c.size=6:=ag_.size h
theorem D8_ {a b:g_} {ca cb:Array XJ} (f:gu_ ca a) (hb:gu_ cb b) (w:QV):Calls QW 116 #[QY QU 1,.agg ca,.agg cb] w (b7_ a b w):=by obtain⟨e,A,c,rfl⟩:=f;obtain⟨g,B,d,rfl⟩:=hb;exact fd_ a b _ _ w e.k5 e.fit g.fit
theorem Az_ {a b:g_} {ca cb:Array XJ} (e:gu_ ca a) (hb:gu_ cb b) (w:QV):Calls QW 22 #[.agg ca,.agg cb] w (n_ (cv_ a b) w):=by obtain⟨f,A,c,rfl⟩:=e;obtain⟨g,B,d,rfl⟩:=hb;exact Er_ f g A B c d w
theorem Cv_ (b c d e f g:XJ) (w:QV):(UQ 37 1 #[(0,.agg #[b,c,d,e,f,g])]).run QW w = .ok (QQ (QJ ⟨w.heap.size,0,QK⟩) 1 1) (w.alloc (XX #[b,c,d,e,f,g] 39)):=by kernel_rfl
theorem wa_ (c:Array XJ) (b:c.size=6) (w:QV):(UQ 37 1 #[(0,.agg c)]).run QW w = .ok (QQ (QJ ⟨w.heap.size,0,QK⟩) 1 1) (w.alloc (XX c 39)):=by
 obtain⟨l⟩:=c;match l,b with
 | [x0,x1,x2,x3,x4,x5],_=>exact Cv_ x0 x1 x2 x3 x4 x5 w
theorem lr_ (ad:Addr) (n b k:Nat) (e:k<n) (w:QV):(Instr.indexAt 37 (QQ (QJ ad) n b) (QY QU (k:Nat))).run QW w = .ok (YK (QJ (ad.add (k*6)))) w:=by
 have c:(0:Int)<=k:=by omega
 have d:(k:Int)<n:=by omega
 go_simp
def uc_ (b:QV) (l:List g_) (v:g_) (e:Ending) (w':QV):Prop:=∃S',e = YQ S'/\LdP 39 6 CVm b (dj_ y_ l v) S' w'
theorem yj_ {E w:QV} {l:List g_} {S:XJ} (h:LdP 39 6 CVm E l S w) (hl:l.length<=200000) (v:g_) (u:Array XJ) (hu:gu_ u v) :
    Calls QW 72 #[S,.agg u] w (uc_ E l v):=by
 unfold uc_;obtain⟨m,T⟩:=a_ l.length;have q:=q_ (show m<=200000 from by rw[<-T.o];exact hl);obtain⟨A5,j,rfl,bt,bl⟩:∃A c,S = QQ A m c/\m<=c/\(A=QK->c=0):=by obtain⟨A,c,e,h1,h2⟩:=h.own.form;rw[T.o]at e h1;exact⟨A,c,e,h1,h2⟩
 have az:=q_ bt;have a1:=q_ bl;have b5:=q_ hu;have IU:=q_ (ai_.trans (congrArg QJ (hg_ hu).symm));have ZU:=q_ (hg_ hu);obtain⟨i0,bq,bw,bx,bz⟩:=info_parts sw_;have X:=q_ bq;have Z:=q_ bw;have Y:=q_ bx;have W:=q_ bz;obtain⟨U,bp⟩:=a_ w.heap.size;obtain⟨w1,b0⟩:=a_ (w.alloc (XX u 39));have bm:=q_ (show LdP 39 6 CVm E l (QQ A5 m j) w1 from by rw[<-b0.o];exact h.on ((XV _ _).alloc (XK _) _));have G:=q_ (show w1.heap[U]?=QJ (XX u 39 (0,0)) from by rw[<-b0.o,<-bp.o];exact XU w _);clear h hl hu bt bl bq bw bx bz;go_enter func72,ntmps72
 go_upto_region 1 with fail;rw[b0.o,bp.o];clear b0;go_wp2_with fail;go_loopw [5] (λs5 wx=>∃k:Nat,k<=m/\s5 = QY QU (k:Nat)/\Q_ (LdP 39 6 CVm E l (QQ A5 m j) wx/\wx.heap[U]?=QJ (XX u 39 (0,0))/\a3_ y_ v l m=a3_ y_ v l k)) (λs5 _=>(intOf s5).toNat)
 case atStart=>exact⟨m,by omega,rfl,q_ ⟨bm.o,G.o,rfl⟩⟩
 case round=>
  obtain⟨g,bs,rfl,hQ⟩:=hrel;clear bm G;by_cases bk:g=0
  ·have HM:=q_ hQ.o.1;have G:=q_ hQ.o.2.1;have aq:=q_ (show dj_ y_ l v=l.take g++([v]++l.drop g) from by rw[bk];exact xf_ (by rw[T.o,hQ.o.2.2,bk];exact tt_));have s:=q_ bs;have g0:¬(0:Int)<g:=by omega
   have g1:¬0<g:=by omega
   clear hQ bk;go_upto_region 2 with fail;refine UZ (S:=λC=>LdP 39 6 CVm E l (QQ A5 m j) C/\C.heap[U]?=QJ (XX u 39 (0,0))) (by kernel_rfl) ⟨HM.o.drew,G.o⟩ λd=>?_;refine H_.o ?_;refine O_ 0 9 (QY QU (g:Nat)) d λd=>?_;refine O_ 1 10 (XY false) d λd=>?_;refine O_ 2 11 (XY false) d λd=>?_;refine r_ 3 12 (by kernel_rfl) (by rfl) (by kernel_rfl) (by kernel_rfl) (by kernel_rfl) (λ_ _ _ h=>h) d λd=>?_;(try simp only[VK,aT,aZ,aS]);refine r_ 4 13 (by kernel_rfl) (by rfl) (by kernel_rfl) (by kernel_rfl) (by kernel_rfl) (λ_ _ _ h=>h) d λd=>?_;(try simp only[VK,aT,aZ,aS]);refine r_ 5 14 (by kernel_rfl) (by rfl) (by kernel_rfl) (by kernel_rfl) (by kernel_rfl) (λ_ _ _ h=>h) d λd=>?_;(try simp only[VK,aT,aZ,aS]);refine r_ 6 15 (by kernel_rfl) (by rfl) (by kernel_rfl) (by kernel_rfl) (by kernel_rfl) (λ_ _ _ h=>h) d λd=>?_;(try simp only[VK,aT,aZ,aS]);refine r_ 7 16 (by kernel_rfl) (by rfl) (by kernel_rfl) (by kernel_rfl) (by kernel_rfl) (λ_ _ _ h=>h) d λd=>?_;(try simp only[VK,aT,aZ,aS]);refine r_ 8 17 (by kernel_rfl) (by rfl) (by kernel_rfl) (by kernel_rfl) (by kernel_rfl) (λ_ _ _ h=>h) d λd=>?_;(try simp only[VK,aT,aZ,aS]);refine r_ 9 18 (by kernel_rfl) (by rfl) (by kernel_rfl) (by kernel_rfl) (by kernel_rfl) (λ_ _ _ h=>h) d λd=>?_;(try simp only[VK,aT,aZ,aS]);refine r_ 10 19 (by kernel_rfl) (by rfl) (by kernel_rfl) (by kernel_rfl) (by kernel_rfl) (λ_ _ _ h=>h) d λd=>?_;(try simp only[VK,aT,aZ,aS]);refine O_ 11 20 (XY false) d λd=>?_;refine⟨VX (by kernel_rfl) ?_ _⟩;go_upto_region 4 with fail;refine UZ (S:=λC=>LdP 39 6 CVm E l (QQ A5 m j) C/\C.heap[U]?=QJ (XX u 39 (0,0))) (by kernel_rfl) ⟨d.1.drew,d.2⟩ λd=>?_;refine H_.o ?_;refine O_ 0 23 (QY QU (g:Nat)) d λd=>?_;refine O_ 1 24 (XY false) d λd=>?_;refine O_ 2 25 (XY false) d λd=>?_;refine r_ 3 26 (by kernel_rfl) (by rfl) (by kernel_rfl) (by kernel_rfl) (by kernel_rfl) (λ_ _ _ h=>h) d λd=>?_;(try simp only[VK,aT,aZ,aS]);refine r_ 4 27 (by kernel_rfl) (by rfl) (by kernel_rfl) (by kernel_rfl) (by kernel_rfl) (λ_ _ _ h=>h) d λd=>?_;(try simp only[VK,aT,aZ,aS]);refine r_ 5 28 (by kernel_rfl) (by rfl) (by kernel_rfl) (by kernel_rfl) (by kernel_rfl) (λ_ _ _ h=>h) d λd=>?_;(try simp only[VK,aT,aZ,aS]);refine r_ 6 29 (by kernel_rfl) (by rfl) (by kernel_rfl) (by kernel_rfl) (by kernel_rfl) (λ_ _ _ h=>h) d λd=>?_;(try simp only[VK,aT,aZ,aS]);refine r_ 7 30 (by kernel_rfl) (by rfl) (by kernel_rfl) (by kernel_rfl) (by kernel_rfl) (λ_ _ _ h=>h) d λd=>?_;(try simp only[VK,aT,aZ,aS]);refine r_ 8 31 (by kernel_rfl) (by rfl) (by kernel_rfl) (by kernel_rfl) (by kernel_rfl) (λ_ _ _ h=>h) d λd=>?_;(try simp only[VK,aT,aZ,aS]);refine r_ 9 32 (by kernel_rfl) (by rfl) (by kernel_rfl) (by kernel_rfl) (by kernel_rfl) (λ_ _ _ h=>h) d λd=>?_;(try simp only[VK,aT,aZ,aS]);refine r_ 10 33 (by kernel_rfl) (by rfl) (by kernel_rfl) (by kernel_rfl) (by kernel_rfl) (λ_ _ _ h=>h) d λd=>?_;(try simp only[VK,aT,aZ,aS]);refine O_ 11 34 (XY false) d λd=>?_;refine⟨VX (by kernel_rfl) ?_ _⟩;have a4:=q_ d.1;have I:=q_ d.2;clear d HM G;go_upto_region 7 with fail;obtain⟨b2,bh,ag,aa,a6⟩:=mj_ (k:=g) pc_ h0_ (A:=A5) (n:=m) (c:=j) s.o az.o a1.o;obtain⟨b3,bi,ah,ab,a7⟩:=h1_ (k:=g) pc_ h0_ (A:=A5) (n:=m) (c:=j) s.o az.o a1.o;have av:=q_ ag;have aw:=q_ ah;have ar:=q_ aa;have au:=q_ ab;have am:=q_ a6;have ao:=q_ a7;clear ag ah aa ab a6 a7;have z:=q_ (InP.start a4.o);have M:=q_ ((z.o.l.own.rd ag_ (F:=λb=>(Value.slice A5 m j).ownBlock=QJ b) (λ_ h=>h) T.o).part_to s.o am.o)
   go_upto_region 8 with (first
    | ((with_reducible refine d_ (some 39) ?_);refine gl_ rfl (QQ b2 g bh) (k_ (av.o _)) ?_)
    | ((with_reducible refine d_ (some 40) ?_);refine ae_ ag_ rfl (.tmp 36) (.tmp 39) 37 rfl i0 _ underlying37 X.o Z.o Y.o W.o rfl (by decide) rfl z.o.n.own rfl rfl M.o ar.o (by have:=q.o;have:=s.o;simp;omega) (by decide) ?_;intro v1 y1 ac O ai))
   have a3:=q_ (z.o.app ac O ai);have ap:=q_ ((Turn.of_grown O).heap I.o (λe=>by cases e));clear ac O ai;have L:=q_ (a3.o.on ((XV _ _).alloc (XK _) (XX u 39)));have bg:=q_ (no_ ag_ b5.o y1 39)
   go_upto_region 9 with (first
    | ((with_reducible refine d_ (some 42) ?_);refine C_ (by rfl) 39 _ rfl rfl u _ (nq_ ap.o) YV rfl IU.o ?_)
    | ((with_reducible refine d_ (some 43) ?_);refine b6_ rfl 37 1 _ rfl #[(0,.agg u)] (by kernel_rfl) (QQ (QJ ⟨y1.heap.size,0,QK⟩) 1 1) _ (wa_ u ZU.o y1) ?_)
    | ((with_reducible refine d_ (some 44) ?_);refine ae_ ag_ rfl (.tmp 41) (.tmp 43) 37 rfl i0 _ underlying37 X.o Z.o Y.o W.o rfl (by decide) rfl L.o.n.own rfl rfl bg.o (λh=>by cases h) (by have:=q.o;have:=s.o;simp;omega) (by decide) ?_;intro v2 y2 ae a8 aj))
   have B:=q_ (L.o.app ae a8 aj);clear ae a8 aj L a3 z M;have N:=q_ ((B.o.l.own.rd ag_ (F:=λb=>(Value.slice A5 m j).ownBlock=QJ b) (λ_ h=>h) T.o).part_from s.o ao.o)
   go_wp2_with (first
    | ((with_reducible refine d_ (some 48) ?_);refine gl_ rfl (QQ b3 (m-g) bi) (k_ (aw.o _)) ?_)
    | ((with_reducible refine d_ (some 49) ?_);refine ae_ ag_ rfl (.tmp 45) (.tmp 48) 37 rfl i0 _ underlying37 X.o Z.o Y.o W.o rfl (by decide) rfl B.o.n.own rfl rfl N.o au.o (by have:=q.o;have:=s.o;simp;omega) (by decide) ?_;intro v3 y3 af a9 ak))
   have b7:=q_ (B.o.app af a9 ak);clear af a9 ak B N;have J:=q_ (show LdP 39 6 CVm E (dj_ y_ l v) v3 y3 from by have h:=b7.o.done;rw[List.nil_append,UW]at h;rw[aq.o];exact h);go_wp2_with fail;go_ret;exact⟨_,rfl,J.o⟩
  ·obtain⟨i,br⟩:∃i,g=i+1:=⟨g-1,by omega⟩;have g0:(0:Int)<g:=by omega
   have g1:0<g:=by omega
   have bo:=q_ (show IntKind.i64.wrap ((g:Int)-1)=(i:Int) from by rw[YU _ (by have:=q.o;omega)];omega);have a0:=q_ br;have s:=q_ bs;have b8:=q_ (show i<m from by omega);obtain⟨x,hx⟩:∃x,l[i]?=QJ x:=⟨_,XQ (by rw[T.o];omega)⟩;obtain⟨f,D,rfl,t,bj,bu⟩:=hQ.o.1.own.cell ag_ T.o hx;have HX:=q_ hx;have b9:=q_ t;have IX:=q_ (ai_.trans (congrArg QJ (hg_ bj).symm));have c1:=q_ (λ(V:QV) (hb:XW wr.heap.size wr V) (y:Nat) (hy:y<D.size)=>(hb.cell (p:=(f.add (i*6)).add y) (by rw[A_,A_];exact t)).trans (bu y hy));have a2:=λV=>D8_ (a:=x) (b:=v) bj b5.o V;unfold b7_ at a2;obtain⟨om,a5⟩:=a_ (y_ x v);rw[a5.o]at a2;have b4:=q_ a2;have HM:=q_ hQ.o.1;have G:=q_ hQ.o.2.1;have bn:=q_ hQ.o.2.2;clear hx t bj bu a2 hQ br;go_upto_region 2 with fail;refine UZ (S:=λC=>LdP 39 6 CVm E l (QQ (QJ f) m j) C/\(∀y,y<D.size->C.cell? ((f.add (i*6)).add y)=D[y]?)/\C.heap[U]?=QJ (XX u 39 (0,0))) (by kernel_rfl) ⟨HM.o.drew,c1.o _ (XV _ _).drew,G.o⟩ λd=>?_;refine H_.o ?_;refine O_ 0 9 (QY QU (g:Nat)) d λd=>?_;refine O_ 1 10 (XY true) d λd=>?_;refine O_ 2 11 (XY true) d λd=>?_;refine O_ 3 12 (QQ (QJ f) m j) d λd=>?_;refine O_ 4 13 (QY QU (g:Nat)) d λd=>?_;refine tlW 5 14 (QY QU (i:Nat)) d (λw r=>?_) λd=>?_
   ·have p:=bo.o;unfold z_;go_simp
   refine tlW 6 15 (YK (QJ (f.add (i*6)))) d (λw r=>?_) λd=>?_
   ·exact k_ (lr_ f m j i b8.o w)
   refine tlW 7 16 (.agg D) d (λw r=>?_) λd=>?_
   ·have p:=v_ w (f.add (i*6)) 39 D _ r.2.1 YV rfl IX.o;exact k_ (by simp only[Instr.loadAt,Instr.sureAddr,Sem.run_bind];exact p)
   refine tlW 8 17 (.agg u) d (λw r=>?_) λd=>?_
   ·exact k_ (cb_ r.2.2 39 _ YV rfl IU.o)
   refine tlC 9 λK hK=>?_;go_simp;refine (b4.o _).mono ?_;rintro e x1 ⟨rfl,hb⟩;have bd:=q_ (show wr.heap.size<=x1.heap.size from hb.size)
   have b6:=q_ (show LdP 39 6 CVm E l (QQ (QJ f) m j) x1/\(∀y,y<D.size->x1.cell? ((f.add (i*6)).add y)=D[y]?)/\x1.heap[U]?=QJ (XX u 39 (0,0)) from ⟨d.1.on hb,λy hy=>by
    have t:f.block<wr.drew.heap.size:=b9.o;exact (hb.cell (p:=(f.add (i*6)).add y) (by rw[A_,A_];exact t)).trans (d.2.1 y hy),(hb.block U (b_ d.2.2)).trans d.2.2⟩)
   clear hb;dsimp only;refine tlB hK b6.o λd=>?_;clear hK K;by_cases b1:0<om
   ·have c0:(0:Int)<om:=b1;refine O_ 10 19 (XY true) d λd=>?_;refine O_ 11 20 (XY true) d λd=>?_;refine⟨VX (by kernel_rfl) ?_ _⟩;have ba:=q_ d.1;have I:=q_ d.2.2;clear d;have wk:wrap64 ((g:Int)-1)=(i:Int):=(IntWalk.wrap64_in _ (by have h2:g=i+1:=a0.o;have:=q.o;have:=s.o;omega)).trans (by have h2:g=i+1:=a0.o;omega);go_wp2_with fail;go_roundw
    case rel=>exact⟨i,by have:=b8.o;omega,by go_num,q_ ⟨ba.o,I.o,by have h1:=bn.o;have h2:g=i+1:=a0.o;rw[h1,h2];exact tr_ HX.o (by rw[a5.o];exact b1)⟩⟩
    case measure=>have h2:g=i+1:=a0.o;simp[intOf];omega
   ·have c0:¬(0:Int)<om:=b1;refine O_ 10 19 (XY false) d λd=>?_;refine O_ 11 20 (XY false) d λd=>?_;refine⟨VX (by kernel_rfl) ?_ _⟩;have bc:=q_ (show a3_ y_ v l l.length=i+1 from by have h1:=bn.o;have h2:g=i+1:=a0.o;rw[T.o,h1,h2];exact ts_ HX.o (by rw[a5.o];exact b1));have ba:=q_ d.1;have bf:=q_ (show wr.heap.size<=x1.drew.heap.size from bd.o);have bb:=q_ d.2;clear d;go_upto_region 4 with fail;refine UZ (S:=λC=>LdP 39 6 CVm E l (QQ (QJ f) m j) C/\(∀y,y<D.size->C.cell? ((f.add (i*6)).add y)=D[y]?)/\C.heap[U]?=QJ (XX u 39 (0,0))) (by kernel_rfl) ⟨ba.o.drew,bb.o.1,bb.o.2⟩ λd=>?_;refine H_.o ?_;refine O_ 0 23 (QY QU (g:Nat)) d λd=>?_;refine O_ 1 24 (XY true) d λd=>?_;refine O_ 2 25 (XY true) d λd=>?_;refine O_ 3 26 (QQ (QJ f) m j) d λd=>?_;refine O_ 4 27 (QY QU (g:Nat)) d λd=>?_;refine tlW 5 28 (QY QU (i:Nat)) d (λw r=>?_) λd=>?_
    ·have p:=bo.o;unfold z_;go_simp
    refine tlW 6 29 (YK (QJ (f.add (i*6)))) d (λw r=>?_) λd=>?_
    ·exact k_ (lr_ f m j i b8.o w)
    refine tlW 7 30 (.agg D) d (λw r=>?_) λd=>?_
    ·have p:=v_ w (f.add (i*6)) 39 D _ r.2.1 YV rfl IX.o;exact k_ (by simp only[Instr.loadAt,Instr.sureAddr,Sem.run_bind];exact p)
    refine tlW 8 31 (.agg u) d (λw r=>?_) λd=>?_
    ·exact k_ (cb_ r.2.2 39 _ YV rfl IU.o)
    refine tlC 9 λK hK=>?_;go_simp;refine (b4.o _).mono ?_;rintro e x2 ⟨rfl,hb⟩;have bd:=q_ (show wr.heap.size<=x2.heap.size from ZX bf.o hb.size)
    have b6:=q_ (show LdP 39 6 CVm E l (QQ (QJ f) m j) x2/\(∀y,y<D.size->x2.cell? ((f.add (i*6)).add y)=D[y]?)/\x2.heap[U]?=QJ (XX u 39 (0,0)) from ⟨d.1.on hb,λy hy=>by
     have t:f.block<x1.drew.heap.size:=XZ b9.o bf.o;exact (hb.cell (p:=(f.add (i*6)).add y) (by rw[A_,A_];exact t)).trans (d.2.1 y hy),(hb.block U (b_ d.2.2)).trans d.2.2⟩)
    clear hb;dsimp only;refine tlB hK b6.o λd=>?_;clear hK K;by_cases ay:om=0
    ·subst ay;refine O_ 10 33 (XY true) d λd=>?_;refine O_ 11 34 (XY true) d λd=>?_;refine⟨VX (by kernel_rfl) ?_ _⟩;have a4:=q_ d.1;clear d;have J:=q_ (show LdP 39 6 CVm E (dj_ y_ l v) (QQ (QJ f) m j) x2 from by rw[xg_ HX.o bc.o a5.o];exact a4.o);go_wp2_with fail;go_ret;exact⟨_,rfl,J.o⟩
    ·have c2:¬om=0:=ay;have aq:=q_ (show dj_ y_ l v=l.take g++([v]++l.drop g) from by have h2:g=i+1:=a0.o;rw[h2];exact xe_ HX.o bc.o (by rw[a5.o];exact ay));refine O_ 10 33 (XY false) d λd=>?_;refine O_ 11 34 (XY false) d λd=>?_;refine⟨VX (by kernel_rfl) ?_ _⟩;have a4:=q_ d.1;have I:=q_ d.2.2;clear d;go_upto_region 7 with fail;obtain⟨b2,bh,ag,aa,a6⟩:=mj_ (k:=g) pc_ h0_ (A:=(QJ f)) (n:=m) (c:=j) s.o az.o a1.o;obtain⟨b3,bi,ah,ab,a7⟩:=h1_ (k:=g) pc_ h0_ (A:=(QJ f)) (n:=m) (c:=j) s.o az.o a1.o;have av:=q_ ag;have aw:=q_ ah;have ar:=q_ aa;have au:=q_ ab;have am:=q_ a6;have ao:=q_ a7;clear ag ah aa ab a6 a7;have z:=q_ (InP.start a4.o);have M:=q_ ((z.o.l.own.rd ag_ (F:=λb=>(Value.slice (QJ f) m j).ownBlock=QJ b) (λ_ h=>h) T.o).part_to s.o am.o)
     go_upto_region 8 with (first
      | ((with_reducible refine d_ (some 39) ?_);refine gl_ rfl (QQ b2 g bh) (k_ (av.o _)) ?_)
      | ((with_reducible refine d_ (some 40) ?_);refine ae_ ag_ rfl (.tmp 36) (.tmp 39) 37 rfl i0 _ underlying37 X.o Z.o Y.o W.o rfl (by decide) rfl z.o.n.own rfl rfl M.o ar.o (by have:=q.o;have:=s.o;simp;omega) (by decide) ?_;intro v1 y1 ac O ai))
     have a3:=q_ (z.o.app ac O ai);have ap:=q_ ((Turn.of_grown O).heap I.o (λe=>by cases e));clear ac O ai;have L:=q_ (a3.o.on ((XV _ _).alloc (XK _) (XX u 39)));have bg:=q_ (no_ ag_ b5.o y1 39)
     go_upto_region 9 with (first
      | ((with_reducible refine d_ (some 42) ?_);refine C_ (by rfl) 39 _ rfl rfl u _ (nq_ ap.o) YV rfl IU.o ?_)
      | ((with_reducible refine d_ (some 43) ?_);refine b6_ rfl 37 1 _ rfl #[(0,.agg u)] (by kernel_rfl) (QQ (QJ ⟨y1.heap.size,0,QK⟩) 1 1) _ (wa_ u ZU.o y1) ?_)
      | ((with_reducible refine d_ (some 44) ?_);refine ae_ ag_ rfl (.tmp 41) (.tmp 43) 37 rfl i0 _ underlying37 X.o Z.o Y.o W.o rfl (by decide) rfl L.o.n.own rfl rfl bg.o (λh=>by cases h) (by have:=q.o;have:=s.o;simp;omega) (by decide) ?_;intro v2 y2 ae a8 aj))
     have B:=q_ (L.o.app ae a8 aj);clear ae a8 aj L a3 z M;have N:=q_ ((B.o.l.own.rd ag_ (F:=λb=>(Value.slice (QJ f) m j).ownBlock=QJ b) (λ_ h=>h) T.o).part_from s.o ao.o)
     go_wp2_with (first
      | ((with_reducible refine d_ (some 48) ?_);refine gl_ rfl (QQ b3 (m-g) bi) (k_ (aw.o _)) ?_)
      | ((with_reducible refine d_ (some 49) ?_);refine ae_ ag_ rfl (.tmp 45) (.tmp 48) 37 rfl i0 _ underlying37 X.o Z.o Y.o W.o rfl (by decide) rfl B.o.n.own rfl rfl N.o au.o (by have:=q.o;have:=s.o;simp;omega) (by decide) ?_;intro v3 y3 af a9 ak))
     have b7:=q_ (B.o.app af a9 ak);clear af a9 ak B N;have J:=q_ (show LdP 39 6 CVm E (dj_ y_ l v) v3 y3 from by have h:=b7.o.done;rw[List.nil_append,UW]at h;rw[aq.o];exact h);go_wp2_with fail;go_ret;exact⟨_,rfl,J.o⟩
theorem I0_ {K:Type} [DecidableEq K] {D:List K} {i:Nat} {v:K} (h:D[i]?=QJ v) (c:v∉D.take i):place D v=i:=by
 induction D generalizing i with
 | nil=>simp at h
 | cons a r f=>
  rw[hs_]
  cases i with
  | zero=>
   simp at h;rw[iP_ h]
  | succ i=>
   have b:a≠v:=λe=>c (by rw[List.take_succ_cons,e];exact VJ);rw[iN_ b,f (by simpa using h) (λd=>c (by rw[List.take_succ_cons];exact List.mem_cons_of_mem _ d))]
open Classical in
theorem Ed_ {D:List g_} {i:Nat} {v:g_} (h:D[i]?=QJ v) (b:v∉D.take i):bb_ D v=(i:Nat):=by unfold bb_;exact congrArg (λn:Nat=>(n:Int)) (I0_ h b)
def o0_ (D:List g_) (v:g_) (w:QV) (e:Ending) (w':QV):Prop:=e = YQ (QY QU (bb_ D v))/\XW w.heap.size w w'
theorem th_ {w:QV} {F:Nat->Prop} {D:List g_} {A5:Option Addr} {m Y:Nat} (h:SRd 6 (ofP CVm) w F D A5 m) (Z:∀b,F b->b<w.heap.size) (hm:m<=200000) (v:g_) (u:Array XJ) (hu:gu_ u v) (X:v∈D) :
    Calls QW 74 #[QQ A5 m Y,.agg u] w (o0_ D v w):=by
 unfold o0_;have HL:=q_ hm;have HD:=q_ (λ(W:QV) (hb:XW w.heap.size w W)=>h.under (ofP.good CVm) hb Z);have M:=q_ (show D.length=m from h.1.symm);have HF:=q_ Z;have a3:=q_ hu;have a4:=q_ X;have IU:=q_ (ai_.trans (congrArg QJ (hg_ hu).symm));obtain⟨z3,O⟩:=a_ w.heap.size;obtain⟨E,j⟩:=a_ (w.alloc (XX u 39));have G:=q_ (show XW w.heap.size w E from by rw[<-j.o];exact (XV _ _).alloc (XK _) _);have L:=q_ (show E.heap[z3]?=QJ (XX u 39 (0,0)) from by rw[<-j.o,<-O.o];exact XU w _);clear h hm Z hu X;go_enter func74,ntmps74
 go_upto_region 1 with fail;rw[j.o,O.o];clear j;go_wp2_with fail;go_loopw [5] (λs5 wx=>∃i:Nat,i<=m/\s5 = QY QU (i:Nat)/\Q_ (XW E.heap.size E wx/\v∉D.take i)) (λs5 _=>m-(intOf s5).toNat)
 case atStart=>exact⟨0,by omega,rfl,q_ ⟨XV _ _,by simp⟩⟩
 case round=>
  obtain⟨i,hi,rfl,f⟩:=hrel;by_cases A:i<m
  ·have a1:(0:Int)<=i:=by omega
   have a2:(i:Int)<m:=by omega
   have hl:=HL.o;have a7:IntKind.i64.wrap ((i:Int)+1)=(i:Int)+1:=YU _ (by omega);clear hl;have t:=q_ A;obtain⟨x,hx⟩:∃x,D[i]?=QJ x:=⟨_,XQ (by rw[M.o];exact A)⟩;have HX:=q_ hx;have g:=q_ (G.o.trans (f.o.1.mono G.o.size));obtain⟨ad,C,eA,U,B,hq,T⟩:=(HD.o wr g.o).at_ hx;subst eA;have IX:=q_ (ai_.trans (congrArg QJ B.symm));have a6:=q_ (λ(V:QV) (hb:XW wr.heap.size wr V) (y:Nat) (hy:y<C.size)=>(show V.cell? ((ad.add (i*6)).add y)=C[y]? from by rw[add_of_add];exact (hb.cell (p:=ad.add (i*6+y)) (by rw[A_];exact XZ (HF.o _ U) g.o.size)).trans (hq y (by rw[B]at hy;exact hy))));have J:=q_ ((f.o.1.block z3 (b_ L.o)).trans L.o);have r:=λV=>Az_ (a:=x) (b:=v) T a3.o V;obtain⟨sb,z⟩:=a_ (cv_ x v);unfold n_ at r;rw[z.o]at r;have N:=q_ r;clear hx U B hq T r A hi;go_upto_region 4 with fail;refine UZ (S:=λW'=>XW wr.heap.size wr W') (by kernel_rfl) (XV _ _).drew λc=>?_;refine H_.o ?_;refine O_ 0 12 (QQ (QJ ad) m Y) c λc=>?_;refine O_ 1 13 (QY QU (i:Nat)) c λc=>?_;refine tlW 2 14 (YK (QJ (ad.add (i*6)))) c (λw q=>?_) λc=>?_
   ·exact k_ (lr_ ad m Y i t.o w)
   refine tlW 3 15 (.agg C) c (λw q=>?_) λc=>?_
   ·have p:=v_ w (ad.add (i*6)) 39 C _ (a6.o w q) YV rfl IX.o;exact k_ (by simp only[Instr.loadAt,Instr.sureAddr,Sem.run_bind];exact p)
   refine tlW 4 16 (.agg u) c (λw q=>?_) λc=>?_
   ·exact k_ (cb_ ((q.block z3 (b_ J.o)).trans J.o) 39 _ YV rfl IU.o)
   refine tlC 5 λK hK=>?_;go_simp;refine (N.o _).mono ?_;rintro e w7 ⟨rfl,hb⟩;have I:=q_ (c.trans (hb.mono c.size));clear hb N;dsimp only;refine tlB hK I.o λc=>?_;clear hK K;refine⟨VX (by kernel_rfl) ?_ _⟩;clear c;have s:=q_ (I.o)
   cases sb with
   | true=>
    have HP:=q_ (show bb_ D v=(i:Nat) from Ed_ (by rw[HX.o,fm_.1 z.o]) f.o.2);have a0:=q_ (g.o.trans (s.o.mono g.o.size));go_wp2_with fail;go_ret;exact⟨by rw[HP.o];rfl,a0.o⟩
   | false=>
    have a5:=q_ (show v∉D.take (i+1) from λd=>by
     rw[f_ HX.o,List.mem_append,List.mem_singleton]at d;rcases d with d | d
     ·exact f.o.2 d
     ·have h1:=z.o;rw[fm_.2 d.symm]at h1
      cases h1)
    go_wp2_with fail;go_roundw
    case rel=>exact⟨i+1,by have:=t.o;omega,by go_num,q_ ⟨f.o.1.trans (s.o.mono f.o.1.size),a5.o⟩⟩
    case measure=>have:=t.o;simp[intOf];omega
  ·have h2:=f.o.2;have h3:D.take i=D:=YJ (by rw[M.o];omega);rw[h3]at h2;exact absurd a4.o h2
end
section
open Go Go.RowKit Go.Maps Go.WideMaps
def a6_ (s:ByteArray):Bool:=decide (1<=s.size/\s.size<=1048576)
theorem vq_ (s:ByteArray) (w:QV):Calls QW 87 #[QZ s] w λe w'=>e = YQ (XY (a6_ s))/\w'=w:=by
 have d:a6_ s=decide (1<=s.size/\s.size<=1048576):=rfl;generalize a6_ s=r at d ⊢;have c:=q_ d;clear d;by_cases h1:1<=s.size
 ·by_cases h2:s.size<=1048576
  ·have f:decide ((1:Int)<=s.size)=true:=dT_ (by omega);have g:decide ((s.size:Int)<=1048576)=true:=dT_ (by omega);have b:r=true:=by rw[c.o];exact dT_ ⟨h1,h2⟩
   clear h1 h2;go_enter func87,ntmps87
   go_wp2
   go_ret;exact⟨by rw[b];rfl,rfl⟩
  ·have f:decide ((1:Int)<=s.size)=true:=dT_ (by omega);have g:decide ((s.size:Int)<=1048576)=false:=dF_ (by omega);have b:r=false:=by rw[c.o];exact dF_ λh=>h2 h.2
   clear h1 h2;go_enter func87,ntmps87
   go_wp2
   go_ret;exact⟨by rw[b];rfl,rfl⟩
 ·have f:decide ((1:Int)<=s.size)=false:=dF_ (by omega);have b:r=false:=by rw[c.o];exact dF_ λh=>h1 h.1
  clear h1;go_enter func87,ntmps87
  go_wp2
  go_ret;exact⟨by rw[b];rfl,rfl⟩
def ed_ (a b:Int):Int:=if a<b then -1 else if b<a then 1 else 0
theorem x0_ (a b:Int) (w:QV):Calls QW 96 #[QY QU a,QY QU b] w λe w'=>e = YQ (QY QU (ed_ a b))/\w'=w:=by
 by_cases h1:a<b
 ·have c:=q_ (show ed_ a b = -1 from iP_ h1);generalize ed_ a b=r at c ⊢;have d:decide (a<b)=true:=dT_ h1;clear h1;go_enter func96,ntmps96
  go_wp2
  go_ret;exact⟨by rw[c.o];rfl,rfl⟩
 ·by_cases h2:b<a
  ·have c:=q_ (show ed_ a b=1 from (iN_ h1).trans (iP_ h2));generalize ed_ a b=r at c ⊢;have d:decide (a<b)=false:=dF_ h1;have f:decide (b<a)=true:=dT_ h2;clear h1 h2;go_enter func96,ntmps96
   go_wp2
   go_ret;exact⟨by rw[c.o];rfl,rfl⟩
  ·have c:=q_ (show ed_ a b=0 from (iN_ h1).trans (iN_ h2));generalize ed_ a b=r at c ⊢;have d:decide (a<b)=false:=dF_ h1;have f:decide (b<a)=false:=dF_ h2;clear h1 h2;go_enter func96,ntmps96
   go_wp2
   go_ret;exact⟨by rw[c.o];rfl,rfl⟩
def VI (x:Int):Prop:=(Lit.int .i64 x).wf=true
def iz_ (x:Int):Lit:=.int .i64 x
theorem xo_:∀x y:Int,VI x->VI y->iz_ x=iz_ y->x=y:=λx y _ _ h=>by
 unfold iz_ at h;injection h
theorem xp_:∀x:Int,VI x->WideAt.IsKeyLit (iz_ x):=λ_ _=>trivial
theorem xm_:Keyed QW 2:=int_keyed underlying2
theorem zb_ (w:QV):(zeroValue 207).run QW w = .ok (.agg #[]) w:=by kernel_rfl
def inB {K:Type} [DecidableEq K] (ks:List K) (x:K):Bool:=decide (x∈ks)
theorem gh_ {K:Type} [DecidableEq K] {ks:List K} {x:K} (h:x∈ks):inB ks x=true:=by unfold inB;exact dT_ h
theorem u5_ {K:Type} [DecidableEq K] {ks:List K} {x:K} (h:x∉ks):inB ks x=false:=by unfold inB;exact dF_ h
def a5_ {K:Type} [DecidableEq K] (kt:TypeId) (V:K->Prop) (lit:K->Lit) (w:QV) (m:Nat) (ks:List K):Prop:=
 ∃D:DataW Unit,w.ownsMap QW kt (unitElem (H:=Unit)) m ks.length D/\∀x,V x->Maps.has D (lit x)=inB ks x
def f3_ {K:Type} [DecidableEq K] (ks:List K) (x:K):List K:=if inB ks x=true then ks else ks++[x]
section
variable {K:Type} [DecidableEq K] {kt:TypeId} {V:K->Prop} {lit:K->Lit} {w w':QV} {m:Nat} {ks:List K}
theorem a5_.turn (h:a5_ kt V lit w m ks) {S:Nat->Prop} (ht:Turn S w w') (b:¬S m):a5_ kt V lit w' m ks:=by obtain⟨D,h1,h2⟩:=h;exact⟨D,ht.map h1 b,h2⟩
theorem a5_.lt (h:a5_ kt V lit w m ks):m<w.heap.size:=by obtain⟨D,⟨c,b,hb,_⟩,_⟩:=h;exact b_ hb
theorem a5_.below (h:a5_ kt V lit w m ks) (hb:XW w.heap.size w w'):a5_ kt V lit w' m ks:=h.turn (Turn.of_below hb) (λb=>by have:=h.lt;omega)
theorem a5_.made (kt:TypeId) (V:K->Prop) (lit:K->Lit) (w:QV):a5_ kt V lit (w.alloc (.map #[] 0)) w.heap.size ([]:List K):=
 ⟨.map [],World.ownsMap_made w _ _ _,λ_ _=>rfl⟩
theorem a5_.put (hi:∀x y,V x->V y->lit x=lit y->x=y) (g:∀x,V x->WideAt.IsKeyLit (lit x)) {D:DataW Unit} (f:∀x,V x->Maps.has D (lit x)=inB ks x) (i:IsMap D)
    {x:K} (b:V x) {d:DataW Unit}:∀y,V y->Maps.has (D.put (lit x) d) (lit y)=inB (ks++[x]) y:=λy c=>by
 by_cases e:y=x
 ·subst e;rw[has_put_same i (g _ b),gh_ (by simp)]
 ·rw[has_put_other (λh=>e (hi _ _ c b h)),f y c];unfold inB;simp[e]
def Fz_ (kt:TypeId) (V:K->Prop) (lit:K->Lit) (m:Nat) (ks:List K) (x:K) (w:QV) (e:Ending) (w':QV):Prop:=
 e = YQ (XY (!inB ks x))/\a5_ kt V lit w' m (f3_ ks x)/\Turn (λb=>b=m) w w'
def Fw_ (ks:List K) (x:K) (w:QV) (e:Ending) (w':QV):Prop:=e = YQ (XY (inB ks x))/\XW w.heap.size w w'
end
theorem La_ (m:Nat) (ks:List ByteArray) (x:ByteArray) (c:VS x) (w:QV) (h:a5_ 9 VS jy_ w m ks) :
    Calls QW 148 #[.map (QJ m),QZ x] w (Fw_ ks x w):=by
 obtain⟨D,h1,h2⟩:=h;have b:=keyOf_string_mk underlying9 c;have d:=q_ (show Maps.has D (.string x.data.toList)=inB ks x from h2 x c);generalize hr:inB ks x=r at d;have e:=q_ hr;clear h2 c hr;go_enter func148,ntmps148
 go_wp2_with (at_lookup;refine wpList_lookup_own_unit _ rfl _ _ 147 rfl 9 207 H8_ underlying147 (zb_ _) m _ D rfl h1 _ _ rfl b ?_;rw[d.o])
 go_ret;exact⟨by rw[e.o];rfl,by repeat (first | exact XV _ _ | refine Below.alloc ?_ (by simp) _)⟩
theorem Ce_ (m:Nat) (ks:List ByteArray) (x:ByteArray) (f:VS x) (y:ks.length<=100000000) (w:QV) (h:a5_ 9 VS jy_ w m ks) :
    Calls QW 88 #[.map (QJ m),QZ x] w (Fz_ 9 VS jy_ m ks x w):=by
 have q:=q_ (La_ m ks x f w h);have r:=q_ h;have j:=keyOf_string_mk underlying9 f;have u:=q_ f;clear h f;by_cases b:x∈ks
 ·have g:=q_ b;have c:=q_ (gh_ b);clear b;go_enter func88,ntmps88
  go_wp2_with fail;refine q.o.mono ?_;rintro e v ⟨rfl,hb⟩;have d:=q_ hb;rw[c.o];clear hb;go_wp2_with fail;go_ret;refine⟨by rw[c.o];rfl,?_,?_⟩
  ·unfold f3_;rw[iP_ (gh_ g.o)];exact r.o.below d.o
  ·exact (Turn.of_below d.o).mono (λi hi h=>by omega)
 ·have g:=q_ b;have c:=q_ (u5_ b);clear b;go_enter func88,ntmps88
  go_wp2_with fail;refine q.o.mono ?_;rintro e v ⟨rfl,hb⟩;have d:=q_ hb;rw[c.o];obtain⟨D,h1,h2⟩:=r.o.below hb;have t:=q_ h2;clear hb h2;go_wp2_with (at_mapUpdate;refine wpList_mapUpdate_own _ rfl _ _ _ 147 rfl 9 207 H8_ underlying147 (unitElem (H:=Unit)) m _ D rfl h1 (by unfold maxLen;omega) _ _ _ rfl rfl j _ _ unitElem_mk ?_;intro w2 p s)
  go_ret;refine⟨by rw[c.o];rfl,?_,?_⟩
  ·unfold f3_;rw[iN_ (by rw[u5_ g.o];decide)];exact⟨_,by rw[ZZ];exact p,a5_.put xq_ qm_ t.o h1.isMap u.o⟩
  ·exact ((Turn.of_below d.o).mono (λi hi h=>by omega)).trans ((Turn.of_grown s).mono (λi _ h=>by injection h))
theorem u2_ (m:Nat) (ks:List Int) (x:Int) (c:VI x) (w:QV) (h:a5_ 2 VI iz_ w m ks) :
    Calls QW 92 #[.map (QJ m),QY QU x] w (Fw_ ks x w):=by
 obtain⟨D,h1,h2⟩:=h;have b:=keyOf_int_mk underlying2 c;have d:=q_ (show Maps.has D (.int QU x)=inB ks x from h2 x c);generalize hr:inB ks x=r at d;have e:=q_ hr;clear h2 c hr;go_enter func92,ntmps92
 go_wp2_with (at_lookup;refine wpList_lookup_own_unit _ rfl _ _ 145 rfl 2 207 xm_ underlying145 (zb_ _) m _ D rfl h1 _ _ rfl b ?_;rw[d.o])
 go_ret;exact⟨by rw[e.o];rfl,by repeat (first | exact XV _ _ | refine Below.alloc ?_ (by simp) _)⟩
theorem Cd_ (m:Nat) (ks:List Int) (x:Int) (f:VI x) (y:ks.length<=100000000) (w:QV) (h:a5_ 2 VI iz_ w m ks) :
    Calls QW 89 #[.map (QJ m),QY QU x] w (Fz_ 2 VI iz_ m ks x w):=by
 have q:=q_ (u2_ m ks x f w h);have r:=q_ h;have j:=keyOf_int_mk underlying2 f;have u:=q_ f;clear h f;by_cases b:x∈ks
 ·have g:=q_ b;have c:=q_ (gh_ b);clear b;go_enter func89,ntmps89
  go_wp2_with fail;refine q.o.mono ?_;rintro e v ⟨rfl,hb⟩;have d:=q_ hb;rw[c.o];clear hb;go_wp2_with fail;go_ret;refine⟨by rw[c.o];rfl,?_,?_⟩
  ·unfold f3_;rw[iP_ (gh_ g.o)];exact r.o.below d.o
  ·exact (Turn.of_below d.o).mono (λi hi h=>by omega)
 ·have g:=q_ b;have c:=q_ (u5_ b);clear b;go_enter func89,ntmps89
  go_wp2_with fail;refine q.o.mono ?_;rintro e v ⟨rfl,hb⟩;have d:=q_ hb;rw[c.o];obtain⟨D,h1,h2⟩:=r.o.below hb;have t:=q_ h2;clear hb h2;go_wp2_with (at_mapUpdate;refine wpList_mapUpdate_own _ rfl _ _ _ 145 rfl 2 207 xm_ underlying145 (unitElem (H:=Unit)) m _ D rfl h1 (by unfold maxLen;omega) _ _ _ rfl rfl j _ _ unitElem_mk ?_;intro w2 p s)
  go_ret;refine⟨by rw[c.o];rfl,?_,?_⟩
  ·unfold f3_;rw[iN_ (by rw[u5_ g.o];decide)];exact⟨_,by rw[ZZ];exact p,a5_.put xo_ xp_ t.o h1.isMap u.o⟩
  ·exact ((Turn.of_below d.o).mono (λi hi h=>by omega)).trans ((Turn.of_grown s).mono (λi _ h=>by injection h))
end
section
open Go Go.RowKit
def bh_ (v:g_):Bool:=I_ v 0&&(v.kind==1 || (v.kind==2 || (v.kind==3 || v.kind==4)))
theorem rb_ (v:g_) (W:S_ v<=10000000000000000) (F:Nat->Prop) (u:XJ) (w:QV) (C:∀g,F g->g<w.heap.size) (E:VRd w F v u) (q:ad_ w) :
    Calls QW 149 #[u] w (n_ (bh_ v) w):=by
 obtain⟨A,G,X,D,U⟩:=E.inv;have f:=q_ (λo:Obj=>ei_ v W F u (w.alloc o) (λg q=>by have:=C g q;simp;omega) (E.under ((XV _ _).alloc (XK _) _) C) (j_ q ((XV _ _).alloc (XK _) _)));subst X;have c:=q_ (show bh_ v=(I_ v 0&&(v.kind==1 || (v.kind==2 || (v.kind==3 || v.kind==4)))) from rfl);obtain⟨s,N⟩:=a_ (Value.slice A v.list.length G);obtain⟨j,y⟩:=a_ (bh_ v);obtain⟨Y,r⟩:=a_ (I_ v 0);rw[r.o]at f c;rw[y.o]at c ⊢;rw[N.o]at f ⊢;clear U D q r y
 cases v with
 | mk k b n t x l=>
 unfold c_ at f ⊢;simp only[g_.kind,g_.truth,g_.num,g_.text,g_.extra]at f c ⊢;clear E C;obtain⟨z,O⟩:=a_ w.heap.size;go_enter func149,ntmps149
 go_wp2_with fail;refine (f.o _).mono ?_;rintro e Z ⟨rfl,hb⟩;have h:=q_ (((XV w.heap.size w).alloc (XK _) (XX #[QY QU k,XY b,QY QU n,QZ t,QZ x,s] 39)).trans (hb.mono (by simp)));have B:=(hb.block w.heap.size (by simp)).trans (XU w (XX #[QY QU k,XY b,QY QU n,QZ t,QZ x,s] 39));have T:Z.cell? ⟨w.heap.size,0,QK⟩=QJ (QY QU k):=QX B 0;clear hb B f;rw[O.o]at T ⊢
 cases Y with
 | false=>
  have d:=q_ (show j=false from c.o);go_wp2_with fail;go_ret;exact⟨by rw[d.o];rfl,h.o⟩
 | true=>
  by_cases h1:k=1
  ·have d:=q_ (show j=true from by rw[c.o,h1];rfl);have I:(k==1)=true:=by rw[h1];rfl
   clear h1;go_wp2_with fail;go_ret;exact⟨by rw[d.o];rfl,h.o⟩
  ·have I:(k==1)=false:=by simp[h1]
   by_cases h2:k=2
   ·have d:=q_ (show j=true from by rw[c.o,h2];rfl);have J:(k==2)=true:=by rw[h2];rfl
    clear h1 h2;go_wp2_with fail;go_ret;exact⟨by rw[d.o];rfl,h.o⟩
   ·have J:(k==2)=false:=by simp[h2]
    by_cases i:k=3
    ·have d:=q_ (show j=true from by rw[c.o,i];rfl);have L:(k==3)=true:=by rw[i];rfl
     clear h1 h2 i;go_wp2_with fail;go_ret;exact⟨by rw[d.o];rfl,h.o⟩
    ·have L:(k==3)=false:=by simp[i]
     by_cases p:k=4
     ·have d:=q_ (show j=true from by rw[c.o,p];rfl);have M:(k==4)=true:=by rw[p];rfl
      clear h1 h2 i p;go_wp2_with fail;go_ret;exact⟨by rw[d.o];rfl,h.o⟩
     ·have M:(k==4)=false:=by simp[p]
      have d:=q_ (show j=false from by rw[c.o,I,J,L,M];rfl);clear h1 h2 i p;go_wp2_with fail;go_ret;exact⟨by rw[d.o];rfl,h.o⟩
theorem yo_ (v:g_) (z:S_ v<=10000000000000000) (F:Nat->Prop) (u:XJ) (w:QV) (h:∀g,F g->g<w.heap.size) (j:VRd w F v u) (d:ad_ w) :
    Calls QW 151 #[u] w (n_ (!bh_ v) w):=by
 obtain⟨A,p,B,i,y⟩:=j.inv;have c:=q_ (λo:Obj=>rb_ v z F u (w.alloc o) (λg d=>by have:=h g d;simp;omega) (j.under ((XV _ _).alloc (XK _) _) h) (j_ d ((XV _ _).alloc (XK _) _)));subst B;obtain⟨s,r⟩:=a_ (Value.slice A v.list.length p);obtain⟨C,f⟩:=a_ (bh_ v);rw[f.o]at c;rw[f.o];rw[r.o]at c ⊢;clear y i d
 cases v with
 | mk k b n t x l=>
 unfold c_ at c ⊢;simp only[g_.kind,g_.truth,g_.num,g_.text,g_.extra]at c ⊢;clear j h;go_enter func151,ntmps151
 go_wp2_with fail;refine (c.o _).mono ?_;rintro e D ⟨rfl,hb⟩;have q:=q_ (((XV w.heap.size w).alloc (XK _) (XX #[QY QU k,XY b,QY QU n,QZ t,QZ x,s] 39)).trans (hb.mono (by simp)));clear hb;go_wp2_with fail;go_ret;exact⟨rfl,q.o⟩
def Pa_ (l:List g_) (p:g_->Bool) (w:QV) (e:Ending) (w':QV):Prop:=∃r:Int,e = YQ (QY QU r)/\(decide (0<=r)=l.any p)/\XW w.heap.size w w'
theorem Hv_ (l:List g_) (p:g_->Bool) (F:Nat->Prop) (A:Option Addr) (n J:Nat) (w:QV) (L:∀g,F g->g<w.heap.size) (E:LRd w F l A n) (hn:n<=1000000000)
    (y:∀(x:g_) (_:x∈l) (u:XJ) (W:QV),XW w.heap.size w W->VRd W F x u->Calls QW 151 #[u] W (n_ (p x) W)) :
    Calls QW 220 #[QQ A n J,.func (.func 151) #[] #[]] w (Pa_ l p w):=by
 have Y:=q_ E;have X:=q_ L;have I:=q_ y;have C:=q_ E.1;clear E L y;go_enter func220,ntmps220
 go_wp2_with fail;go_loopw [8] (λG wr=>∃k:Nat,k<=n/\G = QY QU (k:Nat)/\Q_ (((l.take k).any p)=false)/\Q_ (XW w.heap.size w wr)) (λG _=>n-(intOf G).toNat)
 case atStart=>exact⟨0,by omega,rfl,q_ (by simp),q_ (XV _ _)⟩
 case round=>
  obtain⟨k,hk,rfl,f,d⟩:=hrel;by_cases N:k<n
  ·obtain⟨x,q⟩:∃x,l[k]?=QJ x:=⟨l[k]'(by rw[<-C.o];exact N),XQ _⟩;have HR:=q_ (Y.o.under d.o X.o);obtain⟨ad,s,rfl,M,⟨B,a0,rfl,U,O⟩,T,c0,c1,c2,c3,c4,c5⟩:=HR.o.cellsAt q;have HX:=q_ q;have j:=q_ (YZ q);have i:=q_ (I.o x j.o _ wr d.o T);have b:=q_ (λ(h:p x=false)=>show (l.take (k+1)).any p=false from by rw[f_ HX.o,List.any_append,f.o];simp[h]);have c:=q_ (λ(h:p x=true)=>show l.any p=true from by rw[List.any_eq_true];exact⟨x,j.o,h⟩);obtain⟨r,Hr⟩:=a_ (p x);rw[Hr.o]at i b c;unfold c_ at i;have e1:(0:Int)<=k:=by omega
   have e2:(k:Int)<n:=by omega
   clear q O T M;go_wp2_with fail;refine i.o.mono ?_;rintro e w2 ⟨rfl,v⟩;have t:=q_ (d.o.trans (v.mono d.o.size));clear v
   cases r with
   | false=>
    have Z:=q_ (b.o rfl);have w1:IntKind.i64.wrap ((k:Int)+1)=(k:Int)+1:=YU _ (by omega);go_wp2_with fail;go_roundw
    case rel=>exact⟨k+1,by omega,by go_num,Z,t⟩
    case measure=>simp[intOf];omega
   | true=>
    have D:=q_ (c.o rfl);go_wp2_with fail;go_ret;exact⟨(k:Int),rfl,by rw[D.o];simp,t.o⟩
  ·have z:k=n:=by omega
   have D:=q_ (show l.any p=false from by have:=f.o;rw[YJ (by rw[z,C.o];exact XK _)]at this;exact this);subst z;go_wp2_with fail;go_ret;exact⟨-1,rfl,by rw[D.o];simp,d.o⟩
theorem C7_ (l:List g_) (B:V_ l<=1000000000) (F:Nat->Prop) (A:Option Addr) (n d:Nat) (w:QV) (f:∀g,F g->g<w.heap.size) (h:LRd w F l A n) (b:ad_ w) :
    Calls QW 150 #[QQ A n d,.func (.func 151) #[] #[]] w (n_ (l.any λv=>!bh_ v) w):=by
 have z:=dc_ l;have s:=q_ (Hv_ l (λv=>!bh_ v) F A n d w f h (by rw[h.1];omega) (λx y u W j c=>yo_ x (by have:=el_ y;omega) F u W (λg b=>XZ (f g b) j.size) c (j_ b j)));obtain⟨r,i⟩:=a_ (l.any λv=>!bh_ v);rw[i.o];clear h f b;go_enter func150,ntmps150
 go_wp2_with fail;refine s.o.mono ?_;rintro e C ⟨q,rfl,c,hb⟩;have t:=q_ c;have p:=q_ hb;clear c hb;go_wp2_with fail;go_ret;exact⟨by rw[<-i.o,<-t.o];rfl,p.o⟩
end
section
open Go Go.RowKit Go.Maps Go.WideMaps
theorem l8_ {w:QV} {F:Nat->Prop} {l:List J_} {A:Option Addr} {n:Nat} (h:SRd 7 PaR w F l A n) {i:Nat} {x:J_} (t:l[i]?=QJ x) :
    ∃ad s,A=QJ ad/\F ad.block/\VRd w F x.v (.agg (c_ x.v s))/\w.cell? (ad.add (i*7))=QJ (QZ x.key) /\
     w.cell? ⟨(ad.add (i*7)).block,(ad.add (i*7)).off+1,QK⟩=QJ (QY QU x.v.kind)/\w.cell? ⟨(ad.add (i*7)).block,(ad.add (i*7)).off+2,QK⟩=QJ (XY x.v.truth)/\w.cell? ⟨(ad.add (i*7)).block,(ad.add (i*7)).off+3,QK⟩=QJ (QY QU x.v.num) /\
     w.cell? ⟨(ad.add (i*7)).block,(ad.add (i*7)).off+4,QK⟩=QJ (QZ x.v.text)/\w.cell? ⟨(ad.add (i*7)).block,(ad.add (i*7)).off+5,QK⟩=QJ (QZ x.v.extra)/\w.cell? ⟨(ad.add (i*7)).block,(ad.add (i*7)).off+6,QK⟩=QJ s:=by
 obtain⟨ad,c,e,q,_,b,s,rfl,r⟩:=h.at_ t;have p:=b 0 (by omega);have d:=b 1 (by omega);have f:=b 2 (by omega);have g:=b 3 (by omega);have c4:=b 4 (by omega);have j:=b 5 (by omega);have o:=b 6 (by omega);rw[<-add_of_add]at d f g c4 j o;exact⟨ad,s,e,q,r,p,d,f,g,c4,j,o⟩
def bw_ (v:g_):Bool:=if v.kind=5 then I_ v 0&&v.list.all bh_ else bh_ v
def bd_:List ByteArray->List J_->Bool
 | _,[]=>true
 | ks,p::r=>(a6_ p.key&&(!inB ks p.key&&bw_ p.v))&&bd_ (ks++[p.key]) r
def bc_ (l:List J_):Bool:=bd_ [] l&&decide (l.length<=65536)
def zf_ (p:J_):Prop:=p.key.size<=2000000/\S_ p.v<=2000000
theorem x8_ (l:List J_):∀(k:Nat) (ks:List ByteArray),bd_ ks l=(bd_ ks (l.take k)&&bd_ (ks++(l.take k).map J_.key) (l.drop k)):=by
 induction l with
 | nil=>intro k ks;simp[bd_]
 | cons p r b=>
  intro k ks
  cases k with
  | zero=>simp[bd_]
  | succ k=>
   simp only[List.take_succ_cons,List.drop_succ_cons,bd_,List.map_cons];rw[b k (ks++[p.key])];simp only[Bool.and_assoc,UW,List.singleton_append]
theorem x7_ (l:List J_) (p:J_):∀ks:List ByteArray,bd_ ks (l++[p])=(bd_ ks l&&(a6_ p.key&&(!inB (ks++l.map J_.key) p.key&&bw_ p.v))):=by
 induction l with
 | nil=>intro ks;simp[bd_]
 | cons q r b=>
  intro ks;simp only[List.cons_append,bd_,List.map_cons,b,Bool.and_assoc,UW];simp
theorem ng_ {α : Type} {l:List α} {k:Nat} {x:α} (h:l[k]?=QJ x):l.drop k=x::l.drop (k+1):=by obtain⟨h1,rfl⟩:=List.getElem?_eq_some_iff.1 h;exact List.drop_eq_getElem_cons h1
structure Fy_ (w:QV) (m:Nat) (l:List J_) (k:Nat) (wr:QV):Prop where
 below:XW w.heap.size w wr
 loc:w.heap.size<=m
 set:a5_ 9 VS jy_ wr m ((l.take k).map J_.key)
 ok:bd_ [] (l.take k)=true
theorem I3_ {l:List J_} {k:Nat} {x:J_} (b:l[k]?=QJ x) (h:(a6_ x.key&&(!inB ((l.take k).map J_.key) x.key&&bw_ x.v))=false):bc_ l=false:=by unfold bc_;rw[x8_ l k [],ng_ b,bd_,List.nil_append,h];simp
theorem Ej_ {l:List J_} {k:Nat} {x:J_} (c:l[k]?=QJ x) (h:(a6_ x.key&&(!inB ((l.take k).map J_.key) x.key&&bw_ x.v))=true) (b:bd_ [] (l.take k)=true):bd_ [] (l.take (k+1))=true:=by rw[f_ c,x7_,b,List.nil_append,h];rfl
theorem Aq_ {v:g_} (h:v.kind=5):bw_ v=(I_ v 0 && !(v.list.any λx=>!bh_ x)):=by
 unfold bw_;rw[iP_ h];congr 1
 induction v.list with
 | nil=>rfl
 | cons a r b=>rw[List.all_cons,List.any_cons,Bool.not_or,Bool.not_not,b]
theorem Ef_ {v:g_} (h:v.kind≠5):bw_ v=bh_ v:=by unfold bw_;rw[iN_ h]
theorem td_ (l:List J_) (a5:∀p,p∈l->zf_ p) (ap:l.length<=2000000) (F:Nat->Prop) (A:Option Addr) (n b1:Nat) (w:QV) (hF:∀g,F g->g<w.heap.size) (T:SRd 7 PaR w F l A n) (O:ad_ w) :
    Calls QW 90 #[QQ A n b1] w (n_ (bc_ l) w):=by
 have b7:=@run_makeMap QW;have HL:=q_ T;have HF:=q_ hF;have HG:=q_ O;have am:=q_ a5;have a6:=q_ T.1;have b8:n<=2000000:=by rw[T.1];exact ap
 clear T hF O a5;obtain⟨m,Hm⟩:=a_ w.heap.size;have HP:=q_ (show bc_ l=(bd_ [] l&&decide (l.length<=65536)) from rfl);obtain⟨pb,ac⟩:=a_ (bc_ l);rw[ac.o]at HP ⊢;have ay:=q_ (λ(k:Nat) (x:J_) (U:l[k]?=QJ x) (h:(a6_ x.key&&(!inB ((l.take k).map J_.key) x.key&&bw_ x.v))=false)=>ac.o.symm.trans (I3_ U h));go_enter func90,ntmps90
 go_wp2_with fail;rw[Hm.o];go_loopw [10] (λaa wr=>∃k:Nat,k<=n/\aa = QY QU (k:Nat)/\Q_ (Fy_ w m l k wr)) (λaa _=>n-(intOf aa).toNat)
 case atStart=>
  refine⟨0,by omega,rfl,q_ ⟨(XV _ _).alloc (XK _) _,by rw[<-Hm.o];exact XK _,?_,rfl⟩⟩;rw[<-Hm.o];exact a5_.made _ _ _ _
 case round=>
  obtain⟨k,hk,rfl,f⟩:=hrel;by_cases b4:k<n
  ·obtain⟨x,U⟩:∃x,l[k]?=QJ x:=⟨l[k]'(by rw[<-a6.o];exact b4),XQ _⟩;have HX:=q_ U;have N:=q_ (am.o x (YZ U));obtain⟨ad,s,rfl,b2,hv,c0,c1,c2,c3,c4,c5,c6⟩:=l8_ (HL.o.under PaR.good f.o.below HF.o) U;obtain⟨B,cb,C,_,_⟩:=hv.inv;injection C with C;obtain rfl:s = QQ B x.v.list.length cb:=by have:=congrArg (λa:Array XJ=>a[5]?) C;simpa [c_] using this
   have HV:=q_ hv;clear U b2 hv C;obtain⟨X,b0⟩:=a_ x.v.list.length;rw[b0.o]at c6 HV;obtain⟨z,Hz⟩:=a_ wr.heap.size;obtain⟨w5,J⟩:=a_ (wr.alloc (XX #[QZ x.key,QY QU x.v.kind,XY x.v.truth,QY QU x.v.num,QZ x.v.text,QZ x.v.extra,QQ B X cb] 69));have I:=q_ (show XW wr.heap.size wr w5 from by rw[<-J.o];exact (XV _ _).alloc (XK _) _);have d:=q_ (show w5.heap[z]?=QJ (XX #[QZ x.key,QY QU x.v.kind,XY x.v.truth,QY QU x.v.num,QZ x.v.text,QZ x.v.extra,QQ B X cb] 69 (0,0)) from by rw[<-J.o,<-Hz.o];exact XU wr _);have a3:=q_ (show w5.heap.size=z+1 from by rw[<-J.o,<-Hz.o];simp);have e1:(0:Int)<=k:=by omega
   have e2:(k:Int)<n:=by omega
   go_upto_region 5 with fail;rw[J.o,Hz.o];have G:w.heap.size<=wr.heap.size:=f.o.below.size;have Z:=q_ (λ(W:QV) (hW:XW wr.heap.size wr W) (g:Nat) (O:F g)=>show g<W.heap.size from XZ (HF.o g O) (ZX G hW.size));have a0:=q_ (λ(g:Nat) (O:F g)=>show g<wr.heap.size from XZ (HF.o g O) G);have a1:=q_ (j_ HG.o f.o.below);have a7:=q_ (rb_ x.v (by have:=N.o.2;omega) F _ w5 (Z.o w5 I.o) (HV.o.under I.o a0.o) (j_ a1.o I.o));obtain⟨sc,af⟩:=a_ (bh_ x.v);rw[af.o]at a7;unfold c_ at a7;have d1:w5.cell? ⟨z,1,QK⟩=QJ (QY QU x.v.kind):=QX d.o 1;have d2:w5.cell? ⟨z,2,QK⟩=QJ (XY x.v.truth):=QX d.o 2;have d3:w5.cell? ⟨z,3,QK⟩=QJ (QY QU x.v.num):=QX d.o 3;have d4:w5.cell? ⟨z,4,QK⟩=QJ (QZ x.v.text):=QX d.o 4;have d5:w5.cell? ⟨z,5,QK⟩=QJ (QZ x.v.extra):=QX d.o 5;have d6:w5.cell? ⟨z,6,QK⟩=QJ (QQ B X cb):=QX d.o 6;clear c0 c1 c2 c3 c4 c5 c6;go_wp2_with fail;refine a7.o.mono ?_;rintro e w6 ⟨rfl,L⟩;have c:=q_ (I.o.trans (L.mono (by rw[a3.o,Hz.o];omega)));have b:=q_ ((L.block z (by rw[a3.o];omega)).trans d.o);have ak:=q_ (show z<w6.heap.size from XZ (by rw[a3.o];omega) L.size);clear L d1 d2 d3 d4 d5 d6;have d1:w6.cell? ⟨z,1,QK⟩=QJ (QY QU x.v.kind):=QX b.o 1;go_upto_if 20 with fail;go_cut [6] (λs6 wx=>s6 = XY (bw_ x.v)/\Q_ (XW w6.heap.size w6 wx))
   case first=>
    by_cases u:x.v.kind=5
    ·have q5:(x.v.kind==5)=true:=by rw[u];rfl
     have t:=q_ (Aq_ u);have a4:=q_ (ei_ x.v (by have:=N.o.2;omega) F _ w6 (Z.o w6 c.o) (HV.o.under c.o a0.o) (j_ a1.o c.o));obtain⟨mv,aw⟩:=a_ (I_ x.v 0);rw[aw.o]at a4 t;unfold c_ at a4;have d2:w6.cell? ⟨z,2,QK⟩=QJ (XY x.v.truth):=QX b.o 2;have d3:w6.cell? ⟨z,3,QK⟩=QJ (QY QU x.v.num):=QX b.o 3;have d4:w6.cell? ⟨z,4,QK⟩=QJ (QZ x.v.text):=QX b.o 4;have d5:w6.cell? ⟨z,5,QK⟩=QJ (QZ x.v.extra):=QX b.o 5;have d6:w6.cell? ⟨z,6,QK⟩=QJ (QQ B X cb):=QX b.o 6;clear u;go_wp2_with fail;refine a4.o.mono ?_;rintro e w7 ⟨rfl,M⟩;have Y:=q_ M;have E:=q_ (c.o.trans (M.mono (by have:=c.o.size;omega)));have d6:w7.cell? ⟨z,6,QK⟩=QJ (QQ B X cb):=QX ((M.block z ak.o).trans b.o) 6;clear M
     cases mv with
     | false=>
      go_wp2_with fail;go_meet;exact⟨by rw[t.o];rfl,Y⟩
     | true=>
      have ai:=q_ (show Calls QW 150 #[QQ B X cb,.func (.func 151) #[] #[]] w7 (n_ (x.v.list.any λv=>!bh_ v) w7) from by obtain⟨B',b6,C,_,T⟩:=(HV.o.under E.o a0.o).inv;injection C with C;have u:=congrArg (λa:Array XJ=>a[5]?) C;simp[c_]at u;obtain⟨rfl,rfl,rfl⟩:=u;exact C7_ x.v.list (by have:=N.o.2;have:=dv_ x.v;omega) F _ _ _ w7 (Z.o w7 E.o) T (j_ a1.o E.o));obtain⟨av,ar⟩:=a_ (x.v.list.any λv=>!bh_ v);rw[ar.o]at ai t;go_wp2_with fail;refine ai.o.mono ?_;rintro e w8 ⟨rfl,ag⟩;have au:=q_ (Y.o.trans (ag.mono Y.o.size));clear ag;go_wp2_with fail;go_meet;exact⟨by rw[t.o];rfl,au⟩
    ·have q5:(x.v.kind==5)=false:=by simp[u]
     have t:=q_ (Ef_ u);clear u;go_wp2_with fail;go_meet;exact⟨by rw[t.o,af.o],q_ (XV _ _)⟩
   case rest=>
    obtain⟨h6,ah⟩:=hcut;subst h6;obtain⟨pv,ae⟩:=a_ (bw_ x.v);rw[ae.o];have ab:=q_ (c.o.trans (ah.o.mono (by have:=c.o.size;omega)));have q:=q_ (show Fy_ w m l k wc from ⟨f.o.below.trans (ab.o.mono G),f.o.loc,f.o.set.below ab.o,f.o.ok⟩);have d0:wc.cell? ⟨z,0,QK⟩=QJ (QZ x.key):=QX ((ah.o.block z ak.o).trans b.o) 0;have aj:=q_ (λW=>vq_ x.key W);have r:=q_ (ay.o k x HX.o);have y:=q_ (λh=>Ej_ HX.o h f.o.ok);have aq:=q_ (Ce_ m ((l.take k).map J_.key) x.key (by have:=N.o.1;unfold VS maxLen;omega) (by simp;omega) wc q.o.set);rw[ae.o]at r y;obtain⟨tb,az⟩:=a_ (a6_ x.key);rw[az.o]at aj r y;obtain⟨ib,a2⟩:=a_ (inB ((l.take k).map J_.key) x.key);rw[a2.o]at r y;clear d1;go_wp2_with fail;refine (aj.o _).mono ?_;rintro e w9 ⟨rfl,b5⟩;subst b5
    cases tb with
    | false=>
     have j:=q_ (r.o rfl);go_wp2_with fail;go_ret;exact⟨by rw[j.o];rfl,q.o.below⟩
    | true=>
     go_wp2_with fail;refine aq.o.mono ?_;rintro e b9 ⟨rfl,a8,a9⟩;rw[a2.o];have D:=q_ (q.o.below.trans (a9.below (B:=w.heap.size) (λi _ hi=>by rw[hi];exact q.o.loc) q.o.below.size));have ao:=q_ a8;clear a8 a9
     cases ib with
     | true=>
      have j:=q_ (r.o rfl);go_wp2_with fail;go_ret;exact⟨by rw[j.o];rfl,D.o⟩
     | false=>
      cases pv with
      | false=>
       have j:=q_ (r.o rfl);go_wp2_with fail;go_ret;exact⟨by rw[j.o];rfl,D.o⟩
      | true=>
       have HY:=q_ (y.o rfl);have w1:IntKind.i64.wrap ((k:Int)+1)=(k:Int)+1:=YU _ (by omega);go_wp2_with fail;go_roundw
       case rel=>
        refine⟨k+1,by omega,by go_num,q_ ⟨D.o,q.o.loc,?_,HY.o⟩⟩;have h:=ao.o;unfold f3_ at h;rw[a2.o,iN_ (by decide)]at h;rw[f_ HX.o,List.map_append];exact h
       case measure=>simp[intOf];omega
  ·have b3:k=n:=by omega
   subst b3;have j:=q_ (show pb=decide (k<=65536) from by have h:=f.o.ok;rw[YJ (by rw[a6.o];exact XK _)]at h;rw[HP.o,h,a6.o];rfl);by_cases h6:k<=65536
   ·have e6:decide ((k:Int)<=65536)=true:=dT_ (by omega);rw[dT_ h6]at j;go_wp2_with fail;go_ret;exact⟨by rw[j.o];rfl,f.o.below⟩
   ·have e6:decide ((k:Int)<=65536)=false:=dF_ (by omega);rw[dF_ h6]at j;go_wp2_with fail;go_ret;exact⟨by rw[j.o];rfl,f.o.below⟩
def bo_:List ByteArray->List ByteArray->Bool
 | _,[]=>true
 | ks,s::r=>(a6_ s && !inB ks s)&&bo_ (ks++[s]) r
theorem Ad_ (l:List ByteArray):∀(k:Nat) (ks:List ByteArray),bo_ ks l=(bo_ ks (l.take k)&&bo_ (ks++l.take k) (l.drop k)):=by
 induction l with
 | nil=>intro k ks;simp[bo_]
 | cons p r b=>
  intro k ks
  cases k with
  | zero=>simp[bo_]
  | succ k=>
   simp only[List.take_succ_cons,List.drop_succ_cons,bo_];rw[b k (ks++[p])];simp only[Bool.and_assoc,UW,List.singleton_append]
theorem Ac_ (l:List ByteArray) (p:ByteArray):∀ks:List ByteArray,bo_ ks (l++[p])=(bo_ ks l&&(a6_ p && !inB (ks++l) p)):=by
 induction l with
 | nil=>intro ks;simp[bo_]
 | cons q r b=>
  intro ks;simp only[List.cons_append,bo_,b,Bool.and_assoc,UW];simp
theorem Lj_ {l:List ByteArray} {k:Nat} {x:ByteArray} (b:l[k]?=QJ x) (h:(a6_ x && !inB (l.take k) x)=false):bo_ [] l=false:=by rw[Ad_ l k [],ng_ b,bo_,List.nil_append,h];simp
theorem H6_ {l:List ByteArray} {k:Nat} {x:ByteArray} (c:l[k]?=QJ x) (h:(a6_ x && !inB (l.take k) x)=true) (b:bo_ [] (l.take k)=true):bo_ [] (l.take (k+1))=true:=by rw[f_ c,Ac_,b,List.nil_append,h];rfl
def Mu_ (m:Nat) (ks:List ByteArray) (x:ByteArray) (w:QV) (e:Ending) (w':QV):Prop:=
 e = YQ (XY (!(a6_ x && !inB ks x)))/\((a6_ x && !inB ks x)=true->a5_ 9 VS jy_ w' m (ks++[x]))/\Turn (λb=>b=m) w w'
theorem Ga_ (ca:Addr) (m:Nat) (ks:List ByteArray) (x:ByteArray) (s:VS x) (t:ks.length<=100000000) (w:QV) (z:w.cell? ca=QJ (.map (QJ m))) (q:a5_ 9 VS jy_ w m ks) :
    Calls QW 86 #[QZ x,YK (QJ ca)] w (Mu_ m ks x w):=by
 have f:=q_ (λW=>vq_ x W);have i:=q_ (Ce_ m ks x s t w q);clear s q;unfold Mu_;obtain⟨v,p⟩:=a_ (a6_ x);obtain⟨u,b⟩:=a_ (inB ks x);rw[p.o]at f ⊢;rw[b.o];go_enter func86,ntmps86
 go_wp2_with fail;refine (f.o _).mono ?_;rintro e A ⟨rfl,r⟩;subst r
 cases v with
 | false=>
  go_wp2_with fail;go_ret;exact⟨rfl,λh=>by simp at h,Turn.refl _ _⟩
 | true=>
  go_wp2_with fail;refine i.o.mono ?_;rintro e y ⟨rfl,c,d⟩;rw[b.o];have g:=q_ c;have j:=q_ d;clear c d
  cases u with
  | true=>
   go_wp2_with fail;go_ret;exact⟨rfl,λh=>by simp at h,j.o⟩
  | false=>
   go_wp2_with fail;go_ret;refine⟨rfl,λ_=>?_,j.o⟩;have h:=g.o;unfold f3_ at h;rw[b.o,iN_ (by decide)]at h;exact h
theorem A9_ {w:QV} {F:Nat->Prop} {l:List ByteArray} {A:Option Addr} {n:Nat} (h:SRd 1 TxR w F l A n) {i:Nat} {x:ByteArray} (j:l[i]?=QJ x) :
    ∃ad,A=QJ ad/\F ad.block/\w.cell? (ad.add i)=QJ (QZ x):=by
 obtain⟨ad,c,e,f,_,g,d⟩:=h.at_ j;have b:=g 0 (by omega);rw[d]at b;exact⟨ad,e,f,by simpa using b⟩
def M1_ (m:Nat) (l:List ByteArray) (w:QV) (e:Ending) (w':QV):Prop:=∃r:Int,e = YQ (QY QU r)/\(decide (0<=r) = !bo_ [] l)/\Turn (λb=>b=m) w w'
structure Pb_ (w:QV) (m:Nat) (l:List ByteArray) (k:Nat) (wr:QV):Prop where
 turn:Turn (λb=>b=m) w wr
 set:a5_ 9 VS jy_ wr m (l.take k)
 ok:bo_ [] (l.take k)=true
theorem Hu_ (l:List ByteArray) (i:∀s,s∈l->VS s) (ca:Addr) (m:Nat) (F:Nat->Prop) (A:Option Addr) (n L:Nat) (w:QV) (M:∀g,F g->g<w.heap.size/\g≠m) (D:SRd 1 TxR w F l A n) (hn:n<=10000000)
    (N:w.cell? ca=QJ (.map (QJ m))) (t:ca.block<w.heap.size/\ca.block≠m) (U:a5_ 9 VS jy_ w m []) :
    Calls QW 147 #[QQ A n L,.func (.func 86) #[] #[YK (QJ ca)]] w (M1_ m l w):=by
 have X:=q_ D;have G:=q_ M;have z:=q_ i;have W:=q_ N;have Y:=q_ U;have v:=q_ D.1;clear D M i N U;obtain⟨lb,d⟩:=a_ (bo_ [] l);have I:=q_ (λ(k:Nat) (x:ByteArray) (b:l[k]?=QJ x) (h:(a6_ x && !inB (l.take k) x)=false)=>d.o.symm.trans (Lj_ b h));unfold M1_;rw[d.o];go_enter func147,ntmps147
 go_wp2_with fail;go_loopw [8] (λE wr=>∃k:Nat,k<=n/\E = QY QU (k:Nat)/\Q_ (Pb_ w m l k wr)) (λE _=>n-(intOf E).toNat)
 case atStart=>exact⟨0,by omega,rfl,q_ ⟨Turn.refl _ _,Y.o,rfl⟩⟩
 case round=>
  obtain⟨k,hk,rfl,c⟩:=hrel;by_cases O:k<n
  ·obtain⟨x,b⟩:∃x,l[k]?=QJ x:=⟨l[k]'(by rw[<-v.o];exact O),XQ _⟩;have Z:=q_ b;obtain⟨ad,rfl,_,c0⟩:=A9_ (X.o.keep TxR.good (w':=wr) (λp T=>c.o.turn.cell (G.o _ T).1 (G.o _ T).2)) b;have f:=q_ (Ga_ ca m (l.take k) x (z.o x (YZ b)) (by simp;omega) wr ((c.o.turn.cell t.1 t.2).trans W.o) c.o.set);have y:=q_ (I.o k x b);have q:=q_ (λh=>H6_ b h c.o.ok);unfold Mu_ at f;obtain⟨r,Hr⟩:=a_ (a6_ x && !inB (l.take k) x);rw[Hr.o]at f y q;have e1:(0:Int)<=k:=by omega
   have e2:(k:Int)<n:=by omega
   clear b;go_wp2_with fail;refine f.o.mono ?_;rintro e w2 ⟨rfl,j,ht⟩;have J:=q_ (c.o.turn.trans ht);have C:=q_ j;clear j ht
   cases r with
   | true=>
    have HY:=q_ (q.o rfl);have w1:IntKind.i64.wrap ((k:Int)+1)=(k:Int)+1:=YU _ (by omega);go_wp2_with fail;go_roundw
    case rel=>exact⟨k+1,by omega,by go_num,q_ ⟨J.o,by rw[f_ Z.o];exact C.o (by trivial),HY.o⟩⟩
    case measure=>simp[intOf];omega
   | false=>
    have B:=q_ (y.o rfl);go_wp2_with fail;go_ret;exact⟨(k:Int),rfl,by rw[B.o];simp,J.o⟩
  ·have u:k=n:=by omega
   have B:=q_ (show lb=true from by have h:=c.o.ok;rw[YJ (by rw[u,v.o];exact XK _),d.o]at h;exact h);subst u;go_wp2_with fail;go_ret;exact⟨-1,rfl,by rw[B.o];simp,c.o.turn⟩
def zg_ (m:Nat) (l:List ByteArray) (w:QV) (e:Ending) (w':QV):Prop:=e = YQ (XY (!bo_ [] l))/\Turn (λb=>b=m) w w'
theorem C6_ (l:List ByteArray) (b:∀s,s∈l->VS s) (ca:Addr) (m:Nat) (F:Nat->Prop) (A:Option Addr) (n c:Nat) (w:QV) (i:∀g,F g->g<w.heap.size/\g≠m) (p:SRd 1 TxR w F l A n) (x:n<=10000000)
    (j:w.cell? ca=QJ (.map (QJ m))) (d:ca.block<w.heap.size/\ca.block≠m) (t:a5_ 9 VS jy_ w m []) :
    Calls QW 85 #[QQ A n c,.func (.func 86) #[] #[YK (QJ ca)]] w (zg_ m l w):=by
 have f:=q_ (Hu_ l b ca m F A n c w i p x j d t);clear p i b t j d;unfold M1_ at f;unfold zg_;obtain⟨lb,h⟩:=a_ (bo_ [] l);rw[h.o]at f ⊢;go_enter func85,ntmps85
 go_wp2_with fail;refine f.o.mono ?_;rintro e y ⟨q,rfl,r,hb⟩;have v:=q_ r;have u:=q_ hb;clear r hb;go_wp2_with fail;go_ret;exact⟨by rw[<-v.o];rfl,u.o⟩
end
section
open Go Go.RowKit
section
variable {α : Type} {R:bu_ α} {w:QV} {F:Nat->Prop} {l:List α} {ad:Addr} {n sz:Nat}
theorem SRd.fn (h:SRd sz R w F l (QJ ad) n):∃cs:Nat->Array XJ,∀i x,l[i]?=QJ x->F ad.block/\(cs i).size=sz/\(∀j,j<sz->w.cell? (ad.add (i*sz+j))=(cs i)[j]?)/\R w F x (cs i):=by
 classical
 have b:∀i,∃c:Array XJ,∀x,l[i]?=QJ x->F ad.block/\c.size=sz/\(∀j,j<sz->w.cell? (ad.add (i*sz+j))=c[j]?)/\R w F x c:=λi=>by
  cases d:l[i]? with
  | none=>exact⟨#[],λx h=>by cases h⟩
  | some x=>
   obtain⟨p,c,e,o,h1,h2,g⟩:=h.at_ d;injection e with e;subst e;exact⟨c,λy f=>by injection f with f;subst f;exact⟨o,h1,h2,g⟩⟩
 exact⟨λi=>(b i).choose,λi x d=>(b i).choose_spec x d⟩
theorem kq_ {cs:Nat->Array XJ} (b:∀i,i<n->(cs i).size=sz) (g:∀i,i<n->∀j,j<sz->w.cell? (ad.add (i*sz+j))=(cs i)[j]?) (e:0<sz):∀j u,(R_ cs n)[j]?=QJ u->w.cell? (ad.add j)=QJ u:=by
 intro j u f;have o:=ap_ b;have h:j<n*sz:=by rw[<-o];exact (List.getElem?_eq_some_iff.1 f).1
 have hi:j / sz<n:=Nat.div_lt_of_lt_mul (by rw[Nat.mul_comm];exact h);have d:j % sz<sz:=Nat.mod_lt _ e;have c:j / sz*sz+j % sz=j:=by rw[Nat.mul_comm];exact Nat.div_add_mod j sz
 have h1:=cr_ b hi d;rw[c]at h1;have h2:=g _ hi _ d;rw[c]at h2;rw[h2,<-h1,f]
theorem qe_ {cs:Nat->Array XJ} (h1:∀i,i<n->∀u∈(cs i).toList,u.oneCell'=true):∀u∈R_ cs n,u.oneCell'=true:=by intro u b;unfold R_ at b;obtain⟨i,hi,b⟩:=List.mem_flatMap.1 b;exact h1 i (List.mem_range.1 hi) u b
end
def t6_ {α : Type} (E sz:Nat) (R:bu_ α) (F:Nat->Prop) (l:List α) (w:QV) (e:Ending) (w':QV):Prop:=
 ∃s,e = YQ s/\XW w.heap.size w w'/\x_ E sz R w' (λb=>F b\/(w.heap.size<=b/\b<w'.heap.size)) l s/\(∀g,s.ownBlock=QJ g->w.heap.size<=g)
def VaR:bu_ g_:=λw F x c=>VRd w F x (.agg c)
theorem VaR.good:VaR.Good:=⟨λh c=>h.keep c,λh b=>h.mono b⟩
theorem VaR.one {w:QV} {F:Nat->Prop} {x:g_} {c:Array XJ} (h:VaR w F x c):∀u∈c.toList,u.oneCell'=true:=by obtain⟨A,d,b,_⟩:=VRd.inv h;injection b with b;subst b;exact Ca_ x A _ d
theorem TxR.one {w:QV} {F:Nat->Prop} {x:ByteArray} {c:Array XJ} (h:TxR w F x c):∀u∈c.toList,u.oneCell'=true:=by have h:c=#[QZ x]:=h;subst h;exact Lv_ x
theorem zs_ (l:List ByteArray) (F:Nat->Prop) (A:Option Addr) (n B:Nat) (hn:n<=10000000) (w:QV) (y:∀g,F g->g<w.heap.size) (t:SRd 1 TxR w F l A n) :
    Calls QW 152 #[QQ A n B] w (t6_ 9 1 TxR F l w):=by
 have s:=q_ t.1;have J:=q_ y;have a0:∀(w:QV) (a:Option Addr) (n c G C:Nat),(binOp .eql 67 (QQ a n c) (QQ QK G C)).run QW w = .ok (XY a.isNone) w:=λw a n c G C=>Lib.run_eql_slice_nil w _ _ a n c G C underlying67
 cases A with
 | none=>
  have h0:l=[]:=by
   rcases Nat.eq_zero_or_pos n with h | h
   ·exact UK (by rw[<-s.o,h])
   ·obtain⟨ad,e,_⟩:=t.2 h
    cases e
  have T:=q_ h0;clear t y h0;go_enter func152,ntmps152
  go_wp2_with fail;go_ret;rw[T.o];exact⟨QQ none 0 0,rfl,XV _ _,x_.nil _ _ _ _ _,λg q=>by cases q⟩
 | some ad=>
  obtain⟨cs,f⟩:=t.fn;have b:∀i,i<n->∃x,l[i]?=QJ x:=λi hi=>⟨l[i]'(by rw[<-s.o];exact hi),XQ _⟩;have D:=q_ (λi (hi:i<n)=>by obtain⟨x,d⟩:=b i hi;exact (show (cs i).size=1 from (f i x d).2.1));have h1:=q_ (qe_ (n:=n) (cs:=cs) λi hi=>by obtain⟨x,d⟩:=b i hi;exact TxR.one (f i x d).2.2.2)
  have z:=q_ (λ(o:Obj)=>kq_ (w:=w.alloc o) (ad:=ad) D.o (λi hi j Y=>by
   obtain⟨x,d⟩:=b i hi;obtain⟨W,_,X,_⟩:=f i x d;rw[World.cell?_alloc_lt w o _ (by rw[block_of_add];exact y _ W)];exact X j Y) (by decide))
  have U:=q_ (λi x d=>(f i x d).2.2.2);clear t y f b;obtain⟨i0,hi,L,M,N⟩:=info_parts qk_;go_enter func152,ntmps152
  go_wp2_with (at_builtin;refine wpList_append_own _ rfl _ _ 67 rfl w.heap.size 9 i0 (QZ ⟨#[]⟩) 1 16 underlying67 hi L M N rfl (by decide) _ _ _ rfl (World.ownsRow_made w #[] 0 (XK _) (Nat.zero_le _) rfl) ad n B (R_ cs n) rfl (ap_ D.o) (z.o _) h1.o (by unfold maxLen;omega) (by omega) (by simp) ?_)
  intro O w1 u r E;have I:=q_ (((XV _ w).alloc (XK _) (XX #[] 9)).grown r (by simp) (by intro k Z;simp[Value.ownBlock]at Z;omega));have v:=q_ (show w1.ownsRow w.heap.size 9 1 O n (R_ cs n) from by simpa using u);clear u r E;go_wp2_with fail;go_ret;refine⟨O,rfl,I.o,⟨cs,by rw[<-s.o];exact l7_ v.o (Nat.zero_le _),λi hi=>D.o i (by rw[s.o];exact hi),λg q=>.inr (v.o.lt g q),λi x d=>?_⟩,λg q=>(v.o.lt g q).1⟩;refine TxR.good.mono (TxR.good.keep (U.o i x d) λp hp=>I.o.cell (J.o _ hp)) λg q=>⟨.inl q,λe=>?_⟩;have h1:=(v.o.lt g e).1;have h2:=J.o g q;omega
theorem zt_ (l:List g_) (F:Nat->Prop) (A:Option Addr) (n B:Nat) (hn:n<=10000000) (w:QV) (y:∀g,F g->g<w.heap.size) (t:SRd 6 VaR w F l A n) :
    Calls QW 278 #[QQ A n B] w (t6_ 39 6 VaR F l w):=by
 have s:=q_ t.1;have J:=q_ y;have a0:∀(w:QV) (a:Option Addr) (n c G C:Nat),(binOp .eql 37 (QQ a n c) (QQ QK G C)).run QW w = .ok (XY a.isNone) w:=λw a n c G C=>Lib.run_eql_slice_nil w _ _ a n c G C underlying37
 cases A with
 | none=>
  have h0:l=[]:=by
   rcases Nat.eq_zero_or_pos n with h | h
   ·exact UK (by rw[<-s.o,h])
   ·obtain⟨ad,e,_⟩:=t.2 h
    cases e
  have T:=q_ h0;clear t y h0;go_enter func278,ntmps278
  go_wp2_with fail;go_ret;rw[T.o];exact⟨QQ none 0 0,rfl,XV _ _,x_.nil _ _ _ _ _,λg q=>by cases q⟩
 | some ad=>
  obtain⟨cs,f⟩:=t.fn;have b:∀i,i<n->∃x,l[i]?=QJ x:=λi hi=>⟨l[i]'(by rw[<-s.o];exact hi),XQ _⟩;have D:=q_ (λi (hi:i<n)=>by obtain⟨x,d⟩:=b i hi;exact (show (cs i).size=6 from (f i x d).2.1));have h1:=q_ (qe_ (n:=n) (cs:=cs) λi hi=>by obtain⟨x,d⟩:=b i hi;exact VaR.one (f i x d).2.2.2)
  have z:=q_ (λ(o:Obj)=>kq_ (w:=w.alloc o) (ad:=ad) D.o (λi hi j Y=>by
   obtain⟨x,d⟩:=b i hi;obtain⟨W,_,X,_⟩:=f i x d;rw[World.cell?_alloc_lt w o _ (by rw[block_of_add];exact y _ W)];exact X j Y) (by decide))
  have U:=q_ (λi x d=>(f i x d).2.2.2);clear t y f b;obtain⟨i0,hi,L,M,N⟩:=info_parts Bx_;go_enter func278,ntmps278
  go_wp2_with (at_builtin;refine wpList_append_own _ rfl _ _ 37 rfl w.heap.size 39 i0 (.agg #[QY QU 0,XY false,QY QU 0,QZ ⟨#[]⟩,QZ ⟨#[]⟩,QQ QK 0 0]) 6 80 underlying37 hi L M N rfl (by decide) _ _ _ rfl (World.ownsRow_made w #[] 0 (XK _) (Nat.zero_le _) rfl) ad n B (R_ cs n) rfl (ap_ D.o) (z.o _) h1.o (by unfold maxLen;omega) (by omega) (by simp) ?_)
  intro O w1 u r E;have I:=q_ (((XV _ w).alloc (XK _) (XX #[] 39)).grown r (by simp) (by intro k Z;simp[Value.ownBlock]at Z;omega));have v:=q_ (show w1.ownsRow w.heap.size 39 6 O n (R_ cs n) from by simpa using u);clear u r E;go_wp2_with fail;go_ret;refine⟨O,rfl,I.o,⟨cs,by rw[<-s.o];exact l7_ v.o (Nat.zero_le _),λi hi=>D.o i (by rw[s.o];exact hi),λg q=>.inr (v.o.lt g q),λi x d=>?_⟩,λg q=>(v.o.lt g q).1⟩;refine VaR.good.mono (VaR.good.keep (U.o i x d) λp hp=>I.o.cell (J.o _ hp)) λg q=>⟨.inl q,λe=>?_⟩;have h1:=(v.o.lt g e).1;have h2:=J.o g q;omega
end
end Go.Proofs.YtefhfadjajcmkaaGreatDoor
