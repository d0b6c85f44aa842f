/- Triples in orders. -/
import Derived.Test.YtefhfadjajcmkaaGreatDoorJ1
import Derived.Laws.OwnMore
import Derived.Lib.ItoaMem
set_option linter.unusedVariables false
set_option linter.unusedSimpArgs false
set_option maxRecDepth 100000
set_option maxHeartbeats 64000000
namespace Go.Proofs.YtefhfadjajcmkaaGreatDoor
open Go.Lib (cell_of_heap)
section
def bW:Nat:=1000000000
def pv (f:Nat->Nat):Nat->Nat
 | 0=>0
 | i+1=>pv f i+f i*bW ^ i
theorem jw_ {f g:Nat->Nat} {n:Nat} (h:∀i,i<n->f i=g i):pv f n=pv g n:=by
 induction n with
 | zero=>rfl
 | succ n a=>rw[pv,pv,a (λi hi=>h i (by omega)),h n (by omega)]
theorem J5_ {f:Nat->Nat} {n:Nat} (h:∀i,i<n->f i<bW):pv f n<bW ^ n:=by
 induction n with
 | zero=>simp[pv]
 | succ n b=>
  have h1:=b (λi hi=>h i (by omega));have h2:=h n (by omega);rw[pv,Nat.pow_succ];have a:(f n+1)*bW ^ n<=bW*bW ^ n:=Nat.mul_le_mul_right _ h2;rw[Nat.succ_mul]at a;rw[Nat.mul_comm (bW ^ n) bW];omega
theorem Km_ {f g o:Nat->Nat} {i c:Nat} (h:pv o i+c*bW ^ i=pv f i+pv g i) (d:o i=(f i+g i+c) % bW) :
    pv o (i+1)+(f i+g i+c) / bW*bW ^ (i+1)=pv f (i+1)+pv g (i+1):=by
 have e:=Nat.div_add_mod (f i+g i+c) bW;have a:(o i+bW*((f i+g i+c) / bW))*bW ^ i=(f i+g i+c)*bW ^ i:=by rw[d,Nat.add_comm,e]
 rw[pv,pv,pv,Nat.pow_succ];rw[Nat.add_mul,Nat.mul_assoc]at a;rw[Nat.add_mul,Nat.add_mul]at a;have b:(f i+g i+c) / bW*(bW ^ i*bW)=bW*((f i+g i+c) / bW*bW ^ i):=by rw[<-Nat.mul_assoc,Nat.mul_comm]
 rw[b];omega
theorem Kn_ {f g o:Nat->Nat} {i b:Nat} (h:pv o i+pv g i=pv f i+b*bW ^ i) (p:g i<bW) (hb:b<=1) (n:f i<bW) (k:o i=(f i+bW-g i-b) % bW) :
    pv o (i+1)+pv g (i+1)=pv f (i+1)+(1-(f i+bW-g i-b) / bW)*bW ^ (i+1)/\(f i+bW-g i-b) / bW<=1:=by
 have j:f i+bW-g i-b<bW*2:=by omega
 have e:=Nat.div_add_mod (f i+bW-g i-b) bW;have a:(f i+bW-g i-b) / bW<=1:=Nat.le_of_lt_succ (Nat.div_lt_of_lt_mul j);refine⟨?_,a⟩
 have d:o i+g i+b=f i+(1-(f i+bW-g i-b) / bW)*bW:=by
  rw[k];rcases Nat.lt_or_ge ((f i+bW-g i-b) / bW) 1 with h1 | h1
  ·have h2:(f i+bW-g i-b) / bW=0:=Nat.lt_one_iff.1 h1;rw[h2]at e ⊢;omega
  ·have h2:(f i+bW-g i-b) / bW=1:=Nat.le_antisymm a h1;rw[h2]at e ⊢;omega
 rw[pv,pv,pv,Nat.pow_succ];have m:=congrArg (· * bW ^ i) d;simp only[Nat.add_mul,Nat.mul_assoc]at m;have l:(1-(f i+bW-g i-b) / bW)*(bW ^ i*bW)=(1-(f i+bW-g i-b) / bW)*(bW*bW ^ i):=by rw[Nat.mul_comm (bW ^ i)]
 rw[l];omega
theorem w2_ {f g o:Nat->Nat} {n b:Nat} (h:pv o n+pv g n=pv f n+b*bW ^ n) (a:∀i,i<n->o i<bW) (d:pv g n<=pv f n):pv o n=pv f n-pv g n:=by
 have h1:=J5_ a;rcases Nat.eq_zero_or_pos b with h2 | h2
 ·subst h2;omega
 ·have j:1*bW ^ n<=b*bW ^ n:=Nat.mul_le_mul_right _ h2;omega
theorem D4_ {f g:Nat->Nat} {n i:Nat} (a:∀j,j<n->f j<bW) (hi:i<n) (b:∀j,i<j->j<n->f j=g j) (d:f i<g i):pv f n<pv g n:=by
 induction n with
 | zero=>omega
 | succ n k=>
  rw[pv,pv];by_cases e:i=n
  ·subst e;have h1:=J5_ (f:=f) (n:=i) (λj h=>a j (by omega));have h2:(f i+1)*bW ^ i<=g i*bW ^ i:=Nat.mul_le_mul_right _ d;rw[Nat.succ_mul]at h2;omega
  ·have:=k (λj h=>a j (by omega)) (by omega) (λj h1 h2=>b j h1 (by omega));rw[b n (by omega) (by omega)];omega
def ao_:List UInt8->Nat:=λl=>l.foldl (λn c=>n*10+(c.toNat-48)) 0
theorem of_ (l:List UInt8) (c:UInt8):ao_ (l++[c])=ao_ l*10+(c.toNat-48):=by simp[ao_]
theorem D5_ (m:List UInt8):∀n:Nat,m.foldl (λn c=>n*10+(c.toNat-48)) n=n*10 ^ m.length+ao_ m:=by
 induction m with
 | nil=>intro n;simp[ao_]
 | cons c r a=>
  intro n;have h1:=a (n*10+(c.toNat-48));have h2:=a (0*10+(c.toNat-48));rw[List.foldl_cons,h1];show _=n*10 ^ (r.length+1)+(c::r).foldl (λn c=>n*10+(c.toNat-48)) 0;rw[List.foldl_cons,h2,Nat.pow_succ,Nat.add_mul,Nat.mul_assoc,Nat.mul_comm 10,Nat.zero_mul,Nat.zero_add,Nat.add_assoc]
theorem dq_ (l m:List UInt8):ao_ (l++m)=ao_ l*10 ^ m.length+ao_ m:=by unfold ao_;rw[List.foldl_append];exact D5_ m _
end
section
structure D6_ (s:ByteArray) (neg:Bool) (a b:List UInt8):Prop where
 eq:s.data.toList=cond neg [45] []++(a++46::b)
 la:1<=a.length/\a.length<=40
 lb:1<=b.length/\b.length<=20
 da:a.all a8_=true
 db:b.all a8_=true
theorem ub_ {D:List Nat} (a:∀i,atD D i<=9) (hi lo:Nat):(ef_ D hi lo).all a8_=true:=by rw[List.all_eq_true];intro c b;obtain⟨j,_,rfl⟩:=List.mem_map.1 b;rw[cs_,C9_ (a _)];have:=a (hi-1-j);omega
theorem qy_ {s:ByteArray} (h:cr_ s=true):∃d a b,D6_ s d a b:=by
 unfold cr_ at h;rw[Bool.and_eq_true,decide_eq_true_iff,decide_eq_true_iff]at h;obtain⟨h1,h2⟩:=h
 cases hp:is_ s with
 | none=>
  unfold et_ at h1;rw[hp]at h1
  cases h1
 | some q=>
  obtain⟨d,D,S⟩:=q;have f:=(wv_ hp).1;unfold et_ at h1 h2;rw[hp]at h1 h2;simp only at h1 h2
  cases ho:du_ D S with
  | true=>rw[ho]at h1;cases h1
  | false=>
   rw[ho]at h2;simp only[cond_false]at h2;unfold du_ at ho;rw[Bool.or_eq_false_iff,decide_eq_false_iff_not,decide_eq_false_iff_not]at ho;have i:S+1<=l6_ D S:=Nat.le_max_right _ _;have g:ns_ D S<=S:=Hr_ D S S 0 (by omega);refine⟨d && !l4_ D,ef_ D (l6_ D S) S,ef_ D S (ns_ D S)++cond (decide (ns_ D S=S)) [48] [],?_,?_,?_,ub_ f _ _,?_⟩
   ·rw[<-h2];show (nt_ d D S).data.toList=_;unfold nt_;simp[List.append_assoc]
   ·rw[ga_];omega
   ·rw[List.length_append,ga_];by_cases e:ns_ D S=S
    ·rw[decide_eq_true e];simp only[cond_true,List.length_singleton];omega
    ·rw[decide_eq_false e];simp only[cond_false,List.length_nil];omega
   ·rw[List.all_append,ub_ f,Bool.true_and];by_cases e:ns_ D S=S
    ·rw[decide_eq_true e];rfl
    ·rw[decide_eq_false e];rfl
def g2_ (s:ByteArray):Int:=
 let l:=s.data.toList
 let a:=l.head?==some 45
 let r:=cond a l.tail l
 let m:Int:=((ao_ (r.takeWhile (· != 46)++(r.dropWhile (· != 46)).tail)*10 ^ (20-((r.dropWhile (· != 46)).tail).length):Nat):Int)
 cond a (-m) m
theorem D7_ {a b:List UInt8} (h:46∉a):(a++46::b).takeWhile (· != 46)=a/\(a++46::b).dropWhile (· != 46)=46::b:=by
 induction a with
 | nil=>simp
 | cons c r f=>
  have g:(c != 46)=true:=by rw[bne_iff_ne];exact λe=>h (by rw[e];exact List.mem_cons_self ..)
  have h2:=f (λd=>h (List.mem_cons_of_mem _ d));simp[g,h2.1,h2.2]
theorem sr_ {s:ByteArray} {d:Bool} {a b:List UInt8} (h:D6_ s d a b):g2_ s=cond d (-((ao_ (a++b)*10 ^ (20-b.length):Nat):Int)) ((ao_ (a++b)*10 ^ (20-b.length):Nat):Int):=by
 have f:=z6_ h.da
 have i:(a++46::b).head?≠some 45:=by
  cases a with
  | nil=>exact absurd h.la.1 (by simp)
  | cons c r=>
   intro e;have k:c=45:=by simpa using e
   have h1:=h.da;rw[List.all_cons,Bool.and_eq_true,cs_,k]at h1;have:=h1.1.1;revert this
   decide
 obtain⟨j,g⟩:=D7_ (b:=b) f;unfold g2_;simp only[h.eq]
 cases d with
 | true=>simp[j,g]
 | false=>
  simp only[cond_false,List.nil_append];have hb:((a++46::b).head?==some 45)=false:=beq_eq_false_iff_ne.2 i;rw[hb];simp only[cond_false];rw[j,g];rfl
def gc_ (a b:ByteArray):Int:=if g2_ a<g2_ b then -1 else if g2_ b<g2_ a then 1 else 0
theorem Aa_ (k:Nat):ao_ (List.replicate k 48)=0:=by
 induction k with
 | zero=>rfl
 | succ k a=>
  rw[List.replicate_succ',of_,a];rfl
theorem H4_ (l:List UInt8) (k:Nat):ao_ (l++List.replicate k 48)=ao_ l*10 ^ k:=by rw[dq_,Aa_,List.length_replicate,Nat.add_zero]
theorem D8_ {w:Nat->Nat} {l r:List UInt8} {i:Nat} (h:pv w i+ao_ r*bW ^ i=ao_ l) (a:w i=ao_ (r.drop (r.length-9))):pv w (i+1)+ao_ (r.take (r.length-9))*bW ^ (i+1)=ao_ l:=by
 have e:=dq_ (r.take (r.length-9)) (r.drop (r.length-9));rw[List.take_append_drop,<-a]at e
 have b:ao_ (r.take (r.length-9))*10 ^ (r.drop (r.length-9)).length=ao_ (r.take (r.length-9))*bW:=by
  rcases Nat.lt_or_ge r.length 9 with h1 | h1
  ·have h2:r.length-9=0:=by omega
   rw[h2,List.take_zero];simp[ao_]
  ·have h2:(r.drop (r.length-9)).length=9:=by rw[List.length_drop];omega
   rw[h2];rfl
 rw[b]at e;rw[pv,Nat.pow_succ,<-h,e,Nat.add_mul,Nat.mul_assoc,Nat.mul_comm (bW ^ i) bW];omega
end
section
open Go
structure i4_ {α : Type} (c:α -> α -> Int):Prop where
 val:∀a b,c a b = -1\/c a b=0\/c a b=1
 eqv:∀a b,c a b=0↔a=b
 anti:∀a b,c b a = -c a b
 trans:∀a b d,c a b<=0->c b d<=0->c a d<=0
section
variable {α β : Type} {c:α -> α -> Int} {e:β -> β -> Int}
theorem i4_.refl (h:i4_ c) (a:α):c a a=0:=(h.eqv a a).2 rfl
theorem i4_.lt_trans (h:i4_ c) {a b d:α} (h1:c a b<0) (h2:c b d<=0):c a d<0:=by
 have i:=h.trans a b d (by omega) h2;rcases Int.lt_or_eq_of_le i with f | f
 ·exact f
 ·have g:=(h.eqv a d).1 f;subst g;have:=h.anti a b;omega
theorem i4_.trans_lt (h:i4_ c) {a b d:α} (h1:c a b<=0) (h2:c b d<0):c a d<0:=by
 have i:=h.trans a b d h1 (by omega);rcases Int.lt_or_eq_of_le i with f | f
 ·exact f
 ·have g:=(h.eqv a d).1 f;subst g;have:=h.anti a b;omega
def a6_ (x y:Int):Int:=if x=0 then y else x
theorem i4_.prod (h:i4_ c) (k:i4_ e):i4_ (λp q:α × β=>a6_ (c p.1 q.1) (e p.2 q.2)) where
 val p q:=by
  unfold a6_;split
  ·exact k.val _ _
  ·exact h.val _ _
 eqv p q:=by
  unfold a6_;constructor
  ·intro h0;split at h0
   ·rename_i h1;exact Prod.ext ((h.eqv _ _).1 h1) ((k.eqv _ _).1 h0)
   ·rename_i h1;exact absurd h0 h1
  ·rintro rfl;rw[if_pos (h.refl _)];exact k.refl _
 anti p q:=by
  unfold a6_;have h1:=h.anti p.1 q.1;have h2:=k.anti p.2 q.2;by_cases a:c p.1 q.1=0
  ·rw[if_pos a,if_pos (by omega),h2]
  ·rw[if_neg a,if_neg (by omega),h1]
 trans p q r:=by
  unfold a6_;intro h1 h2;by_cases a:c p.1 q.1=0
  ·rw[if_pos a]at h1;have d:=(h.eqv _ _).1 a;rw[d];by_cases b:c q.1 r.1=0
   ·rw[if_pos b]at h2 ⊢;exact k.trans _ _ _ h1 h2
   ·rw[if_neg b]at h2 ⊢;exact h2
  ·rw[if_neg a]at h1;by_cases b:c q.1 r.1=0
   ·have d:=(h.eqv _ _).1 b;rw[<-d,if_neg a];exact h1
   ·rw[if_neg b]at h2;have f:=h.lt_trans (show c p.1 q.1<0 by omega) h2;rw[if_neg (by omega)];omega
end
def ce_ (a b:Int):Int:=if a<b then -1 else if b<a then 1 else 0
theorem da_:i4_ ce_ where
 val a b:=by unfold ce_;split<;>(try split)<;>omega
 eqv a b:=by unfold ce_;split<;>(try split)<;>omega
 anti a b:=by unfold ce_;split<;>(try split)<;>(try split)<;>omega
 trans a b d:=by unfold ce_;split<;>split<;>(try split)<;>(try split)<;>(try split)<;>omega
theorem uc_ (a:List UInt8):Op.bytesLess a a=false:=by
 induction a with
 | nil=>rfl
 | cons x r b=>simp[Op.bytesLess,b]
theorem Ab_ (a b:List UInt8):Op.bytesLess a b=true->Op.bytesLess b a=false:=by
 induction a generalizing b with
 | nil=>intro _;cases b<;>rfl
 | cons x r d=>
  cases b with
  | nil=>intro h;cases h
  | cons y s=>
   intro h;simp only[Op.bytesLess,Bool.or_eq_true,Bool.and_eq_true,decide_eq_true_eq,beq_iff_eq]at h;simp only[Op.bytesLess,Bool.or_eq_false_iff,Bool.and_eq_false_iff,decide_eq_false_iff_not,beq_eq_false_iff_ne];rcases h with h | ⟨rfl,h⟩
   ·exact⟨λh2=>absurd (UInt8.lt_trans h h2) (UInt8.lt_irrefl _),.inl (λe=>by subst e;exact absurd h (UInt8.lt_irrefl _))⟩
   ·exact⟨UInt8.lt_irrefl _,.inr (d s h)⟩
theorem gd_ (a b:List UInt8):Op.bytesLess a b=false->Op.bytesLess b a=false->a=b:=by
 induction a generalizing b with
 | nil=>cases b with
  | nil=>intro _ _;rfl
  | cons y s=>intro h;cases h
 | cons x r i=>
  cases b with
  | nil=>intro _ h;cases h
  | cons y s=>
   intro h1 h2;simp only[Op.bytesLess,Bool.or_eq_false_iff,Bool.and_eq_false_iff,decide_eq_false_iff_not,beq_eq_false_iff_ne]at h1 h2;have d:x=y:=UInt8.le_antisymm (UInt8.not_lt.1 h2.1) (UInt8.not_lt.1 h1.1);subst d;have g:Op.bytesLess r s=false:=by rcases h1.2 with h | h;exact absurd rfl h;exact h
   have f:Op.bytesLess s r=false:=by rcases h2.2 with h | h;exact absurd rfl h;exact h
   rw[i s g f]
theorem w3_ (a b d:List UInt8):Op.bytesLess a b=true->Op.bytesLess b d=true->Op.bytesLess a d=true:=by
 induction a generalizing b d with
 | nil=> 
  intro h1 h2
  cases d with
  | nil=>cases b<;>cases h2
  | cons z t=>rfl
 | cons x r f=>
  cases b with
  | nil=>intro h;cases h
  | cons y s=>
   cases d with
   | nil=>intro _ h;cases h
   | cons z t=>
    intro h1 h2;simp only[Op.bytesLess,Bool.or_eq_true,Bool.and_eq_true,decide_eq_true_eq,beq_iff_eq]at h1 h2 ⊢;rcases h1 with h1 | ⟨rfl,h1⟩
    ·rcases h2 with h2 | ⟨rfl,h2⟩
     ·exact .inl (UInt8.lt_trans h1 h2)
     ·exact .inl h1
    ·rcases h2 with h2 | ⟨rfl,h2⟩
     ·exact .inl h2
     ·exact .inr ⟨rfl,f s t h1 h2⟩
def ez_ (a b:List UInt8):Int:=if Op.bytesLess a b=true then -1 else if Op.bytesLess b a=true then 1 else 0
theorem og_:i4_ ez_ where
 val a b:=by
  unfold ez_;split
  ·exact .inl rfl
  ·split
   ·exact .inr (.inr rfl)
   ·exact .inr (.inl rfl)
 eqv a b:=by
  unfold ez_;constructor
  ·intro h;split at h
   ·cases h
   ·split at h
    ·cases h
    ·exact gd_ a b (by simpa using ‹¬Op.bytesLess a b=true›) (by simpa using ‹¬Op.bytesLess b a=true›)
  ·rintro rfl;rw[uc_,if_neg Bool.false_ne_true,if_neg Bool.false_ne_true]
 anti a b:=by
  unfold ez_
  cases h1:Op.bytesLess a b with
  | true=>rw[Ab_ a b h1];rfl
  | false=>
   cases h2:Op.bytesLess b a with
   | true=>rfl
   | false=>rfl
 trans a b d:=by
  unfold ez_
  cases h1:Op.bytesLess a b with
  | true=>
   cases h2:Op.bytesLess b d with
   | true=>rw[w3_ a b d h1 h2,if_pos rfl,if_pos rfl];exact λh _=>h
   | false=>
    cases h3:Op.bytesLess d b with
    | true=>intro _ h;exact absurd h (by decide)
    | false=>
     have:=gd_ b d h2 h3;subst this;rw[h1,if_pos rfl];exact λh _=>h
  | false=>
   cases h2:Op.bytesLess b a with
   | true=>intro h;exact absurd h (by decide)
   | false=>
    have:=gd_ a b h1 h2;subst this;intro _ h;exact h
end
section
open Go Go.RowKit
def P_ (f:Nat->Nat):Array Value:=Array.ofFn (n:=16) λi=>.int .u64 (f i.val:Int)
theorem c2_ (f:Nat->Nat) {i:Nat} (h:i<16):(P_ f)[i]?=some (.int .u64 (f i:Int)):=by unfold P_;rw[Array.getElem?_ofFn,dif_pos h]
def WAt (w:World) (b o:Nat) (f:Nat->Nat):Prop:=∀i,i<16->w.cell? ⟨b,o+i,none⟩=some (.int .u64 (f i:Int))
theorem WAt.turn {S:Nat->Prop} {w w':World} {b o:Nat} {f:Nat->Nat} (h:WAt w b o f) (ht:Turn S w w') (hb:b<w.heap.size) (a:¬S b):WAt w' b o f:=λi hi=>(ht.cell (p:=⟨b,o+i,none⟩) hb a).trans (h i hi)
theorem WAt.congr {w:World} {b o:Nat} {f g:Nat->Nat} (h:WAt w b o f) (a:∀i,i<16->f i=g i):WAt w b o g:=λi hi=>by rw[<-a i hi];exact h i hi
theorem WAt.put {w:World} {b o:Nat} {f:Nat->Nat} (h:WAt w b o f) {i:Nat} (hi:i<16) (m:Nat):WAt (w.setCell ⟨b,o+i,none⟩ (.int .u64 (m:Int))) b o (λj=>if j=i then m else f j):=λj a=>by
 by_cases e:j=i
 ·subst e;simp only[if_pos];exact World.cell?_setCell_same w _ _ (h j a)
 ·simp only[if_neg e];exact (World.cell?_setCell_other w _ _ _ (λd=>by injection d with _ d;omega)).trans (h j a)
theorem jx_ {w:World} {b:Nat} {f:Nat->Nat} {T:TypeId} (h:w.heap[b]?=some (.cells (P_ f) T (0,0))):WAt w b 0 f:=λi hi=>by
 rw[Nat.zero_add];exact (cell_of_heap h i).trans (c2_ f hi)
theorem y3_ {S:Nat->Prop} {w w':World} (h:Turn S w w') (m:Nat):Turn S w (w'.drewN m):=⟨h.os,h.tape,h.output,h.size,h.block⟩
theorem w4_ (b o i:Nat):(⟨b,o,none⟩:Addr).add i=⟨b,o+i,none⟩:=by
 unfold Addr.add;split
 ·rename_i h;rw[h];rfl
 ·rfl
theorem jy_ {S:Nat->Prop} {w w':World} {g o:Nat} (h:Turn S w w') (a:g<w.heap.size) (b:¬S g) (d:w.frozen? ⟨g,o,none⟩=false):w'.frozen? ⟨g,o,none⟩=false:=by have hb:=h.block g a b;unfold World.frozen? at *;simpa [hb] using d
theorem db_ (g n:Nat):(⟨g,0,none⟩:Addr).add n=⟨g,n,none⟩:=by rw[w4_,Nat.zero_add]
theorem u64_in {n:Nat} (h:n<18446744073709551616):IntKind.u64.wrap (n:Int)=(n:Int):=by
 have h1:(n:Int)<18446744073709551616:=by omega
 have h2:(0:Int)<=n:=by omega
 unfold IntKind.wrap;simp[IntKind.signed,IntKind.bits];omega
def qz_ (w w':World) (b o:Nat):Prop:=∀j,(j<o\/o+16<=j)->w'.cell? ⟨b,j,none⟩=w.cell? ⟨b,j,none⟩
theorem D9_ (b o:Nat) (f g:Nat->Nat) (w:World) (hf:∀i,i<16->f i<bW) (X:∀i,i<16->g i<bW) (P:WAt w b o f) (M:∀j,w.frozen? ⟨b,j,none⟩=false) (hb:b<w.heap.size) :
    Calls Tryz.prog 302 #[.pointer (some ⟨b,o,none⟩),.agg (P_ g)] w λe w'=>e = .returned (.tuple #[])/\∃h,WAt w' b o h/\(∀i,i<16->h i<bW)/\(∃c,pv h 16+c*bW ^ 16=pv f 16+pv g 16)/\Turn (λk=>k=b) w w'/\qz_ w w' b o:=by
 have HF:=q_ hf;have HG:=q_ X;have a3:=q_ M;obtain⟨z,v⟩:=a_ w.heap.size;obtain⟨d,l⟩:=a_ (w.alloc (.cells (P_ g) 291));have V:=q_ (show Turn (λk=>k=b) w d from by rw[<-l.o];exact (Turn.refl _ _).alloc _);go_enter Tryz.func302,Tryz.ntmps302
 go_upto_region 1 with fail;rw[l.o,v.o];have ah:b≠z:=by have:=v.o;omega
 have I:=q_ (show b<z from by have:=v.o;omega);have a8:=q_ (show WAt d z 0 g from jx_ (T:=291) (by rw[<-l.o,<-v.o];exact heap_alloc_new w _));have J:=q_ (show z<d.heap.size from by rw[<-l.o,<-v.o];simp)
 have ad:=q_ (show WAt d b o f from λi hi=>by
  rw[<-l.o,World.cell?_alloc_lt w _ _ (by show b<_;exact hb)];exact P i hi)
 have a4:=q_ (λ(j:Nat)=>(show d.frozen? ⟨b,j,none⟩=false from jy_ (S:=λ_=>False) (by rw[<-l.o];exact (Turn.refl _ _).alloc _) hb (λh=>h) (a3.o j)));have af:=q_ (show b<d.heap.size from by have:=J.o;have:=I.o;omega);have a5:=q_ (λ(j:Nat)=>(show d.cell? ⟨b,j,none⟩=w.cell? ⟨b,j,none⟩ from by rw[<-l.o];exact World.cell?_alloc_lt w _ _ (by show b<_;exact hb)));clear hf X P M hb;go_wp2_with fail;go_loopw [4,7] (λs4 N E=>∃(i c:Nat) (h:Nat->Nat),i<=16/\c<=1/\N = .int .i64 (i:Nat)/\s4 = .int .u64 (c:Nat)/\Q_ (WAt E b o h/\(∀j,j<i->h j<bW)/\(∀j,i<=j->h j=f j)/\pv h i+c*bW ^ i=pv f i+pv g i/\Turn (λk=>k=b) d E/\(∀j,E.frozen? ⟨b,j,none⟩=false)/\qz_ d E b o)) (λ_ N _=>16-(intOf N).toNat)
 case atStart=>exact⟨0,0,f,by omega,by omega,rfl,rfl,q_ ⟨ad.o,λj r=>absurd r (Nat.not_lt_zero _),λ_ _=>rfl,by simp[pv],Turn.refl _ _,a4.o,λ_ _=>rfl⟩⟩
 case round=>
  obtain⟨i,c,h,hi,hc,rfl,rfl,a⟩:=hrel;by_cases t:i<16
  ·obtain⟨x,B⟩:=a_ (f i);obtain⟨y,F⟩:=a_ (g i);have ae:=HF.o i t;have R:=HG.o i t;rw[B.o]at ae;rw[F.o]at R;have a9:bW=1000000000:=rfl;obtain⟨m,D⟩:=a_ ((x+y+c) % 1000000000);obtain⟨q,G⟩:=a_ ((x+y+c) / 1000000000);have aa:m<1000000000:=by rw[<-D.o];exact Nat.mod_lt _ (by decide)
   have a0:q<=1:=by rw[<-G.o];omega
   have c1:wr.cell? ⟨b,o+i,none⟩=some (.int .u64 (x:Int)):=by have:=a.o.1 i t;rw[a.o.2.2.1 i (Nat.le_refl _),B.o]at this;exact this
   have c2:wr.cell? ⟨z,i,none⟩=some (.int .u64 (y:Int)):=by have h1:=(a8.o.turn a.o.2.2.2.2.1 J.o (λe=>by have:=I.o;omega)) i t;rw[Nat.zero_add,F.o]at h1;exact h1
   have Z:wr.frozen? ⟨b,o+i,none⟩=false:=a.o.2.2.2.2.2.1 (o+i);have a1:=w4_ b o i;have a2:=db_ z i;have e1:(0:Int)<=i:=by omega
   have C:(i:Int)<16:=by omega
   have w0:IntKind.i64.wrap ((i:Int)+1)=(i:Int)+1:=IntWalk.i64_in _ (by omega);obtain⟨W,L⟩:=a_ (x+y);obtain⟨A,s⟩:=a_ (x+y+c);have ag:IntKind.u64.wrap ((x:Int)+(y:Int))=(W:Int):=by rw[<-L.o,<-Int.natCast_add];exact u64_in (by omega)
   have w2:IntKind.u64.wrap ((W:Int)+(c:Int))=(A:Int):=by rw[<-L.o,<-s.o,<-Int.natCast_add];exact u64_in (by omega)
   have r1:Int.tmod (A:Int) 1000000000=(m:Int):=by rw[<-D.o,<-s.o];rfl
   have r2:Int.tdiv (A:Int) 1000000000=(q:Int):=by rw[<-G.o,<-s.o];rfl
   have r3:(A:Int) % 1000000000=(m:Int):=by rw[<-D.o,<-s.o];rfl
   have r4:(A:Int) / 1000000000=(q:Int):=by rw[<-G.o,<-s.o];rfl
   have w3:IntKind.u64.wrap (m:Int)=(m:Int):=u64_in (by omega);have w4:IntKind.u64.wrap (q:Int)=(q:Int):=u64_in (by omega);go_upto_region 5 with fail;go_quiet (fail)
   obtain⟨u,n⟩:=a_ (wr.drewN nq);have d1:u.cell? ⟨b,o+i,none⟩=some (.int .u64 (x:Int)):=by rw[<-n.o];exact c1
   have f2:u.frozen? ⟨b,o+i,none⟩=false:=by rw[<-n.o];exact Z
   have a6:=q_ (show Turn (λk=>k=b) d u from by rw[<-n.o];exact y3_ a.o.2.2.2.2.1 nq);have Y:=q_ (show WAt u b o h from by rw[<-n.o];exact a.o.1);have a7:=q_ (λ(j:Nat)=>(show u.frozen? ⟨b,j,none⟩=false from by rw[<-n.o];exact a.o.2.2.2.2.2.1 j));have ac:=q_ (show qz_ d u b o from by rw[<-n.o];exact a.o.2.2.2.2.2.2);have ab:=q_ (And.intro a.o.2.1 (And.intro a.o.2.2.1 a.o.2.2.2.1));rw[n.o];clear c1 c2 Z a;go_wp2_with fail;go_roundw
   case measure=>simp[intOf];omega
   case rel=>
    obtain⟨h1,h2,h3⟩:=ab.o;refine⟨i+1,q,λj=>if j=i then m else h j,by omega,a0,by go_num,rfl,q_ ⟨Y.o.put t m,λj r=>?_,λj r=>?_,?_,a6.o.setCell (p:=⟨b,o+i,none⟩) (.inr rfl) _,λj=>?_,λj r=>?_⟩⟩
    ·by_cases e:j=i
     ·simp only[if_pos e];exact aa
     ·simp only[if_neg e];exact h1 j (by omega)
    ·simp only[if_neg (show j≠i by omega)];exact h2 j (by omega)
    ·have O:=Km_ (f:=f) (g:=g) (o:=λj=>if j=i then m else h j) (i:=i) (c:=c) (by
       rw[<-h3];congr 1
       exact jw_ (λj r=>if_neg (by omega))) (by rw[B.o,F.o,a9,D.o];exact if_pos rfl)
     rw[B.o,F.o]at O;rw[show (x+y+c) / bW=q from G.o]at O;exact O
    ·have:=a7.o j;simpa using this
    ·exact (World.cell?_setCell_other u _ _ _ (λC=>by injection C with _ C;omega)).trans (ac.o j r)
  ·have U:i=16:=by omega
   have C:¬(i:Int)<16:=by omega
   go_wp2_with fail;go_end0;subst U;exact⟨rfl,h,a.o.1,a.o.2.1,⟨c,a.o.2.2.2.1⟩,V.o.trans a.o.2.2.2.2.1,λj r=>(a.o.2.2.2.2.2.2 j r).trans (a5.o j)⟩
theorem Ea_ (b o:Nat) (f g:Nat->Nat) (w:World) (hf:∀i,i<16->f i<bW) (hg:∀i,i<16->g i<bW) (hw:WAt w b o f) (U:∀j,w.frozen? ⟨b,j,none⟩=false) (hb:b<w.heap.size) (a3:pv g 16<=pv f 16) :
    Calls Tryz.prog 304 #[.pointer (some ⟨b,o,none⟩),.agg (P_ g)] w λe w'=>e = .returned (.tuple #[])/\∃h,WAt w' b o h/\(∀i,i<16->h i<bW)/\pv h 16=pv f 16-pv g 16/\Turn (λk=>k=b) w w'/\qz_ w w' b o:=by
 have HF:=q_ hf;have HG:=q_ hg;have a6:=q_ U;obtain⟨z,D⟩:=a_ w.heap.size;obtain⟨d,l⟩:=a_ (w.alloc (.cells (P_ g) 291));have a4:=q_ (show Turn (λk=>k=b) w d from by rw[<-l.o];exact (Turn.refl _ _).alloc _);go_enter Tryz.func304,Tryz.ntmps304
 go_upto_region 1 with fail;rw[l.o,D.o];have ak:b≠z:=by have:=D.o;omega
 have N:=q_ (show b<z from by have:=D.o;omega);have ab:=q_ (show WAt d z 0 g from jx_ (T:=291) (by rw[<-l.o,<-D.o];exact heap_alloc_new w _));have P:=q_ (show z<d.heap.size from by rw[<-l.o,<-D.o];simp)
 have ag:=q_ (show WAt d b o f from λi hi=>by
  rw[<-l.o,World.cell?_alloc_lt w _ _ (by show b<_;exact hb)];exact hw i hi)
 have a7:=q_ (λ(j:Nat)=>(show d.frozen? ⟨b,j,none⟩=false from jy_ (S:=λ_=>False) (by rw[<-l.o];exact (Turn.refl _ _).alloc _) hb (λh=>h) (a6.o j)));have ah:=q_ (show b<d.heap.size from by have:=P.o;have:=N.o;omega);have a8:=q_ (λ(j:Nat)=>(show d.cell? ⟨b,j,none⟩=w.cell? ⟨b,j,none⟩ from by rw[<-l.o];exact World.cell?_alloc_lt w _ _ (by show b<_;exact hb)));clear hf hg hw U hb;go_wp2_with fail;go_loopw [4,7] (λs4 Y L=>∃(i c:Nat) (h:Nat->Nat),i<=16/\c<=1/\Y = .int .i64 (i:Nat)/\s4 = .int .u64 (c:Nat)/\Q_ (WAt L b o h/\(∀j,j<i->h j<bW)/\(∀j,i<=j->h j=f j)/\pv h i+pv g i=pv f i+c*bW ^ i/\Turn (λk=>k=b) d L/\(∀j,L.frozen? ⟨b,j,none⟩=false)/\qz_ d L b o)) (λ_ Y _=>16-(intOf Y).toNat)
 case atStart=>exact⟨0,0,f,by omega,by omega,rfl,rfl,q_ ⟨ag.o,λj t=>absurd t (Nat.not_lt_zero _),λ_ _=>rfl,by simp[pv],Turn.refl _ _,a7.o,λ_ _=>rfl⟩⟩
 case round=>
  obtain⟨i,c,h,hi,hc,rfl,rfl,a⟩:=hrel;by_cases u:i<16
  ·obtain⟨x,C⟩:=a_ (f i);obtain⟨y,E⟩:=a_ (g i);have V:=HF.o i u;have O:=HG.o i u;rw[C.o]at V;rw[E.o]at O;have ac:bW=1000000000:=rfl;obtain⟨m,I⟩:=a_ ((x+1000000000-y-c) % 1000000000);obtain⟨q,M⟩:=a_ ((x+1000000000-y-c) / 1000000000);have ad:m<1000000000:=by rw[<-I.o];exact Nat.mod_lt _ (by decide)
   have ai:q<=1:=by rw[<-M.o];omega
   have c1:wr.cell? ⟨b,o+i,none⟩=some (.int .u64 (x:Int)):=by have:=a.o.1 i u;rw[a.o.2.2.1 i (Nat.le_refl _),C.o]at this;exact this
   have c2:wr.cell? ⟨z,i,none⟩=some (.int .u64 (y:Int)):=by have h1:=(ab.o.turn a.o.2.2.2.2.1 P.o (λe=>by have:=N.o;omega)) i u;rw[Nat.zero_add,E.o]at h1;exact h1
   have f1:wr.frozen? ⟨b,o+i,none⟩=false:=a.o.2.2.2.2.2.1 (o+i);have a1:=w4_ b o i;have a2:=db_ z i;have e1:(0:Int)<=i:=by omega
   have G:(i:Int)<16:=by omega
   have w0:IntKind.i64.wrap ((i:Int)+1)=(i:Int)+1:=IntWalk.i64_in _ (by omega);obtain⟨W,R⟩:=a_ (x+1000000000);obtain⟨J,F⟩:=a_ (x+1000000000-y);obtain⟨B,s⟩:=a_ (x+1000000000-y-c);obtain⟨X,A⟩:=a_ (1-q);have aj:IntKind.u64.wrap ((x:Int)+1000000000)=(W:Int):=by rw[<-R.o];exact u64_in (n:=x+1000000000) (by omega)
   have w5:IntKind.u64.wrap ((W:Int)-(y:Int))=(J:Int):=by rw[show (W:Int)-(y:Int)=(J:Int) by rw[<-R.o,<-F.o];omega];exact u64_in (by rw[<-F.o];omega)
   have w2:IntKind.u64.wrap ((J:Int)-(c:Int))=(B:Int):=by rw[show (J:Int)-(c:Int)=(B:Int) by rw[<-F.o,<-s.o];omega];exact u64_in (by rw[<-s.o];omega)
   have w6:IntKind.u64.wrap ((1:Int)-(q:Int))=(X:Int):=by rw[show (1:Int)-(q:Int)=(X:Int) by rw[<-A.o];omega];exact u64_in (by rw[<-A.o];omega)
   have r1:Int.tmod (B:Int) 1000000000=(m:Int):=by rw[<-I.o,<-s.o];rfl
   have r2:Int.tdiv (B:Int) 1000000000=(q:Int):=by rw[<-M.o,<-s.o];rfl
   have r3:(B:Int) % 1000000000=(m:Int):=by rw[<-I.o,<-s.o];rfl
   have r4:(B:Int) / 1000000000=(q:Int):=by rw[<-M.o,<-s.o];rfl
   have w3:IntKind.u64.wrap (m:Int)=(m:Int):=u64_in (by omega);have w4:IntKind.u64.wrap (q:Int)=(q:Int):=u64_in (by omega);go_upto_region 5 with fail;go_quiet (fail)
   obtain⟨v,r⟩:=a_ (wr.drewN nq);have d1:v.cell? ⟨b,o+i,none⟩=some (.int .u64 (x:Int)):=by rw[<-r.o];exact c1
   have f2:v.frozen? ⟨b,o+i,none⟩=false:=by rw[<-r.o];exact f1
   have a9:=q_ (show Turn (λk=>k=b) d v from by rw[<-r.o];exact y3_ a.o.2.2.2.2.1 nq);have a5:=q_ (show WAt v b o h from by rw[<-r.o];exact a.o.1);have aa:=q_ (λ(j:Nat)=>(show v.frozen? ⟨b,j,none⟩=false from by rw[<-r.o];exact a.o.2.2.2.2.2.1 j));have af:=q_ (show qz_ d v b o from by rw[<-r.o];exact a.o.2.2.2.2.2.2);have ae:=q_ (And.intro a.o.2.1 (And.intro a.o.2.2.1 a.o.2.2.2.1));rw[r.o];clear c1 c2 f1 a;go_wp2_with fail;go_roundw
   case measure=>simp[intOf];omega
   case rel=>
    obtain⟨h1,h2,h3⟩:=ae.o;refine⟨i+1,X,λj=>if j=i then m else h j,by omega,by rw[<-A.o];omega,by go_num,rfl,q_ ⟨a5.o.put u m,λj t=>?_,λj t=>?_,?_,a9.o.setCell (p:=⟨b,o+i,none⟩) (.inr rfl) _,λj=>?_,λj t=>?_⟩⟩
    ·by_cases e:j=i
     ·simp only[if_pos e];exact ad
     ·simp only[if_neg e];exact h1 j (by omega)
    ·simp only[if_neg (show j≠i by omega)];exact h2 j (by omega)
    ·have Z:=(Kn_ (f:=f) (g:=g) (o:=λj=>if j=i then m else h j) (i:=i) (b:=c) (by
       rw[<-h3];congr 1
       exact jw_ (λj t=>if_neg (by omega))) (by rw[E.o];exact O) hc (by rw[C.o];exact V) (by rw[C.o,E.o,ac,I.o];exact if_pos rfl)).1
     rw[C.o,E.o]at Z;rw[show (x+bW-y-c) / bW=q from M.o,A.o]at Z;exact Z
    ·have:=aa.o j;simpa using this
    ·exact (World.cell?_setCell_other v _ _ _ (λG=>by injection G with _ G;omega)).trans (af.o j t)
  ·have a0:i=16:=by omega
   have G:¬(i:Int)<16:=by omega
   go_wp2_with fail;go_end0;subst a0;exact⟨rfl,h,a.o.1,a.o.2.1,w2_ a.o.2.2.2.1 a.o.2.1 a3,a4.o.trans a.o.2.2.2.2.1,λj t=>(a.o.2.2.2.2.2.2 j t).trans (a8.o j)⟩
def ud_ (a b:Nat):Int:=if a<b then -1 else if b<a then 1 else 0
theorem Eb_ (f g:Nat->Nat) (w:World) (Y:∀i,i<16->f i<bW) (S:∀i,i<16->g i<bW) :
    Calls Tryz.prog 303 #[.agg (P_ f),.agg (P_ g)] w λe w'=>e = .returned (.int .i64 (ud_ (pv f 16) (pv g 16)))/\Below w.heap.size w w':=by
 have HF:=q_ Y;have HG:=q_ S;obtain⟨z,J⟩:=a_ w.heap.size;obtain⟨s,p⟩:=a_ ((w.alloc (.cells (P_ f) 291)).alloc (.cells (P_ g) 291));have d:=q_ (show Below w.heap.size w s from by rw[<-p.o];exact ((Below.refl _ w).alloc (Nat.le_refl _) _).alloc (by simp) _);have X:=q_ (show WAt s z 0 f from jx_ (T:=291) (by rw[<-p.o,<-J.o,Below.heap_alloc _ _ _ (by simp)];exact heap_alloc_new w _));have Z:=q_ (show WAt s (z+1) 0 g from jx_ (T:=291) (by rw[<-p.o,<-J.o];have:=heap_alloc_new (w.alloc (.cells (P_ f) 291)) (.cells (P_ g) 291);simpa using this));obtain⟨r,C⟩:=a_ (ud_ (pv f 16) (pv g 16));rw[C.o];clear Y S;go_enter Tryz.func303,Tryz.ntmps303
 go_upto_region 1 with fail;rw[p.o,J.o];go_wp2_with fail;go_loopw [5] (λM wx=>∃(i:Nat) (v:Int) (q:Nat),i<=16/\M = .int .i64 v/\v=(i:Int)-1/\Q_ (wx=s.drewN q/\∀j,i<=j->j<16->f j=g j)) (λM _=>(intOf M+1).toNat)
 case atStart=>exact⟨16,15,0,by omega,rfl,by omega,q_ ⟨rfl,λj h1 h2=>by omega⟩⟩
 case round=>
  obtain⟨i,v,q,hi,rfl,O,m⟩:=hrel;have W:=q_ O;have a:=q_ (show Below w.heap.size w wr from by rw[m.o.1];exact⟨d.o.os,d.o.tape,d.o.output,d.o.size,d.o.block⟩);clear O;by_cases a3:0<i
  ·obtain⟨k,P⟩:∃k,i=k+1:=⟨i-1,by omega⟩;have R:v=(k:Int):=by have:=W.o;omega
   subst R;have I:=q_ P;obtain⟨x,A⟩:=a_ (f k);obtain⟨y,D⟩:=a_ (g k);have E:wr.cell? ⟨z,k,none⟩=some (.int .u64 (x:Int)):=by have h1:=X.o k (by omega);rw[Nat.zero_add,A.o]at h1;rw[m.o.1];exact h1
   have B:wr.cell? ⟨z+1,k,none⟩=some (.int .u64 (y:Int)):=by have h1:=Z.o k (by omega);rw[Nat.zero_add,D.o]at h1;rw[m.o.1];exact h1
   have a1:=db_ z k;have a2:=db_ (z+1) k;have e1:(0:Int)<=k:=by omega
   have e2:(k:Int)<16:=by omega
   have t:=q_ m.o.2;have G:=q_ m.o.1;clear m P;by_cases h1:x<y
   ·have g1:(x:Int)<(y:Int):=by omega
    have u:=q_ (show (-1:Int)=r from by rw[<-C.o];have:=D4_ (f:=f) (g:=g) (n:=16) (i:=k) HF.o (by omega) (λj h1 h2=>t.o j (by have:=I.o;omega) h2) (by rw[A.o,D.o];exact h1);unfold ud_;rw[if_pos this]);clear h1;go_upto_region 4 with fail;go_quiet (fail)
    go_wp2_with fail;go_ret;exact⟨congrArg (λv=>Ending.returned (Value.int IntKind.i64 v)) u.o,⟨a.o.os,a.o.tape,a.o.output,a.o.size,a.o.block⟩⟩
   ·have g1:¬(x:Int)<(y:Int):=by omega
    by_cases h2:y<x
    ·have g2:(y:Int)<(x:Int):=by omega
     have u:=q_ (show (1:Int)=r from by rw[<-C.o];have:=D4_ (f:=g) (g:=f) (n:=16) (i:=k) HG.o (by omega) (λj h1 h2=>(t.o j (by have:=I.o;omega) h2).symm) (by rw[A.o,D.o];exact h2);unfold ud_;rw[if_neg (by omega),if_pos this]);clear h1 h2;go_upto_region 4 with fail;go_quiet (fail)
     obtain⟨l,b⟩:=a_ (wr.drewN nq);have d1:l.cell? ⟨z,k,none⟩=some (.int .u64 (x:Int)):=by rw[<-b.o];exact E
     have d2:l.cell? ⟨z+1,k,none⟩=some (.int .u64 (y:Int)):=by rw[<-b.o];exact B
     have h:=q_ (show Below w.heap.size w l from by rw[<-b.o];exact⟨a.o.os,a.o.tape,a.o.output,a.o.size,a.o.block⟩);rw[b.o];clear E B;go_upto_region 6 with fail;go_quiet (fail)
     go_wp2_with fail;go_ret;exact⟨congrArg (λv=>Ending.returned (Value.int IntKind.i64 v)) u.o,⟨h.o.os,h.o.tape,h.o.output,h.o.size,h.o.block⟩⟩
    ·have g2:¬(y:Int)<(x:Int):=by omega
     have F:x=y:=by omega
     have HE:=q_ F;clear h1 h2 F;go_upto_region 4 with fail;go_quiet (fail)
     obtain⟨l,b⟩:=a_ (wr.drewN nq);have d1:l.cell? ⟨z,k,none⟩=some (.int .u64 (x:Int)):=by rw[<-b.o];exact E
     have d2:l.cell? ⟨z+1,k,none⟩=some (.int .u64 (y:Int)):=by rw[<-b.o];exact B
     obtain⟨L,U⟩:∃L,Q_ (l=s.drewN L):=⟨q+nq,q_ (by rw[<-b.o,G.o,World.drewN_drewN])⟩;have w2:IntKind.i64.wrap ((k:Int)-1)=(k:Int)-1:=IntWalk.i64_in _ (by omega);rw[b.o];clear E B G;go_upto_region 6 with fail;go_quiet (fail)
     go_wp2_with fail;go_roundw
     case measure=>first | (simp[intOf];done) | (simp[intOf];omega)
     case rel=>
      refine⟨k,(k:Int)-1,L+nq,by omega,rfl,rfl,q_ ⟨by rw[U.o,World.drewN_drewN],λj a0 N=>?_⟩⟩;by_cases e:j=k
      ·rw[e,A.o,D.o];exact HE.o
      ·exact t.o j (by have:=I.o;omega) N
  ·have h0:i=0:=by omega
   have V:v = -1:=by have:=W.o;omega
   subst V;have u:=q_ (show (0:Int)=r from by rw[<-C.o];have h1:=jw_ (f:=f) (g:=g) (n:=16) (λj hj=>m.o.2 j (by omega) hj);unfold ud_;rw[h1,if_neg (Nat.lt_irrefl _),if_neg (Nat.lt_irrefl _)]);go_wp2_with fail;go_ret;exact⟨congrArg (λv=>Ending.returned (Value.int IntKind.i64 v)) u.o,a.o⟩
end
section
def bT:Nat:=10
def pt (f:Nat->Nat):Nat->Nat
 | 0=>0
 | i+1=>pt f i+f i*bT ^ i
def ue_ (D:List Nat):Nat:=pt (atD D) D.length
end
section
open Go Go.RowKit
theorem aa_ {w w':World} (h:Below w.drew.heap.size w.drew w'):Below w.heap.size w w':=⟨h.os,h.tape,h.output,h.size,h.block⟩
def sgV (b:Bool) (n:Nat):Int:=cond b (-(n:Int)) (n:Int)
end
section
theorem uf_ (x:Nat) (D:List Nat):ue_ (x::D)=x+10*ue_ D:=by
 unfold ue_
 have h:∀n,pt (atD (x::D)) (n+1)=x+10*pt (atD D) n:=by
  intro n;induction n with
  | zero=>simp[pt,atD]
  | succ n a=>
   rw[pt,a,pt,Nat.pow_succ];have h1:atD (x::D) (n+1)=atD D n:=by unfold atD;rw[List.getElem?_cons_succ]
   rw[h1,Nat.mul_add,<-Nat.mul_assoc,show bT=10 from rfl];have h2:atD D n*10 ^ n*10=10*(atD D n*10 ^ n):=Nat.mul_comm _ _;omega
 exact h D.length
theorem H5_ (m:List UInt8):ue_ (m.map eh_)=ao_ m.reverse:=by
 induction m with
 | nil=>rfl
 | cons c r a=>
  rw[List.map_cons,uf_,a,List.reverse_cons,of_];unfold eh_;omega
theorem Ec_ (l:List UInt8):ue_ (ca_ l)=ao_ l:=by have h:=H5_ l.reverse;rw[List.reverse_reverse]at h;unfold ca_;rw[<-h,List.map_reverse]
theorem Ed_ {a:List UInt8} (h:1<=a.length) (b:a.all a8_=true) (r:List UInt8):∃c t,a++r=c::t/\c≠45/\c≠43:=by
 cases a with
 | nil=>exact absurd h (by simp)
 | cons c t=>
  rw[List.all_cons,Bool.and_eq_true,cs_]at b;refine⟨c,t++r,rfl,λe=>?_,λe=>?_⟩
  ·rw[e]at b;have:=b.1.1;revert this
   decide
  ·rw[e]at b;have:=b.1.1;revert this
   decide
theorem Ee_ {s:ByteArray} {f:Bool} {a b:List UInt8} (h:D6_ s f a b):di_ s=f/\(cp_ s).data.toList=a++46::b:=by
 obtain⟨c,t,i,g,j⟩:=Ed_ h.la.1 h.da (46::b);have d:=h.eq
 cases f with
 | true=>
  simp only[cond_true,List.singleton_append]at d;have h1:di_ s=true:=by unfold di_;rw[d];rfl
  have h2:mm_ s=true:=by unfold mm_;rw[d];rfl
  refine⟨h1,?_⟩;unfold cp_;rw[h2,cond_true,ByteArray.data_extract,Array.toList_extract,d];have m:s.size=(a++46::b).length+1:=by show s.data.toList.length=_;rw[d,List.length_cons]
  rw[m];simp only[List.extract_eq_take_drop,List.drop_succ_cons,List.drop_zero,Nat.add_sub_cancel];exact List.take_of_length_le (Nat.le_refl _)
 | false=>
  simp only[cond_false,List.nil_append]at d;have h1:di_ s=false:=by unfold di_;rw[d,i];exact beq_eq_false_iff_ne.2 (λe=>g (by simpa using e))
  have h2:mm_ s=false:=by unfold mm_;rw[d,i];have k:((c::t).head?==some 45)=false:=beq_eq_false_iff_ne.2 (λe=>g (by simpa using e));have l:((c::t).head?==some 43)=false:=beq_eq_false_iff_ne.2 (λe=>j (by simpa using e));rw[k,l];rfl
  refine⟨h1,?_⟩;unfold cp_;rw[h2];exact d
theorem Ac_ {s:ByteArray} {f:Bool} {a b:List UInt8} (h:D6_ s f a b):is_ s=some (f,ca_ (a++b),b.length):=by
 obtain⟨h1,h2⟩:=Ee_ h;have g:=nw_ a b (z6_ h.da) 0;rw[h.da,h.db]at g;simp only[Bool.and_self,cond_true,Nat.zero_add]at g;have d:(cp_ s).size=a.length+(b.length+1):=by show (cp_ s).data.toList.length=_;rw[h2,List.length_append,List.length_cons]
 unfold is_;rw[h2,g];simp only;have e0:decide ((cp_ s).size=0)=false:=decide_eq_false (by rw[d];omega);have k:a.length≠0:=by have:=h.la.1;omega
 have m:a.length≠(cp_ s).size-1:=by have:=h.lb.1;omega
 have i:((some a.length:Option Nat)==some 0)=false:=beq_eq_false_iff_ne.2 (λe=>k (by simpa using e));have l:((some a.length:Option Nat)==some ((cp_ s).size-1))=false:=beq_eq_false_iff_ne.2 (λe=>m (by simpa using e));rw[e0,i,l,h1,t5_ h.da h.db];have j:nr_ (cp_ s).size (some a.length)=b.length:=by show (cp_ s).size-1-a.length=b.length;rw[d];omega
 rw[j];rfl
end
section
theorem H6_ (b:Bool) (n:Nat):sgV (!b) n = -sgV b n:=by
 cases b
 ·rfl
 ·show (n:Int) = -(-(n:Int));omega
theorem Ef_ {b:Bool} {n:Nat}:sgV b n=0↔n=0:=by
 cases b
 ·show (n:Int)=0↔n=0;omega
 ·show -(n:Int)=0↔n=0;omega
end
section
theorem Eg_ (O:List Nat):l4_ O=decide (ue_ O=0):=by
 induction O with
 | nil=>rfl
 | cons x r d=>
  have h1:l4_ (x::r)=(x==0&&l4_ r):=rfl;rw[h1,d,uf_];by_cases a:x=0
  ·subst a;by_cases b:ue_ r=0
   ·rw[decide_eq_true b,decide_eq_true (by omega)];rfl
   ·rw[decide_eq_false b,decide_eq_false (by omega)];rfl
  ·have h2:(x==0)=false:=beq_eq_false_iff_ne.2 a;have f:¬(x+10*ue_ r=0):=by omega
   rw[h2,decide_eq_false f];rfl
end
section
open Go
theorem q0_ (u:Nat):ao_ (Lib.decDigits u)=u:=by
 induction u using Nat.strongRecOn with
 | _ u a=>
  by_cases h:u<10
  ·rw[Lib.decDigits,dif_pos h];show 0*10+((UInt8.ofNat (48+u)).toNat-48)=u;rw[UInt8.toNat_ofNat',Nat.mod_eq_of_lt (by omega)];omega
  ·rw[Lib.decDigits,dif_neg h,of_,a (u / 10) (by omega),UInt8.toNat_ofNat',Nat.mod_eq_of_lt (by omega)];omega
theorem w5_ (u:Nat):(Lib.decDigits u).all a8_=true:=by
 induction u using Nat.strongRecOn with
 | _ u a=>
  by_cases h:u<10
  ·rw[Lib.decDigits,dif_pos h,List.all_cons,List.all_nil,Bool.and_true,cs_,UInt8.toNat_ofNat',Nat.mod_eq_of_lt (by omega)];omega
  ·rw[Lib.decDigits,dif_neg h,List.all_append,a (u / 10) (by omega),Bool.true_and,List.all_cons,List.all_nil,Bool.and_true,cs_,UInt8.toNat_ofNat',Nat.mod_eq_of_lt (by omega)];omega
theorem Eh_ {u:Nat} (h0:0<u):∃c r,Lib.decDigits u=c::r/\c≠48:=by
 induction u using Nat.strongRecOn with
 | _ u a=>
  by_cases h:u<10
  ·rw[Lib.decDigits,dif_pos h];refine⟨_,_,rfl,λe=>?_⟩;have:=congrArg UInt8.toNat e;rw[UInt8.toNat_ofNat',Nat.mod_eq_of_lt (by omega)]at this;have d:(48:UInt8).toNat=48:=rfl;omega
  ·obtain⟨c,r,e,b⟩:=a (u / 10) (by omega) (by omega);rw[Lib.decDigits,dif_neg h,e];exact⟨c,_,rfl,b⟩
theorem y4_ {u:Nat} (h:u<=9223372036854775808):1<=(Lib.decDigits u).length/\(Lib.decDigits u).length<=20:=by
 rw[Lib.decDigits_length];refine⟨Lib.nDigits_pos u,?_⟩;rcases Nat.lt_or_ge 20 (Lib.nDigits u) with h1 | h1
 ·obtain⟨k,b⟩:∃k,Lib.nDigits u=k+1:=⟨Lib.nDigits u-1,by omega⟩;exfalso
  have key:∀k u,Lib.nDigits u=k+1->0<k->10 ^ k<=u:=by
   intro k;induction k with
   | zero=>intro u _ h;omega
   | succ k d=>
    intro u a _;have hb:¬u<10:=λh=>by rw[Lib.nDigits_small h]at a;omega
    rw[Lib.nDigits_big hb]at a;rw[Nat.pow_succ];rcases Nat.eq_zero_or_pos k with h0 | h0
    ·subst h0;omega
    ·have:=d (u / 10) (by omega) h0;omega
  have h2:=key k u b (by omega);have f:10 ^ 20<=10 ^ k:=Nat.pow_le_pow_right (by decide) (by omega);have g:(100000000000000000000:Nat)=10 ^ 20:=by decide
  omega
 ·exact h1
def br_ (n:Int):ByteArray:=⟨(Lib.itoa n++[46,48]).toArray⟩
theorem oh_ (n:Int):Lib.itoa n=cond (decide (n<0)) [45] []++Lib.decDigits n.natAbs:=by
 unfold Lib.itoa;by_cases h:n<0
 ·rw[if_pos h,decide_eq_true h];rfl
 ·rw[if_neg h,decide_eq_false h];have:n.toNat=n.natAbs:=by omega
  rw[this];rfl
theorem mc_ {n:Int} (h0:-9223372036854775808<=n) (h1:n<=9223372036854775807):D6_ (br_ n) (decide (n<0)) (Lib.decDigits n.natAbs) [48] where
 eq:=by unfold br_;rw[oh_];simp
 la:=by have:=y4_ (u:=n.natAbs) (by omega);omega
 lb:=⟨Nat.le_refl _,by decide⟩
 da:=w5_ _
 db:=by decide
theorem w6_ (u:Nat):(u*10 ^ 1+0)*10 ^ 19=u*100000000000000000000:=by
 have e:(10:Nat) ^ 1*10 ^ 19=100000000000000000000:=by decide
 rw[Nat.add_zero,Nat.mul_assoc,e]
theorem ge_ {n:Int} (h0:-9223372036854775808<=n) (h1:n<=9223372036854775807):g2_ (br_ n)=n*100000000000000000000:=by
 have hz:ao_ [48]=0:=rfl;have b:([48]:List UInt8).length=1:=rfl;rw[sr_ (mc_ h0 h1),dq_,q0_,hz,b];have a:20-1=19:=rfl;rw[a,w6_];by_cases h:n<0
 ·rw[decide_eq_true h,cond_true];have:(n.natAbs:Int) = -n:=by omega
  omega
 ·rw[decide_eq_false h,cond_false];have:(n.natAbs:Int)=n:=by omega
  omega
theorem H7_ {D:List Nat} {n:Nat} (a:D.length=n+1) (h:n=1\/atD D n≠0):l5_ D 1 D.length=n+1:=by
 rw[a];show (if 1+1<n+1/\atD D n=0 then l5_ D 1 n else n+1)=n+1
 rcases h with h | h
 ·subst h;rfl
 ·rw[if_neg (λh2=>h h2.2)]
theorem oi_ {n:Int} (h0:-9223372036854775808<=n) (h1:n<=9223372036854775807):cr_ (br_ n)=true:=by
 have m:=mc_ h0 h1;have B:=Ac_ m;obtain⟨a,d⟩:∃a,Lib.decDigits n.natAbs=a:=⟨_,rfl⟩;rw[d]at m B;have E:=m.la;have s:=m.da;have v:ao_ a=n.natAbs:=by rw[<-d];exact q0_ _
 have z:a.length=1\/a[0]'(by omega)≠48:=by
  rcases Nat.eq_zero_or_pos n.natAbs with h | h
  ·left;rw[h]at d;rw[<-d,Lib.decDigits_length,Lib.nDigits_small (by decide)]
  ·right;obtain⟨c,r,e,C⟩:=Eh_ h;rw[d]at e;subst e;exact C
 have A:(ca_ (a++[48])).length=a.length+1:=by rw[l8_];simp
 have q:∀j,j<a.length->atD (ca_ (a++[48])) (a.length-j)=eh_ (a[j]!):=λj D=>by
  rw[m9_ _ (by simp;omega)];congr 1
  simp only[List.length_append,List.length_singleton];rw[getElem!_pos a j D,List.getElem_append_left (by omega)];congr 1
  omega
 have t:atD (ca_ (a++[48])) 0=0:=by rw[m9_ _ (by simp)];simp[eh_]
 have b:l6_ (ca_ (a++[48])) 1=a.length+1:=by
  unfold l6_
  rw[H7_ A (by
   rcases z with h | h
   ·exact .inl h
   ·right;have h2:=q 0 (by omega);rw[Nat.sub_zero]at h2;rw[h2];intro f;apply h;have hb:a8_ (a[0]'(by omega))=true:=List.all_eq_true.1 s _ (List.getElem_mem _);rw[cs_]at hb;rw[getElem!_pos a 0 (by omega)]at f;unfold eh_ at f;apply UInt8.toNat_inj.1;have F:(48:UInt8).toNat=48:=rfl;omega)]
  exact Nat.max_eq_left (by omega)
 have g:ns_ (ca_ (a++[48])) 1=1:=by
  show (if 0<1/\atD (ca_ (a++[48])) 0=0 then sa_ (ca_ (a++[48])) 1 0 1 else 0)=1
  rw[if_pos ⟨by decide,t⟩];rfl
 have p:ef_ (ca_ (a++[48])) (a.length+1) 1=a:=by
  apply List.ext_getElem
  ·rw[ga_];omega
  ·intro j h2 f;simp only[ef_,List.getElem_map,List.getElem_range];rw[show a.length+1-1-j=a.length-j by omega,q j f,getElem!_pos a j f];exact t3_ (List.all_eq_true.1 s _ (List.getElem_mem _))
 have l:(decide (n<0) && !l4_ (ca_ (a++[48])))=decide (n<0):=by
  by_cases h:n<0
  ·have x:¬ao_ (a++[48])=0:=by have hz:ao_ [48]=0:=rfl;rw[dq_,v,hz];show ¬n.natAbs*10 ^ 1+0=0;omega
   rw[Eg_,Ec_,decide_eq_true h,decide_eq_false x];rfl
  ·rw[decide_eq_false h];rfl
 have k:et_ (br_ n)=(br_ n,0):=by
  unfold et_;rw[B];have y:([48]:List UInt8).length=1:=rfl;simp only[y];have u:du_ (ca_ (a++[48])) 1=false:=by unfold du_;rw[b,g,decide_eq_false (by omega),decide_eq_false (by omega)];rfl
  rw[u];simp only[cond_false];have i:nt_ (decide (n<0)) (ca_ (a++[48])) 1=br_ n:=by unfold nt_ br_;rw[l,b,g,p,zx_,oh_,d];simp
  rw[i]
 unfold cr_;rw[k];simp
theorem Ad_ {a b:Int} (f:-9223372036854775808<=a) (d:a<=9223372036854775807) (i:-9223372036854775808<=b) (g:b<=9223372036854775807) :
    gc_ (br_ a) (br_ b)=if a<b then -1 else if b<a then 1 else 0:=by
 unfold gc_;rw[ge_ f d,ge_ i g];by_cases h:a<b
 ·rw[if_pos (by omega),if_pos h]
 ·rw[if_neg (by omega),if_neg h];by_cases h2:b<a
  ·rw[if_pos (by omega),if_pos h2]
  ·rw[if_neg (by omega),if_neg h2]
def ug_:ByteArray:=⟨#[48,46,48]⟩
def ac_ (v:h_):ByteArray:=if v.kind=2 then br_ v.num else if cr_ v.text=true then v.text else ug_
def K_ (k:Int):Int:=
 if k=5 then 1 else if k=6 then 2 else if k=7 then 3 else if k=9 then 4 else if k=8 then 5 else if k=10 then 6 else if k=4 then 7 else if k=1 then 8 else if k=2 then 9 else if k=3 then 9 else if k=0 then 0 else 11
abbrev Ko_:=Int×Int×Int×List UInt8×List UInt8
def Ei_:Ko_->Ko_->Int:=λp q=>a6_ (ce_ p.1 q.1) (a6_ (ce_ p.2.1 q.2.1) (a6_ (ce_ p.2.2.1 q.2.2.1) (a6_ (ez_ p.2.2.2.1 q.2.2.2.1) (ez_ p.2.2.2.2 q.2.2.2.2))))
theorem cf_:i4_ Ei_:=da_.prod (da_.prod (da_.prod (og_.prod og_)))
def hh_ (v:h_):Int:=if v.kind=2\/v.kind=3 then g2_ (ac_ v) else if v.kind=6\/v.kind=7 then v.num else if v.kind=1 then (if v.truth=true then 1 else 0) else 0
def ig_ (v:h_):Int:=if v.kind=2\/v.kind=3 then v.kind else 0
def hj_ (k:Int):Bool:=decide (k=1\/k=2\/k=5\/k=6\/k=7)
def jz_ (v:h_):List UInt8:=if hj_ v.kind=true then [] else v.text.data.toList
def k8_ (v:h_):List UInt8:=if hj_ v.kind=true\/v.kind=3 then [] else v.extra.data.toList
def w7_ (v:h_):Ko_:=(K_ v.kind,hh_ v,ig_ v,jz_ v,k8_ v)
def G_ (a b:h_):Int:=Ei_ (w7_ a) (w7_ b)
theorem c3_ (a:h_):G_ a a=0:=cf_.refl _
theorem ep_ (a b:h_):G_ b a = -G_ a b:=cf_.anti _ _
theorem j0_ (a b:h_):G_ a b = -1\/G_ a b=0\/G_ a b=1:=cf_.val _ _
theorem cu_ {x y:Int} (h:x≠0):a6_ x y=x:=by unfold a6_;rw[if_neg h]
theorem Z_ (y:Int):a6_ 0 y=y:=rfl
theorem h1_ (a:Int):ce_ a a=0:=da_.refl a
theorem k9_ (a:List UInt8):ez_ a a=0:=og_.refl a
theorem Ae_ (s t:ByteArray):gc_ s t=ce_ (g2_ s) (g2_ t):=rfl
theorem uh_ (x:Int):a6_ x 0=x:=by unfold a6_;split<;>omega
theorem q1_ {a b:h_} (h:K_ a.kind≠K_ b.kind):G_ a b=ce_ (K_ a.kind) (K_ b.kind):=by show a6_ (ce_ (K_ a.kind) (K_ b.kind)) _=_;exact cu_ λh2=>h ((da_.eqv _ _).1 h2)
theorem la_ {a b:h_} (h:K_ a.kind=K_ b.kind):G_ a b=a6_ (ce_ (hh_ a) (hh_ b)) (a6_ (ce_ (ig_ a) (ig_ b)) (a6_ (ez_ (jz_ a) (jz_ b)) (ez_ (k8_ a) (k8_ b)))):=by show a6_ (ce_ (K_ a.kind) (K_ b.kind)) _=_;rw[h,h1_];rfl
theorem q2_ {k:Int}:K_ k=9↔k=2\/k=3:=by
 unfold K_;constructor
 ·intro h;repeat' split at h
  all_goals omega
 ·intro h;repeat' split
  all_goals omega
def Lt_ (r:Int):Int:=if r=1 then 5 else if r=2 then 6 else if r=3 then 7 else if r=4 then 9 else if r=5 then 8 else if r=6 then 10 else if r=7 then 4 else if r=8 then 1 else 0
theorem oj_ (k:Int):(K_ k=9/\(k=2\/k=3))\/K_ k=11\/(K_ k≠9/\K_ k≠11/\k=Lt_ (K_ k)):=by
 by_cases b:k=5
 ·subst b;right;right;decide
 by_cases i:k=6
 ·subst i;right;right;decide
 by_cases f:k=7
 ·subst f;right;right;decide
 by_cases g:k=9
 ·subst g;right;right;decide
 by_cases j:k=8
 ·subst j;right;right;decide
 by_cases a:k=10
 ·subst a;right;right;decide
 by_cases h:k=4
 ·subst h;right;right;decide
 by_cases h1:k=1
 ·subst h1;right;right;decide
 by_cases h2:k=2
 ·subst h2;left;decide
 by_cases d:k=3
 ·subst d;left;decide
 by_cases h0:k=0
 ·subst h0;right;right;decide
 right;left;unfold K_;rw[if_neg b,if_neg i,if_neg f,if_neg g,if_neg j,if_neg a,if_neg h,if_neg h1,if_neg h2,if_neg d,if_neg h0]
theorem lb_ {j k:Int} (h:K_ j=K_ k):j=k\/((j=2\/j=3)/\(k=2\/k=3))\/(K_ j=11/\K_ k=11):=by
 rcases oj_ j with h1 | h1 | h1
 ·rcases oj_ k with h2 | h2 | h2
  ·exact .inr (.inl ⟨h1.2,h2.2⟩)
  ·omega
  ·exact absurd (h▸h1.1) h2.1
 ·exact .inr (.inr ⟨h1,h▸h1⟩)
 ·rcases oj_ k with h2 | h2 | h2
  ·exact absurd (h.trans h2.1) h1.1
  ·exact absurd (h.trans h2) h1.2.1
  ·left;rw[h1.2.2,h2.2.2,h]
theorem Ej_ {a b:h_} (f:a.kind=2\/a.kind=3) (hb:b.kind=2\/b.kind=3) :
    G_ a b=a6_ (gc_ (ac_ a) (ac_ b)) (a6_ (ce_ a.kind b.kind) (if a.kind=3 then ez_ a.text.data.toList b.text.data.toList else 0)):=by
 rw[la_ ((q2_.2 f).trans (q2_.2 hb).symm),Ae_];have g:hh_ a=g2_ (ac_ a):=by unfold hh_;rw[if_pos f]
 have j:hh_ b=g2_ (ac_ b):=by unfold hh_;rw[if_pos hb]
 have k:ig_ a=a.kind:=by unfold ig_;rw[if_pos f]
 have i:ig_ b=b.kind:=by unfold ig_;rw[if_pos hb]
 rw[g,j,k,i];congr 1
 by_cases d:a.kind=b.kind
 ·rw[d,h1_,Z_,Z_];unfold jz_ k8_ hj_;rw[d];rcases hb with hb | hb
  ·rw[hb];simp only[Int.reduceEq,decide_true,true_or,or_true,if_true,if_false];rw[k9_];rfl
  ·rw[hb];have e:decide ((3:Int)=1\/(3:Int)=2\/(3:Int)=5\/(3:Int)=6\/(3:Int)=7)=false:=by decide
   rw[e,if_neg Bool.false_ne_true,if_neg Bool.false_ne_true,if_pos rfl,if_pos (.inr rfl),if_pos (.inr rfl),k9_,uh_]
 ·rw[cu_ (λh=>d ((da_.eqv _ _).1 h)),cu_ (λh=>d ((da_.eqv _ _).1 h))]
theorem Af_ {a b:h_} (f:a.kind=1) (hb:b.kind=1):G_ a b=ce_ (if a.truth=true then 1 else 0) (if b.truth=true then 1 else 0):=by
 rw[la_ (by rw[f,hb])];have g:hh_ a=if a.truth=true then 1 else 0:=by unfold hh_;rw[if_neg (by omega),if_neg (by omega),if_pos f]
 have i:hh_ b=if b.truth=true then 1 else 0:=by unfold hh_;rw[if_neg (by omega),if_neg (by omega),if_pos hb]
 have m:ig_ a=0:=by unfold ig_;rw[if_neg (by omega)]
 have h:ig_ b=0:=by unfold ig_;rw[if_neg (by omega)]
 have d:hj_ 1=true:=by decide
 have j:jz_ a=[]:=by unfold jz_;rw[f,if_pos d]
 have l:jz_ b=[]:=by unfold jz_;rw[hb,if_pos d]
 have n:k8_ a=[]:=by unfold k8_;rw[f,if_pos (.inl d)]
 have k:k8_ b=[]:=by unfold k8_;rw[hb,if_pos (.inl d)]
 rw[g,i,m,h,j,l,n,k,h1_,k9_,Z_,Z_,uh_]
theorem Ag_ {a b:h_} (h:K_ a.kind=K_ b.kind) (d:hj_ a.kind=false) (f:a.kind≠3):G_ a b=a6_ (ez_ a.text.data.toList b.text.data.toList) (ez_ a.extra.data.toList b.extra.data.toList):=by
 have j:∀k:Int,hj_ k=false->k≠1/\k≠2/\k≠5/\k≠6/\k≠7:=λk i=>by
  unfold hj_ at i;have:=of_decide_eq_false i;omega
 have t:=j _ d
 have hb:hj_ b.kind=false/\b.kind≠3:=by
  rcases lb_ h with e | e | e
  ·rw[<-e];exact⟨d,f⟩
  ·omega
  ·have h2:=e.2;have:b.kind≠1/\b.kind≠2/\b.kind≠5/\b.kind≠6/\b.kind≠7/\b.kind≠3:=by refine⟨?_,?_,?_,?_,?_,?_⟩<;>(intro g;exfalso;rw[g]at h2;revert h2;decide)
   refine⟨?_,this.2.2.2.2.2⟩;unfold hj_;exact decide_eq_false (by omega)
 have u:=j _ hb.1;rw[la_ h];have l:hh_ a=0:=by unfold hh_;rw[if_neg (by omega),if_neg (by omega),if_neg (by omega)]
 have n:hh_ b=0:=by unfold hh_;rw[if_neg (by omega),if_neg (by omega),if_neg (by omega)]
 have g:ig_ a=0:=by unfold ig_;rw[if_neg (by omega)]
 have m:ig_ b=0:=by unfold ig_;rw[if_neg (by omega)]
 have p:jz_ a=a.text.data.toList:=by unfold jz_;rw[d,if_neg Bool.false_ne_true]
 have r:jz_ b=b.text.data.toList:=by unfold jz_;rw[hb.1,if_neg Bool.false_ne_true]
 have s:k8_ a=a.extra.data.toList:=by unfold k8_;rw[d,if_neg (by simpa using f)]
 have q:k8_ b=b.extra.data.toList:=by unfold k8_;rw[hb.1,if_neg (by simpa using hb.2)]
 rw[l,n,g,m,p,r,s,q,h1_,Z_,Z_]
def X_ (v:h_):Prop:=I_ v 0=true/\(v.kind=1\/v.kind=2\/v.kind=3\/v.kind=4\/v.kind=8\/v.kind=9\/v.kind=10) /\ -9223372036854775808<=v.num/\v.num<=9223372036854775807
theorem hk_ {s t:ByteArray} (h:s.data.toList=t.data.toList):s=t:=ByteArray.ext (Array.toList_inj.1 h)
theorem dv_ {k:Int} {b:Bool} {n:Int} {t x:ByteArray} {l:List h_} {a:Bool} {f:Int} {g d:ByteArray} (h:a9_ k b n t x l a f g d=true) (i:k≠5):b=a/\n=f/\t=g/\x=d/\l=[]:=by
 unfold a9_ at h;simp only[Bool.and_eq_true,beq_iff_eq,decide_eq_true_eq,Bool.or_eq_true,List.length_eq_zero_iff]at h;refine⟨h.1,h.2.1,h.2.2.1,h.2.2.2.1,?_⟩;rcases h.2.2.2.2 with h | h
 ·exact h
 ·exact absurd h i
theorem bs_ {v:h_} (h:X_ v) :
    (v.kind=1/\v = .mk 1 v.truth 0 ⟨#[]⟩ ⟨#[]⟩ [])\/(v.kind=2/\v = .mk 2 false v.num ⟨#[]⟩ ⟨#[]⟩ [])\/(v.kind=3/\cr_ v.text=true/\v = .mk 3 false 0 v.text ⟨#[]⟩ []) \/
    ((v.kind=4\/v.kind=8\/v.kind=9\/v.kind=10)/\v = .mk v.kind false 0 v.text v.extra []):=by
 obtain⟨h1,h2,_,_⟩:=h
 cases v with
 | mk k b n t x l=>
 unfold I_ at h1;simp only[h_.kind,h_.truth,h_.num,h_.text,h_.extra]at h2 ⊢;rcases h2 with rfl | rfl | rfl | rfl | rfl | rfl | rfl
 ·simp only[Int.reduceEq,if_true,if_false]at h1;obtain⟨_,rfl,rfl,rfl,rfl⟩:=dv_ h1 (by decide);exact .inl ⟨rfl,rfl⟩
 ·simp only[Int.reduceEq,if_true,if_false]at h1;obtain⟨rfl,_,rfl,rfl,rfl⟩:=dv_ h1 (by decide);exact .inr (.inl ⟨rfl,rfl⟩)
 ·simp only[Int.reduceEq,if_true,if_false,Bool.and_eq_true]at h1;obtain⟨rfl,rfl,_,rfl,rfl⟩:=dv_ h1.2 (by decide);exact .inr (.inr (.inl ⟨rfl,h1.1,rfl⟩))
 ·simp only[Int.reduceEq,if_true,if_false,Bool.and_eq_true]at h1;obtain⟨rfl,rfl,_,rfl,rfl⟩:=dv_ h1.2 (by decide);exact .inr (.inr (.inr ⟨.inl rfl,rfl⟩))
 ·simp only[Int.reduceEq,if_true,if_false,Bool.and_eq_true]at h1;obtain⟨rfl,rfl,_,rfl,rfl⟩:=dv_ h1.2 (by decide);exact .inr (.inr (.inr ⟨.inr (.inl rfl),rfl⟩))
 ·simp only[Int.reduceEq,if_true,if_false,Bool.and_eq_true]at h1;obtain⟨rfl,rfl,_,rfl,rfl⟩:=dv_ h1.2 (by decide);exact .inr (.inr (.inr ⟨.inr (.inr (.inl rfl)),rfl⟩))
 ·simp only[Int.reduceEq,if_true,if_false,Bool.and_eq_true]at h1;obtain⟨rfl,rfl,_,_,rfl⟩:=dv_ h1.2.2 (by decide);exact .inr (.inr (.inr ⟨.inr (.inr (.inr rfl)),rfl⟩))
theorem ej_ {a b:h_} (r:X_ a) (hb:X_ b) (h:G_ a b=0):a=b:=by
 have p:=(cf_.eqv _ _).1 h;unfold w7_ at p;simp only[Prod.mk.injEq]at p;obtain⟨u,i,n,ht,t⟩:=p
 have q:a.kind=b.kind:=by
  rcases lb_ u with e | e | e
  ·exact e
  ·unfold ig_ at n;rw[if_pos e.1,if_pos e.2]at n;exact n
  ·have h2:=e.1;rcases r.2.1 with m | m | m | m | m | m | m<;>(exfalso;rw[m]at h2;revert h2;decide)
 rcases bs_ r with⟨j,l⟩ | ⟨j,l⟩ | ⟨j,v,l⟩ | ⟨j,l⟩
 ·rcases bs_ hb with⟨d,f⟩ | ⟨d,f⟩ | ⟨d,s,f⟩ | ⟨d,f⟩
  ·unfold hh_ at i;rw[j,d]at i;simp only[Int.reduceEq,or_self,if_true,if_false]at i;have:a.truth=b.truth:=by cases h1:a.truth<;>cases h2:b.truth<;>rw[h1,h2]at i<;>first | rfl | (exfalso;revert i;decide)
   rw[l,f,this]
  all_goals omega
 ·rcases bs_ hb with⟨d,f⟩ | ⟨d,f⟩ | ⟨d,s,f⟩ | ⟨d,f⟩
  ·omega
  ·unfold hh_ at i;rw[if_pos (.inl j),if_pos (.inl d)]at i;unfold ac_ at i;rw[if_pos j,if_pos d,ge_ r.2.2.1 r.2.2.2,ge_ hb.2.2.1 hb.2.2.2]at i;have:a.num=b.num:=by omega
   rw[l,f,this]
  all_goals omega
 ·rcases bs_ hb with⟨d,f⟩ | ⟨d,f⟩ | ⟨d,s,f⟩ | ⟨d,f⟩
  ·omega
  ·omega
  ·unfold jz_ at ht;rw[j,d]at ht;have:a.text=b.text:=hk_ ht;rw[l,f,this]
  ·omega
 ·rcases bs_ hb with⟨d,f⟩ | ⟨d,f⟩ | ⟨d,s,f⟩ | ⟨d,f⟩
  ·omega
  ·omega
  ·omega
  ·have g:∀k:Int,(k=4\/k=8\/k=9\/k=10)->hj_ k=false:=λk p=>by unfold hj_;exact decide_eq_false (by omega)
   unfold jz_ at ht;unfold k8_ at t;rw[g _ j,g _ d,if_neg Bool.false_ne_true,if_neg Bool.false_ne_true]at ht;rw[g _ j,g _ d,if_neg (by simp;omega),if_neg (by simp;omega)]at t;rw[l,f,q,hk_ ht,hk_ t]
structure fz_ {α : Type} (o:α -> α -> Int):Prop where
 val:∀a b,o a b = -1\/o a b=0\/o a b=1
 anti:∀a b,o b a = -o a b
 trans:∀a b d,o a b<=0->o b d<=0->o a d<=0
 zero:∀a b d,o a b=0->o a d=o b d
theorem i4_.pre {α K:Type} {c:K->K->Int} (h:i4_ c) (k:α -> K):fz_ (λa b=>c (k a) (k b)) where
 val a b:=h.val _ _
 anti a b:=h.anti _ _
 trans a b d:=h.trans _ _ _
 zero a b d h0:=by have:=(h.eqv _ _).1 h0;show c (k a) (k d)=c (k b) (k d);rw[this]
section
variable {α : Type} {o:α -> α -> Int}
theorem fz_.refl (h:fz_ o) (a:α):o a a=0:=by have:=h.anti a a;omega
theorem fz_.zero' (h:fz_ o) {a b:α} (d:α) (h0:o a b=0):o d a=o d b:=by have:=h.zero a b d h0;have:=h.anti a d;have:=h.anti b d;omega
theorem fz_.lt_trans (h:fz_ o) {a b d:α} (h1:o a b<0) (h2:o b d<=0):o a d<0:=by
 have g:=h.trans a b d (by omega) h2;rcases Int.lt_or_eq_of_le g with f | f
 ·exact f
 ·have i:=h.zero' b f;have:=h.anti a b;omega
theorem fz_.trans_lt (h:fz_ o) {a b d:α} (h1:o a b<=0) (h2:o b d<0):o a d<0:=by
 have g:=h.trans a b d h1 (by omega);rcases Int.lt_or_eq_of_le g with f | f
 ·exact f
 ·have i:=h.zero a d b f;have:=h.anti b d;have:=h.anti a b;omega
abbrev i5_ (o:α -> α -> Int) (l:List α):Prop:=l.Pairwise λa b=>o a b<0
theorem f0_ (h:fz_ o):∀{l m:List α},i5_ o l->i5_ o m->(∀x,x∈l↔x∈m)->l=m
 | [],[],_,_,_=>rfl
 | [],b::m,_,_,he=>absurd ((he b).2 List.mem_cons_self) (by simp)
 | a::l,[],_,_,he=>absurd ((he a).1 List.mem_cons_self) (by simp)
 | a::l,b::m,hl,hm,he=>by
  obtain⟨la,k⟩:=List.pairwise_cons.1 hl;obtain⟨i,j⟩:=List.pairwise_cons.1 hm
  have g:a=b:=by
   rcases List.mem_cons.1 ((he a).1 List.mem_cons_self) with e | e
   ·exact e
   ·rcases List.mem_cons.1 ((he b).2 List.mem_cons_self) with f | f
    ·exact f.symm
    ·have h1:=i a e;have h2:=la b f;have:=h.anti a b;omega
  subst g;congr 1
  refine f0_ h k j λx=>?_;constructor
  ·intro d;rcases List.mem_cons.1 ((he x).1 (List.mem_cons_of_mem _ d)) with e | e
   ·subst e;have:=la x d;have:=h.refl x;omega
   ·exact e
  ·intro d;rcases List.mem_cons.1 ((he x).2 (List.mem_cons_of_mem _ d)) with e | e
   ·subst e;have:=i x d;have:=h.refl x;omega
   ·exact e
def dc_ (o:α -> α -> Int) (v:α):List α -> Nat->Nat
 | _,0=>0
 | l,k+1=>match l[k]? with
  | some x=>if 0<o x v then dc_ o v l k else k+1
  | none=>k+1
def qb_ (o:α -> α -> Int) (l:List α) (v:α):List α:=
 let k:=dc_ o v l l.length
 if 0<k/\(∃x,l[k-1]?=some x/\o x v=0) then l else l.take k++v::l.drop k
theorem Ek_ (v:α) (l:List α) (k:Nat):dc_ o v l k<=k:=by
 induction k with
 | zero=>exact Nat.le_refl _
 | succ k a=>
  unfold dc_;split
  ·split
   ·omega
   ·omega
  ·omega
theorem ui_ (v:α) (l:List α) (k:Nat):∀j x,dc_ o v l k<=j->j<k->l[j]?=some x->0<o x v:=by
 induction k with
 | zero=>intro j x _ h;omega
 | succ k b=>
  intro j x h1 h2 a;unfold dc_ at h1;by_cases e:j=k
  ·subst e;rw[a]at h1;simp only at h1;split at h1
   ·assumption
   ·omega
  ·split at h1
   ·split at h1
    ·exact b j x h1 (by omega) a
    ·omega
   ·omega
theorem uj_ (v:α) (l:List α) (k:Nat):∀x,0<dc_ o v l k->l[dc_ o v l k-1]?=some x->o x v<=0:=by
 induction k with
 | zero=>intro x h;unfold dc_ at h;omega
 | succ k b=>
  intro x;unfold dc_;split
  ·rename_i y a;split
   ·exact b x
   ·intro _ h;rw[Nat.add_sub_cancel,a]at h;injection h with h;subst h;omega
  ·rename_i a;intro _ h;rw[Nat.add_sub_cancel,a]at h
   cases h
theorem El_ {l:List α} {v:α} (g:∀a,a∈l->o a v=0->a=v) (x:α):x∈qb_ o l v↔x∈l\/x=v:=by
 unfold qb_;simp only;split
 ·rename_i h;obtain⟨_,y,f,d⟩:=h;have b:=List.mem_of_getElem? f;have:=g y b d;subst this;constructor
  ·exact .inl
  ·rintro (h | h)
   ·exact h
   ·rw[h];exact b
 ·rw[List.mem_append,List.mem_cons];constructor
  ·rintro (h | h | h)
   ·exact .inl (List.mem_of_mem_take h)
   ·exact .inr h
   ·exact .inl (List.mem_of_mem_drop h)
  ·rintro (h | h)
   ·have:x∈l.take (dc_ o v l l.length)++l.drop (dc_ o v l l.length):=by rw[List.take_append_drop];exact h
    rcases List.mem_append.1 this with h | h
    ·exact .inl h
    ·exact .inr (.inr h)
   ·exact .inr (.inl h)
theorem Ah_ (h:fz_ o) {l:List α} {v:α} (f:i5_ o l):i5_ o (qb_ o l v):=by
 unfold qb_;simp only;split
 ·exact f
 ·rename_i n;have q:=Ek_ (o:=o) v l l.length
  have j:∀x,x∈l.take (dc_ o v l l.length)->o x v<0:=by
   intro x m;obtain⟨i,hi,rfl⟩:=List.mem_take_iff_getElem.1 m;have k:0<dc_ o v l l.length:=by omega
   have d:dc_ o v l l.length-1<l.length:=by omega
   have h1:=uj_ (o:=o) v l l.length _ k (List.getElem?_eq_getElem d)
   have h2:o l[dc_ o v l l.length-1] v<0:=by
    rcases Int.lt_or_eq_of_le h1 with h1 | h1
    ·exact h1
    ·exact absurd ⟨k,_,List.getElem?_eq_getElem d,h1⟩ n
   by_cases e:i=dc_ o v l l.length-1
   ·subst e;exact h2
   ·exact h.lt_trans (List.pairwise_iff_getElem.1 f i _ (by omega) d (by omega)) (by omega)
  have g:∀x,x∈l.drop (dc_ o v l l.length)->o v x<0:=by intro x m;obtain⟨i,hi,rfl⟩:=List.mem_drop_iff_getElem.1 m;have:=ui_ (o:=o) v l l.length _ _ (Nat.le_add_right _ i) (by omega) (List.getElem?_eq_getElem (by omega));have:=h.anti v l[dc_ o v l l.length+i];omega
  refine List.pairwise_append.2 ⟨List.Pairwise.sublist (List.take_sublist _ _) f,List.pairwise_cons.2 ⟨g,List.Pairwise.sublist (List.drop_sublist _ _) f⟩,?_⟩;intro a p b hb;rcases List.mem_cons.1 hb with e | e
  ·subst e;exact j a p
  ·exact h.lt_trans (j a p) (by have:=g b e;omega)
def ba_ (o:α -> α -> Int) (l:List α):List α:=l.foldl (qb_ o) []
theorem w8_ (l:List α) (v:α):ba_ o (l++[v])=qb_ o (ba_ o l) v:=by unfold ba_;rw[List.foldl_append];rfl
theorem ok_ (h:fz_ o) {l:List α} (g:∀a,a∈l->∀b,b∈l->o a b=0->a=b) (n:Nat):i5_ o (ba_ o (l.take n))/\∀x,x∈ba_ o (l.take n)↔x∈l.take n:=by
 induction n with
 | zero=>exact⟨List.Pairwise.nil,λx=>Iff.rfl⟩
 | succ n d=>
  by_cases f:n<l.length
  ·rw[List.take_succ_eq_append_getElem f,w8_];refine⟨Ah_ h d.1,λx=>?_⟩;rw[El_ (λa i=>g a (List.mem_of_mem_take ((d.2 a).1 i)) _ (List.getElem_mem f)),d.2 x,List.mem_append,List.mem_singleton]
  ·rw[List.take_of_length_le (by omega)];rw[List.take_of_length_le (by omega)]at d;exact d
theorem d1_ (h:fz_ o) {l:List α} (d:∀a,a∈l->∀b,b∈l->o a b=0->a=b):i5_ o (ba_ o l)/\∀x,x∈ba_ o l↔x∈l:=by have:=ok_ h d l.length;rwa [List.take_length]at this
def i6_ (o:α -> α -> Int) (p:α):List α -> List α
 | []=>[]
 | a::r=>if o a p=0 then i6_ o a r else a::i6_ o a r
def cpt (o:α -> α -> Int):List α -> List α
 | []=>[]
 | a::r=>a::i6_ o a r
theorem Ai_ (p:α) (r:List α) (x:α):i6_ o p (r++[x])=i6_ o p r++(if o x (r.getLastD p)=0 then [] else [x]):=by
 induction r generalizing p with
 | nil=>rfl
 | cons a r b=>
  rw[List.cons_append,i6_,i6_,b a,List.getLastD_cons];split<;>simp
theorem H8_ (h:fz_ o) (p:α) (r:List α) (l:(p::r).Pairwise λa b=>¬o b a<0) (j:∀a,a∈p::r->∀b,b∈p::r->o a b=0->a=b):i5_ o (p::i6_ o p r)/\∀x,x∈p::i6_ o p r↔x∈p::r:=by
 induction r generalizing p with
 | nil=>exact⟨List.pairwise_cons.2 ⟨λ_ g=>(by cases g),List.Pairwise.nil⟩,λx=>Iff.rfl⟩
 | cons a r d=>
  obtain⟨m,i⟩:=List.pairwise_cons.1 l;have d:=d a i (λu k v n=>j u (List.mem_cons_of_mem _ k) v (List.mem_cons_of_mem _ n));unfold i6_;split
  ·rename_i h0;have:=j a (by simp) p (by simp) h0;subst this;refine⟨d.1,λx=>(d.2 x).trans ?_⟩;simp
  ·rename_i h0;have s:=m a List.mem_cons_self;have q:=h.anti a p;have f:o p a<0:=by omega
   refine⟨List.pairwise_cons.2 ⟨λx g=>?_,d.1⟩,λx=>?_⟩
   ·rcases List.mem_cons.1 g with e | e
    ·subst e;exact f
    ·exact h.lt_trans f (by have:=(List.pairwise_cons.1 d.1).1 x e;omega)
   ·rw[List.mem_cons,d.2 x];simp
theorem Em_ (h:fz_ o) {l m:List α} (d:m.Perm l) (j:m.Pairwise λa b=>¬o b a<0) (f:∀a,a∈l->∀b,b∈l->o a b=0->a=b):cpt o m=ba_ o l:=by
 have i:=d1_ h f
 cases m with
 | nil=>
  have:=d.symm.eq_nil;subst this;rfl
 | cons p r=>
  have g:=H8_ h p r j (λa k b hb=>f a (d.mem_iff.1 k) b (d.mem_iff.1 hb));refine f0_ h g.1 i.1 λx=>?_;rw[i.2 x];exact (g.2 x).trans d.mem_iff
end
structure d_ where
 s:h_
 p:h_
 o:h_
def d_.get (t:d_) (i:Nat):h_:=if i=0 then t.s else if i=1 then t.p else t.o
structure Way where
 i:Nat
 j:Nat
 k:Nat
def Way.get (w:Way) (n:Nat):Nat:=if n=0 then w.i else if n=1 then w.j else w.k
def ak_ (n:Nat):Way:=if n=0 then ⟨0,1,2⟩ else if n=1 then ⟨0,2,1⟩ else if n=2 then ⟨1,0,2⟩ else if n=3 then ⟨1,2,0⟩ else if n=4 then ⟨2,0,1⟩ else ⟨2,1,0⟩
def Way.Ok (w:Way):Prop:=(w.i=0\/w.j=0\/w.k=0)/\(w.i=1\/w.j=1\/w.k=1)/\(w.i=2\/w.j=2\/w.k=2)
theorem dd_ (n:Nat):(ak_ n).Ok:=by
 unfold ak_ Way.Ok;repeat' split
 all_goals simp
def w_ (w:Way) (a b:d_):Int:=a6_ (G_ (a.get w.i) (b.get w.i)) (a6_ (G_ (a.get w.j) (b.get w.j)) (G_ (a.get w.k) (b.get w.k)))
theorem a7_ (w:Way):fz_ (w_ w):=(cf_.prod (cf_.prod cf_)).pre λt:d_=>(w7_ (t.get w.i),w7_ (t.get w.j),w7_ (t.get w.k))
theorem d2_:fz_ G_:=cf_.pre w7_
structure bn_ (t:d_):Prop where
 s:X_ t.s
 p:X_ t.p
 o:X_ t.o
theorem bn_.get {t:d_} (h:bn_ t) (i:Nat):X_ (t.get i):=by
 unfold d_.get;split
 ·exact h.s
 ·split
  ·exact h.p
  ·exact h.o
theorem q3_ {x y:Int}:a6_ x y=0↔x=0/\y=0:=by unfold a6_;split<;>omega
theorem ol_ {w:Way} {a b:d_}:w_ w a b=0↔G_ (a.get w.i) (b.get w.i)=0/\G_ (a.get w.j) (b.get w.j)=0/\G_ (a.get w.k) (b.get w.k)=0:=by unfold w_;rw[q3_,q3_]
theorem uk_ {w:Way} (f:w.Ok) {a b:d_} (h1:a.get w.i=b.get w.i) (h2:a.get w.j=b.get w.j) (d:a.get w.k=b.get w.k):a=b:=by
 have h:∀n,n=0\/n=1\/n=2->a.get n=b.get n:=by
  unfold Way.Ok at f;intro n p;rcases p with rfl | rfl | rfl
  ·rcases f.1 with e | e | e
   ·rw[e]at h1;exact h1
   ·rw[e]at h2;exact h2
   ·rw[e]at d;exact d
  ·rcases f.2.1 with e | e | e
   ·rw[e]at h1;exact h1
   ·rw[e]at h2;exact h2
   ·rw[e]at d;exact d
  ·rcases f.2.2 with e | e | e
   ·rw[e]at h1;exact h1
   ·rw[e]at h2;exact h2
   ·rw[e]at d;exact d
 have g:=h 0 (by simp);have l:=h 1 (by simp);have m:=h 2 (by simp)
 cases a
 cases b;simp only[d_.get]at g l m;simp at g l m;rw[g,l,m]
theorem hl_ {w:Way} (f:w.Ok) {a b:d_} (d:bn_ a) (hb:bn_ b) (h:w_ w a b=0):a=b:=by obtain⟨h1,h2,g⟩:=ol_.1 h;exact uk_ f (ej_ (d.get _) (hb.get _) h1) (ej_ (d.get _) (hb.get _) h2) (ej_ (d.get _) (hb.get _) g)
noncomputable def dj_ (t:d_):Bool:=I_ t.s 0&&(I_ t.p 0&&(I_ t.o 0&&(decide (t.p.kind=8)&&(decide (t.s.kind=8\/t.s.kind=9)&&decide (t.o.kind=8\/t.o.kind=9\/t.o.kind=10\/t.o.kind=4\/t.o.kind=1\/t.o.kind=2\/t.o.kind=3)))))
end
end Go.Proofs.YtefhfadjajcmkaaGreatDoor
