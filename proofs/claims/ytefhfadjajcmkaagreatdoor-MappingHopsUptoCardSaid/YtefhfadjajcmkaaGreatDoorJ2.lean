/- Numbers that texts get, in the order in which they come: mapping's 'numbers'. -/
import Derived.Test.YtefhfadjajcmkaaGreatDoorJ1
import Derived.OneCell
import Derived.Laws.OwnMore
import Derived.Lib.AppendStr
set_option linter.unusedVariables false
set_option linter.unusedSimpArgs false
set_option maxRecDepth 100000
set_option maxHeartbeats 64000000
namespace Go.Proofs.YtefhfadjajcmkaaGreatDoor
open Go.Lib (cell_of_heap)
section
open Go Go.RowKit
theorem do_ (v:h_) (p:T_ v<=10000000000000000) (F:Nat->Prop) (u:Value) (w:World) (i:∀g,F g->g<w.heap.size) (j:VRd w F v u) (c:F_ w) :
    Calls Tryz.prog 57 #[u] w (u_ (I_ v 0) w):=by
 obtain⟨A,m,z,f,q⟩:=j.inv;have a:=q_ (λo:Obj=>Hy_ (T_ v+1) v (by omega) p 0 (by omega) F u (w.alloc o) (λg c=>by have:=i g c;simp;omega) (j.under ((Below.refl _ _).alloc (Nat.le_refl _) _) i) (f_ c ((Below.refl _ _).alloc (Nat.le_refl _) _)));subst z;obtain⟨s,r⟩:=a_ (Value.slice A v.list.length m);obtain⟨C,d⟩:=a_ (I_ v 0);rw[d.o]at a;rw[d.o];rw[r.o]at a ⊢;clear q f c
 cases v with
 | mk k b n t x l=>
 unfold c_ at a ⊢;simp only[h_.kind,h_.truth,h_.num,h_.text,h_.extra]at a ⊢;clear j i;go_enter Tryz.func57,Tryz.ntmps57
 go_wp2_with fail;refine (a.o _).mono ?_;rintro e B ⟨rfl,hb⟩;have y:=q_ (((Below.refl w.heap.size w).alloc (Nat.le_refl _) (.cells #[.int .i64 k,.bool b,.int .i64 n,.string t,.string x,s] 39)).trans (hb.mono (by simp)));clear hb;go_wp2_with fail;go_ret;exact⟨rfl,y.o⟩
def ma_ (cs:Nat->Array Value) (n:Nat):List Value:=(List.range n).flatMap λi=>(cs i).toList
theorem n7_ (cs:Nat->Array Value) (n:Nat):ma_ cs (n+1)=ma_ cs n++(cs n).toList:=by unfold ma_;rw[List.range_succ];simp
theorem sj_ {cs:Nat->Array Value} {n:Nat} (h:∀i,i<n->(cs i).size=6):(ma_ cs n).length=n*6:=by
 induction n with
 | zero=>rfl
 | succ n a=>rw[n7_,List.length_append,a (λi hi=>h i (by omega))];simp[h n (by omega)];omega
theorem Do_ {cs:Nat->Array Value} {n i j:Nat} (h:∀i,i<n->(cs i).size=6) (hi:i<n) (e:j<6):(ma_ cs n)[i*6+j]?=(cs i)[j]?:=by
 induction n with
 | zero=>omega
 | succ n c=>
  rw[n7_];have a:=sj_ (cs:=cs) (n:=n) (λi hi=>h i (by omega));by_cases d:i=n
  ·subst d;rw[List.getElem?_append_right (by omega),a,show i*6+j-i*6=j by omega];simp
  ·rw[List.getElem?_append_left (by omega)];exact c (λi hi=>h i (by omega)) (by omega)
inductive iy_ (w:World):(Nat->Prop)->h_->Value->Prop where
 | mk (v:h_) (F:Nat->Prop) (s:Value) (cs:Nat->Array Value) (Fs:Nat->Nat->Prop) (hrow:w.ownsRow 0 39 6 s v.list.length (ma_ cs v.list.length)) (h6:∀i,i<v.list.length->(cs i).size=6)
     (hF:∀g,s.ownBlock=some g->F g) (hFs:∀i b,i<v.list.length->Fs i b->F b/\s.ownBlock≠some b) (hdis:∀i j b,i<v.list.length->j<v.list.length->i≠j->Fs i b->¬Fs j b)
     (hr:∀i x,v.list[i]?=some x->iy_ w (Fs i) x (.agg (cs i))):iy_ w F v (.agg (c_ v s))
def js_ (w:World) (F:Nat->Prop) (l:List h_) (s:Value):Prop:=
 ∃(cs:Nat->Array Value) (Fs:Nat->Nat->Prop),w.ownsRow 0 39 6 s l.length (ma_ cs l.length)/\(∀i,i<l.length->(cs i).size=6)/\(∀g,s.ownBlock=some g->F g) /\
  (∀i b,i<l.length->Fs i b->F b/\s.ownBlock≠some b)/\(∀i j b,i<l.length->j<l.length->i≠j->Fs i b->¬Fs j b)/\∀i x,l[i]?=some x->iy_ w (Fs i) x (.agg (cs i))
section
variable {w w':World} {F F':Nat->Prop} {v:h_} {u s:Value} {l:List h_}
theorem iy_.inv (h:iy_ w F v u):∃s,u = .agg (c_ v s)/\js_ w F v.list s:=by
 cases h with
 | mk _ _ s cs e c i f d a g=>exact⟨s,rfl,cs,e,c,i,f,d,a,g⟩
theorem iy_.of_list (h:js_ w F v.list s):iy_ w F v (.agg (c_ v s)):=by obtain⟨cs,e,c,i,f,d,a,g⟩:=h;exact .mk v F s cs e c i f d a g
theorem iy_.turn (h:iy_ w F v u) {S:Nat->Prop} (ht:Turn S w w') (j:∀b,F b->¬S b):iy_ w' F v u:=by
 induction h with
 | mk v F s cs o e q f a c r p=>
  exact .mk v F s cs o (ht.owns e (λg m=>j g (f g m))) q f a c (λi x d=>p i x d (λb hb=>j b (a i b (by
   rcases Nat.lt_or_ge i v.list.length with h | h
   ·exact h
   ·rw[List.getElem?_eq_none h]at d;cases d) hb).1))
theorem iy_.mono (h:iy_ w F v u) (e:∀b,F b->F' b):iy_ w F' v u:=by
 cases h with
 | mk _ _ s cs m d p f a c o=>exact .mk v F' s cs m d p (λg j=>e g (f g j)) (λi b hi hb=>⟨e b (a i b hi hb).1,(a i b hi hb).2⟩) c o
theorem js_.turn (h:js_ w F l s) {S:Nat->Prop} (ht:Turn S w w') (j:∀b,F b->¬S b):js_ w' F l s:=by
 obtain⟨cs,o,e,q,f,a,c,p⟩:=h
 refine⟨cs,o,ht.owns e (λg m=>j g (f g m)),q,f,a,c,λi x d=>(p i x d).turn ht (λb hb=>j b (a i b (by
     rcases Nat.lt_or_ge i l.length with h | h
     ·exact h
     ·rw[List.getElem?_eq_none h]at d;cases d) hb).1)⟩
theorem js_.mono (h:js_ w F l s) (f:∀b,F b->F' b):js_ w F' l s:=by obtain⟨cs,m,d,p,e,a,c,o⟩:=h;exact⟨cs,m,d,p,λg j=>f g (e g j),λi b hi hb=>⟨f b (a i b hi hb).1,(a i b hi hb).2⟩,c,o⟩
theorem js_.nil (w:World) (F:Nat->Prop):js_ w F [] (.slice none 0 0):=
 ⟨λ_=>#[],λ_ _=>False,World.ownsRow_nil _ _ _ _,(λ_ hi=>absurd hi (Nat.not_lt_zero _)),(λg a=>by cases a),(λ_ _ hi=>absurd hi (Nat.not_lt_zero _)),(λ_ _ _ hi=>absurd hi (Nat.not_lt_zero _)),(λi x c=>by simp at c)⟩
theorem js_.form (h:js_ w F l s):∃A c,s = .slice A l.length c:=by
 obtain⟨cs,f,a,_⟩:=h;rcases a.2 with⟨rfl,h0⟩ | ⟨g,d,e,rfl,_⟩
 ·exact⟨none,0,by rw[h0]⟩
 ·exact⟨_,d,rfl⟩
theorem yz_ {c e d:Nat} {A:Option Addr} {n a:Nat} {xs:List Value} (h:w.ownsRow c e d (.slice A n a) n xs):n<=a:=by
 rcases h.2 with⟨h0,h1⟩ | ⟨g,i,f,h0,_,_,h1,_⟩
 ·injection h0 with _ h2 h3;omega
 ·injection h0 with _ _ h3;omega
theorem Dp_ {cs:Nat->Array Value} {A:Option Addr} {c:Nat} (a:w.ownsRow 0 39 6 (.slice A l.length c) l.length (ma_ cs l.length)) (f:∀i,i<l.length->(cs i).size=6) (p:∀g,(Value.slice A l.length c).ownBlock=some g->F g)
    (q:∀i x,l[i]?=some x->VRd w F x (.agg (cs i))):LRd w F l A l.length:=by
 refine⟨rfl,λm=>?_⟩;obtain⟨g,r,e,_,_⟩:=a.form m;injection e with e _ hcp;subst e;subst hcp;refine⟨⟨g,0,none⟩,rfl,p g rfl,λi x d=>?_⟩
 have hi:i<l.length:=by
  rcases Nat.lt_or_ge i l.length with h | h
  ·exact h
  ·rw[List.getElem?_eq_none h]at d;cases d
 refine⟨cs i,f i hi,λj o=>?_,q i x d⟩;have h1:=a.cellAt (i*6+j) (by omega);rw[Do_ f hi o]at h1;rw[<-h1];unfold Addr.add;split<;>simp_all
theorem iy_.rd (h:iy_ w F v u):VRd w F v u:=by
 induction h with
 | mk v F s cs r a p m e f y o=>
  obtain⟨A,c,rfl⟩:∃A c,s = .slice A v.list.length c:=by
   rcases a.2 with⟨rfl,h0⟩ | ⟨g,j,q,rfl,_⟩
   ·exact⟨none,0,by rw[h0]⟩
   ·exact⟨_,j,rfl⟩
  exact .of_list (yz_ a) (Dp_ a p m (λi x d=>(o i x d).mono (λb hb=>(e i b (by
   rcases Nat.lt_or_ge i v.list.length with h | h
   ·exact h
   ·rw[List.getElem?_eq_none h]at d;cases d) hb).1)))
theorem js_.rd (h:js_ w F l s):∃A a,s = .slice A l.length a/\l.length<=a/\LRd w F l A l.length:=by
 obtain⟨A,a,rfl⟩:=h.form;obtain⟨cs,m,c,j,f,e,_,g⟩:=h
 exact⟨A,a,rfl,yz_ c,Dp_ c j f (λi x d=>(g i x d).rd.mono (λb hb=>(e i b (by
     rcases Nat.lt_or_ge i l.length with h | h
     ·exact h
     ·rw[List.getElem?_eq_none h]at d;cases d) hb).1))⟩
end
theorem Hz_:(Tryz.prog.info? 39).map (λi=>(i.zero,i.size,i.bytes))=some (some (.agg #[.int .i64 0,.bool false,.int .i64 0,.string ⟨#[]⟩,.string ⟨#[]⟩,.slice none 0 0]),6,80):=by kernel_rfl
theorem H0_ (x:h_) (B:Option Addr) (n c:Nat):∀u∈(c_ x (.slice B n c)).toList,u.oneCell'=true:=by intro u a;simp[c_]at a;rcases a with h | h | h | h | h | h<;>subst h<;>rfl
end
section
open Go Go.RowKit Go.Maps Go.WideMaps
def beN (W m:Nat):List UInt8:=(List.range W).map λj=>UInt8.ofNat (m / 2 ^ (8*(W-1-j)) % 256)
theorem cc_ (W m:Nat):(beN W m).length=W:=by simp[beN]
structure ct_ (v v':Value) (w w':World):Prop where
 turn:Turn (λi=>some i=v.ownBlock) w w'
 lies:v'.ownBlock=v.ownBlock\/∀g,v'.ownBlock=some g->w.heap.size<=g
theorem ct_.refl (v:Value) (w:World):ct_ v v w w:=⟨Turn.refl _ _,.inl rfl⟩
theorem ct_.trans {v f m:Value} {w d w2:World} (h:ct_ v f w d) (k:ct_ f m d w2):ct_ v m w w2:=by
 refine⟨h.turn.andThen k.turn (λi hi j=>?_),?_⟩
 ·rcases h.lies with e | e
  ·rw[<-e];exact j
  ·have:=e i j.symm;omega
 ·rcases k.lies with e | e
  ·rcases h.lies with c | c
   ·exact .inl (e.trans c)
   ·exact .inr (λg a=>c g (by rw[<-e];exact a))
  ·exact .inr λg a=>Nat.le_trans h.turn.size (e g a)
theorem ct_.below {v:Value} {w w':World} (h:Below w.heap.size w w'):ct_ v v w w':=⟨(Turn.of_below h).mono (λi hi a=>by omega),.inl rfl⟩
theorem ct_.keeps {v c:Value} {w w':World} (h:ct_ v c w w') {g:Nat} (a:g<w.heap.size) (d:v.ownBlock≠some g):w'.heap[g]?=w.heap[g]?:=h.turn.block g a (λe=>d e.symm)
def iz_ (B:Nat) (v:Value) (L M:List UInt8) (w:World) (e:Ending) (w':World):Prop:=
 ∃a,e = .returned a/\w'.ownsRow B 5 1 a (L++M).length (Lib.byteCells (L++M))/\ct_ v a w w'
theorem bq_ (a b:List UInt8):Lib.byteCells (a++b)=Lib.byteCells a++Lib.byteCells b:=by unfold Lib.byteCells;exact List.map_append
theorem n8_ (W m j:Nat) (k:Nat) (a:k=W-1-j):Value.int .u8 ((m:Int) / 2 ^ (8*k) % 256) = .int .u8 ((UInt8.ofNat (m / 2 ^ (8*(W-1-j)) % 256)).toNat:Int):=by subst a;generalize 8*(W-1-j)=e;rw[UInt8.toNat_ofNat'];have h:m / 2 ^ e % 256 % 2 ^ 8=m / 2 ^ e % 256:=Nat.mod_eq_of_lt (Nat.mod_lt _ (by decide));rw[h,Int.natCast_emod,Int.natCast_ediv,Int.natCast_pow];rfl
def y0_ (n:Int) (j:Nat):Value:=.int .u8 (n / 2 ^ (8*(7-j)) % 256)
theorem Lr_ (B:Nat) (v:Value) (xs:List Value) (n:Int) (w:World) (S:xs.length<=60000000) (M:w.ownsRow B 5 1 v xs.length xs) (L:B<=w.heap.size) :
    Calls Tryz.prog 267 #[v,.int .u64 n,.int .i64 8] w λe w'=>∃d,e = .returned d/\w'.ownsRow B 5 1 d (xs.length+8) (xs++(List.range 8).map (y0_ n))/\Turn (λi=>some i=v.ownBlock) w w'/\(d.ownBlock=v.ownBlock\/∀g,d.ownBlock=some g->w.heap.size<=g):=by
 go_enter Tryz.func267,Tryz.ntmps267
 go_wp2
 go_loopw [0,7] (λu i wr=>∃(k:Nat),k<=8/\i = .int .i64 (7-(k:Int))/\wr.ownsRow B 5 1 u (xs.length+k) (xs++(List.range k).map (y0_ n))/\Turn (λi=>some i=v.ownBlock) w wr/\(u.ownBlock=v.ownBlock\/∀g,u.ownBlock=some g->w.heap.size<=g)) (λ_ i _=>(intOf i+1).toNat)
 case atStart=>exact⟨0,by omega,rfl,by simpa using M,Turn.refl _ _,.inl rfl⟩
 case round=>
  obtain⟨k,T,rfl,c,ht,A⟩:=hrel;have I:=q_ c;have r:=q_ ht;have q:=q_ A;have E:B<=wr.heap.size:=Nat.le_trans L ht.size;have N:w.heap.size<=wr.heap.size:=ht.size;clear c ht A;by_cases P:k<8
  ·have U:decide ((0:Int)<=7-k)=true:=decide_eq_true (by omega);have V:(0:Int)<=7-k:=by omega
   go_wp2_with (at_builtin;refine jo_ rfl _ _ 197 rfl B 5 (.int .u8 0) 1 1 Tryz.underlying197 infoByte rfl (by decide) _ _ _ rfl I.o E #[.int .u8 _] 1 1 rfl rfl (r9_ _) (by omega) (by omega) (by decide) ?_)
   intro g4 O J m f j;have C:=q_ m;have D:=q_ (show wr.grownBy J u0.ownBlock from f);have y:=q_ (show u0.ownBlock=some g4\/wr.heap.size<=g4 from j);clear m f j;go_wp2
   go_roundw
   case rel=>
    refine⟨k+1,by omega,by go_num,?_,?_,?_⟩
    ·have:=C.o;rw[List.range_succ,List.map_append];simpa [y0_,Nat.add_assoc] using this
    ·refine r.o.andThen (Turn.of_grown D.o) λi hi h=>?_;rcases q.o with h2 | h2
     ·rw[<-h2];exact h
     ·have:=h2 i h.symm;omega
    ·rcases y.o with h2 | h2
     ·rcases q.o with p | p
      ·left;rw[<-p,h2];rfl
      ·right;intro g a;exact p g (by rw[h2];exact a)
     ·right;intro g a;injection a with a;have a:g4=g:=a;omega
   case measure=>simp[intOf];omega
  ·have z:k=8:=by omega
   subst z;go_wp2
   go_ret;exact⟨_,rfl,I.o,r.o,q.o⟩
theorem n9_ (B:Nat) (v:Value) (L:List UInt8) (m:Nat) (w:World) (q:L.length<=60000000) (i:w.ownsRow B 5 1 v L.length (Lib.byteCells L)) (f:B<=w.heap.size) :
    Calls Tryz.prog 267 #[v,.int .u64 (m:Int),.int .i64 8] w (iz_ B v L (beN 8 m) w):=by
 have d:=Lib.byteCells_length L;have h:=Lr_ B v (Lib.byteCells L) (m:Int) w (by omega) (by rw[d];exact i) f;refine h.mono ?_;rintro e w' ⟨p,g,a,ht,c⟩;refine⟨p,g,?_,ht,c⟩;rw[bq_,List.length_append,cc_];rw[d]at a;have o:(List.range 8).map (y0_ (m:Int))=Lib.byteCells (beN 8 m):=by unfold Lib.byteCells beN;rw[List.map_map];refine List.map_congr_left λj _=>?_;exact n8_ 8 m j (7-j) rfl
 rw[<-o];exact a
def y1_ (n:Int) (j:Nat):Value:=.int .u8 (n / 2 ^ (8*(3-j)) % 256)
theorem Ls_ (B:Nat) (v:Value) (xs:List Value) (n:Int) (w:World) (S:xs.length<=60000000) (M:w.ownsRow B 5 1 v xs.length xs) (L:B<=w.heap.size) :
    Calls Tryz.prog 267 #[v,.int .u64 n,.int .i64 4] w λe w'=>∃d,e = .returned d/\w'.ownsRow B 5 1 d (xs.length+4) (xs++(List.range 4).map (y1_ n))/\Turn (λi=>some i=v.ownBlock) w w'/\(d.ownBlock=v.ownBlock\/∀g,d.ownBlock=some g->w.heap.size<=g):=by
 go_enter Tryz.func267,Tryz.ntmps267
 go_wp2
 go_loopw [0,7] (λu i wr=>∃(k:Nat),k<=4/\i = .int .i64 (3-(k:Int))/\wr.ownsRow B 5 1 u (xs.length+k) (xs++(List.range k).map (y1_ n))/\Turn (λi=>some i=v.ownBlock) w wr/\(u.ownBlock=v.ownBlock\/∀g,u.ownBlock=some g->w.heap.size<=g)) (λ_ i _=>(intOf i+1).toNat)
 case atStart=>exact⟨0,by omega,rfl,by simpa using M,Turn.refl _ _,.inl rfl⟩
 case round=>
  obtain⟨k,T,rfl,c,ht,A⟩:=hrel;have I:=q_ c;have r:=q_ ht;have q:=q_ A;have E:B<=wr.heap.size:=Nat.le_trans L ht.size;have N:w.heap.size<=wr.heap.size:=ht.size;clear c ht A;by_cases P:k<4
  ·have U:decide ((0:Int)<=3-k)=true:=decide_eq_true (by omega);have V:(0:Int)<=3-k:=by omega
   go_wp2_with (at_builtin;refine jo_ rfl _ _ 197 rfl B 5 (.int .u8 0) 1 1 Tryz.underlying197 infoByte rfl (by decide) _ _ _ rfl I.o E #[.int .u8 _] 1 1 rfl rfl (r9_ _) (by omega) (by omega) (by decide) ?_)
   intro g4 O J m f j;have C:=q_ m;have D:=q_ (show wr.grownBy J u0.ownBlock from f);have y:=q_ (show u0.ownBlock=some g4\/wr.heap.size<=g4 from j);clear m f j;go_wp2
   go_roundw
   case rel=>
    refine⟨k+1,by omega,by go_num,?_,?_,?_⟩
    ·have:=C.o;rw[List.range_succ,List.map_append];simpa [y1_,Nat.add_assoc] using this
    ·refine r.o.andThen (Turn.of_grown D.o) λi hi h=>?_;rcases q.o with h2 | h2
     ·rw[<-h2];exact h
     ·have:=h2 i h.symm;omega
    ·rcases y.o with h2 | h2
     ·rcases q.o with p | p
      ·left;rw[<-p,h2];rfl
      ·right;intro g a;exact p g (by rw[h2];exact a)
     ·right;intro g a;injection a with a;have a:g4=g:=a;omega
   case measure=>simp[intOf];omega
  ·have z:k=4:=by omega
   subst z;go_wp2
   go_ret;exact⟨_,rfl,I.o,r.o,q.o⟩
theorem t7_ (B:Nat) (v:Value) (L:List UInt8) (m:Nat) (w:World) (q:L.length<=60000000) (i:w.ownsRow B 5 1 v L.length (Lib.byteCells L)) (f:B<=w.heap.size) :
    Calls Tryz.prog 267 #[v,.int .u64 (m:Int),.int .i64 4] w (iz_ B v L (beN 4 m) w):=by
 have d:=Lib.byteCells_length L;have h:=Ls_ B v (Lib.byteCells L) (m:Int) w (by omega) (by rw[d];exact i) f;refine h.mono ?_;rintro e w' ⟨p,g,a,ht,c⟩;refine⟨p,g,?_,ht,c⟩;rw[bq_,List.length_append,cc_];rw[d]at a;have o:(List.range 4).map (y1_ (m:Int))=Lib.byteCells (beN 4 m):=by unfold Lib.byteCells beN;rw[List.map_map];refine List.map_congr_left λj _=>?_;exact n8_ 4 m j (3-j) rfl
 rw[<-o];exact a
open Go.Lib in
theorem H1_ {P:Program} {w:World} (d:Nat) (t u ty e:TypeId) (i:TypeInfo) (ht:P.underlying t=some (.slice e)) (q:P.underlying u=some .string) (hi:P.info? e=some i) (hz:i.zero=some (.int .u8 0))
    (a:i.size=1) (o:i.bytes=1) (v:Value) (n:Nat) (xs:List Value) (c:w.ownsRow d e 1 v n xs) (s:ByteArray) (hb:n+s.size<=100000000) (r:d<=w.heap.size) :
    ∃m w',(Builtin.append_ #[t,u] ty #[v,.string s]).run P w = .ok m w'/\w'.ownsRow d e 1 m (n+s.size) (xs++strCells s)/\w.grownBy w' v.ownBlock/\(m.ownBlock=v.ownBlock\/m.ownBlock=some w.heap.size):=by
 obtain⟨m,w',j,h1,h2,C⟩:=run_append_own_string (P:=P) w d t u ty e i ht q hi hz a o v n xs c s (by unfold maxLen;omega) (by omega) r;refine⟨m,w',j,h1,h2,?_⟩;have z:xs.length=n:=by simpa using c.1
 rcases c.2 with⟨rfl,rfl⟩ | ⟨g,p,A,rfl,I,D,L,J,M,B⟩
 ·by_cases E:s.size=0
  ·rw[C.2 ⟨rfl,E⟩];exact .inl rfl
  ·have f:=run_append_nil_string (P:=P) w t u ty e i (.int .u8 0) ht q hi hz s (by omega) (by omega) (by rw[o];omega);rw[f]at j;injection j with hv _;rw[<-hv];exact .inr rfl
 ·by_cases y:n+s.size<=p
  ·have f:=run_append_room_string (P:=P) w t u ty e i ht q hi a g n p A D s y (by omega);rw[f]at j;injection j with hv _;rw[<-hv];exact .inl rfl
  ·have f:=run_append_grow_string (P:=P) w t u ty e i (.int .u8 0) ht q hi hz ⟨g,0,none⟩ n p xs (by rw[a];simpa using z) (c.cells (g:=g) rfl) s (by omega) (by omega) (by rw[o];exact growslice_fits (by omega) (by omega));rw[f]at j;injection j with hv _;rw[<-hv];exact .inr rfl
open Go.Lib in
theorem Dq_ {P:Program} {w:World} {j:Array Oper} {rest:List Oper} {o:Oper} {a:Act} {Q:Exit->Act->World->Prop} (q:o.guard=none) (r x:Operand) (t u:TypeId)
    (I:o.op = .call { callee:=.builtin .append,args:=#[r,x],argTypes:=#[t,u] })
    (c:Nat) (e:TypeId) (ht:P.underlying t=some (.slice e)) (C:P.underlying u=some .string) (g:(P.info? e).map (λi=>(i.zero,i.size,i.bytes))=some (some (.int .u8 0),1,1))
    (v:Value) (n:Nat) (xs:List Value) (E:a.eval r=v) (m:w.ownsRow c e 1 v n xs) (s:ByteArray) (B:a.eval x = .string s) (hb:n+s.size<=100000000) (f:c<=w.heap.size)
    (h:∀d w',w'.ownsRow c e 1 d (n+s.size) (xs++strCells s)->w.grownBy w' v.ownBlock->(d.ownBlock=v.ownBlock\/d.ownBlock=some w.heap.size)->wpList P j Q rest (a.put o.dst d) w'):wpList P j Q (o::rest) a w:=by
 obtain⟨i,hi,z,y,p⟩:=info_parts g;refine wpList_plain q λK J=>?_;obtain⟨d,w',L,h2,A,D⟩:=H1_ (P:=P) (w:=w) c t u o.type e i ht C hi z y p v n xs m s hb f;unfold Oper.wp execOp;simp only[I,resolve,invoke,builtin,Sem.run_bind,Sem.run_pure,Result.andThen_ok,List.map_toArray,List.map_cons,List.map_nil,E,B,L];exact J _ _ (h d w' h2 A D)
def av_ (s:ByteArray):List UInt8:=beN 4 s.size++s.data.toList
theorem gb_ (s:ByteArray):(av_ s).length=4+s.size:=by unfold av_;rw[List.length_append,cc_,a1_]
theorem fw_ (B:Nat) (v:Value) (L:List UInt8) (s:ByteArray) (w:World) (P:L.length+s.size<=50000000) (I:w.ownsRow B 5 1 v L.length (Lib.byteCells L)) (D:B<=w.heap.size) :
    Calls Tryz.prog 268 #[v,.string s] w (iz_ B v L (av_ s) w):=by
 have p:=q_ (t7_ B v L s.size w (by omega) I D);have q:=q_ (cc_ 4 s.size);have z:IntKind.u64.wrap (s.size:Int)=(s.size:Int):=IntWalk.u64_in _ (by omega);clear I;go_enter Tryz.func268,Tryz.ntmps268
 go_wp2_with fail;refine p.o.mono ?_;rintro e z ⟨S,rfl,m,a⟩;have f:=q_ m;have J:=q_ a;have N:B<=z.heap.size:=Nat.le_trans D a.turn.size;have d:(L++beN 4 s.size).length+s.size<=100000000:=by rw[List.length_append,q.o];omega
 obtain⟨M,A⟩:=a_ (L++beN 4 s.size);rw[A.o]at f d;clear m a;go_wp2_with (at_builtin;refine Dq_ rfl _ _ 197 9 rfl B 5 Tryz.underlying197 (by kernel_rfl) infoByte _ _ _ rfl f.o s rfl d N ?_;intro O w2 c i j;have y:=q_ c;have E:=q_ i;have C:=q_ j;clear c i j)
 go_ret;refine⟨O,rfl,?_,J.o.trans ⟨Turn.of_grown E.o,?_⟩⟩
 ·unfold av_;rw[<-List.append_assoc,A.o,bq_,List.length_append,a1_];exact y.o
 ·rcases C.o with e | e
  ·exact .inl e
  ·refine .inr λg r=>?_;rw[e]at r;injection r with r;omega
mutual
def c9_:h_->List UInt8
 | .mk k b n t x l=>UInt8.ofNat k.toNat ::
  (if k=1 then [if b=true then 1 else 0] else if k=2 then beN 8 (n % 18446744073709551616).toNat else if k=6 then beN 8 (n % 18446744073709551616).toNat else if k=7 then beN 8 (n % 18446744073709551616).toNat
  else if k=3 then av_ t else if k=4 then av_ t else if k=8 then av_ t else if k=9 then av_ t else if k=10 then av_ t++av_ x else if k=5 then beN 4 l.length++ea_ l else [])
def ea_:List h_->List UInt8
 | []=>[]
 | v::r=>c9_ v++ea_ r
end
theorem t8_ (a b:List h_):ea_ (a++b)=ea_ a++ea_ b:=by
 induction a with
 | nil=>simp[ea_]
 | cons v r c=>simp[ea_,c]
mutual
theorem mb_:∀v:h_,(c9_ v).length<=200*T_ v
 | .mk k b n t x l=>by
  have h:=hd_ l;have h1:=gb_ t;have h2:=gb_ x;unfold c9_ T_;rw[List.length_cons];repeat' split
  all_goals (first | (simp only[List.length_append,cc_,List.length_cons,List.length_nil];omega) | omega)
theorem hd_:∀l:List h_,(ea_ l).length<=200*ab_ l
 | []=>by simp[ea_]
 | v::r=>by
  have h:=mb_ v;have h2:=hd_ r;simp only[ea_,ab_,List.length_append];omega
end
theorem oa_ {v:h_} {d:Nat} (h:I_ v d=true):0<=v.kind/\v.kind<=10:=by
 cases v with
 | mk k b n t x l=>
 show 0<=k/\k<=10;unfold I_ at h;refine Classical.byContradiction λa=>?_;rw[if_neg (by omega),if_neg (by omega),if_neg (by omega),if_neg (by omega),if_neg (by omega),if_neg (by omega),if_neg (by omega),if_neg (by omega),if_neg (by omega),if_neg (by omega),if_neg (by omega)]at h
 cases h
theorem Dr_ {b:Bool} {n:Int} {t x:ByteArray} {l:List h_} {d:Nat} (h:I_ (.mk 5 b n t x l) d=true):g9_ l (d+1)=true/\l.length<=4096:=by rw[Dm_]at h;simp only[Bool.and_eq_true,decide_eq_true_iff]at h;exact⟨h.2.2.1,h.1⟩
theorem ww_ (l:List h_) {k:Nat} {y:h_} (h:l[k]?=some y):ab_ (l.take k)+T_ y<=ab_ l:=by have h1:=wq_ l (k+1);rw[g_ h,jm_]at h1;simp only[ab_]at h1;omega
theorem mt_ (y:Value) (w:World):(Instr.typeAssert (.iface 233 y) 20 194 true).run Tryz.prog w = .ok (.tuple #[.bool false,.bool false]) w:=by kernel_rfl
theorem p5_ (y:Value) (w:World):(Instr.typeAssert (.iface 233 y) 20 188 true).run Tryz.prog w = .ok (.tuple #[.int .i64 0,.bool false]) w:=by kernel_rfl
theorem p6_ (y:Value) (w:World):(Instr.typeAssert (.iface 233 y) 20 193 true).run Tryz.prog w = .ok (.tuple #[.int .i64 0,.bool false]) w:=by kernel_rfl
theorem ob_ (y:Value) (w:World):(Instr.typeAssert (.iface 233 y) 20 189 true).run Tryz.prog w = .ok (.tuple #[.string ⟨#[]⟩,.bool false]) w:=by kernel_rfl
theorem p7_ (y:Value) (w:World):(Instr.typeAssert (.iface 233 y) 20 234 true).run Tryz.prog w = .ok (.tuple #[.string ⟨#[]⟩,.bool false]) w:=by kernel_rfl
theorem mu_ (y:Value) (w:World):(Instr.typeAssert (.iface 233 y) 20 237 true).run Tryz.prog w = .ok (.tuple #[.agg #[.string ⟨#[]⟩,.string ⟨#[]⟩],.bool false]) w:=by kernel_rfl
theorem sk_ (y:Value) (w:World):(Instr.typeAssert (.iface 233 y) 20 191 true).run Tryz.prog w = .ok (.tuple #[.slice none 0 0,.bool false]) w:=by kernel_rfl
theorem i0_ (y:Value) (w:World):(Instr.typeAssert (.iface 194 y) 20 194 true).run Tryz.prog w = .ok (.tuple #[y,.bool true]) w:=by kernel_rfl
theorem k2_ (y:Value) (w:World):(Instr.typeAssert (.iface 188 y) 20 194 true).run Tryz.prog w = .ok (.tuple #[.bool false,.bool false]) w:=by kernel_rfl
theorem oc_ (y:Value) (w:World):(Instr.typeAssert (.iface 188 y) 20 188 true).run Tryz.prog w = .ok (.tuple #[y,.bool true]) w:=by kernel_rfl
theorem fx_ (y:Value) (w:World):(Instr.typeAssert (.iface 193 y) 20 194 true).run Tryz.prog w = .ok (.tuple #[.bool false,.bool false]) w:=by kernel_rfl
theorem he_ (y:Value) (w:World):(Instr.typeAssert (.iface 193 y) 20 188 true).run Tryz.prog w = .ok (.tuple #[.int .i64 0,.bool false]) w:=by kernel_rfl
theorem hf_ (y:Value) (w:World):(Instr.typeAssert (.iface 193 y) 20 193 true).run Tryz.prog w = .ok (.tuple #[y,.bool true]) w:=by kernel_rfl
theorem jt_ (y:Value) (w:World):(Instr.typeAssert (.iface 189 y) 20 194 true).run Tryz.prog w = .ok (.tuple #[.bool false,.bool false]) w:=by kernel_rfl
theorem mv_ (y:Value) (w:World):(Instr.typeAssert (.iface 189 y) 20 188 true).run Tryz.prog w = .ok (.tuple #[.int .i64 0,.bool false]) w:=by kernel_rfl
theorem mw_ (y:Value) (w:World):(Instr.typeAssert (.iface 189 y) 20 193 true).run Tryz.prog w = .ok (.tuple #[.int .i64 0,.bool false]) w:=by kernel_rfl
theorem k3_ (y:Value) (w:World):(Instr.typeAssert (.iface 189 y) 20 189 true).run Tryz.prog w = .ok (.tuple #[y,.bool true]) w:=by kernel_rfl
theorem dp_ (y:Value) (w:World):(Instr.typeAssert (.iface 234 y) 20 194 true).run Tryz.prog w = .ok (.tuple #[.bool false,.bool false]) w:=by kernel_rfl
theorem ew_ (y:Value) (w:World):(Instr.typeAssert (.iface 234 y) 20 188 true).run Tryz.prog w = .ok (.tuple #[.int .i64 0,.bool false]) w:=by kernel_rfl
theorem ex_ (y:Value) (w:World):(Instr.typeAssert (.iface 234 y) 20 193 true).run Tryz.prog w = .ok (.tuple #[.int .i64 0,.bool false]) w:=by kernel_rfl
theorem eb_ (y:Value) (w:World):(Instr.typeAssert (.iface 234 y) 20 189 true).run Tryz.prog w = .ok (.tuple #[.string ⟨#[]⟩,.bool false]) w:=by kernel_rfl
theorem ey_ (y:Value) (w:World):(Instr.typeAssert (.iface 234 y) 20 234 true).run Tryz.prog w = .ok (.tuple #[y,.bool true]) w:=by kernel_rfl
theorem i1_ (y:Value) (w:World):(Instr.typeAssert (.iface 237 y) 20 194 true).run Tryz.prog w = .ok (.tuple #[.bool false,.bool false]) w:=by kernel_rfl
theorem k4_ (y:Value) (w:World):(Instr.typeAssert (.iface 237 y) 20 188 true).run Tryz.prog w = .ok (.tuple #[.int .i64 0,.bool false]) w:=by kernel_rfl
theorem k5_ (y:Value) (w:World):(Instr.typeAssert (.iface 237 y) 20 193 true).run Tryz.prog w = .ok (.tuple #[.int .i64 0,.bool false]) w:=by kernel_rfl
theorem ju_ (y:Value) (w:World):(Instr.typeAssert (.iface 237 y) 20 189 true).run Tryz.prog w = .ok (.tuple #[.string ⟨#[]⟩,.bool false]) w:=by kernel_rfl
theorem k6_ (y:Value) (w:World):(Instr.typeAssert (.iface 237 y) 20 234 true).run Tryz.prog w = .ok (.tuple #[.string ⟨#[]⟩,.bool false]) w:=by kernel_rfl
theorem i2_ (y:Value) (w:World):(Instr.typeAssert (.iface 237 y) 20 237 true).run Tryz.prog w = .ok (.tuple #[y,.bool true]) w:=by kernel_rfl
theorem mx_ (y:Value) (w:World):(Instr.typeAssert (.iface 191 y) 20 194 true).run Tryz.prog w = .ok (.tuple #[.bool false,.bool false]) w:=by kernel_rfl
theorem p8_ (y:Value) (w:World):(Instr.typeAssert (.iface 191 y) 20 188 true).run Tryz.prog w = .ok (.tuple #[.int .i64 0,.bool false]) w:=by kernel_rfl
theorem p9_ (y:Value) (w:World):(Instr.typeAssert (.iface 191 y) 20 193 true).run Tryz.prog w = .ok (.tuple #[.int .i64 0,.bool false]) w:=by kernel_rfl
theorem od_ (y:Value) (w:World):(Instr.typeAssert (.iface 191 y) 20 189 true).run Tryz.prog w = .ok (.tuple #[.string ⟨#[]⟩,.bool false]) w:=by kernel_rfl
theorem qa_ (y:Value) (w:World):(Instr.typeAssert (.iface 191 y) 20 234 true).run Tryz.prog w = .ok (.tuple #[.string ⟨#[]⟩,.bool false]) w:=by kernel_rfl
theorem my_ (y:Value) (w:World):(Instr.typeAssert (.iface 191 y) 20 237 true).run Tryz.prog w = .ok (.tuple #[.agg #[.string ⟨#[]⟩,.string ⟨#[]⟩],.bool false]) w:=by kernel_rfl
theorem sl_ (y:Value) (w:World):(Instr.typeAssert (.iface 191 y) 20 191 true).run Tryz.prog w = .ok (.tuple #[y,.bool true]) w:=by kernel_rfl
theorem z8_ (b:Bool) (w:World):Calls Tryz.prog 134 #[.bool b] w λe w'=>e = .returned (.int .i64 (if b=true then 1 else 0))/\w'=w:=by
 cases b with
 | true=>
  go_enter Tryz.func134,Tryz.ntmps134
  go_wp2
  go_ret;exact⟨rfl,rfl⟩
 | false=>
  go_enter Tryz.func134,Tryz.ntmps134
  go_wp2
  go_ret;exact⟨rfl,rfl⟩
theorem wx_ (n:Int):IntKind.u64.wrap n=(((n % 18446744073709551616).toNat:Nat):Int):=by have h:=Int.emod_nonneg n (show (18446744073709551616:Int)≠0 by decide);rw[Int.toNat_of_nonneg h];rfl
theorem H2_ (N:Nat):∀(v:h_) (_:T_ v<N) (d:Nat) (_:I_ v d=true) (B:Nat) (F:Nat->Prop) (r:Value) (L:List UInt8) (u:Value) (w:World) (_:L.length+200*T_ v<=40000000) (_:∀g,F g->g<B) (_:B<=w.heap.size)
    (_:w.ownsRow B 5 1 r L.length (Lib.byteCells L)) (_:VRd w F v u),Calls Tryz.prog 216 #[r,u] w (iz_ B r L (c9_ v) w):=by
 induction N with
 | zero=>exact λ_ h=>absurd h (Nat.not_lt_zero _)
 | succ N ih=>
  intro v hN d ab B F r L u w hL hF hB ho hv;obtain⟨A,a5,rfl,az,hl⟩:=hv.inv;have IH:=q_ ih;have HL:=q_ hl;have HF:=q_ hF;have HO:=q_ ho;have bw:=q_ ab;have hk:=oa_ ab;clear ih hl hF hv ho ab;obtain⟨s,HS⟩:=a_ (Value.slice A v.list.length a5);have HP:=q_ (λW=>g8_ v s W);rw[HS.o];obtain⟨ev,q⟩:=a_ (c9_ v);rw[q.o]
  cases v with
  | mk k b n t x l=>
  obtain⟨pv,j⟩:=a_ (qx_ (.mk k b n t x l) s);unfold iu_ c_ at HP;unfold c_;rw[j.o]at HP;simp only[h_.kind,h_.truth,h_.num,h_.text,h_.extra,h_.list]at HP HL HS az hk ⊢;have b2:L.length+200+t.size+x.size<=40000200/\L.length+200+200*ab_ l<=40000000/\ab_ l<N/\l.length<=ab_ l:=by simp only[T_]at hL hN;have:=dz_ l;omega
  obtain⟨b2,ci,cq,cj⟩:=b2;clear hN hL;obtain⟨h,Hh⟩:=a_ w.heap.size;obtain⟨w0,ao⟩:=a_ (w.alloc (.cells #[.int .i64 k,.bool b,.int .i64 n,.string t,.string x,s] 39));have b3:=q_ (show Below w.heap.size w w0 from by rw[<-ao.o];exact (Below.refl _ _).alloc (Nat.le_refl _) _);have ap:=q_ (show w0.heap[h]?=some (.cells #[.int .i64 k,.bool b,.int .i64 n,.string t,.string x,s] 39 (0,0)) from by rw[<-ao.o,<-Hh.o];exact heap_alloc_new w _);have ce:=q_ (show h<w0.heap.size from by rw[<-ao.o,<-Hh.o];simp);have bm:=q_ ((Turn.of_below b3.o).owns HO.o (λg hg hx=>by have:=(HO.o.lt g hg).2;omega));have cr:B<=h:=by rw[<-Hh.o];exact hB
  have cd:B<=w0.heap.size:=Nat.le_trans hB b3.o.size;obtain⟨c,Hc⟩:=a_ (UInt8.ofNat k.toNat);have c3:IntKind.u8.wrap k=(c.toNat:Int):=by rw[IntWalk.u8_in _ (by omega),<-Hc.o,UInt8.toNat_ofNat'];have:k.toNat % 2 ^ 8=k.toNat:=Nat.mod_eq_of_lt (by omega);rw[this];omega
  obtain⟨a2,ae⟩:=a_ L.length;rw[ae.o]at bm HO b2 ci;have c0:w0.cell? ⟨h,0,none⟩=some (.int .i64 k):=cell_of_heap ap.o 0;go_enter Tryz.func216,Tryz.ntmps216
  go_upto_region 1 with fail;rw[ao.o,Hh.o];go_wp2_with (at_builtin;refine jo_ rfl _ _ 197 rfl B 5 (.int .u8 0) 1 1 Tryz.underlying197 infoByte rfl (by decide) _ _ _ rfl bm.o cd #[.int .u8 (c.toNat:Int)] 1 1 rfl rfl (r9_ _) (by omega) (by omega) (by decide) ?_;intro g4 ah w4 bi bk b9;have b4:=q_ bi;have b5:=q_ bk;have b8:=q_ b9;have a8:=q_ ((b5.o.block h ce.o (λe=>by have:=(HO.o.lt h e.symm).2;have:=Hh.o;omega)).trans ap.o);have d0:w4.cell? ⟨h,0,none⟩=some (.int .i64 k):=cell_of_heap a8.o 0;have d1:w4.cell? ⟨h,1,none⟩=some (.bool b):=cell_of_heap a8.o 1;have d2:w4.cell? ⟨h,2,none⟩=some (.int .i64 n):=cell_of_heap a8.o 2;have d3:w4.cell? ⟨h,3,none⟩=some (.string t):=cell_of_heap a8.o 3;have d4:w4.cell? ⟨h,4,none⟩=some (.string x):=cell_of_heap a8.o 4;have d5:w4.cell? ⟨h,5,none⟩=some s:=cell_of_heap a8.o 5;clear bi bk b9)
  refine (HP.o _).mono ?_;rintro e w5 ⟨rfl,aw⟩
  have af:=q_ (show ct_ r (.slice (some ⟨g4,0,none⟩) (a2+1) ah) w w5 from by
   have h1:ct_ r r w w0:=ct_.below b3.o
   have h2:ct_ r (.slice (some ⟨g4,0,none⟩) (a2+1) ah) w0 w4:=⟨Turn.of_grown b5.o,by
    rcases b8.o with e | e
    ·exact .inl e.symm
    ·exact .inr (λg hg=>by injection hg with hg;rw[<-hg];exact e)⟩
   exact (h1.trans h2).trans (ct_.below aw))
  have V:=q_ (show w5.ownsRow B 5 1 (.slice (some ⟨g4,0,none⟩) (a2+1) ah) (L++[c]).length (Lib.byteCells (L++[c])) from by rw[bq_,List.length_append,ae.o];exact (Turn.of_below aw).owns b4.o (λg hg hx=>by have:=(b4.o.lt g hg).2;omega));have X:B<=w5.heap.size:=Nat.le_trans hB af.o.turn.size;have bg:=q_ (HL.o.keep (w':=w5) (λp hp=>World.cell?_of_block (af.o.turn.block p.block (by have:=HF.o _ hp;omega) (λe=>by have:=(HO.o.lt p.block e.symm).1;have:=HF.o _ hp;omega))));have b1:(L++[c]).length=a2+1:=by rw[List.length_append,ae.o];rfl
  obtain⟨L1,b0⟩:=a_ (L++[c]);obtain⟨r5,av⟩:=a_ (Value.slice (some ⟨g4,0,none⟩) (a2+1) ah);rw[b0.o,av.o]at V;rw[b0.o]at b1;have cm:L1.length<=a2+1:=Nat.le_of_eq b1;clear b1;rw[av.o]at af;rw[av.o];have bx:=q_ (λ(M:List UInt8) (hM:ev=c::M)=>show L++ev=L1++M from by rw[hM,<-b0.o];simp);have U:=q_ (λ(M:List UInt8) (hM:ev=c::M) (e:Ending) (w6:World) (h6:iz_ B r5 L1 M w5 e w6)=>show iz_ B r L ev w e w6 from by obtain⟨v',he,ho,hg⟩:=h6;exact⟨v',he,by rw[bx.o M hM];exact ho,af.o.trans hg⟩);clear aw d0 d1 d2 d3 d4 d5 b4 b5 b8 a8 c0 c3 HP;by_cases h0:k=0
  ·subst h0;have I:pv = .iface 233 (.agg #[]):=by rw[<-j.o];rfl
   subst I;have f:=q_ (show ev=c::([]) from by rw[<-q.o,<-Hc.o];unfold c9_;rfl);have a:=mt_ (.agg #[]);have E:=p5_ (.agg #[]);have O:=p6_ (.agg #[]);have P:=ob_ (.agg #[]);have Y:=p7_ (.agg #[]);have a3:=mu_ (.agg #[]);have au:=sk_ (.agg #[]);clear j q;go_wp2_with fail;go_ret;exact U.o [] f.o _ _ ⟨r5,rfl,by rw[List.append_nil];exact V.o,ct_.refl _ _⟩
  ·have e0:((k:Int)==0)=false:=beq_eq_false_iff_ne.2 h0;by_cases h1:k=1
   ·subst h1;have I:pv = .iface 194 (.bool b):=by rw[<-j.o];rfl
    subst I;have f:=q_ (show ev=c::([if b=true then 1 else 0]) from by rw[<-q.o,<-Hc.o];unfold c9_;rfl)
    have a:=i0_ (.bool b);clear j q;have ht:=q_ (z8_ b w5);obtain⟨z,Hz⟩:=a_ (if b=true then (1:Int) else 0)
    obtain⟨zc,bb⟩:=a_ (if b=true then (1:UInt8) else 0)
    rw[Hz.o]at ht;rw[bb.o]at f;have cs:IntKind.u8.wrap z=(zc.toNat:Int):=by rw[<-Hz.o,<-bb.o];cases b<;>rfl
    go_wp2_with fail;refine ht.o.mono ?_;rintro e w6 ⟨rfl,rfl⟩
    go_wp2_with (at_builtin;refine jo_ rfl _ _ 197 rfl B 5 (.int .u8 0) 1 1 Tryz.underlying197 infoByte rfl (by decide) _ _ _ rfl V.o X #[.int .u8 (zc.toNat:Int)] 1 1 rfl rfl (r9_ _) (by omega) (by omega) (by decide) ?_;intro g7 cv w7 a4 a0 bf;have a6:=q_ a4;have a9:=q_ a0;have cg:=q_ bf;clear a4 a0 bf)
    go_ret
    exact U.o _ f.o _ _ ⟨_,rfl,by rw[bq_,List.length_append];exact a6.o,⟨Turn.of_grown a9.o,by
     rcases cg.o with e | e
     ·exact .inl e.symm
     ·exact .inr (λg hg=>by injection hg with hg;rw[<-hg];exact e)⟩⟩
   ·have e1:((k:Int)==1)=false:=beq_eq_false_iff_ne.2 h1;by_cases h2:k=2
    ·subst h2;have I:pv = .iface 188 (.int .i64 n):=by rw[<-j.o];rfl
     subst I;have f:=q_ (show ev=c::(beN 8 (n % 18446744073709551616).toNat) from by rw[<-q.o,<-Hc.o];unfold c9_;rfl);have a:=k2_ (.int .i64 n);have E:=oc_ (.int .i64 n);clear j q;obtain⟨m,Hm⟩:=a_ (n % 18446744073709551616).toNat;rw[Hm.o]at f;have hu:IntKind.u64.wrap n=(m:Int):=by rw[wx_,Hm.o]
     have T:=q_ (n9_ B r5 L1 m w5 (by omega) V.o X);go_wp2_with fail;refine T.o.mono ?_;rintro e w6 ⟨v6,rfl,C,D⟩;have J:=q_ C;have S:=q_ D;clear C D;go_wp2_with fail;go_ret;exact U.o _ f.o _ _ ⟨v6,rfl,J.o,S.o⟩
    ·have e2:((k:Int)==2)=false:=beq_eq_false_iff_ne.2 h2;by_cases h6:k=6
     ·subst h6;have I:pv = .iface 193 (.int .i64 n):=by rw[<-j.o];rfl
      subst I;have f:=q_ (show ev=c::(beN 8 (n % 18446744073709551616).toNat) from by rw[<-q.o,<-Hc.o];unfold c9_;rfl);have a:=fx_ (.int .i64 n);have E:=he_ (.int .i64 n);have O:=hf_ (.int .i64 n);clear j q;obtain⟨m,Hm⟩:=a_ (n % 18446744073709551616).toNat;rw[Hm.o]at f;have hu:IntKind.u64.wrap n=(m:Int):=by rw[wx_,Hm.o]
      have T:=q_ (n9_ B r5 L1 m w5 (by omega) V.o X);go_wp2_with fail;refine T.o.mono ?_;rintro e w6 ⟨v6,rfl,C,D⟩;have J:=q_ C;have S:=q_ D;clear C D;go_wp2_with fail;go_ret;exact U.o _ f.o _ _ ⟨v6,rfl,J.o,S.o⟩
     ·have e6:((k:Int)==6)=false:=beq_eq_false_iff_ne.2 h6;by_cases h7:k=7
      ·subst h7;have I:pv = .iface 193 (.int .i64 n):=by rw[<-j.o];rfl
       subst I;have f:=q_ (show ev=c::(beN 8 (n % 18446744073709551616).toNat) from by rw[<-q.o,<-Hc.o];unfold c9_;rfl);have a:=fx_ (.int .i64 n);have E:=he_ (.int .i64 n);have O:=hf_ (.int .i64 n);clear j q;obtain⟨m,Hm⟩:=a_ (n % 18446744073709551616).toNat;rw[Hm.o]at f;have hu:IntKind.u64.wrap n=(m:Int):=by rw[wx_,Hm.o]
       have T:=q_ (n9_ B r5 L1 m w5 (by omega) V.o X);go_wp2_with fail;refine T.o.mono ?_;rintro e w6 ⟨v6,rfl,C,D⟩;have J:=q_ C;have S:=q_ D;clear C D;go_wp2_with fail;go_ret;exact U.o _ f.o _ _ ⟨v6,rfl,J.o,S.o⟩
      ·have e7:((k:Int)==7)=false:=beq_eq_false_iff_ne.2 h7;by_cases h3:k=3
       ·subst h3;have I:pv = .iface 189 (.string t):=by rw[<-j.o];rfl
        subst I;have f:=q_ (show ev=c::(av_ t) from by rw[<-q.o,<-Hc.o];unfold c9_;rfl);have a:=jt_ (.string t);have E:=mv_ (.string t);have O:=mw_ (.string t);have P:=k3_ (.string t);clear j q;have T:=q_ (fw_ B r5 L1 t w5 (by omega) V.o X);go_wp2_with fail;refine T.o.mono ?_;rintro e w6 ⟨v6,rfl,C,D⟩;have J:=q_ C;have S:=q_ D;clear C D;go_wp2_with fail;go_ret;exact U.o _ f.o _ _ ⟨v6,rfl,J.o,S.o⟩
       ·have e3:((k:Int)==3)=false:=beq_eq_false_iff_ne.2 h3;by_cases h4:k=4
        ·subst h4;have I:pv = .iface 234 (.string t):=by rw[<-j.o];rfl
         subst I;have f:=q_ (show ev=c::(av_ t) from by rw[<-q.o,<-Hc.o];unfold c9_;rfl);have a:=dp_ (.string t);have E:=ew_ (.string t);have O:=ex_ (.string t);have P:=eb_ (.string t);have Y:=ey_ (.string t);clear j q;have T:=q_ (fw_ B r5 L1 t w5 (by omega) V.o X);go_wp2_with fail;refine T.o.mono ?_;rintro e w6 ⟨v6,rfl,C,D⟩;have J:=q_ C;have S:=q_ D;clear C D;go_wp2_with fail;go_ret;exact U.o _ f.o _ _ ⟨v6,rfl,J.o,S.o⟩
        ·have e4:((k:Int)==4)=false:=beq_eq_false_iff_ne.2 h4;by_cases h8:k=8
         ·subst h8;have I:pv = .iface 234 (.string t):=by rw[<-j.o];rfl
          subst I;have f:=q_ (show ev=c::(av_ t) from by rw[<-q.o,<-Hc.o];unfold c9_;rfl);have a:=dp_ (.string t);have E:=ew_ (.string t);have O:=ex_ (.string t);have P:=eb_ (.string t);have Y:=ey_ (.string t);clear j q;have T:=q_ (fw_ B r5 L1 t w5 (by omega) V.o X);go_wp2_with fail;refine T.o.mono ?_;rintro e w6 ⟨v6,rfl,C,D⟩;have J:=q_ C;have S:=q_ D;clear C D;go_wp2_with fail;go_ret;exact U.o _ f.o _ _ ⟨v6,rfl,J.o,S.o⟩
         ·have e8:((k:Int)==8)=false:=beq_eq_false_iff_ne.2 h8;by_cases h9:k=9
          ·subst h9;have I:pv = .iface 234 (.string t):=by rw[<-j.o];rfl
           subst I;have f:=q_ (show ev=c::(av_ t) from by rw[<-q.o,<-Hc.o];unfold c9_;rfl);have a:=dp_ (.string t);have E:=ew_ (.string t);have O:=ex_ (.string t);have P:=eb_ (.string t);have Y:=ey_ (.string t);clear j q;have T:=q_ (fw_ B r5 L1 t w5 (by omega) V.o X);go_wp2_with fail;refine T.o.mono ?_;rintro e w6 ⟨v6,rfl,C,D⟩;have J:=q_ C;have S:=q_ D;clear C D;go_wp2_with fail;go_ret;exact U.o _ f.o _ _ ⟨v6,rfl,J.o,S.o⟩
          ·have e9:((k:Int)==9)=false:=beq_eq_false_iff_ne.2 h9;by_cases bc:k=10
           ·subst bc;have I:pv = .iface 237 (.agg #[.string t,.string x]):=by rw[<-j.o];rfl
            subst I;have f:=q_ (show ev=c::(av_ t++av_ x) from by rw[<-q.o,<-Hc.o];unfold c9_;rfl);have a:=i1_ (.agg #[.string t,.string x]);have E:=k4_ (.agg #[.string t,.string x]);have O:=k5_ (.agg #[.string t,.string x]);have P:=ju_ (.agg #[.string t,.string x]);have Y:=k6_ (.agg #[.string t,.string x]);have a3:=i2_ (.agg #[.string t,.string x]);clear j q;go_upto_region 20 with fail;obtain⟨w6,b6⟩:=a_ (w5.alloc (.cells #[.string t,.string x] 237));obtain⟨g,Hg⟩:=a_ w5.heap.size;have ak:=q_ (show Below w5.heap.size w5 w6.drew from by rw[<-b6.o];exact fg_ ((Below.refl _ _).alloc (Nat.le_refl _) _) 1);have a7:=q_ (show w6.drew.heap[g]?=some (.cells #[.string t,.string x] 237 (0,0)) from by rw[<-b6.o,<-Hg.o];exact heap_alloc_new w5 _);have J:=q_ ((Turn.of_below ak.o).owns V.o (λz hz hx=>by have:=(V.o.lt z hz).2;omega));rw[b6.o,Hg.o];have p1:w6.drew.cell? ⟨g,0,none⟩=some (.string t)/\w6.drew.cell? ⟨g,1,none⟩=some (.string x):=⟨cell_of_heap a7.o 0,cell_of_heap a7.o 1⟩;have cf:=q_ (fw_ B r5 L1 t w6.drew (by omega) J.o (Nat.le_trans X ak.o.size));have c1:=gb_ t;obtain⟨L2,aq⟩:=a_ (L1++av_ t);have cn:L2.length<=a2+5+t.size:=by rw[<-aq.o,List.length_append];omega
            clear c1;go_cut [4] (λs4 wx=>Q_ (iz_ B r5 L1 (av_ t++av_ x) w5 (.returned s4) wx))
            case first=>
             go_region_held3 (λW'=>W'.cell? ⟨g,0,none⟩=some (.string t)/\W'.cell? ⟨g,1,none⟩=some (.string x)) (first | exact p1 | exact p2 | exact p3 | (trace_state;fail))
              (first | (go_at_call 268;(with_reducible refine cf.o.mono ?_);rintro e w7 ⟨v7,rfl,a4,a0⟩;have a6:=q_ a4;have a9:=q_ a0;have a1:=q_ ((a9.o.keeps (Array.getElem?_eq_some_iff.1 a7.o).1 (c8_ J.o a7.o (by decide))).trans a7.o);have p2:w7.cell? ⟨g,0,none⟩=some (.string t)/\w7.cell? ⟨g,1,none⟩=some (.string x):=⟨cell_of_heap a1.o 0,cell_of_heap a1.o 1⟩;have ch:B<=w7.heap.size:=Nat.le_trans (Nat.le_trans X ak.o.size) a0.turn.size;rw[aq.o]at a6;clear a4 a0) | (go_at_call 268;(with_reducible refine (fw_ B v7 L2 x w7 (by omega) a6.o ch).mono ?_);rintro e w8 ⟨v8,rfl,bs,bd⟩;have cb:=q_ bs;have ba:=q_ bd;have ai:=q_ ((ba.o.keeps (Array.getElem?_eq_some_iff.1 a1.o).1 (c8_ a6.o a1.o (by decide))).trans a1.o);have p3:w8.cell? ⟨g,0,none⟩=some (.string t)/\w8.cell? ⟨g,1,none⟩=some (.string x):=⟨cell_of_heap ai.o 0,cell_of_heap ai.o 1⟩;clear bs bd))
             go_wp2_with fail;go_meet;exact q_ ⟨v8,rfl,by rw[<-List.append_assoc,aq.o];exact cb.o,(ct_.below ak.o).trans (a9.o.trans ba.o)⟩
            case rest=>
             have HC:=q_ hcut.o;go_wp2_with fail;go_ret;exact U.o _ f.o _ _ HC.o
           ·have ct:((k:Int)==10)=false:=beq_eq_false_iff_ne.2 bc;by_cases h5:k=5
            ·subst h5;have I:pv = .iface 191 (s):=by rw[<-j.o];rfl
             subst I;have f:=q_ (show ev=c::(beN 4 l.length++ea_ l) from by rw[<-q.o,<-Hc.o];unfold c9_;rfl);obtain⟨bn,c2⟩:=Dr_ bw.o;have cc:=q_ bn;clear bn;have c9:=HS.o;subst c9;obtain⟨Z,ar⟩:=a_ l.length;rw[ar.o]at c2 f bg cj az ⊢;have a:=mx_ (.slice A Z a5);have E:=p8_ (.slice A Z a5);have O:=p9_ (.slice A Z a5);have P:=od_ (.slice A Z a5);have Y:=qa_ (.slice A Z a5);have a3:=my_ (.slice A Z a5);have au:=sl_ (.slice A Z a5);clear j q;have T:=q_ (t7_ B r5 L1 Z w5 (by omega) V.o X);have hu:IntKind.u64.wrap (Z:Int)=(Z:Int):=IntWalk.u64_in _ (by omega);go_wp2_with fail;refine T.o.mono ?_;rintro e w6 ⟨v6,rfl,C,D⟩;have J:=q_ C;have S:=q_ D;clear C D;go_wp2_with fail;have bj:=q_ (S.o.turn.size);have ck:(L1++beN 4 Z).length<=a2+5:=by rw[List.length_append,cc_];omega
             obtain⟨L6,bp⟩:=a_ (L1++beN 4 Z);rw[bp.o]at J ck;have cw:B<=w6.heap.size:=Nat.le_trans X bj.o;have bt:=q_ (bg.o.keep (w':=w6) (λp hp=>World.cell?_of_block (S.o.turn.block p.block (by have:=HF.o _ hp;omega) (λe=>by have:=(V.o.lt p.block e.symm).1;have:=HF.o _ hp;omega))));go_loopw [0,77] (λs0 ay wr=>∃i:Nat,i<=Z/\ay = .int .i64 (i:Nat)/\Q_ (wr.ownsRow B 5 1 s0 (L6++ea_ (l.take i)).length (Lib.byteCells (L6++ea_ (l.take i))))/\Q_ (ct_ v6 s0 w6 wr)) (λ_ ay _=>Z-(intOf ay).toNat)
             case atStart=>exact⟨0,by omega,rfl,q_ (by rw[List.take_zero];unfold ea_;rw[List.append_nil];exact J.o),q_ (ct_.refl _ _)⟩
             case round=>
              obtain⟨i,hi,rfl,am,aj⟩:=hrel;have bz:w6.heap.size<=wr.heap.size:=aj.o.turn.size;have c5:B<=wr.heap.size:=Nat.le_trans (Nat.le_trans X bj.o) bz;by_cases c7:i<Z
              ·obtain⟨y,hy⟩:∃y,l[i]?=some y:=⟨l[i]'(by rw[ar.o];exact c7),List.getElem?_eq_getElem _⟩;have HR:=q_ (bt.o.keep (w':=wr) (λp hp=>World.cell?_of_block (aj.o.turn.block p.block (by have:=HF.o _ hp;omega) (λe=>by have:=(J.o.lt p.block e.symm).1;have:=HF.o _ hp;omega))));obtain⟨ad,sy,rfl,c6,⟨Ay,cy,rfl,cl,c4⟩,bl,e0,e1,e2,e3,e4,e5⟩:=HR.o.cellsAt hy;have ac:=List.mem_of_getElem? hy;have bq:I_ y (d+1)=true:=by have:=cc.o;rw[ny_,List.all_eq_true]at this;exact this y ac
               have bu:=fu_ ac;have c8:=ww_ l hy;have ca:=hd_ (l.take i);have aa:(L6++ea_ (l.take i)).length+200*T_ y<=40000000:=by rw[List.length_append];omega
               obtain⟨Lc,bh⟩:=a_ (L6++ea_ (l.take i));rw[bh.o]at am aa;have b7:=q_ (show L6++ea_ (l.take (i+1))=Lc++c9_ y from by rw[g_ hy,t8_,<-bh.o,List.append_assoc];simp[ea_]);obtain⟨W,HW⟩:=a_ (wr.alloc (.cells #[.int .i64 y.kind,.bool y.truth,.int .i64 y.num,.string y.text,.string y.extra,.slice Ay y.list.length cy] 39));have ag:=q_ (show Below wr.heap.size wr W from by rw[<-HW.o];exact (Below.refl _ _).alloc (Nat.le_refl _) _);have br:=q_ (IH.o y (by omega) (d+1) bq B F u0 Lc _ W aa HF.o (Nat.le_trans c5 ag.o.size) ((Turn.of_below ag.o).owns am.o (λz hz hx=>by have:=(am.o.lt z hz).2;omega)) (bl.under ag.o (λg hg=>by have:=HF.o g hg;omega)));unfold c_ at br;have q1:(0:Int)<=i:=by omega
               have q2:(i:Int)<Z:=by omega
               have w1:IntKind.i64.wrap ((i:Int)+1)=(i:Int)+1:=IntWalk.i64_in _ (by omega);have cz:W.cell? ⟨wr.heap.size,0,none⟩=some (.int .i64 y.kind):=by rw[<-HW.o];exact cell_of_heap (heap_alloc_new wr _) 0
               have cx:W.cell? ⟨wr.heap.size,1,none⟩=some (.bool y.truth):=by rw[<-HW.o];exact cell_of_heap (heap_alloc_new wr _) 1
               have co:W.cell? ⟨wr.heap.size,2,none⟩=some (.int .i64 y.num):=by rw[<-HW.o];exact cell_of_heap (heap_alloc_new wr _) 2
               have cu:W.cell? ⟨wr.heap.size,3,none⟩=some (.string y.text):=by rw[<-HW.o];exact cell_of_heap (heap_alloc_new wr _) 3
               have cp:W.cell? ⟨wr.heap.size,4,none⟩=some (.string y.extra):=by rw[<-HW.o];exact cell_of_heap (heap_alloc_new wr _) 4
               have d6:W.cell? ⟨wr.heap.size,5,none⟩=some (.slice Ay y.list.length cy):=by rw[<-HW.o];exact cell_of_heap (heap_alloc_new wr _) 5
               clear hy ac bq bu c8 ca aa c4 bl c6;go_upto_region 27 with fail;rw[HW.o];go_wp2_with fail;refine br.o.mono ?_;rintro e w7 ⟨v7,rfl,a4,a0⟩;have a6:=q_ a4;have a9:=q_ ((aj.o.trans (ct_.below ag.o)).trans a0);clear a4 a0;go_wp2_with fail;go_roundw
               case rel=>exact⟨i+1,by omega,by go_num,q_ (by rw[b7.o];exact a6.o),a9⟩
               case measure=>simp[intOf];omega
              ·have bo:i=Z:=by omega
               have HE:=q_ (show L1++(beN 4 Z++ea_ l)=L6++ea_ (l.take i) from by rw[List.take_of_length_le (by rw[bo,ar.o];exact Nat.le_refl _),<-List.append_assoc,bp.o]);clear bo;go_wp2_with fail;go_ret;exact U.o _ (by rw[f.o]) _ _ ⟨_,rfl,by rw[HE.o];exact am.o,S.o.trans aj.o⟩
            ·omega
def Ds_ (v:h_) (w:World) (e:Ending) (w':World):Prop:=Below w.heap.size w w' /\
 if I_ v 0=true then ∃r,e = .returned (.tuple #[r,.int .i64 0])/\w'.ownsRow w.heap.size 5 1 r (c9_ v).length (Lib.byteCells (c9_ v)) else e = .returned (.tuple #[.slice none 0 0,.int .i64 1])
theorem wy_ (v:h_) (hs:T_ v<=200000) (F:Nat->Prop) (u:Value) (w:World) (T:∀g,F g->g<w.heap.size) (I:VRd w F v u) (y:F_ w) :
    Calls Tryz.prog 136 #[u] w (Ds_ v w):=by
 obtain⟨A,V,Z,L,X⟩:=I.inv;have z:=q_ T;have P:=q_ I;have HG:=q_ y;have j:=q_ (λ(W:World) (hb:Below w.heap.size w W)=>do_ v (by omega) F u W (λg y=>Nat.lt_of_lt_of_le (z.o g y) hb.size) (P.o.under hb z.o) (f_ HG.o hb));have f:=q_ (λ(W:World) (hb:Below w.heap.size w W) (hm:I_ v 0=true)=>H2_ (T_ v+1) v (by omega) 0 hm w.heap.size F (.slice none 0 0) [] u W (by simp;omega) z.o hb.size (World.ownsRow_nil _ _ _ _) (P.o.under hb z.o));subst Z;obtain⟨s,Y⟩:=a_ (Value.slice A v.list.length V);obtain⟨mv,E⟩:=a_ (I_ v 0);unfold Ds_;rw[E.o]at j f;rw[E.o];rw[Y.o]at j f ⊢;clear X L y I T
 cases v with
 | mk k b n t x l=>
 unfold c_ at j f ⊢;simp only[h_.kind,h_.truth,h_.num,h_.text,h_.extra]at j f ⊢;obtain⟨h,J⟩:=a_ w.heap.size;obtain⟨d,q⟩:=a_ (w.alloc (.cells #[.int .i64 k,.bool b,.int .i64 n,.string t,.string x,s] 39));have r:=q_ (show Below w.heap.size w d from by rw[<-q.o];exact (Below.refl _ _).alloc (Nat.le_refl _) _);have c:=q_ (show d.heap[h]?=some (.cells #[.int .i64 k,.bool b,.int .i64 n,.string t,.string x,s] 39 (0,0)) from by rw[<-q.o,<-J.o];exact heap_alloc_new w _);have U:=q_ (show h<d.heap.size from by rw[<-q.o,<-J.o];simp);have q0:d.cell? ⟨h,0,none⟩=some (.int .i64 k):=cell_of_heap c.o 0;have q1:d.cell? ⟨h,1,none⟩=some (.bool b):=cell_of_heap c.o 1;have q2:d.cell? ⟨h,2,none⟩=some (.int .i64 n):=cell_of_heap c.o 2;have q3:d.cell? ⟨h,3,none⟩=some (.string t):=cell_of_heap c.o 3;have q4:d.cell? ⟨h,4,none⟩=some (.string x):=cell_of_heap c.o 4;have q5:d.cell? ⟨h,5,none⟩=some s:=cell_of_heap c.o 5;go_enter Tryz.func136,Tryz.ntmps136
 go_upto_region 1 with fail;rw[q.o,J.o];go_wp2_with fail;refine (j.o _ r.o).mono ?_;rintro e m ⟨rfl,hb⟩;have p:=q_ (r.o.trans (hb.mono r.o.size));have a:=q_ ((hb.block h U.o).trans c.o);clear hb q0 q1 q2 q3 q4 q5;have c0:m.cell? ⟨h,0,none⟩=some (.int .i64 k):=cell_of_heap a.o 0;have c1:m.cell? ⟨h,1,none⟩=some (.bool b):=cell_of_heap a.o 1;have c2:m.cell? ⟨h,2,none⟩=some (.int .i64 n):=cell_of_heap a.o 2;have c3:m.cell? ⟨h,3,none⟩=some (.string t):=cell_of_heap a.o 3;have c4:m.cell? ⟨h,4,none⟩=some (.string x):=cell_of_heap a.o 4;have c5:m.cell? ⟨h,5,none⟩=some s:=cell_of_heap a.o 5
 cases mv with
 | false=>
  go_wp2_with fail;exact bodyPost_ret (v:=.tuple #[.slice none 0 0,.int .i64 1]) (by simp[results,Tryz.results136,go_sem]) rfl ⟨p.o,rfl⟩
 | true=>
  have N:=q_ (f.o m p.o rfl);go_wp2_with fail;refine N.o.mono ?_;rintro e w2 ⟨S,rfl,C,D⟩;have M:=q_ C;have O:=q_ (D.turn.below (B:=w.heap.size) (λi _ hi=>by cases hi) p.o.size);clear C D;go_wp2_with fail;exact bodyPost_ret (v:=.tuple #[S,.int .i64 0]) (by simp[results,Tryz.results136,go_sem]) rfl ⟨p.o.trans O.o,S,rfl,M.o⟩
def BRd (w:World) (G:Nat) (s:Value) (R:List UInt8):Prop:=
 ∃ad a,s = .slice (some ad) R.length a/\R.length<=a/\ad.block=G/\∀i c,R[i]?=some c->w.cell? (ad.add i)=some (.int .u8 (c.toNat:Int))
theorem BRd.keep {w w':World} {G:Nat} {s:Value} {R:List UInt8} (h:BRd w G s R) (d:w'.heap[G]?=w.heap[G]?):BRd w' G s R:=by obtain⟨ad,a,e,g,hb,f⟩:=h;exact⟨ad,a,e,g,hb,λi c hi=>(World.cell?_of_block (by rw[block_of_add,hb];exact d)).trans (f i c hi)⟩
def Dt_ (l:List UInt8):Nat:=l.foldl (λa c=>a*256+c.toNat) 0
theorem z9_ (l:List UInt8) (c:UInt8):Dt_ (l++[c])=Dt_ l*256+c.toNat:=by unfold Dt_;rw[List.foldl_append];rfl
theorem Du_ (W m:Nat):beN (W+1) m=beN W (m / 256)++[UInt8.ofNat (m % 256)]:=by
 unfold beN;rw[List.range_succ,List.map_append];congr 1
 ·refine List.map_congr_left λj a=>?_;have a:j<W:=List.mem_range.1 a;have h1:m / 2 ^ (8*(W+1-1-j))=m / 256 / 2 ^ (8*(W-1-j)):=by rw[Nat.div_div_eq_div_mul,show 8*(W+1-1-j)=8+8*(W-1-j) by omega,Nat.pow_add]
  rw[h1]
 ·simp
theorem y2_ (W:Nat):∀m,m<256 ^ W->Dt_ (beN W m)=m:=by
 induction W with
 | zero=>intro m h;simp at h;subst h;rfl
 | succ W a=>
  intro m h;rw[Du_,z9_,a _ (by rw[Nat.pow_succ]at h;omega),UInt8.toNat_ofNat'];have:m % 256 % 2 ^ 8=m % 256:=Nat.mod_eq_of_lt (Nat.mod_lt _ (by decide));rw[this];omega
mutual
def jv_:h_->Prop
 | .mk _ _ n _ _ l=>(-9223372036854775808<=n/\n<=9223372036854775807)/\sm_ l
def sm_:List h_->Prop
 | []=>True
 | v::r=>jv_ v/\sm_ r
end
theorem cd_ {k:Int} {b:Bool} {n:Int} {t x:ByteArray} {l:List h_} {a:Bool} {d:Int} {e c:ByteArray} (h:a9_ k b n t x l a d e c=true):b=a/\n=d/\t=e/\x=c/\(l=[]\/k=5):=by unfold a9_ at h;simp only[Bool.and_eq_true,decide_eq_true_iff,Bool.or_eq_true,beq_iff_eq]at h;exact⟨h.1,h.2.1,h.2.2.1,h.2.2.2.1,h.2.2.2.2.imp List.eq_nil_of_length_eq_zero id⟩
theorem t9_ (n:Int) (h:-9223372036854775808<=n/\n<=9223372036854775807):IntKind.i64.wrap (((n % 18446744073709551616).toNat:Nat):Int)=n:=by
 have h1:=Int.emod_nonneg n (show (18446744073709551616:Int)≠0 by decide);rw[Int.toNat_of_nonneg h1];by_cases a:0<=n
 ·rw[Int.emod_eq_of_lt a (by omega)];exact IntWalk.i64_in _ (by omega)
 ·have h2:n % 18446744073709551616=n+18446744073709551616:=by omega
  rw[h2];unfold IntKind.wrap;have c:(2 ^ IntKind.i64.bits:Int)=18446744073709551616:=rfl;have d:(2 ^ (IntKind.i64.bits-1):Int)=9223372036854775808:=rfl;simp only[c,d,show IntKind.i64.signed=true from rfl,Bool.true_and,decide_eq_true_iff];split<;>omega
section
variable {w:World} {h rb G:Nat} {R:List UInt8} {k:Int} {b:Bool} {n:Int} {t x:ByteArray} {l:List h_} {s:Value} {wr:World}
end
theorem Dv_ {s:ByteArray} (h:cr_ s=true):s.size<=1048576:=by
 rcases Nat.lt_or_ge 62 s.size with h2 | h2
 ·rw[nx_ h2]at h;cases h
 ·omega
theorem ua_ {s:ByteArray} (h:g0_ s=true):s.size<=1048576:=by unfold g0_ at h;simp only[Bool.and_eq_true,decide_eq_true_iff]at h;exact h.1.2
theorem wz_ {s:ByteArray} (h:ee_ s=true):s.size<=1048576:=by unfold ee_ at h;simp only[Bool.and_eq_true,decide_eq_true_iff]at h;omega
theorem Dw_ {b:Bool} {n:Int} {t x:ByteArray} {l:List h_} {d:Nat} (h:I_ (.mk 0 b n t x l) d=true):n=0/\b=false/\t=⟨#[]⟩/\x=⟨#[]⟩/\l=[]:=by rw[Jx_]at h;have h:=cd_ h;exact⟨h.2.1,h.1,h.2.2.1,h.2.2.2.1,h.2.2.2.2.elim id (λe=>by cases e)⟩
theorem Dx_ {b:Bool} {n:Int} {t x:ByteArray} {l:List h_} {d:Nat} (h:I_ (.mk 1 b n t x l) d=true):n=0/\t=⟨#[]⟩/\x=⟨#[]⟩/\l=[]:=by rw[Jy_]at h;have h:=cd_ h;exact⟨h.2.1,h.2.2.1,h.2.2.2.1,h.2.2.2.2.elim id (λe=>by cases e)⟩
theorem Dy_ {b:Bool} {n:Int} {t x:ByteArray} {l:List h_} {d:Nat} (h:I_ (.mk 2 b n t x l) d=true):b=false/\t=⟨#[]⟩/\x=⟨#[]⟩/\l=[]:=by rw[Jz_]at h;have h:=cd_ h;exact⟨h.1,h.2.2.1,h.2.2.2.1,h.2.2.2.2.elim id (λe=>by cases e)⟩
theorem sn_ {b:Bool} {n:Int} {t x:ByteArray} {l:List h_} {d:Nat} (h:I_ (.mk 3 b n t x l) d=true):b=false/\n=0/\x=⟨#[]⟩/\l=[]/\t.size<=1048576:=by rw[J0_]at h;have h2:=Bool.and_eq_true_iff.1 h;have h:=cd_ h2.2;exact⟨h.1,h.2.1,h.2.2.2.1,h.2.2.2.2.elim id (λe=>by cases e),Dv_ h2.1⟩
theorem Dz_ {b:Bool} {n:Int} {t x:ByteArray} {l:List h_} {d:Nat} (h:I_ (.mk 6 b n t x l) d=true):b=false/\t=⟨#[]⟩/\x=⟨#[]⟩/\l=[]:=by rw[J3_]at h;have h2:=Bool.and_eq_true_iff.1 h;have h:=cd_ h2.2;exact⟨h.1,h.2.2.1,h.2.2.2.1,h.2.2.2.2.elim id (λe=>by cases e)⟩
theorem D0_ {b:Bool} {n:Int} {t x:ByteArray} {l:List h_} {d:Nat} (h:I_ (.mk 7 b n t x l) d=true):b=false/\t=⟨#[]⟩/\x=⟨#[]⟩/\l=[]:=by rw[J4_]at h;have h2:=Bool.and_eq_true_iff.1 h;have h:=cd_ h2.2;exact⟨h.1,h.2.2.1,h.2.2.2.1,h.2.2.2.2.elim id (λe=>by cases e)⟩
theorem so_ {b:Bool} {n:Int} {t x:ByteArray} {l:List h_} {d:Nat} (h:I_ (.mk 4 b n t x l) d=true):b=false/\n=0/\x=⟨#[]⟩/\l=[]/\t.size<=1048576:=by rw[J1_]at h;have h2:=Bool.and_eq_true_iff.1 h;have h:=cd_ h2.2;exact⟨h.1,h.2.1,h.2.2.2.1,h.2.2.2.2.elim id (λe=>by cases e),of_decide_eq_true h2.1⟩
theorem k7_ {b:Bool} {n:Int} {t x:ByteArray} {l:List h_} {d:Nat} (h:I_ (.mk 8 b n t x l) d=true):b=false/\n=0/\x=⟨#[]⟩/\l=[]/\t.size<=1048576:=by rw[Dl_]at h;have h2:=Bool.and_eq_true_iff.1 h;have h:=cd_ h2.2;exact⟨h.1,h.2.1,h.2.2.2.1,h.2.2.2.2.elim id (λe=>by cases e),ua_ h2.1⟩
theorem oe_ {b:Bool} {n:Int} {t x:ByteArray} {l:List h_} {d:Nat} (h:I_ (.mk 9 b n t x l) d=true):b=false/\n=0/\x=⟨#[]⟩/\l=[]/\t.size<=1048576:=by rw[J2_]at h;have h2:=Bool.and_eq_true_iff.1 h;have h:=cd_ h2.2;exact⟨h.1,h.2.1,h.2.2.2.1,h.2.2.2.2.elim id (λe=>by cases e),wz_ h2.1⟩
theorem na_ {b:Bool} {n:Int} {t x:ByteArray} {l:List h_} {d:Nat} (h:I_ (.mk 10 b n t x l) d=true):b=false/\n=0/\l=[]/\t.size<=1048576/\x.size<=1048576:=by rw[Dn_]at h;have h2:=Bool.and_eq_true_iff.1 h;have a:=Bool.and_eq_true_iff.1 h2.2;have h:=cd_ a.2;exact⟨h.1,h.2.1,h.2.2.2.2.elim id (λe=>by cases e),of_decide_eq_true h2.1,ua_ a.1⟩
theorem D1_ {b:Bool} {n:Int} {t x:ByteArray} {l:List h_} {d:Nat} (h:I_ (.mk 5 b n t x l) d=true):b=false/\n=0/\t=⟨#[]⟩/\x=⟨#[]⟩/\l.length<=4096/\d<60/\g9_ l (d+1)=true:=by rw[Dm_]at h;have h2:=Bool.and_eq_true_iff.1 h;have c:=Bool.and_eq_true_iff.1 h2.2;have a:=Bool.and_eq_true_iff.1 c.2;have h:=cd_ a.2;exact⟨h.1,h.2.1,h.2.2.1,h.2.2.2.1,of_decide_eq_true h2.1,of_decide_eq_true c.1,a.1⟩
theorem w0_ {W a b:Nat} {R S:List UInt8} (c:a<256 ^ W) (hb:b<256 ^ W) (h:beN W a++R=beN W b++S):a=b/\R=S:=by obtain⟨h1,h2⟩:=List.append_inj h (by rw[cc_,cc_]);refine⟨?_,h2⟩;have:=congrArg Dt_ h1;rwa [y2_ W a c,y2_ W b hb]at this
theorem fy_ {s t:ByteArray} {R S:List UInt8} (d:s.size<=1048576) (ht:t.size<=1048576) (h:av_ s++R=av_ t++S):s=t/\R=S:=by unfold av_ at h;rw[List.append_assoc,List.append_assoc]at h;obtain⟨h1,h2⟩:=w0_ (by omega) (by omega) h;obtain⟨a,c⟩:=List.append_inj h2 (by rw[a1_,a1_,h1]);exact⟨by apply ByteArray.ext;exact Array.toList_inj.1 a,c⟩
theorem D2_ {a b:Int} (c:0<=a/\a<=10) (hb:0<=b/\b<=10) (h:UInt8.ofNat a.toNat=UInt8.ofNat b.toNat):a=b:=by have:=congrArg UInt8.toNat h;rw[UInt8.toNat_ofNat',UInt8.toNat_ofNat']at this;have h1:a.toNat % 2 ^ 8=a.toNat:=Nat.mod_eq_of_lt (by omega);have h2:b.toNat % 2 ^ 8=b.toNat:=Nat.mod_eq_of_lt (by omega);rw[h1,h2]at this;omega
theorem sp_ {n m:Int} {R S:List UInt8} (c:-9223372036854775808<=n/\n<=9223372036854775807) (d:-9223372036854775808<=m/\m<=9223372036854775807) (h:beN 8 (n % 18446744073709551616).toNat++R=beN 8 (m % 18446744073709551616).toNat++S):n=m/\R=S:=by
 have g:(256:Nat) ^ 8=18446744073709551616:=by decide
 have e:=Int.emod_lt_of_pos n (show (0:Int)<18446744073709551616 by decide);have f:=Int.emod_lt_of_pos m (show (0:Int)<18446744073709551616 by decide);obtain⟨h1,h2⟩:=w0_ (by omega) (by omega) h;refine⟨?_,h2⟩;have a:=t9_ n c;rw[h1,t9_ m d]at a;exact a.symm
theorem H3_ (N:Nat):∀(v u:h_) (_:T_ v<N) (d:Nat) (_:I_ v d=true) (_:I_ u d=true) (_:jv_ v) (_:jv_ u) (R S:List UInt8) (_:c9_ v++R=c9_ u++S),v=u/\R=S:=by
 induction N with
 | zero=>exact λ_ _ h=>absurd h (Nat.not_lt_zero _)
 | succ N ih=>
  intro v u hN d i j h1 h2 R S h;have e:=oa_ i;have f:=oa_ j
  cases v with
  | mk k b n t x l=>
  cases u with
  | mk k2 C L q x2 P=>
  simp only[h_.kind]at e f;unfold c9_ at h;simp only[List.cons_append]at h;obtain⟨E,h⟩:=List.cons_eq_cons.1 h;have E:=D2_ e f E;subst E;simp only[jv_]at h1 h2;by_cases h0:k=0
  ·subst h0;obtain⟨rfl,rfl,rfl,rfl,rfl⟩:=Dw_ i;obtain⟨rfl,rfl,rfl,rfl,rfl⟩:=Dw_ j;clear e f;have h:([]:List UInt8)++R=[]++S:=h;exact⟨rfl,h⟩
  ·have e0:=h0;by_cases h1:k=1
   ·subst h1;obtain⟨rfl,rfl,rfl,rfl⟩:=Dx_ i;obtain⟨rfl,rfl,rfl,rfl⟩:=Dx_ j;clear e f;have h:([if b=true then 1 else 0]:List UInt8)++R=[if C=true then 1 else 0]++S:=h
    obtain⟨hb,g⟩:=List.cons_eq_cons.1 h;have hb:b=C:=by cases b<;>cases C<;>first | rfl | (exact absurd hb (by decide))
    exact⟨by rw[hb],g⟩
   ·have e1:=h1;by_cases h2:k=2
    ·subst h2;obtain⟨rfl,rfl,rfl,rfl⟩:=Dy_ i;obtain⟨rfl,rfl,rfl,rfl⟩:=Dy_ j;clear e f;have h:beN 8 (n % 18446744073709551616).toNat++R=beN 8 (L % 18446744073709551616).toNat++S:=h;obtain⟨p,g⟩:=sp_ h1.1 h2.1 h;exact⟨by rw[p],g⟩
    ·have X:=h2;by_cases Z:k=6
     ·subst Z;obtain⟨rfl,rfl,rfl,rfl⟩:=Dz_ i;obtain⟨rfl,rfl,rfl,rfl⟩:=Dz_ j;clear e f;have h:beN 8 (n % 18446744073709551616).toNat++R=beN 8 (L % 18446744073709551616).toNat++S:=h;obtain⟨p,g⟩:=sp_ h1.1 h2.1 h;exact⟨by rw[p],g⟩
     ·have e6:=Z;by_cases V:k=7
      ·subst V;obtain⟨rfl,rfl,rfl,rfl⟩:=D0_ i;obtain⟨rfl,rfl,rfl,rfl⟩:=D0_ j;clear e f;have h:beN 8 (n % 18446744073709551616).toNat++R=beN 8 (L % 18446744073709551616).toNat++S:=h;obtain⟨p,g⟩:=sp_ h1.1 h2.1 h;exact⟨by rw[p],g⟩
      ·have e7:=V;by_cases U:k=3
       ·subst U;obtain⟨rfl,rfl,rfl,rfl,o⟩:=sn_ i;obtain⟨rfl,rfl,rfl,rfl,m⟩:=sn_ j;clear e f;have h:av_ t++R=av_ q++S:=h;obtain⟨ht,g⟩:=fy_ o m h;exact⟨by rw[ht],g⟩
       ·have e3:=U;by_cases Y:k=4
        ·subst Y;obtain⟨rfl,rfl,rfl,rfl,o⟩:=so_ i;obtain⟨rfl,rfl,rfl,rfl,m⟩:=so_ j;clear e f;have h:av_ t++R=av_ q++S:=h;obtain⟨ht,g⟩:=fy_ o m h;exact⟨by rw[ht],g⟩
        ·have e4:=Y;by_cases W:k=8
         ·subst W;obtain⟨rfl,rfl,rfl,rfl,o⟩:=k7_ i;obtain⟨rfl,rfl,rfl,rfl,m⟩:=k7_ j;clear e f;have h:av_ t++R=av_ q++S:=h;obtain⟨ht,g⟩:=fy_ o m h;exact⟨by rw[ht],g⟩
         ·have e8:=W;by_cases h9:k=9
          ·subst h9;obtain⟨rfl,rfl,rfl,rfl,o⟩:=oe_ i;obtain⟨rfl,rfl,rfl,rfl,m⟩:=oe_ j;clear e f;have h:av_ t++R=av_ q++S:=h;obtain⟨ht,g⟩:=fy_ o m h;exact⟨by rw[ht],g⟩
          ·have e9:=h9;by_cases A:k=10
           ·subst A;obtain⟨rfl,rfl,rfl,o,I⟩:=na_ i;obtain⟨rfl,rfl,rfl,m,O⟩:=na_ j;clear e f;have h:av_ t++av_ x++R=av_ q++av_ x2++S:=h;rw[List.append_assoc,List.append_assoc]at h;obtain⟨ht,h⟩:=fy_ o m h;obtain⟨hx,g⟩:=fy_ I O h;exact⟨by rw[ht,hx],g⟩
           ·have a1:=A;by_cases h5:k=5
            ·subst h5;obtain⟨rfl,rfl,rfl,rfl,o,_,I⟩:=D1_ i;obtain⟨rfl,rfl,rfl,rfl,m,_,O⟩:=D1_ j;clear e f;have h:beN 4 l.length++ea_ l++R=beN 4 P.length++ea_ P++S:=h;rw[List.append_assoc,List.append_assoc]at h;obtain⟨B,h⟩:=w0_ (by omega) (by omega) h
             have key:∀(a c:List h_),ab_ a<N->a.length=c.length->g9_ a (d+1)=true->g9_ c (d+1)=true->sm_ a->sm_ c->∀R S:List UInt8,ea_ a++R=ea_ c++S->a=c/\R=S:=by
              intro a;induction a with
              | nil=>
               intro c _ r _ _ _ _ R S h;have:c=[]:=List.eq_nil_of_length_eq_zero r.symm;subst this;exact⟨rfl,h⟩
              | cons y a a0=>
               intro c hs r D M T J R S h
               cases c with
               | nil=>cases r
               | cons z c=>
                simp only[g9_,Bool.and_eq_true]at D M;simp only[sm_]at T J;simp only[ea_,List.append_assoc]at h;simp only[ab_]at hs;obtain⟨e1,h⟩:=ih y z (by omega) (d+1) D.1 M.1 T.1 J.1 _ _ h;obtain⟨X,h⟩:=a0 c (by omega) (by simpa using r) D.2 M.2 T.2 J.2 _ _ h;exact⟨by rw[e1,X],h⟩
             obtain⟨B,g⟩:=key l P (by simp only[T_]at hN;omega) B I O h1.2 h2.2 R S h;exact⟨by rw[B],g⟩
            ·omega
theorem Kl_ {v u:h_} (a:I_ v 0=true) (c:I_ u 0=true) (h1:jv_ v) (h2:jv_ u) (h:c9_ v=c9_ u):v=u:=
 (H3_ (T_ v+1) v u (by omega) 0 a c h1 h2 [] [] (by rw[List.append_nil,List.append_nil,h])).1
end
section
open Go Go.RowKit Go.Maps Go.WideMaps Go.MapKept
theorem D3_ (w:World):(zeroValue 2).run Tryz.prog w = .ok (.int .i64 0) w:=by kernel_rfl
def sq_ (w:World) (m:Nat) (ks:List ByteArray):Prop:=∃D:DataW Unit,w.ownsMap Tryz.prog 9 (plainElem Tryz.prog 2) m ks.length D/\IdsOf VS if_ D ks/\Tidy D/\Maps.size D=ks.length
theorem sq_.turn {w w':World} {m:Nat} {ks:List ByteArray} {S:Nat->Prop} (h:sq_ w m ks) (ht:Turn S w w') (a:¬S m):sq_ w' m ks:=by obtain⟨D,h1,h2⟩:=h;exact⟨D,ht.map h1 a,h2⟩
theorem sq_.lt {w:World} {m:Nat} {ks:List ByteArray} (h:sq_ w m ks):m<w.heap.size:=by obtain⟨D,⟨c,a,hb,_⟩,_⟩:=h;exact b_ hb
theorem sq_.fresh {w:World} {m:Nat} (h:w.heap[m]?=some (.map #[] 0)):sq_ w m []:=
 ⟨.map [],⟨#[],0,h,⟨by simp,stamped_empty 0,by simp⟩,Nat.le_refl _,rfl⟩,ids_empty,tidy_empty,rfl⟩
structure hg_ (w:World) (b m:Nat) (ks:List ByteArray):Prop where
 blk:w.heap[b]?=some (.cells #[.map (some m)] 124 (0,0))
 set:sq_ w m ks
theorem hg_.turn {w w':World} {b m:Nat} {ks:List ByteArray} {S:Nat->Prop} (h:hg_ w b m ks) (ht:Turn S w w') (hb:¬S b) (a:¬S m):hg_ w' b m ks:=
 ⟨(ht.block b (b_ h.blk) hb).trans h.blk,h.set.turn ht a⟩
theorem hg_.on {w w':World} {b m:Nat} {ks:List ByteArray} (h:hg_ w b m ks) (hb:Below w.heap.size w w'):hg_ w' b m ks:=
 h.turn (Turn.of_below hb) (λe=>by have:=b_ h.blk;omega) (λe=>by have:=h.set.lt;omega)
theorem hg_.ne {w:World} {b m:Nat} {ks:List ByteArray} (h:hg_ w b m ks):b≠m:=by
 rintro rfl;obtain⟨D,⟨c,a,hb,_⟩,_⟩:=h.set;rw[h.blk]at hb
 cases hb
theorem i3_ {w:World} {b m:Nat} {ks:List ByteArray} (h:hg_ w b m ks) (k:ByteArray) (j:VS k) (a:k∈ks) :
    Calls Tryz.prog 69 #[.pointer (some ⟨b,0,none⟩),.string k] w λe w'=>e = .returned (.tuple #[.int .i64 ((place ks k:Nat):Int),.bool false])/\w'=w:=by
 obtain⟨D,g,f,_,_⟩:=h.set;have y:w.cell? ⟨b,0,none⟩=some (.map (some m)):=cell_of_heap h.blk 0;have i:=keyOf_string_mk Tryz.underlying9 j;obtain⟨h1,h2⟩:=f.2 k j;have r:=q_ (show Maps.has D (.string k.data.toList)=true by rw[show (Lit.string k.data.toList)=if_ k from rfl,h1];simp[a]);have q:=q_ (h2 a);clear h1 h2;go_enter Tryz.func69,Tryz.ntmps69
 go_wp2_with (at_lookup;refine wpList_lookup_own_ok_int _ rfl _ _ 122 rfl 9 2 .i64 C5_ Tryz.underlying122 Tryz.underlying2 (D3_ _) m _ D rfl g _ _ rfl i ?_;intro c d p;obtain rfl:=Kh_ d q.o;rw[r.o];clear d p)
 go_ret2;exact⟨rfl,rfl⟩
theorem w1_ {w:World} {b m:Nat} {ks:List ByteArray} (h:hg_ w b m ks) (k:ByteArray) (A:VS k) (g:k∉ks) (U:ks.length<=1000000) :
    Calls Tryz.prog 69 #[.pointer (some ⟨b,0,none⟩),.string k] w λe w'=>e = .returned (.tuple #[.int .i64 ((ks.length:Nat):Int),.bool true])/\hg_ w' b m (ks++[k])/\Turn (λi=>i=m) w w':=by
 obtain⟨D,a,f,p,q⟩:=h.set;have B:=q_ p;have r:=q_ q;have V:w.cell? ⟨b,0,none⟩=some (.map (some m)):=cell_of_heap h.blk 0;have y:=keyOf_string_mk Tryz.underlying9 A;obtain⟨h1,_⟩:=f.2 k A;have O:=q_ (show Maps.has D (.string k.data.toList)=false by rw[show (Lit.string k.data.toList)=if_ k from rfl,h1];simp[g]);have E:=q_ f;have C:=q_ g;have I:=q_ h.blk;have N:=q_ h.ne;have M:=b_ h.blk;obtain⟨n,z⟩:=a_ ks.length;rw[z.o]at U a r ⊢;clear h1 h f g p q;go_enter Tryz.func69,Tryz.ntmps69
 go_wp2_with (first
  | (at_lookup;refine wpList_lookup_own_ok_int _ rfl _ _ 122 rfl 9 2 .i64 C5_ Tryz.underlying122 Tryz.underlying2 (D3_ _) m _ D rfl a _ _ rfl y ?_;intro c J L;rw[O.o];clear J L)
  | (at_len;refine wpList_len_own _ rfl _ 122 rfl 9 2 Tryz.underlying122 _ m n D rfl a ?_;rw[r.o])
  | (at_mapUpdate;refine wpList_mapUpdate_in _ rfl _ _ _ 122 rfl 9 2 C5_ Tryz.underlying122 _ m n D rfl a (by unfold maxLen;omega) _ _ _ rfl rfl y _ [] (plainElem_int Tryz.underlying2 (WalkArith.wf_i64 (by omega))) ?_;intro T j d;have P:=q_ d.grown;have S:=q_ j;clear j d))
 go_ret2;have ht:Turn (λi=>i=m) w T:=(Turn.of_grown P.o).mono (λi _ hi=>by injection hi);refine⟨rfl,⟨(ht.block b M N.o).trans I.o,⟨_,by rw[List.length_append,z.o];exact S.o,?_,B.o.put (nq_ k A) _,?_⟩⟩,ht⟩
 ·have:=ids_put ty_ nq_ E.o A C.o;rw[z.o]at this;exact this
 ·rw[size_put B.o,show has D (if_ k)=false from O.o,if_neg Bool.false_ne_true,r.o,List.length_append,z.o];rfl
end
end Go.Proofs.YtefhfadjajcmkaaGreatDoor
