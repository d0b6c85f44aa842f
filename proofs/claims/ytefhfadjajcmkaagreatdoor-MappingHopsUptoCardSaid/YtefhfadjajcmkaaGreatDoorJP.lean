/- MappingHops answers true where what it reads is of bulk at most 1048576: the triples that have a value as S, and a type, are the edges of that type that leave its node; as O, those that come to it; no other condition. -/
import Derived.Test.YtefhfadjajcmkaaGreatDoorJO
import Derived.Test.YtefhfadjajcmkaaGreatDoorCards
import Derived.Test.YtefhfadjajcmkaaGreatDoorTie
import Derived.ProofKit
import Derived.OpenShut
import Derived.ChangeSame
import Derived.Carry
import Derived.Lay
import Derived.LaidOnce
import Derived.SevenTiedAt
import Derived.Deep.DeepHandedRow
import Derived.Shelf.Vars
import Derived.Stop.LaidErr
import Derived.Lib.LaidTab
set_option linter.unusedVariables false
set_option linter.unusedSimpArgs false
set_option maxRecDepth 100000
set_option maxHeartbeats 64000000
namespace Go.Proofs.YtefhfadjajcmkaaGreatDoor
open Go Go.ChangeShapes Go.WideShapes Go.ChangeAt Go.RowKit Go.Joins
open Go.Lib (cell_of_heap)
section
variable {H:Type} {enc:TypeId×Value->H} {P:Program}
theorem qn_ {f:Func} {s:ChangeSpec} {g u l q:Bool} {W k:World} {args:Array Value} {v:Value} {ds n:List (DataW H)} {a pa pv:List MemPlace}
    (A:DataW.Whole enc P f.params.toList s.vars g W args.toList ds n a)
    (o:∀(b:Nat) (d:Nat->Bool) (hd:Bool),DataW.TrodAll enc P k b d hd f.resultTypes.toList (v.resultList f.resultTypes.size) (s.fn H (ds++n)).results [])
    (h:∀d:Nat->Bool,(∀p∈a,d p.block=true)->DataW.TrodAll enc P k 0 d true f.params.toList args.toList (s.fn H (ds++n)).args pa)
    (i:∀d:Nat->Bool,(∀p∈a,d p.block=true)->DataW.TrodVars enc P k d s.vars (s.fn H (ds++n)).vars pv)
    (e:a=pa++pv) (hb:Below W.heap.size W k)
    (B:∀(j:Nat) (t:TypeId) (r:Value),f.resultTypes[j]?=some t->(v.resultList f.resultTypes.size)[j]?=some r->Value.okWide P k .any 0 t r) :
    s.post enc P f g u l q W args v k:=by
 have z:∀p∈a,p.block<W.heap.size:=λp c=>A.lt p c;have m:∀p∈a,(λb=>decide (b<W.heap.size)) p.block=true:=λp c=>by simpa using z p c
 refine⟨ds,n,a,[],pa,pv,A,o _ _ _,h _ m,i _ m,World.keptBut_mono (λp c=>⟨c,?_⟩) (hb.frame (· ∈ a)),λ_=>?_⟩
 ·rw[e,List.mem_append]at c;exact Or.inr c
 ·obtain⟨_,_,_,_,_,hz,C⟩:=A;refine⟨B,_,_,([]++pa)++pv,⟨[]++pa,pv,trodAll_append (h _ (λ_ _=>rfl)) (o _ _ _),i _ (λ_ _=>rfl),rfl,?_,?_⟩,?_⟩
  ·intro b y c;have x:MemPlace.cell b y∈a:=by rw[e];simpa using c
   rw[hb.frozen (z _ x)];exact hz b y x
  ·intro D;have:=C D;rw[e]at this;simpa using this
  ·intro p c _;rw[e];simpa using c
end
theorem own:ownKnob Tryz.prog.godebug=none:=by kernel_rfl
theorem Ju_:laidOutB Tryz.prog=true:=by kernel_rfl
theorem qo_ {W:World} (h:W.ShapedOpen Tryz.prog):F_ W:=
 cell_of_shapedOpen_int (P:=Tryz.prog) (g:=0) (t:=3) (zero:=#[.int .i64 0]) h (of_decide_eq_true (by kernel_rfl)) (by kernel_rfl) rfl (by kernel_rfl) (by kernel_rfl) (by kernel_rfl)
theorem yt_ {H:Type}:(Rows.laid_internal_strconv_uint64pow10:DataW H)=Lib.tabData .u64 Lib.pow10Tab:=by kernel_rfl
theorem qp_ {W : World} {n1 n2 : String} {d1 d2 : DataW Unit} {rest : List (String × DataW Unit)} (h : laidMet Tryz.prog ((n1, d1) :: (n2, d2) :: ("internal/strconv.uint64pow10", Rows.laid_internal_strconv_uint64pow10) :: rest) W) : as_ W := by
 have h1:=laidMet.tail (laidMet.tail h)
 rw[yt_]at h1
 exact Lib.tabIs_of_head (g:=1) (t:=384) (e:=225) (n:=20) (by kernel_rfl) (by kernel_rfl) (by kernel_rfl) (by kernel_rfl) (by kernel_rfl) (by kernel_rfl) h1
theorem mappingHops_contract (H:Type) (enc:TypeId×Value->H) (W:World) (b:Nat) (args:Array Value) (ds y:List (DataW H)) (f:List MemPlace)
    (a:∀(j:Nat) t v,Tryz.f9.params[j]?=some t->args[j]?=some v->Value.okWide Tryz.prog W .any b t v)
    (n:DataW.Whole enc Tryz.prog Tryz.f9.params.toList Rows.mappingHopsSpec.vars false W args.toList ds y f) (u:Rows.uptoSmall H (ds++y)=true) (i:F_ W) (m:as_ W) :
    Calls Tryz.prog 9 args W λe A=>∃v,e = .returned v/\Rows.mappingHopsSpec.post enc Tryz.prog Tryz.f9 false true false false W args v A:=by
 have c:∀(j:Nat) t v,Tryz.f9.params[j]?=some t->args[j]?=some v->Value.okWide Tryz.prog W .any b t v:=a;have g:=n;obtain⟨p,q,k,C,rfl,J,M⟩:=n;have r:DataW.TrodAll enc Tryz.prog W 0 (λ_=>true) true Tryz.f9.params.toList args.toList ds p:=k;rw[Tryz.params9]at r c;obtain⟨v,d,rfl,rfl,h0⟩:=trodAll_one r;obtain⟨rfl,rfl⟩:=trodVars_none C;clear k a;simp only[List.append_nil]at g u;have z:∀x∈p,x.block<W.heap.size:=λx l=>g.lt x l;have s:Rows.uptoBulkAll [d]<=1048576:=of_decide_eq_true u;simp only[Rows.uptoBulkAll]at s;obtain⟨F,E,G,L,rfl,I,B,N⟩:=tv_ (by omega) (c 0 22 v rfl rfl) h0;refine (C0_ L I _ F E G W (λ_ h=>h) B (by omega) i m).mono λe A ⟨D,i⟩=>?_;subst D
 exact⟨_,rfl,qn_ (pa:=p) (pv:=[]) g (λ_ _ _=>(trodAll_cons_mk (shut_bool Tryz.underlying4 _) trodAll_mk0))
  (λO o=>trodAll_mk1 (WideElems.Trod_stays Ju_ (by kernel_rfl) (of_decide_eq_true (by kernel_rfl)) h0 (λx l=>i.same (z x l)) o)) (λ_ _=>rfl) (by simp)
  i (ok_one (by kernel_rfl) rfl (okWide_bool_mk Tryz.underlying4 _))⟩
theorem mappingHops_lifted (os:Os) (b:os.Started) (H:Type) (enc:TypeId×Value->H) (F:Stop.Interp) :
    ReturnsInHanded {} Tryz.checked os 9 .any ((Rows.OpenSpec.upto Rows.mappingHopsSpec).preRow enc Tryz.prog Tryz.f9 Rows.mappingHopsUptoRow.domain false Rows.mappingHopsUptoRow.laid) (((Rows.OpenSpec.upto Rows.mappingHopsSpec).at F).post enc Tryz.prog Tryz.f9 false true false false):=by
 have g:∃a,DataW.whole enc Tryz.prog ((World.laidAll Tryz.prog os Rows.mappingHopsUptoRow.laid).forCall (λ_ _=>0) ⟨#[],#[.slice none 0 0],[]⟩).memory Tryz.f9.params.toList Rows.mappingHopsSpec.vars false #[.slice none 0 0].toList 8=some ([.nil],[],a):=⟨[],by kernel_rfl⟩;obtain⟨a,g⟩:=g
 refine returnsInHanded_of_row (C:=Tryz.checked) (s:=Rows.OpenSpec.upto Rows.mappingHopsSpec) own b (by kernel_rfl) Tryz.func9
  (witness_row_at (enc:=enc) (C:=Tryz.checked) false (World.laidAll Tryz.prog os Rows.mappingHopsUptoRow.laid) #[.slice none 0 0] (World.laidAll_os _ _ _) (by kernel_rfl) (by kernel_rfl) (by kernel_rfl)
   (OpenSpec.preRow_of_cond 8 g (by kernel_rfl) (λk j=>by cases j;kernel_rfl) (by kernel_rfl) (laidMet_laidAll _ (by kernel_rfl) (by kernel_rfl)))) ?_
 intro W e args ds l c f i _ d _ m h _;exact mappingHops_contract H enc W e args ds l c f i (d _ rfl) (qo_ h) (qp_ m)
end Go.Proofs.YtefhfadjajcmkaaGreatDoor
