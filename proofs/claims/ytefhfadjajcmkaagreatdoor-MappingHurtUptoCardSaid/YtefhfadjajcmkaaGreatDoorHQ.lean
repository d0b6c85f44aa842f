/- MappingHurt answers true where what it reads is of bulk at most 1048576: any triples' graph: with a node more, a label, a property or an edge's type that is another one, it is none of the same triples' image any more; no other condition. -/
import Derived.Test.YtefhfadjajcmkaaGreatDoorHO
import Derived.Test.YtefhfadjajcmkaaGreatDoorHP
import Derived.Test.YtefhfadjajcmkaaGreatDoorCards
import Derived.Test.YtefhfadjajcmkaaGreatDoorTie
import Derived.ProofKit
import Derived.OpenShut
import Derived.ChangeSame
import Derived.Carry
import Derived.Lay
import Derived.LaidOnce
import Derived.SevenTiedAt
import Derived.Deep.DeepHandedRow
import Derived.Shelf.Vars
import Derived.Stop.LaidErr
import Derived.Lib.LaidTab
set_option linter.unusedVariables false
set_option linter.unusedSimpArgs false
set_option maxRecDepth 100000
set_option maxHeartbeats 64000000
namespace Go.Proofs.YtefhfadjajcmkaaGreatDoor
open Go Go.ChangeShapes Go.WideShapes Go.ChangeAt Go.RowKit Go.Joins
open Go.Lib (cell_of_heap)
section
variable {H:Type} {enc:TypeId×Value->H} {P:Program}
theorem qn_ {f:Func} {s:ChangeSpec} {e q k u:Bool} {W l:World} {args:Array Value} {v:Value} {ds n:List (DataW H)} {a pa pv:List MemPlace}
    (A:DataW.Whole enc P f.params.toList s.vars e W args.toList ds n a)
    (o:∀(b:Nat) (d:Nat->Bool) (hd:Bool),DataW.TrodAll enc P l b d hd f.resultTypes.toList (v.resultList f.resultTypes.size) (s.fn H (ds++n)).results [])
    (i:∀d:Nat->Bool,(∀p∈a,d p.block=true)->DataW.TrodAll enc P l 0 d true f.params.toList args.toList (s.fn H (ds++n)).args pa)
    (g:∀d:Nat->Bool,(∀p∈a,d p.block=true)->DataW.TrodVars enc P l d s.vars (s.fn H (ds++n)).vars pv)
    (h:a=pa++pv) (hb:Below W.heap.size W l)
    (B:∀(j:Nat) (t:TypeId) (r:Value),f.resultTypes[j]?=some t->(v.resultList f.resultTypes.size)[j]?=some r->Value.okWide P l .any 0 t r) :
    s.post enc P f e q k u W args v l:=by
 have x:∀p∈a,p.block<W.heap.size:=λp c=>A.lt p c;have m:∀p∈a,(λb=>decide (b<W.heap.size)) p.block=true:=λp c=>by simpa using x p c
 refine⟨ds,n,a,[],pa,pv,A,o _ _ _,i _ m,g _ m,World.keptBut_mono (λp c=>⟨c,?_⟩) (hb.frame (· ∈ a)),λ_=>?_⟩
 ·rw[h,List.mem_append]at c;exact Or.inr c
 ·obtain⟨_,_,_,_,_,hz,D⟩:=A;refine⟨B,_,_,([]++pa)++pv,⟨[]++pa,pv,trodAll_append (i _ (λ_ _=>rfl)) (o _ _ _),g _ (λ_ _=>rfl),rfl,?_,?_⟩,?_⟩
  ·intro b z c;have y:MemPlace.cell b z∈a:=by rw[h];simpa using c
   rw[hb.frozen (x _ y)];exact hz b z y
  ·intro C;have:=D C;rw[h]at this;simpa using this
  ·intro p c _;rw[h];simpa using c
end
theorem own:ownKnob Tryz.prog.godebug=none:=by kernel_rfl
theorem Jb_:laidOutB Tryz.prog=true:=by kernel_rfl
theorem qo_ {W:World} (h:W.ShapedOpen Tryz.prog):M_ W:=
 cell_of_shapedOpen_int (P:=Tryz.prog) (g:=0) (t:=3) (zero:=#[.int .i64 0]) h (of_decide_eq_true (by kernel_rfl)) (by kernel_rfl) rfl (by kernel_rfl) (by kernel_rfl) (by kernel_rfl)
theorem yp_ {H:Type}:(Rows.laid_internal_strconv_uint64pow10:DataW H)=Lib.tabData .u64 Lib.pow10Tab:=by kernel_rfl
theorem qp_ {W : World} {n1 n2 : String} {d1 d2 : DataW Unit} {rest : List (String × DataW Unit)} (h : laidMet Tryz.prog ((n1, d1) :: (n2, d2) :: ("internal/strconv.uint64pow10", Rows.laid_internal_strconv_uint64pow10) :: rest) W) : bc_ W := by
 have h1:=laidMet.tail (laidMet.tail h)
 rw[yp_]at h1
 exact Lib.tabIs_of_head (g:=1) (t:=384) (e:=225) (n:=20) (by kernel_rfl) (by kernel_rfl) (by kernel_rfl) (by kernel_rfl) (by kernel_rfl) (by kernel_rfl) h1
theorem mappingHurt_contract (H:Type) (enc:TypeId×Value->H) (W:World) (b:Nat) (args:Array Value) (ds n:List (DataW H)) (g:List MemPlace)
    (a:∀(j:Nat) t v,Tryz.f7.params[j]?=some t->args[j]?=some v->Value.okWide Tryz.prog W .any b t v)
    (s:DataW.Whole enc Tryz.prog Tryz.f7.params.toList Rows.mappingHurtSpec.vars false W args.toList ds n g) (r:Rows.uptoSmall H (ds++n)=true) (i:M_ W) (A:bc_ W) :
    Calls Tryz.prog 7 args W λe z=>∃v,e = .returned v/\Rows.mappingHurtSpec.post enc Tryz.prog Tryz.f7 false true false false W args v z:=by
 have c:∀(j:Nat) t v,Tryz.f7.params[j]?=some t->args[j]?=some v->Value.okWide Tryz.prog W .any b t v:=a;have f:=s;obtain⟨p,q,k,N,rfl,R,O⟩:=s;have u:DataW.TrodAll enc Tryz.prog W 0 (λ_=>true) true Tryz.f7.params.toList args.toList ds p:=k;rw[Tryz.params7]at u c;obtain⟨v,d,rfl,rfl,h0⟩:=trodAll_one u;obtain⟨rfl,rfl⟩:=trodVars_none N;clear k a;simp only[List.append_nil]at f r;have m:∀x∈p,x.block<W.heap.size:=λx l=>f.lt x l;have y:Rows.uptoBulkAll [d]<=1048576:=of_decide_eq_true r;simp only[Rows.uptoBulkAll]at y;obtain⟨M,D,B,J,C,G,L,rfl,F,I,S⟩:=Cs_ (by omega) (c 0 66 v rfl rfl) h0;refine (Cq_ L F _ M D B J C G W (λ_ h=>h) I (by omega) i A).mono λe z ⟨E,i⟩=>?_;subst E
 exact⟨_,rfl,qn_ (pa:=p) (pv:=[]) f (λ_ _ _=>(trodAll_cons_mk (shut_bool Tryz.underlying4 _) trodAll_mk0))
  (λT o=>trodAll_mk1 (WideElems.Trod_stays Jb_ (by kernel_rfl) (of_decide_eq_true (by kernel_rfl)) h0 (λx l=>i.same (m x l)) o)) (λ_ _=>rfl) (by simp)
  i (ok_one (by kernel_rfl) rfl (okWide_bool_mk Tryz.underlying4 _))⟩
theorem mappingHurt_lifted (os:Os) (b:os.Started) (H:Type) (enc:TypeId×Value->H) (F:Stop.Interp) :
    ReturnsInHanded {} Tryz.checked os 7 .any ((Rows.OpenSpec.upto Rows.mappingHurtSpec).preRow enc Tryz.prog Tryz.f7 Rows.mappingHurtUptoRow.domain false Rows.mappingHurtUptoRow.laid) (((Rows.OpenSpec.upto Rows.mappingHurtSpec).at F).post enc Tryz.prog Tryz.f7 false true false false):=by
 have g:∃a,DataW.whole enc Tryz.prog ((World.laidAll Tryz.prog os Rows.mappingHurtUptoRow.laid).forCall (λ_ _=>0) ⟨#[],#[.agg #[.slice none 0 0,.slice none 0 0]],[]⟩).memory Tryz.f7.params.toList Rows.mappingHurtSpec.vars false #[.agg #[.slice none 0 0,.slice none 0 0]].toList 8=some ([.agg [.nil,.nil]],[],a):=⟨[],by kernel_rfl⟩;obtain⟨a,g⟩:=g
 refine returnsInHanded_of_row (C:=Tryz.checked) (s:=Rows.OpenSpec.upto Rows.mappingHurtSpec) own b (by kernel_rfl) Tryz.func7
  (witness_row_at (enc:=enc) (C:=Tryz.checked) false (World.laidAll Tryz.prog os Rows.mappingHurtUptoRow.laid) #[.agg #[.slice none 0 0,.slice none 0 0]] (World.laidAll_os _ _ _) (by kernel_rfl) (by kernel_rfl) (by kernel_rfl)
   (OpenSpec.preRow_of_cond 8 g (by kernel_rfl) (λk l=>by cases l;kernel_rfl) (by kernel_rfl) (laidMet_laidAll _ (by kernel_rfl) (by kernel_rfl)))) ?_
 intro W e args ds m c f i _ d _ j h _;exact mappingHurt_contract H enc W e args ds m c f i (d _ rfl) (qo_ h) (qp_ j)
end Go.Proofs.YtefhfadjajcmkaaGreatDoor
