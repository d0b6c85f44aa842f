/- MappingGraph answers true where what it reads is of bulk at most 1048576: any triples: the graph, or the refusal, is the document's; what is handed in stays; no other condition. -/
import Derived.Test.YtefhfadjajcmkaaGreatDoorOA
import Derived.Test.YtefhfadjajcmkaaGreatDoorCards
import Derived.Test.YtefhfadjajcmkaaGreatDoorTie
import Derived.ProofKit
import Derived.OpenShut
import Derived.ChangeSame
import Derived.Carry
import Derived.Lay
import Derived.LaidOnce
import Derived.SevenTiedAt
import Derived.Deep.DeepHandedRow
import Derived.Shelf.Vars
import Derived.Stop.LaidErr
import Derived.Lib.LaidTab
set_option linter.unusedVariables false
set_option linter.unusedSimpArgs false
set_option maxRecDepth 100000
set_option maxHeartbeats 64000000
namespace Go.Proofs.YtefhfadjajcmkaaGreatDoor
open _root_.Go.Proofs.Tryz
open Go.Act renaming put→VK
open Go.Ending renaming returned→YQ
open Go.RowKit renaming Below→XW
open _root_.Go.Proofs.Tryz renaming prog→QW
open Go renaming World→QV,Value→XJ
open Go.IntKind renaming i64→QU,u64→UY
open Option renaming some→QJ,none→QK
open Go.Lib renaming cell_of_heap→QX
open Go.Value renaming slice→QQ,int→QY
open Go Go.ChangeShapes Go.WideShapes Go.ChangeAt Go.RowKit Go.Joins
open Go.Lib (cell_of_heap)
section
variable {H:Type} {enc:TypeId×XJ->H} {P:Program}
theorem r5_ {f:Func} {s:ChangeSpec} {e u l q:Bool} {W k:QV} {args:Array XJ} {v:XJ} {ds m:List (DataW H)} {a pa pv:List MemPlace}
    (A:DataW.Whole enc P f.params.toList s.vars e W args.toList ds m a)
    (o:∀(b:Nat) (d:Nat->Bool) (hd:Bool),DataW.TrodAll enc P k b d hd f.resultTypes.toList (v.resultList f.resultTypes.size) (s.fn H (ds++m)).results [])
    (g:∀d:Nat->Bool,(∀p∈a,d p.block=true)->DataW.TrodAll enc P k 0 d true f.params.toList args.toList (s.fn H (ds++m)).args pa)
    (i:∀d:Nat->Bool,(∀p∈a,d p.block=true)->DataW.TrodVars enc P k d s.vars (s.fn H (ds++m)).vars pv)
    (h:a=pa++pv) (hb:XW W.heap.size W k)
    (B:∀(j:Nat) (t:TypeId) (r:XJ),f.resultTypes[j]?=QJ t->(v.resultList f.resultTypes.size)[j]?=QJ r->Value.okWide P k .any 0 t r) :
    s.post enc P f e u l q W args v k:=by
 have y:∀p∈a,p.block<W.heap.size:=λp c=>A.lt p c;have n:∀p∈a,(λb=>decide (b<W.heap.size)) p.block=true:=λp c=>by simpa using y p c
 refine⟨ds,m,a,[],pa,pv,A,o _ _ _,g _ n,i _ n,World.keptBut_mono (λp c=>⟨c,?_⟩) (hb.frame (· ∈ a)),λ_=>?_⟩
 ·rw[h,List.mem_append]at c;exact Or.inr c
 ·obtain⟨_,_,_,_,_,hz,D⟩:=A;refine⟨B,_,_,([]++pa)++pv,⟨[]++pa,pv,trodAll_append (g _ (λ_ _=>rfl)) (o _ _ _),i _ (λ_ _=>rfl),rfl,?_,?_⟩,?_⟩
  ·intro b z c;have x:MemPlace.cell b z∈a:=by rw[h];simpa using c
   rw[hb.frozen (y _ x)];exact hz b z x
  ·intro C;have:=D C;rw[h]at this;simpa using this
  ·intro p c _;rw[h];simpa using c
end
theorem own:ownKnob Tryz.prog.godebug=QK:=by kernel_rfl
theorem Lk_:laidOutB QW=true:=by kernel_rfl
theorem r3_ {W:QV} (h:W.ShapedOpen QW):ad_ W:=
 cell_of_shapedOpen_int (P:=QW) (g:=0) (t:=3) (zero:=#[QY QU 0]) h (of_decide_eq_true (by kernel_rfl)) (by kernel_rfl) rfl (by kernel_rfl) (by kernel_rfl) (by kernel_rfl)
theorem As_ {H:Type}:(Rows.laid_internal_strconv_uint64pow10:DataW H)=Lib.tabData UY Lib.pow10Tab:=by kernel_rfl
theorem r2_ {W : World} {n1 n2 : String} {d1 d2 : DataW Unit} {rest : List (String × DataW Unit)} (h : laidMet Tryz.prog ((n1, d1) :: (n2, d2) :: ("internal/strconv.uint64pow10", Rows.laid_internal_strconv_uint64pow10) :: rest) W) : ci_ W := by
 have h1:=laidMet.tail (laidMet.tail h)
 rw[As_]at h1
 exact Lib.tabIs_of_head (g:=1) (t:=384) (e:=225) (n:=20) (by kernel_rfl) (by kernel_rfl) (by kernel_rfl) (by kernel_rfl) (by kernel_rfl) (by kernel_rfl) h1
theorem mappingGraph_contract (H:Type) (enc:TypeId×XJ->H) (W:QV) (b:Nat) (args:Array XJ) (ds n:List (DataW H)) (c:List MemPlace)
    (a:∀(j:Nat) t v,Tryz.f5.params[j]?=QJ t->args[j]?=QJ v->Value.okWide QW W .any b t v)
    (r:DataW.Whole enc QW Tryz.f5.params.toList Rows.mappingGraphSpec.vars false W args.toList ds n c) (y:Rows.uptoSmall H (ds++n)=true) (i:ad_ W) (u:ci_ W) :
    Calls QW 5 args W λe m=>∃v,e = YQ v/\Rows.mappingGraphSpec.post enc QW Tryz.f5 false true false false W args v m:=by
 have g:∀(j:Nat) t v,Tryz.f5.params[j]?=QJ t->args[j]?=QJ v->Value.okWide QW W .any b t v:=a;have f:=r;obtain⟨p,q,k,F,rfl,J,M⟩:=r;have o:DataW.TrodAll enc QW W 0 (λ_=>true) true Tryz.f5.params.toList args.toList ds p:=k;rw[params5]at o g;obtain⟨v,d,rfl,rfl,h0⟩:=trodAll_one o;obtain⟨rfl,rfl⟩:=trodVars_none F;clear k a;simp only[List.append_nil]at f y;have z:∀x∈p,x.block<W.heap.size:=λx l=>f.lt x l;have s:Rows.uptoBulkAll [d]<=1048576:=of_decide_eq_true y;simp only[Rows.uptoBulkAll]at s;obtain⟨B,I,E,L,rfl,C,D,N⟩:=vs_ (by omega) (g 0 22 v rfl rfl) h0;refine (Ie_ L C _ B I E W (λ_ h=>h) D (by omega) i u).mono λe m ⟨G,i⟩=>?_;subst G
 exact⟨_,rfl,r5_ (pa:=p) (pv:=[]) f (λ_ _ _=>(trodAll_cons_mk (shut_bool underlying4 _) trodAll_mk0))
  (λO A=>trodAll_mk1 (WideElems.Trod_stays Lk_ (by kernel_rfl) (of_decide_eq_true (by kernel_rfl)) h0 (λx l=>i.same (z x l)) A)) (λ_ _=>rfl) (by simp)
  i (ok_one (by kernel_rfl) rfl (okWide_bool_mk underlying4 _))⟩
theorem mappingGraph_lifted (os:Os) (b:os.Started) (H:Type) (enc:TypeId×XJ->H) (F:Stop.Interp) :
    ReturnsInHanded {} Tryz.checked os 5 .any ((Rows.OpenSpec.upto Rows.mappingGraphSpec).preRow enc QW Tryz.f5 Rows.mappingGraphUptoRow.domain false Rows.mappingGraphUptoRow.laid) (((Rows.OpenSpec.upto Rows.mappingGraphSpec).at F).post enc QW Tryz.f5 false true false false):=by
 have g:∃a,DataW.whole enc QW ((World.laidAll QW os Rows.mappingGraphUptoRow.laid).forCall (λ_ _=>0) ⟨#[],#[QQ QK 0 0],[]⟩).memory Tryz.f5.params.toList Rows.mappingGraphSpec.vars false #[QQ QK 0 0].toList 8=QJ ([.nil],[],a):=⟨[],by kernel_rfl⟩;obtain⟨a,g⟩:=g
 refine returnsInHanded_of_row (C:=Tryz.checked) (s:=Rows.OpenSpec.upto Rows.mappingGraphSpec) own b (by kernel_rfl) func5
  (witness_row_at (enc:=enc) (C:=Tryz.checked) false (World.laidAll QW os Rows.mappingGraphUptoRow.laid) #[QQ QK 0 0] (World.laidAll_os _ _ _) (by kernel_rfl) (by kernel_rfl) (by kernel_rfl)
   (OpenSpec.preRow_of_cond 8 g (by kernel_rfl) (λk m=>by cases m;kernel_rfl) (by kernel_rfl) (laidMet_laidAll _ (by kernel_rfl) (by kernel_rfl)))) ?_
 intro W e args ds i c f l _ d _ j h _;exact mappingGraph_contract H enc W e args ds i c f l (d _ rfl) (r3_ h) (r2_ j)
end Go.Proofs.YtefhfadjajcmkaaGreatDoor
