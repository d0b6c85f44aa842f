/- GraphLabels answers true where what it reads is of bulk at most 1048576: any graph, any labels: the nodes with both labels are those with the one that are among those with the other, in order; the hops by two types are those by the one and by the other; no other condition. -/
import Derived.Test.YtmhjbicbdahllaaGreatDoorGJ
import Derived.Test.YtmhjbicbdahllaaGreatDoorGM
import Derived.Test.YtmhjbicbdahllaaGreatDoorGO
import Derived.BigQuiet
import Derived.Test.YtmhjbicbdahllaaGreatDoorGI
import Derived.Test.YtmhjbicbdahllaaGreatDoorVG
import Derived.Test.YtmhjbicbdahllaaGreatDoorBulk
import Derived.Deep.Slices
import Derived.Lib.SmallJoins
import Derived.Test.YtmhjbicbdahllaaGreatDoorCards
import Derived.Test.YtmhjbicbdahllaaGreatDoorTie
import Derived.ProofKit
import Derived.OpenShut
import Derived.ChangeSame
import Derived.Carry
import Derived.Lay
import Derived.LaidOnce
import Derived.SevenTiedAt
import Derived.Deep.DeepHandedRow
import Derived.Shelf.Vars
namespace Go.Proofs.YtmhjbicbdahllaaGreatDoor
open Go Go.RowKit

theorem propsG_all {l : List PairD} : ∀ {ks : List ByteArray}, propsG ks l = true → (∀ p, p ∈ l → textB p.key = true ∧ p.key ∉ ks) ∧ (∀ p q, p ∈ l → q ∈ l → p.key = q.key → p = q) := by
  induction l with
  | nil => intro ks _; exact ⟨fun p hp => (List.not_mem_nil hp).elim, fun p q hp => (List.not_mem_nil hp).elim⟩
  | cons x r ih =>
    intro ks h
    simp only [propsG, Bool.and_eq_true] at h
    obtain ⟨⟨h1, h2, h3⟩, h4⟩ := h
    obtain ⟨i1, i2⟩ := ih h4
    have hx : x.key ∉ ks := fun hm => by rw [inB_yes hm] at h2; cases h2
    constructor
    · intro p hp
      rcases List.mem_cons.1 hp with rfl | hp
      · exact ⟨h1, hx⟩
      · exact ⟨(i1 p hp).1, fun hm => (i1 p hp).2 (List.mem_append_left _ hm)⟩
    · intro p q hp hq e
      rcases List.mem_cons.1 hp with e1 | hp1
      · rcases List.mem_cons.1 hq with e2 | hq2
        · rw [e1, e2]
        · exact absurd (List.mem_append_right ks (List.mem_singleton.2 (by rw [← e, e1]))) (i1 q hq2).2
      · rcases List.mem_cons.1 hq with e2 | hq2
        · exact absurd (List.mem_append_right ks (List.mem_singleton.2 (by rw [e, e2]))) (i1 p hp1).2
        · exact i2 p q hp1 hq2 e
theorem propsB_all {l : List PairD} (h : propsB l = true) : (∀ p, p ∈ l → textB p.key = true) ∧ (∀ p q, p ∈ l → q ∈ l → p.key = q.key → p = q) := by
  unfold propsB at h
  rw [Bool.and_eq_true] at h
  have := propsG_all h.1
  exact ⟨fun p hp => (this.1 p hp).1, this.2⟩
theorem found_key {l ps : List PairD} {q : PairD} {r : Val} (hp : propsB ps = true) (hq : q ∈ ps) (hl : l.Perm ps) (hf : FoundP l q.key r) : r = q.v := by
  rcases hf with ⟨p, h1, h2, h3⟩ | ⟨h1, _⟩
  · rw [h3, (propsB_all hp).2 p q (hl.mem_iff.1 h1) hq h2]
  · exact absurd rfl (h1 q (hl.mem_iff.2 hq))
theorem found_none {l ps : List PairD} {r : Val} (hp : propsB ps = true) (hl : l.Perm ps) (hf : FoundP l ⟨#[]⟩ r) : r = zeroV := by
  rcases hf with ⟨p, h1, h2, h3⟩ | ⟨_, h2⟩
  · have := (propsB_all hp).1 p (hl.mem_iff.1 h1)
    rw [h2] at this
    exact absurd this (by decide)
  · exact h2
theorem found_nil {key : ByteArray} {r : Val} (hf : FoundP [] key r) : r = zeroV := by
  rcases hf with ⟨p, h1, _⟩ | ⟨_, h2⟩
  · cases h1
  · exact h2
theorem props_other {G : GraphD} {k id : Int} {l : List PairD} (h6 : k ≠ 6) (h7 : k ≠ 7) (h : PropsOf G k id l) : l = [] := by
  rcases h with ⟨h, _⟩ | ⟨h, _⟩ | ⟨_, _, h⟩
  · exact absurd h h6
  · exact absurd h h7
  · exact h
theorem nodup_inj {α : Type} {key : α → Int} {l : List α} (hn : (l.map key).Nodup) {x y : α} (hx : x ∈ l) (hy : y ∈ l) (e : key x = key y) : x = y := by
  induction l with
  | nil => cases hx
  | cons a r ih =>
    rw [List.map_cons, List.nodup_cons] at hn
    rcases List.mem_cons.1 hx with e1 | hx1
    · rcases List.mem_cons.1 hy with e2 | hy2
      · rw [e1, e2]
      · exact absurd (List.mem_map.2 ⟨y, hy2, by rw [← e, e1]⟩) hn.1
    · rcases List.mem_cons.1 hy with e2 | hy2
      · exact absurd (List.mem_map.2 ⟨x, hx1, by rw [e, e2]⟩) hn.1
      · exact ih hn.2 hx1 hy2
theorem may_parts {g : GraphD} (hm : mayG g = true) : scanG okN NodeD.id [] g.nodes = true ∧ scanG (okE (g.nodes.map NodeD.id)) EdgeD.id [] g.edges = true := by
  unfold mayG at hm
  rw [Bool.and_eq_true, Bool.and_eq_true] at hm
  exact hm.2
theorem may_node {g : GraphD} (hm : mayG g = true) {n : NodeD} (hn : n ∈ g.nodes) : propsB n.props = true ∧ (lablG [] n.labels = true ∧ n.labels.length ≤ 65536) := by
  obtain ⟨i, hi⟩ := List.mem_iff_getElem?.1 hn
  have h := scan_mem (may_parts hm).1 hi
  unfold okN at h
  simp only [Bool.and_eq_true] at h
  exact ⟨h.2.2.2.2, h.2.2.1, of_decide_eq_true h.2.2.2.1⟩
theorem may_edge {g : GraphD} (hm : mayG g = true) {e : EdgeD} (he : e ∈ g.edges) : propsB e.props = true := by
  obtain ⟨i, hi⟩ := List.mem_iff_getElem?.1 he
  have h := scan_mem (may_parts hm).2 hi
  unfold okE at h
  simp only [Bool.and_eq_true] at h
  exact h.2.2.2.2.2
theorem may_nodupN {g : GraphD} (hm : mayG g = true) : (g.nodes.map NodeD.id).Nodup := scan_nodup (fun _ _ h => okN_new h) List.nodup_nil (may_parts hm).1
theorem may_nodupE {g : GraphD} (hm : mayG g = true) : (g.edges.map EdgeD.id).Nodup := scan_nodup (fun _ _ h => okE_new h) List.nodup_nil (may_parts hm).2
theorem perm_all {α β : Type} {R : α → β → Prop} {l : List α} {m l' : List β} (h : All2 R l m) (hp : l'.Perm m) {y : β} (hy : y ∈ l') : ∃ x, x ∈ l ∧ R x y := h.mem (hp.mem_iff.1 hy)
theorem all_perm {α β : Type} {R : α → β → Prop} {l : List α} {m l' : List β} (h : All2 R l m) (hp : l'.Perm m) {x : α} (hx : x ∈ l) : ∃ y, y ∈ l' ∧ R x y := by
  obtain ⟨i, hi⟩ := List.mem_iff_getElem?.1 hx
  have hl : i < m.length := by rw [← h.1]; exact idx_lt hi
  have hy := List.getElem?_eq_getElem hl
  exact ⟨_, hp.mem_iff.2 (List.mem_of_getElem? hy), h.2 i x _ hi hy⟩
theorem props_node {g g' : GraphD} (hm : mayG g = true) (hs : SrtG g g') {n : NodeD} (hn : n ∈ g.nodes) {l : List PairD} (h : PropsOf g' 6 n.id l) : l.Perm n.props := by
  obtain ⟨⟨m, h1, h2, _⟩, _⟩ := hs
  rcases h with ⟨_, n', hn', hid, rfl⟩ | ⟨h, _⟩ | ⟨h, _⟩
  · obtain ⟨x, hx, hr⟩ := perm_all h1 h2 hn'
    have e : x = n := nodup_inj (may_nodupN hm) hx hn (by rw [← hr.1, hid])
    rw [← e]
    exact hr.2.2.1
  · exact absurd h (by decide)
  · obtain ⟨y, hy, hr⟩ := all_perm h1 h2 hn
    exact absurd (List.mem_map.2 ⟨y, hy, hr.1⟩) (h rfl)
theorem props_edge {g g' : GraphD} (hm : mayG g = true) (hs : SrtG g g') {n : EdgeD} (hn : n ∈ g.edges) {l : List PairD} (h : PropsOf g' 7 n.id l) : l.Perm n.props := by
  obtain ⟨_, ⟨m, h1, h2, _⟩⟩ := hs
  rcases h with ⟨h, _⟩ | ⟨_, n', hn', hid, rfl⟩ | ⟨_, h, _⟩
  · exact absurd h (by decide)
  · obtain ⟨x, hx, hr⟩ := perm_all h1 h2 hn'
    have e : x = n := nodup_inj (may_nodupE hm) hx hn (by rw [← hr.1, hid])
    rw [← e]
    exact hr.2.2.2.2.1
  · obtain ⟨y, hy, hr⟩ := all_perm h1 h2 hn
    exact absurd (List.mem_map.2 ⟨y, hy, hr.1⟩) (h rfl)
/-- All properties of a sorted store are fit to be copied. -/
theorem props_fit {g g' : GraphD} (hm : mayG g = true) (hfit : FitG g) (hs : SrtG g g') {k id : Int} {l : List PairD} (h : PropsOf g' k id l) : l.length ≤ 2000000 ∧ ∀ p, p ∈ l → FlatP p ∧ FitP p := by
  obtain ⟨⟨m, h1, h2, _⟩, ⟨m', h3, h4, _⟩⟩ := hs
  rcases h with ⟨_, n', hn', _, rfl⟩ | ⟨_, n', hn', _, rfl⟩ | ⟨_, _, rfl⟩
  · obtain ⟨x, hx, hr⟩ := perm_all h1 h2 hn'
    have hp : n'.props.Perm x.props := hr.2.2.1
    have hf := (hfit.2.2.1 x hx).1
    exact ⟨by rw [hp.length_eq]; exact hf.2.1, fun p hq => ⟨propsB_flat (may_node hm hx).1 p (hp.mem_iff.1 hq), hf.2.2.2 p (hp.mem_iff.1 hq)⟩⟩
  · obtain ⟨x, hx, hr⟩ := perm_all h3 h4 hn'
    have hp : n'.props.Perm x.props := hr.2.2.2.2.1
    have hf := (hfit.2.2.2 x hx).1
    exact ⟨by rw [hp.length_eq]; exact hf.2.1, fun p hq => ⟨propsB_flat (may_edge hm hx) p (hp.mem_iff.1 hq), hf.2.2 p (hp.mem_iff.1 hq)⟩⟩
  · exact ⟨by simp, fun p hp => by cases hp⟩
theorem srt_len {g g' : GraphD} (hfit : FitG g) (hs : SrtG g g') : g'.nodes.length ≤ 2000000 ∧ g'.edges.length ≤ 2000000 := by
  obtain ⟨⟨m, h1, h2, _⟩, ⟨m', h3, h4, _⟩⟩ := hs
  exact ⟨by rw [h2.length_eq, ← h1.1]; exact hfit.1, by rw [h4.length_eq, ← h3.1]; exact hfit.2.1⟩
end Go.Proofs.YtmhjbicbdahllaaGreatDoor

namespace Go.Proofs.YtmhjbicbdahllaaGreatDoor
open Go Go.RowKit

theorem id_inj {l : List NodeD} (hn : (l.map NodeD.id).Nodup) {x y : NodeD} (hx : x ∈ l) (hy : y ∈ l) (e : x.id = y.id) : x = y := by
  induction l with
  | nil => cases hx
  | cons a r ih =>
    rw [List.map_cons, List.nodup_cons] at hn
    rcases List.mem_cons.1 hx with e1 | hx1
    · rcases List.mem_cons.1 hy with e2 | hy2
      · rw [e1, e2]
      · exact absurd (List.mem_map.2 ⟨y, hy2, by rw [← e, e1]⟩) hn.1
    · rcases List.mem_cons.1 hy with e2 | hy2
      · exact absurd (List.mem_map.2 ⟨x, hx1, by rw [e, e2]⟩) hn.1
      · exact ih hn.2 hx1 hy2
theorem labeled_two {G : GraphD} (hn : (G.nodes.map NodeD.id).Nodup) (a b : ByteArray) : labeledG G [a, b] = (labeledG G [a]).filter (fun x => inB (labeledG G [b]) x) := by
  unfold labeledG
  rw [List.filter_map, List.filter_filter]
  congr 1
  apply List.filter_congr
  intro n hm
  have h1 : inB ((G.nodes.filter fun n => allB [b] n.labels).map NodeD.id) n.id = allB [b] n.labels := by
    cases h : allB [b] n.labels with
    | true => exact inB_yes (List.mem_map.2 ⟨n, List.mem_filter.2 ⟨hm, h⟩, rfl⟩)
    | false =>
      refine inB_no (fun hx => ?_)
      obtain ⟨m, hm2, he⟩ := List.mem_map.1 hx
      obtain ⟨h2, h3⟩ := List.mem_filter.1 hm2
      rw [id_inj hn h2 hm he, h] at h3
      cases h3
  show allB [a, b] n.labels = (inB _ n.id && allB [a] n.labels)
  rw [h1]
  unfold allB
  simp [Bool.and_comm]
theorem labeled_same (G : GraphD) (a : ByteArray) : labeledG G [a, a] = labeledG G [a] := by
  unfold labeledG
  congr 1
  apply List.filter_congr
  intro n _
  unfold allB
  simp
theorem filter_at {α : Type} {l : List α} {f : α → Bool} {k : Nat} {x : α} (hx : l[k]? = some x) (hf : f x = true) : (l.filter f)[((l.take k).filter f).length]? = some x := by
  have h : l = l.take k ++ x :: l.drop (k + 1) := by
    obtain ⟨h1, h2⟩ := List.getElem?_eq_some_iff.1 hx
    rw [← h2, List.getElem_cons_drop, List.take_append_drop]
  have h2 : l.filter f = (l.take k).filter f ++ (x :: l.drop (k + 1)).filter f := by
    conv => lhs; rw [h]
    rw [List.filter_append]
  rw [h2, List.getElem?_append_right (Nat.le_refl _), Nat.sub_self, List.filter_cons, if_pos hf]
  rfl
theorem filter_take_yes {α : Type} {l : List α} {f : α → Bool} {k : Nat} {x : α} (hx : l[k]? = some x) (hf : f x = true) : ((l.take (k + 1)).filter f).length = ((l.take k).filter f).length + 1 := by
  rw [take_oneMore hx, List.filter_append, List.length_append, List.filter_cons, if_pos hf]
  rfl
theorem filter_take_no {α : Type} {l : List α} {f : α → Bool} {k : Nat} {x : α} (hx : l[k]? = some x) (hf : f x = false) : ((l.take (k + 1)).filter f).length = ((l.take k).filter f).length := by
  rw [take_oneMore hx, List.filter_append, List.length_append, List.filter_cons, if_neg (by rw [hf]; decide)]
  rfl
theorem type_two (a b : ByteArray) (e : EdgeD) : typeOk [a, b] e = (typeOk [a] e || typeOk [b] e) := by
  unfold typeOk inB
  simp
theorem hops_or {es : List EdgeD} {a b : ByteArray} {l : List Nat} {x : Int} (h : x ∈ hopIds es [a, b] l) : x ∈ hopIds es [a] l ∨ x ∈ hopIds es [b] l := by
  unfold hopIds at h ⊢
  obtain ⟨i, hi, hb⟩ := List.mem_filterMap.1 h
  cases he : es[i]? with
  | none => rw [he] at hb; cases hb
  | some e =>
    rw [he] at hb
    have hb : (if typeOk [a, b] e = true then some e.id else none) = some x := hb
    by_cases ht : typeOk [a, b] e = true
    · rw [if_pos ht] at hb
      rw [type_two, Bool.or_eq_true] at ht
      rcases ht with ht | ht
      · exact .inl (List.mem_filterMap.2 ⟨i, hi, by rw [he]; show (if typeOk [a] e = true then some e.id else none) = some x; rw [if_pos ht]; exact hb⟩)
      · exact .inr (List.mem_filterMap.2 ⟨i, hi, by rw [he]; show (if typeOk [b] e = true then some e.id else none) = some x; rw [if_pos ht]; exact hb⟩)
    · rw [if_neg ht] at hb; cases hb
theorem type_one (a : ByteArray) (e : EdgeD) : typeOk [a] e = true ↔ e.type = a := by
  unfold typeOk inB
  simp
theorem hops_sum {es : List EdgeD} {a b : ByteArray} (hab : a ≠ b) (l : List Nat) : (hopIds es [a, b] l).length = (hopIds es [a] l).length + (hopIds es [b] l).length := by
  induction l with
  | nil => rfl
  | cons i r ih =>
    unfold hopIds at ih ⊢
    rw [List.filterMap_cons, List.filterMap_cons, List.filterMap_cons]
    cases he : es[i]? with
    | none => simpa [he] using ih
    | some e =>
      simp only [Option.bind_some]
      rw [type_two]
      by_cases h1 : typeOk [a] e = true
      · have h2 : ¬ typeOk [b] e = true := fun h => hab (((type_one a e).1 h1).symm.trans ((type_one b e).1 h))
        simp only [h1, h2, Bool.true_or, if_true]
        simp [ih]
        omega
      · by_cases h2 : typeOk [b] e = true
        · simp only [h1, h2, Bool.or_true, if_true]
          simp [ih]
          omega
        · simp [h1, h2, ih]
end Go.Proofs.YtmhjbicbdahllaaGreatDoor

namespace Go.Proofs.YtmhjbicbdahllaaGreatDoor
open Go Go.RowKit

theorem srt_labels {g g' : GraphD} (hfit : FitG g) (hs : SrtG g g') : ∀ n, n ∈ g'.nodes → n.labels.length ≤ 2000000 := fun n hn => by
  obtain ⟨⟨m, h1, h2, _⟩, _⟩ := hs
  obtain ⟨x, hx, hr⟩ := perm_all h1 h2 hn
  have hp : n.labels.Perm x.labels := hr.2.1.1
  rw [hp.length_eq]
  exact (hfit.2.2.1 x hx).1.1
theorem srt_nodup {g g' : GraphD} (hm : mayG g = true) (hs : SrtG g g') : (g'.nodes.map NodeD.id).Nodup := by
  obtain ⟨⟨m, h1, h2, _⟩, _⟩ := hs
  refine perm_ids h2 ?_
  rw [all2_map (R := SrtN) (f := NodeD.id) (g := NodeD.id) (fun x y h => h.1) h1]
  exact may_nodupN hm
theorem labeled_len (G : GraphD) (q : List ByteArray) : (labeledG G q).length ≤ G.nodes.length := by
  unfold labeledG
  rw [List.length_map]
  exact List.length_filter_le _ _
theorem hopIds_len (es : List EdgeD) (q : List ByteArray) (a d : Int) : (hopIds es q (hopsG es a d)).length ≤ es.length := by
  unfold hopIds
  exact Nat.le_trans (List.length_filterMap_le ..) (hops_len es a d)
/-- A row of two texts, of one. -/
theorem rd_two {w : World} {F : Nat → Prop} {b : Nat} {T : TypeId} {x y : ByteArray} (hb : w.heap[b]? = some (.cells #[.string x, .string y] T (0, 0))) (hF : F b) : SRd 1 TxR w F [x, y] (some ⟨b, 0, none⟩) 2 := by
  refine ⟨rfl, fun _ => ⟨⟨b, 0, none⟩, rfl, hF, fun i u hu => ?_⟩⟩
  have ha : ∀ j, (⟨b, 0, none⟩ : Addr).add j = ⟨b, j, none⟩ := fun j => by
    unfold Addr.add
    split
    · rename_i h0; rw [h0]
    · simp
  match i, hu with
  | 0, hu =>
    simp at hu
    subst hu
    refine ⟨#[.string x], rfl, fun j hj => ?_, rfl⟩
    rw [ha]
    have h0 : j = 0 := by omega
    subst h0
    exact Lib.cell_of_heap hb 0
  | 1, hu =>
    simp at hu
    subst hu
    refine ⟨#[.string y], rfl, fun j hj => ?_, rfl⟩
    rw [ha]
    have h0 : j = 0 := by omega
    subst h0
    exact Lib.cell_of_heap hb 1
  | i + 2, hu => simp at hu
set_option maxRecDepth 100000 in
set_option maxHeartbeats 8000000 in
theorem graphLabels_any (g : GraphD) (hfit : FitG g) (htot : totalG g ≤ 1000000000) (N : List Int) (hN : ∀ x, x ∈ N → VI x) (L : List ByteArray) (F : Nat → Prop) (NV EV : Value) (AI AV AK AL AD : Option Addr) (nI cI nV cV nK cK nL cL nD cD : Nat) (w : World) (hF : ∀ b, F b → b < w.heap.size) (hg : GrR w F g (.agg #[NV, EV]))
    (hI : SRd 1 IxR w F N AI nI) (hL : SRd 1 TxR w F L AL nL) (hnI : nI ≤ 100000000) (hnL : nL ≤ 100000000) (hgl : GlobB w) :
    Calls Tryz.prog 4 #[.agg #[NV, EV, .slice AI nI cI, .slice AV nV cV, .slice AK nK cK, .slice AL nL cL, .slice AD nD cD]] w (ToldB true w) := by
  have HGR := Lib.hid hg
  obtain ⟨_, _, he, ⟨AN, cN, rfl, hcN, hlN⟩, AE, cE, rfl, hcE, hlE⟩ := hg
  injection he with he
  have he2 := congrArg Array.toList he
  simp only [List.cons.injEq, and_true] at he2
  obtain ⟨e1, e2⟩ := he2
  subst e1 e2
  obtain ⟨nN, HnN⟩ := name_itV g.nodes.length
  obtain ⟨nE, HnE⟩ := name_itV g.edges.length
  have hgn : nN ≤ 2000000 := by rw [← HnN.out]; exact hfit.1
  have hge : nE ≤ 2000000 := by rw [← HnE.out]; exact hfit.2.1
  rw [HnN.out, HnE.out] at HGR ⊢
  obtain ⟨z, HZ⟩ := name_itV w.heap.size
  have HI := Lib.hid (hI.mono IxR.good (F' := fun b => b < z) (fun b hb => by rw [← HZ.out]; exact hF b hb))
  have HL := Lib.hid (hL.mono TxR.good (F' := fun b => b < z) (fun b hb => by rw [← HZ.out]; exact hF b hb))
  have HF := Lib.hid hF
  have HG := Lib.hid hgl
  have HFIT := Lib.hid hfit
  have HVN := Lib.hid hN
  obtain ⟨w1, HW1⟩ := name_itV (w.alloc (.cells #[.slice AN nN cN, .slice AE nE cE, .slice AI nI cI, .slice AV nV cV, .slice AK nK cK, .slice AL nL cL, .slice AD nD cD] 46))
  have HB1 := Lib.hid (show Below w.heap.size w w1 from by rw [← HW1.out]; exact (Below.refl _ _).alloc (Nat.le_refl _) _)
  have HK1 := Lib.hid (show w1.heap[z]? = some (.cells #[.slice AN nN cN, .slice AE nE cE, .slice AI nI cI, .slice AV nV cV, .slice AK nK cK, .slice AL nL cL, .slice AD nD cD] 46 (0, 0)) from by rw [← HW1.out, ← HZ.out]; exact heap_alloc_new w _)
  have hli := Lib.hid (light_any g htot F _ w1 (fun b hb => Nat.lt_of_lt_of_le (hF b hb) HB1.out.size) (HGR.out.keep (fun q hq => HB1.out.cell (hF _ hq))))
  have b0 : w1.cell? ⟨z, 0, none⟩ = some (.slice AN nN cN) := Lib.cell_of_heap HK1.out 0
  have b1 : w1.cell? ⟨z, 1, none⟩ = some (.slice AE nE cE) := Lib.cell_of_heap HK1.out 1
  clear hlN hlE hF hgl hfit hcN hcE htot he hI hL hN
  obtain ⟨lb, HLB⟩ := name_itV (lightG g)
  rw [HLB.out] at hli
  go_enter Tryz.func4, Tryz.ntmps4
  go_upto_region 1 with fail
  rw [HZ.out, HW1.out]
  go_wp2_with fail
  refine hli.out.mono ?_
  rintro e w2 ⟨rfl, hb2⟩
  have HB2 := Lib.hid (show Below w.heap.size w w2 from HB1.out.trans (hb2.mono HB1.out.size))
  have hk2 := (hb2.block z (blk_lt HK1.out)).trans HK1.out
  have HK2 := Lib.hid hk2
  clear b0 b1 hb2 hli
  cases lb with
  | false =>
    go_wp2_with fail
    refine (wakes_any w2 (glob_under HG.out HB2.out)).mono ?_
    rintro e w3 ⟨rfl, hb3⟩
    have HB3 := Lib.hid (HB2.out.trans (hb3.mono HB2.out.size))
    clear hb3 hk2
    go_wp2_with fail
    go_ret
    exact ⟨rfl, HB3.out⟩
  | true =>
    have b0 : w2.cell? ⟨z, 0, none⟩ = some (.slice AN nN cN) := Lib.cell_of_heap hk2 0
    have b1 : w2.cell? ⟨z, 1, none⟩ = some (.slice AE nE cE) := Lib.cell_of_heap hk2 1
    have hld := Lib.hid (load_any g HFIT.out F _ w2 (fun b hb => Nat.lt_of_lt_of_le (HF.out b hb) HB2.out.size) (HGR.out.keep (fun q hq => HB2.out.cell (HF.out _ hq))) (glob_under HG.out HB2.out))
    clear hk2
    go_wp2_with fail
    refine hld.out.mono ?_
    rintro e w4 ⟨hb4, hor⟩
    have HB4 := Lib.hid (show Below w.heap.size w w4 from HB2.out.trans (hb4.mono HB2.out.size))
    have HK4 := Lib.hid ((hb4.block z (blk_lt HK2.out)).trans HK2.out)
    clear b0 b1 hb4 hld
    rcases hor with ⟨_, rfl⟩ | ⟨hmay, p, g', rfl, hst, hsr⟩
    · go_wp2_with fail
      refine (wakes_any w4 (glob_under HG.out HB4.out)).mono ?_
      rintro e w3 ⟨rfl, hb3⟩
      have HB3 := Lib.hid (HB4.out.trans (hb3.mono HB4.out.size))
      clear hb3
      go_wp2_with fail
      go_ret
      exact ⟨rfl, HB3.out⟩
    · obtain ⟨Ns, Es, mh, mt, ma, mid, n0, hst⟩ := hst
      have c5 : w4.cell? ⟨z, 5, none⟩ = some (.slice AL nL cL) := Lib.cell_of_heap HK4.out 5
      by_cases hl2 : nL < 2
      · have t1 : decide ((nL : Int) < 2) = true := decide_eq_true (by omega)
        clear hl2
        go_wp2_with fail
        refine (wakes_any w4 (glob_under HG.out HB4.out)).mono ?_
        rintro e w3 ⟨rfl, hb3⟩
        have HB3 := Lib.hid (HB4.out.trans (hb3.mono HB4.out.size))
        clear hb3
        go_wp2_with fail
        go_ret
        exact ⟨rfl, HB3.out⟩
      · have t1 : decide ((nL : Int) < 2) = false := decide_eq_false (by omega)
        have HLABEL := Lib.hid (fun (W : World) (hW : Below w4.heap.size w4 W) (q : List ByteArray) (B : Option Addr) (n2 c2 : Nat) (hn : n2 ≤ 1000000000) (hq : SRd 1 TxR W (fun b => b < W.heap.size) q B n2) => labeled_any g' q _ p Ns Es mh mt ma mid n0 (fun b => b < W.heap.size) B n2 c2 W (hst.turn (Turn.of_below hW) (fun b _ h1 h2 => by omega)) (fun _ h => h) hq hn (srt_len HFIT.out hsr).1 (srt_labels HFIT.out hsr))
        have HHOPS := Lib.hid (fun (W : World) (hW : Below w4.heap.size w4 W) (a : Int) (ha : VI a) (q : List ByteArray) (B : Option Addr) (n2 c2 : Nat) (hn : n2 ≤ 1000000000) (hq : SRd 1 TxR W (fun b => b < W.heap.size) q B n2) => hops_any g' a 0 q _ p Ns Es mh mt ma mid n0 (fun b => b < W.heap.size) B n2 c2 W (hst.turn (Turn.of_below hW) (fun b _ h1 h2 => by omega)) ha vi0 (fun _ h => h) hq hn (srt_len HFIT.out hsr).2)
        have HNOD := Lib.hid (srt_nodup hmay hsr)
        have HLEN := Lib.hid (fun q => Nat.le_trans (labeled_len g' q) (srt_len HFIT.out hsr).1)
        have HLENE := Lib.hid (srt_len HFIT.out hsr).2
        have hz4 := Lib.hid (blk_lt HK4.out)
        have HL4 := Lib.hid (HL.out.under TxR.good HB4.out (fun b hb => by rw [HZ.out]; exact hb))
        obtain ⟨a, hLa⟩ : ∃ a, L[0]? = some a := ⟨L[0]'(by rw [← HL.out.1]; omega), List.getElem?_eq_getElem _⟩
        obtain ⟨b, hLb⟩ : ∃ b, L[1]? = some b := ⟨L[1]'(by rw [← HL.out.1]; omega), List.getElem?_eq_getElem _⟩
        obtain ⟨ad, hA, _, la0⟩ := textAt HL4.out hLa
        obtain ⟨ad2, hA2, _, lb0⟩ := textAt HL4.out hLb
        rw [hA] at hA2
        injection hA2 with hA2
        subst hA2
        subst hA
        have la1 : w4.cell? ad = some (.string a) := by rw [← la0]; congr 1
        have lb1 : w4.cell? ⟨ad.block, ad.off + 1, none⟩ = some (.string b) := by rw [← lb0]; rfl
        have j1 : (0 : Int) < nL := by omega
        have j3 : 0 < nL := by omega
        have j4 : nL ≠ 0 := by omega
        have j5 : 1 < nL := by omega
        have j6 : 2 ≤ nL := by omega
        have j2 : (1 : Int) < nL := by omega
        clear hmay hst hsr hl2 hLa hLb
        go_upto_region 6 with fail
        go_quiet (fail)
        obtain ⟨w5, HW5⟩ := name_itV (w4.drewN nq)
        have HBw5 := Lib.hid (show Below w4.heap.size w4 w5 from by rw [← HW5.out]; exact below_drewN (Below.refl _ _) nq)
        rw [HW5.out]
        clear la0 la1 lb0 lb1 c5 j1 j3 j4 j5 j6 t1
        obtain ⟨w6, HAw6⟩ := name_itV (w5.alloc (.cells #[.string a, .string b] 9))
        have HBw6 := Lib.hid (show Below w4.heap.size w4 w6 from HBw5.out.trans (by rw [← HAw6.out]; exact (Below.refl w4.heap.size w5).alloc (HBw5.out.size) _))
        have HKw6 := Lib.hid (show w6.heap[w5.heap.size]? = some (.cells #[.string a, .string b] 9 (0, 0)) from by rw [← HAw6.out]; exact heap_alloc_new w5 _)
        have HCw6 := Lib.hid (HLABEL.out w6 HBw6.out [a, b] (some ⟨w5.heap.size, 0, none⟩) 2 2 (by decide) (rd_two HKw6.out (blk_lt HKw6.out)))
        go_upto_region 7 with fail
        go_wp2_with fail
        rw [HAw6.out]
        refine HCw6.out.mono ?_
        rintro e w7 ⟨AP, cP, rfl, hb, hr⟩
        obtain ⟨nP, HnP⟩ := name_itV (labeledG g' [a, b]).length
        rw [HnP.out] at hr ⊢
        have HBw7 := Lib.hid (HBw6.out.trans (hb.mono HBw6.out.size))
        have HSw7 := Lib.hid (show w5.heap.size ≤ w7.heap.size from Nat.le_trans (Nat.le_of_lt (blk_lt HKw6.out)) hb.size)
        have HBBw7 := Lib.hid (show Below w5.heap.size w5 w7 from (show Below w5.heap.size w5 w6 from by rw [← HAw6.out]; exact (Below.refl _ _).alloc (Nat.le_refl _) _).trans (hb.mono (by have := blk_lt HKw6.out; omega)))
        have HRP := Lib.hid (hr.mono IxR.good (F' := fun b => b < w7.heap.size) (fun b hb => hb.2))
        clear hb hr
        obtain ⟨w8, HAw8⟩ := name_itV (w7.alloc (.cells #[.string a] 9))
        have HBw8 := Lib.hid (show Below w4.heap.size w4 w8 from HBw7.out.trans (by rw [← HAw8.out]; exact (Below.refl w4.heap.size w7).alloc (HBw7.out.size) _))
        have HKw8 := Lib.hid (show w8.heap[w7.heap.size]? = some (.cells #[.string a] 9 (0, 0)) from by rw [← HAw8.out]; exact heap_alloc_new w7 _)
        have HCw8 := Lib.hid (HLABEL.out w8 HBw8.out [a] (some ⟨w7.heap.size, 0, none⟩) 1 1 (by decide) (rd_one HKw8.out (blk_lt HKw8.out) rfl rfl))
        go_upto_region 8 with fail
        go_wp2_with fail
        rw [HAw8.out]
        refine HCw8.out.mono ?_
        rintro e w9 ⟨AQ, cQ, rfl, hb, hr⟩
        obtain ⟨nQ, HnQ⟩ := name_itV (labeledG g' [a]).length
        rw [HnQ.out] at hr ⊢
        have HBw9 := Lib.hid (HBw8.out.trans (hb.mono HBw8.out.size))
        have HSw9 := Lib.hid (show w7.heap.size ≤ w9.heap.size from Nat.le_trans (Nat.le_of_lt (blk_lt HKw8.out)) hb.size)
        have HBBw9 := Lib.hid (show Below w7.heap.size w7 w9 from (show Below w7.heap.size w7 w8 from by rw [← HAw8.out]; exact (Below.refl _ _).alloc (Nat.le_refl _) _).trans (hb.mono (by have := blk_lt HKw8.out; omega)))
        have HRQ := Lib.hid (hr.mono IxR.good (F' := fun b => b < w9.heap.size) (fun b hb => hb.2))
        clear hb hr
        obtain ⟨wa, HAwa⟩ := name_itV (w9.alloc (.cells #[.string b] 9))
        have HBwa := Lib.hid (show Below w4.heap.size w4 wa from HBw9.out.trans (by rw [← HAwa.out]; exact (Below.refl w4.heap.size w9).alloc (HBw9.out.size) _))
        have HKwa := Lib.hid (show wa.heap[w9.heap.size]? = some (.cells #[.string b] 9 (0, 0)) from by rw [← HAwa.out]; exact heap_alloc_new w9 _)
        have HCwa := Lib.hid (HLABEL.out wa HBwa.out [b] (some ⟨w9.heap.size, 0, none⟩) 1 1 (by decide) (rd_one HKwa.out (blk_lt HKwa.out) rfl rfl))
        go_upto_region 9 with fail
        go_wp2_with fail
        rw [HAwa.out]
        refine HCwa.out.mono ?_
        rintro e wb ⟨AS, cS, rfl, hb, hr⟩
        obtain ⟨nS, HnS⟩ := name_itV (labeledG g' [b]).length
        rw [HnS.out] at hr ⊢
        have HBwb := Lib.hid (HBwa.out.trans (hb.mono HBwa.out.size))
        have HSwb := Lib.hid (show w9.heap.size ≤ wb.heap.size from Nat.le_trans (Nat.le_of_lt (blk_lt HKwa.out)) hb.size)
        have HBBwb := Lib.hid (show Below w9.heap.size w9 wb from (show Below w9.heap.size w9 wa from by rw [← HAwa.out]; exact (Below.refl _ _).alloc (Nat.le_refl _) _).trans (hb.mono (by have := blk_lt HKwa.out; omega)))
        have HRS := Lib.hid (hr.mono IxR.good (F' := fun b => b < wb.heap.size) (fun b hb => hb.2))
        clear hb hr
        have hnP : nP ≤ 2000000 := by rw [← HnP.out]; exact HLEN.out _
        have hnQ : nQ ≤ 2000000 := by rw [← HnQ.out]; exact HLEN.out _
        have hnS : nS ≤ 2000000 := by rw [← HnS.out]; exact HLEN.out _
        have HPP := Lib.hid ((HRP.out.under IxR.good (HBBw9.out) (fun b hb => hb)).under IxR.good (HBBwb.out.mono HBBw9.out.size) (fun b hb => hb))
        have HQQ := Lib.hid ((HRQ.out.under IxR.good HBBwb.out (fun b hb => hb)).mono IxR.good (F' := fun b => b < wb.heap.size) (fun b hb => Nat.lt_of_lt_of_le hb HBBwb.out.size))
        have HSS := Lib.hid HRS.out
        have HTWO := labeled_two HNOD.out a b
        obtain ⟨LQ, HLQ⟩ := name_itV (labeledG g' [a])
        obtain ⟨LS, HLS⟩ := name_itV (labeledG g' [b])
        rw [HLQ.out] at HTWO HnQ HQQ
        rw [HLS.out] at HTWO HnS HSS
        rw [HTWO] at HPP HnP
        have HTW := Lib.hid HTWO
        clear HTWO
        have H0 := Lib.hid (show (((LQ.take 0).filter (fun x => inB LS x)).length : Nat) = 0 from by simp)
        go_upto_region 10 with fail
        go_wp2_with fail
        go_loopw [10, 11] (fun s10 s11 wx => ∃ k m : Nat, k ≤ nQ ∧ s10 = .int .i64 ((((LQ.take k).filter (fun x => inB LS x)).length : Nat) : Int) ∧ s11 = .int .i64 (k : Nat) ∧ wx = wb.drewN m) (fun _ s11 _ => nQ - (intOf s11).toNat)
        case atStart => exact ⟨0, 0, by omega, by rw [H0.out]; rfl, rfl, rfl⟩
        case round =>
          clear H0
          obtain ⟨k, m, hk, rfl, rfl, hw⟩ := hrel
          have HW := Lib.hid hw
          by_cases hlt : k < nQ
          · obtain ⟨x, hx⟩ : ∃ x, LQ[k]? = some x := ⟨LQ[k]'(by rw [HnQ.out]; exact hlt), List.getElem?_eq_getElem _⟩
            have HX := Lib.hid hx
            obtain ⟨aq, hAq, _, q0⟩ := intAt (HQQ.out.keep IxR.good (w' := wr) (fun p _ => by rw [hw]; rfl)) hx
            have hca := Lib.hid (has_any LS x (fun b => b < wb.heap.size) AS nS cS wr (HSS.out.keep IxR.good (fun p _ => by rw [hw]; rfl)) (by omega))
            obtain ⟨r, HR⟩ := name_itV (inB LS x)
            rw [HR.out] at hca
            obtain ⟨i, Hi⟩ := name_itV ((LQ.take k).filter (fun x => inB LS x)).length
            rw [Hi.out]
            have hAQ := hAq
            subst hAQ
            have e1 : (0 : Int) ≤ k := by omega
            have e2 : (k : Int) < nQ := by omega
            have w1 : IntKind.i64.wrap ((k : Int) + 1) = (k : Int) + 1 := IntWalk.i64_in _ (by omega)
            clear hx hw hAq
            go_wp2_with fail
            refine hca.out.mono ?_
            rintro e wc ⟨rfl, rfl⟩
            cases r with
            | false =>
              have HM := Lib.hid (filter_take_no HX.out (f := fun x => inB LS x) HR.out)
              go_wp2_with fail
              go_roundw
              case rel => exact ⟨k + 1, m, by omega, by rw [HM.out, Hi.out], by go_num, HW.out⟩
              case measure => simp [intOf]; omega
            | true =>
              have HM := Lib.hid (filter_take_yes HX.out (f := fun x => inB LS x) HR.out)
              have hpi := filter_at HX.out (f := fun x => inB LS x) HR.out
              rw [Hi.out] at hpi
              have hil : i < nP := by rw [← HnP.out]; exact idx_lt hpi
              obtain ⟨ap, hAp, _, p0⟩ := intAt (HPP.out.keep IxR.good (w' := wc) (fun p _ => by rw [HW.out]; rfl)) hpi
              subst hAp
              have t1 : decide ((nP : Int) ≤ i) = false := decide_eq_false (by omega)
              have t2 : (x != x) = false := bne_self_eq_false x
              have e3 : (0 : Int) ≤ i := by omega
              have e4 : (i : Int) < nP := by omega
              have w2 : IntKind.i64.wrap ((i : Int) + 1) = (i : Int) + 1 := IntWalk.i64_in _ (by omega)
              clear hpi
              go_upto_region 15 with fail
              go_quiet (fail)
              go_wp2_with fail
              go_roundw
              case rel => exact ⟨k + 1, m + nq, by omega, by rw [HM.out, Hi.out]; push_cast; rfl, by go_num, by rw [HW.out, World.drewN_drewN]⟩
              case measure => simp [intOf]; omega
          · have hke : nQ = k := by omega
            have HFULL := Lib.hid (show ((LQ.take k).filter (fun x => inB LS x)).length = nP from by rw [List.take_of_length_le (by rw [HnQ.out, hke]; exact Nat.le_refl _)]; exact HnP.out)
            rw [HFULL.out]
            subst hke
            have t1 : ((nP : Int) != nP) = false := bne_self_eq_false _
            have HBwr := Lib.hid (show Below w4.heap.size w4 wr from by rw [hw]; exact below_drewN HBwb.out m)
            have HQR := Lib.hid (HQQ.out.keep IxR.good (w' := wr) (fun p _ => by rw [hw]; rfl))
            have HBr0 := Lib.hid (show wb.heap.size = wr.heap.size from by rw [hw]; rfl)
            clear hw
            obtain ⟨wd, HAwd⟩ := name_itV (wr.alloc (.cells #[.string a, .string a] 9))
            have HBwd := Lib.hid (show Below w4.heap.size w4 wd from HBwr.out.trans (by rw [← HAwd.out]; exact (Below.refl w4.heap.size wr).alloc (HBwr.out.size) _))
            have HKwd := Lib.hid (show wd.heap[wr.heap.size]? = some (.cells #[.string a, .string a] 9 (0, 0)) from by rw [← HAwd.out]; exact heap_alloc_new wr _)
            have HCwd := Lib.hid (HLABEL.out wd HBwd.out [a, a] (some ⟨wr.heap.size, 0, none⟩) 2 2 (by decide) (rd_two HKwd.out (blk_lt HKwd.out)))
            go_upto_region 18 with fail
            go_wp2_with fail
            rw [HAwd.out]
            refine HCwd.out.mono ?_
            rintro e we ⟨AT, cT, rfl, hb, hr⟩
            obtain ⟨nT, HnT⟩ := name_itV (labeledG g' [a, a]).length
            rw [HnT.out] at hr ⊢
            have HBwe := Lib.hid (HBwd.out.trans (hb.mono HBwd.out.size))
            have HBBwe := Lib.hid (show Below wr.heap.size wr we from (show Below wr.heap.size wr wd from by rw [← HAwd.out]; exact (Below.refl _ _).alloc (Nat.le_refl _) _).trans (hb.mono (by have := blk_lt HKwd.out; omega)))
            have HRT := Lib.hid (hr.mono IxR.good (F' := fun b => b < we.heap.size) (fun b hb => hb.2))
            clear hb hr
            have HT2 := Lib.hid (show labeledG g' [a, a] = LQ from by rw [labeled_same, HLQ.out])
            rw [HT2.out] at HRT HnT
            have hnT : nT = nQ := by rw [← HnT.out, ← HnQ.out]
            subst hnT
            have HQE := Lib.hid (HQR.out.under IxR.good HBBwe.out (fun b hb => by rw [← HBr0.out]; exact hb))
            go_wp2_with fail
            refine (eqNums_any LQ LQ (fun b => b < we.heap.size) (fun b => b < wb.heap.size) AT AQ _ cT _ cQ we HRT.out HQE.out (by omega) (by omega)).mono ?_
            rintro e wf ⟨rfl, mf, hwf⟩
            have HBwf := Lib.hid (show Below w4.heap.size w4 wf from by rw [hwf]; exact below_drewN HBwe.out mf)
            clear hwf
            rw [show eqI LQ LQ = true from decide_eq_true rfl]
            have HN4 := Lib.hid (HI.out.under IxR.good HB4.out (fun b hb => by rw [HZ.out]; exact hb))
            go_upto_region 20 with fail
            go_wp2_with fail
            go_loopw [12] (fun s12 wx => ∃ j : Nat, j ≤ nI ∧ s12 = .int .i64 (j : Nat) ∧ Hid (Below w4.heap.size w4 wx)) (fun s12 _ => nI - (intOf s12).toNat)
            case atStart => exact ⟨0, by omega, rfl, HBwf⟩
            case round =>
              clear HBwf HBwe HBwd HBBwe HKwd HCwd HRT HQE HQR HBwr HBr0
              obtain ⟨j, hj, rfl, hM⟩ := hrel
              have HBwr := hM
              have c2 : wr.cell? ⟨z, 2, none⟩ = some (.slice AI nI cI) := (hM.out.cell hz4.out).trans (Lib.cell_of_heap HK4.out 2)
              by_cases hlt : j < nI
              · by_cases hl10 : j < 10
                · obtain ⟨id, hx⟩ : ∃ x, N[j]? = some x := ⟨N[j]'(by rw [← HI.out.1]; exact hlt), List.getElem?_eq_getElem _⟩
                  have HVI := Lib.hid (HVN.out id (List.mem_of_getElem? hx))
                  obtain ⟨an, hA, hFa, qn4⟩ := intAt HN4.out hx
                  subst hA
                  have HQN := Lib.hid (fun (W : World) (hW : Below w4.heap.size w4 W) => (hW.cell (p := an.add j) (by rw [block_of_add]; exact Nat.lt_trans hFa hz4.out)).trans qn4)
                  have HCZ := Lib.hid (fun (W : World) (hW : Below w4.heap.size w4 W) => (hW.cell (p := ⟨z, 2, none⟩) hz4.out).trans (Lib.cell_of_heap HK4.out 2))
                  have e1 : (0 : Int) ≤ j := by omega
                  have e2 : (j : Int) < nI := by omega
                  have e10 : (j : Int) < 10 := by omega
                  have w1 : IntKind.i64.wrap ((j : Int) + 1) = (j : Int) + 1 := IntWalk.i64_in _ (by omega)
                  have q1 := HQN.out wr HBwr.out
                  clear hx hFa qn4 hM
                  obtain ⟨wg, HAwg⟩ := name_itV (wr.alloc (.cells #[.string a, .string b] 9))
                  have HBwg := Lib.hid (show Below w4.heap.size w4 wg from HBwr.out.trans (by rw [← HAwg.out]; exact (Below.refl w4.heap.size wr).alloc (HBwr.out.size) _))
                  have HKwg := Lib.hid (show wg.heap[wr.heap.size]? = some (.cells #[.string a, .string b] 9 (0, 0)) from by rw [← HAwg.out]; exact heap_alloc_new wr _)
                  have HCwg := Lib.hid (HHOPS.out wg HBwg.out id HVI.out [a, b] (some ⟨wr.heap.size, 0, none⟩) 2 2 (by decide) (rd_two HKwg.out (blk_lt HKwg.out)))
                  go_upto_region 23 with fail
                  go_wp2_with fail
                  rw [HAwg.out]
                  refine HCwg.out.mono ?_
                  rintro e wh ⟨AU, cU, rfl, hb, hr⟩
                  obtain ⟨nU, HnU⟩ := name_itV (hopIds g'.edges [a, b] (hopsG g'.edges id 0)).length
                  rw [HnU.out] at hr ⊢
                  have HBwh := Lib.hid (HBwg.out.trans (hb.mono HBwg.out.size))
                  have HBBwh := Lib.hid (show Below wr.heap.size wr wh from (show Below wr.heap.size wr wg from by rw [← HAwg.out]; exact (Below.refl _ _).alloc (Nat.le_refl _) _).trans (hb.mono (by have := blk_lt HKwg.out; omega)))
                  have HRU := Lib.hid (hr.mono IxR.good (F' := fun b => b < wh.heap.size) (fun b hb => hb.2))
                  clear hb hr
                  have c2h := HCZ.out wh HBwh.out
                  have q1h := HQN.out wh HBwh.out
                  obtain ⟨wi, HAwi⟩ := name_itV (wh.alloc (.cells #[.string a] 9))
                  have HBwi := Lib.hid (show Below w4.heap.size w4 wi from HBwh.out.trans (by rw [← HAwi.out]; exact (Below.refl w4.heap.size wh).alloc (HBwh.out.size) _))
                  have HKwi := Lib.hid (show wi.heap[wh.heap.size]? = some (.cells #[.string a] 9 (0, 0)) from by rw [← HAwi.out]; exact heap_alloc_new wh _)
                  have HCwi := Lib.hid (HHOPS.out wi HBwi.out id HVI.out [a] (some ⟨wh.heap.size, 0, none⟩) 1 1 (by decide) (rd_one HKwi.out (blk_lt HKwi.out) rfl rfl))
                  clear c2 q1
                  go_upto_region 24 with fail
                  go_wp2_with fail
                  rw [HAwi.out]
                  refine HCwi.out.mono ?_
                  rintro e wj ⟨AVx, cVx, rfl, hb, hr⟩
                  obtain ⟨nVx, HnVx⟩ := name_itV (hopIds g'.edges [a] (hopsG g'.edges id 0)).length
                  rw [HnVx.out] at hr ⊢
                  have HBwj := Lib.hid (HBwi.out.trans (hb.mono HBwi.out.size))
                  have HBBwj := Lib.hid (show Below wh.heap.size wh wj from (show Below wh.heap.size wh wi from by rw [← HAwi.out]; exact (Below.refl _ _).alloc (Nat.le_refl _) _).trans (hb.mono (by have := blk_lt HKwi.out; omega)))
                  have HRVx := Lib.hid (hr.mono IxR.good (F' := fun b => b < wj.heap.size) (fun b hb => hb.2))
                  clear hb hr
                  have c2j := HCZ.out wj HBwj.out
                  have q1j := HQN.out wj HBwj.out
                  obtain ⟨wk, HAwk⟩ := name_itV (wj.alloc (.cells #[.string b] 9))
                  have HBwk := Lib.hid (show Below w4.heap.size w4 wk from HBwj.out.trans (by rw [← HAwk.out]; exact (Below.refl w4.heap.size wj).alloc (HBwj.out.size) _))
                  have HKwk := Lib.hid (show wk.heap[wj.heap.size]? = some (.cells #[.string b] 9 (0, 0)) from by rw [← HAwk.out]; exact heap_alloc_new wj _)
                  have HCwk := Lib.hid (HHOPS.out wk HBwk.out id HVI.out [b] (some ⟨wj.heap.size, 0, none⟩) 1 1 (by decide) (rd_one HKwk.out (blk_lt HKwk.out) rfl rfl))
                  clear c2h q1h
                  go_upto_region 25 with fail
                  go_wp2_with fail
                  rw [HAwk.out]
                  refine HCwk.out.mono ?_
                  rintro e wl ⟨AX, cX, rfl, hb, hr⟩
                  obtain ⟨nX, HnX⟩ := name_itV (hopIds g'.edges [b] (hopsG g'.edges id 0)).length
                  rw [HnX.out] at hr ⊢
                  have HBwl := Lib.hid (HBwk.out.trans (hb.mono HBwk.out.size))
                  have HBBwl := Lib.hid (show Below wj.heap.size wj wl from (show Below wj.heap.size wj wk from by rw [← HAwk.out]; exact (Below.refl _ _).alloc (Nat.le_refl _) _).trans (hb.mono (by have := blk_lt HKwk.out; omega)))
                  have HRX := Lib.hid (hr.mono IxR.good (F' := fun b => b < wl.heap.size) (fun b hb => hb.2))
                  clear hb hr
                  have hnU : nU ≤ 2000000 := by rw [← HnU.out]; exact Nat.le_trans (hopIds_len ..) HLENE.out
                  have hnVx : nVx ≤ 2000000 := by rw [← HnVx.out]; exact Nat.le_trans (hopIds_len ..) HLENE.out
                  have hnX : nX ≤ 2000000 := by rw [← HnX.out]; exact Nat.le_trans (hopIds_len ..) HLENE.out
                  have HUU := Lib.hid ((HRU.out.under IxR.good (HBBwj.out) (fun b hb => hb)).under IxR.good (HBBwl.out.mono HBBwj.out.size) (fun b hb => hb))
                  have HVV := Lib.hid (HRVx.out.under IxR.good HBBwl.out (fun b hb => hb))
                  have HXX := Lib.hid HRX.out
                  have HOR := Lib.hid (fun (y : Int) (hy : y ∈ hopIds g'.edges [a, b] (hopsG g'.edges id 0)) => hops_or hy)
                  have HSUM := Lib.hid (fun (hab : a ≠ b) => hops_sum (es := g'.edges) hab (hopsG g'.edges id 0))
                  obtain ⟨LU, HLU⟩ := name_itV (hopIds g'.edges [a, b] (hopsG g'.edges id 0))
                  obtain ⟨LV, HLV⟩ := name_itV (hopIds g'.edges [a] (hopsG g'.edges id 0))
                  obtain ⟨LX, HLX⟩ := name_itV (hopIds g'.edges [b] (hopsG g'.edges id 0))
                  rw [HLU.out] at HnU HUU HOR HSUM
                  rw [HLV.out] at HnVx HVV HOR HSUM
                  rw [HLX.out] at HnX HXX HOR HSUM
                  rw [HnU.out, HnVx.out, HnX.out] at HSUM
                  clear c2j q1j
                  go_upto_region 26 with fail
                  go_wp2_with fail
                  go_loopw [16] (fun s16 wx => ∃ i : Nat, i ≤ nU ∧ s16 = .int .i64 (i : Nat) ∧ wx = wl) (fun s16 _ => nU - (intOf s16).toNat)
                  case atStart => exact ⟨0, by omega, rfl, rfl⟩
                  case round =>
                    obtain ⟨i, hi, rfl, hw⟩ := hrel
                    subst hw
                    by_cases hli : i < nU
                    · obtain ⟨y, hy⟩ : ∃ y, LU[i]? = some y := ⟨LU[i]'(by rw [HnU.out]; exact hli), List.getElem?_eq_getElem _⟩
                      have hor := HOR.out y (List.mem_of_getElem? hy)
                      obtain ⟨au, hAu, _, q0⟩ := intAt HUU.out hy
                      have hAU := hAu
                      subst hAU
                      have hcv := Lib.hid (has_any LV y _ AVx nVx cVx _ HVV.out (by omega))
                      have hcx := Lib.hid (has_any LX y _ AX nX cX _ HXX.out (by omega))
                      obtain ⟨rv, HRv⟩ := name_itV (inB LV y)
                      obtain ⟨rx, HRx⟩ := name_itV (inB LX y)
                      rw [HRv.out] at hcv
                      rw [HRx.out] at hcx
                      have HRR := Lib.hid (show rv = false → rx = true from fun h => by
                        rcases hor with h1 | h1
                        · rw [inB_yes h1] at HRv; rw [← HRv.out] at h; cases h
                        · rw [← HRx.out]; exact inB_yes h1)
                      have e1' : (0 : Int) ≤ i := by omega
                      have e2' : (i : Int) < nU := by omega
                      have w1' : IntKind.i64.wrap ((i : Int) + 1) = (i : Int) + 1 := IntWalk.i64_in _ (by omega)
                      clear hy hor hAu
                      go_wp2_with fail
                      refine hcv.out.mono ?_
                      rintro e wz ⟨rfl, rfl⟩
                      cases rv with
                      | true =>
                        go_wp2_with fail
                        go_roundw
                        case rel => exact ⟨i + 1, by omega, by go_num, by first | trivial | rfl⟩
                        case measure => simp [intOf]; omega
                      | false =>
                        have hrx := HRR.out rfl
                        subst hrx
                        go_wp2_with fail
                        refine hcx.out.mono ?_
                        rintro e wy ⟨rfl, rfl⟩
                        go_wp2_with fail
                        go_roundw
                        case rel => exact ⟨i + 1, by omega, by go_num, by first | trivial | rfl⟩
                        case measure => simp [intOf]; omega
                    · have hke2 : nU = i := by omega
                      by_cases hab : a = b
                      · subst hab
                        have u1 : (a.toList != a.toList) = false := bne_self_eq_false _
                        go_wp2_with fail
                        go_roundw
                        case rel => exact ⟨j + 1, by omega, by go_num, HBwl⟩
                        case measure => simp [intOf]; omega
                      · have hs := HSUM.out hab
                        have u1 := strV_ne hab
                        have u2 : (a.toList != b.toList) = true := by simp [bne, u1]
                        have u3 : ((nU : Int) != (nVx : Int) + nX) = false := by rw [hs]; push_cast; exact bne_self_eq_false _
                        have w3 : IntKind.i64.wrap ((nVx : Int) + nX) = (nVx : Int) + nX := IntWalk.i64_in _ (by omega)
                        clear hab hs
                        go_wp2_with fail
                        go_roundw
                        case rel => exact ⟨j + 1, by omega, by go_num, HBwl⟩
                        case measure => simp [intOf]; omega
                · have e1 : (j : Int) < nI := by omega
                  have e10 : decide ((j : Int) < 10) = false := decide_eq_false (by omega)
                  have HBr := Lib.hid (show Below w.heap.size w wr from HB4.out.trans (hM.out.mono HB4.out.size))
                  clear hM
                  go_wp2_with fail
                  refine (wakes_any wr (glob_under HG.out HBr.out)).mono ?_
                  rintro e w3 ⟨rfl, hb3⟩
                  have HB3 := Lib.hid (HBr.out.trans (hb3.mono HBr.out.size))
                  clear hb3
                  go_wp2_with fail
                  go_ret
                  exact ⟨rfl, HB3.out⟩
              · have hke : nI = j := by omega
                subst hke
                have HBr := Lib.hid (show Below w.heap.size w wr from HB4.out.trans (hM.out.mono HB4.out.size))
                clear hM
                go_wp2_with fail
                refine (wakes_any wr (glob_under HG.out HBr.out)).mono ?_
                rintro e w3 ⟨rfl, hb3⟩
                have HB3 := Lib.hid (HBr.out.trans (hb3.mono HBr.out.size))
                clear hb3
                go_wp2_with fail
                go_ret
                exact ⟨rfl, HB3.out⟩
end Go.Proofs.YtmhjbicbdahllaaGreatDoor

namespace Go.Proofs.YtmhjbicbdahllaaGreatDoor
open Go Go.ChangeShapes Go.WideShapes Go.ChangeAt Go.RowKit Go.Joins

mutual
/-- Are a value's numbers whole numbers of 64 bits? -/
def i64V : Val → Prop
  | .mk _ _ n _ _ l => (-9223372036854775808 ≤ n ∧ n ≤ 9223372036854775807) ∧ i64L l
def i64L : List Val → Prop
  | [] => True
  | v :: r => i64V v ∧ i64L r
end
theorem cellAdd (a : Addr) (i j : Nat) : (a.add i).add j = a.add (i + j) := Go.Deep.add_add a i j

/-- A struct of six fields of one cell each. -/
theorem trod_six {H : Type} {enc : TypeId × Value → H} {P : Program} {w : World} {base : Nat} {spare : Nat → Bool} {held : Bool} {t : TypeId} {f0 f1 f2 f3 f4 f5 : Field} {fuel : Nat} {cs : List Value} {x : DataW H × List MemPlace} (ht : P.underlying t = some (.struct #[f0, f1, f2, f3, f4, f5])) (ce : P.cellsOf t = 6)
    (o0 : f0.offset = 0) (o1 : f1.offset = 1) (o2 : f2.offset = 2) (o3 : f3.offset = 3) (o4 : f4.offset = 4) (o5 : f5.offset = 5) (c0 : P.cellsOf f0.type = 1) (c1 : P.cellsOf f1.type = 1) (c2 : P.cellsOf f2.type = 1) (c3 : P.cellsOf f3.type = 1) (c4 : P.cellsOf f4.type = 1) (c5 : P.cellsOf f5.type = 1)
    (h : DataW.trod enc P w base spare held fuel t cs = some x) :
    ∃ (v0 v1 v2 v3 v4 v5 : Value) (y0 y1 y2 y3 y4 y5 : DataW H × List MemPlace) (k : Nat), cs = [v0, v1, v2, v3, v4, v5] ∧ x.1 = .agg [y0.1, y1.1, y2.1, y3.1, y4.1, y5.1] ∧ DataW.trod enc P w base spare held k f0.type [v0] = some y0 ∧ DataW.trod enc P w base spare held k f1.type [v1] = some y1 ∧ DataW.trod enc P w base spare held k f2.type [v2] = some y2 ∧ DataW.trod enc P w base spare held k f3.type [v3] = some y3 ∧ DataW.trod enc P w base spare held k f4.type [v4] = some y4 ∧ DataW.trod enc P w base spare held k f5.type [v5] = some y5 := by
  obtain ⟨xs, k, hk, hxy, hcl, hxl, hf⟩ := DataW.trod_struct ht h
  rw [ce] at hcl
  match xs, hxl, cs, hcl with
  | [y0, y1, y2, y3, y4, y5], _, [v0, v1, v2, v3, v4, v5], _ =>
    have g0 := hf 0 f0 rfl
    have g1 := hf 1 f1 rfl
    have g2 := hf 2 f2 rfl
    have g3 := hf 3 f3 rfl
    have g4 := hf 4 f4 rfl
    have g5 := hf 5 f5 rfl
    simp [o0, o1, o2, o3, o4, o5, c0, c1, c2, c3, c4, c5] at g0 g1 g2 g3 g4 g5
    exact ⟨v0, v1, v2, v3, v4, v5, y0, y1, y2, y3, y4, y5, k, rfl, by rw [hxy]; rfl, g0, g1, g2, g3, g4, g5⟩

set_option maxRecDepth 100000 in
/-- What six cells read as a value, where shorter slices of values read as lists. -/
theorem val_cells {H : Type} {enc : TypeId × Value → H} {W : World} {N : Nat} {held : Bool} {n : Nat} {cs : List Value} {d : DataW H} {p : List MemPlace}
    (ih : ∀ {fuel : Nat} {v : Value} {d : DataW H} {p : List MemPlace}, Rows.uptoBulk d ≤ N → DataW.trod enc Tryz.prog W 0 (fun _ => true) held fuel 43 [v] = some (d, p) →
      ∃ A n cap l, v = .slice A n cap ∧ n ≤ cap ∧ LRd W (fun g => g < W.heap.size) l A n ∧ i64L l ∧ sizeL l < Rows.uptoBulk d)
    (hN : Rows.uptoBulk d ≤ N + 1) (h : DataW.trod enc Tryz.prog W 0 (fun _ => true) held n 55 cs = some (d, p)) :
    ∃ x, cs.toArray.size = 6 ∧ VRd W (fun g => g < W.heap.size) x (.agg cs.toArray) ∧ i64V x ∧ sizeV x ≤ Rows.uptoBulk d := by
  obtain ⟨v0, v1, v2, v3, v4, v5, y0, y1, y2, y3, y4, y5, k, rfl, hxy, g0, g1, g2, g3, g4, g5⟩ := trod_six Tryz.underlying55 (by kernel_rfl) rfl rfl rfl rfl rfl rfl (by kernel_rfl) (by kernel_rfl) (by kernel_rfl) (by kernel_rfl) (by kernel_rfl) (by kernel_rfl) h
  obtain ⟨k0, e0, d0, w0⟩ := DataW.trod_int (by kernel_rfl : Tryz.prog.underlying 3 = some (.int .i64)) g0
  obtain ⟨k1, e1, d1⟩ := DataW.trod_bool (by kernel_rfl : Tryz.prog.underlying 4 = some .bool) g1
  obtain ⟨k2, e2, d2, w2⟩ := DataW.trod_int (by kernel_rfl : Tryz.prog.underlying 2 = some (.int .i64)) g2
  obtain ⟨k3, e3, d3, w3⟩ := DataW.trod_string (by kernel_rfl : Tryz.prog.underlying 9 = some .string) g3
  obtain ⟨k4, e4, d4, w4⟩ := DataW.trod_string (by kernel_rfl : Tryz.prog.underlying 9 = some .string) g4
  injection e0 with e0 _
  injection e1 with e1 _
  injection e2 with e2 _
  injection e3 with e3 _
  injection e4 with e4 _
  subst e0 e1 e2 e3 e4 d0 d1 d2 d3 d4
  obtain ⟨y5, p5⟩ := y5
  simp only at hxy
  subst hxy
  have hbulk : 6 + k3.size + k4.size + Rows.uptoBulk y5 ≤ Rows.uptoBulk (DataW.agg [.lit (.int .i64 k0), .lit (.bool k1), .lit (.int .i64 k2), .lit (.string k3.data.toList), .lit (.string k4.data.toList), y5]) := by
    have z3 : k3.data.toList.length = k3.size := by rw [Array.length_toList]; rfl
    have z4 : k4.data.toList.length = k4.size := by rw [Array.length_toList]; rfl
    simp only [Rows.uptoBulk, Rows.uptoBulkAll]
    omega
  obtain ⟨A, m, cap, l, e5, hcap, hl, h64, hsz⟩ := ih (by omega) g5
  subst e5
  have hm : m = l.length := hl.1
  subst hm
  have h2 : -9223372036854775808 ≤ k2 ∧ k2 ≤ 9223372036854775807 := by simpa [Lit.wf, IntKind.min, IntKind.max, IntKind.signed, IntKind.bits] using w2
  refine ⟨.mk k0 k1 k2 k3 k4 l, rfl, VRd.of_list (v := .mk k0 k1 k2 k3 k4 l) hcap hl, ⟨h2, h64⟩, ?_⟩
  simp only [sizeV]
  omega

set_option maxRecDepth 100000 in
/-- What a slice of values reads as. -/
theorem vals_open {H : Type} {enc : TypeId × Value → H} {W : World} {held : Bool} (N : Nat) : ∀ {fuel : Nat} {v : Value} {d : DataW H} {p : List MemPlace}, Rows.uptoBulk d ≤ N → DataW.trod enc Tryz.prog W 0 (fun _ => true) held fuel 43 [v] = some (d, p) →
      ∃ A n cap l, v = .slice A n cap ∧ n ≤ cap ∧ LRd W (fun g => g < W.heap.size) l A n ∧ i64L l ∧ sizeL l < Rows.uptoBulk d := by
  induction N with
  | zero => intro fuel v d p hN; have := bulks.one_le d; omega
  | succ N ih =>
    intro fuel v d p hN h
    rcases Go.Deep.open_slice Tryz.underlying43 h with ⟨h3, hd⟩ | ⟨a, len, cap, m, n, D, Pl, h3, _, hlc, hcm, hm, hd, hel⟩
    · injection h3 with h3 _
      subst h3
      exact ⟨none, 0, 0, [], rfl, Nat.le_refl _, LRd.nil 0 rfl, trivial, by simp only [sizeL]; exact bulks.one_le d⟩
    · injection h3 with h3 _
      subst h3
      have hml : len ≤ m := by rw [hm]; split <;> omega
      injection hd with hd _
      subst hd
      have hb := bulks.slice_elems ((List.range len).map D) ((List.range (m - len)).map fun j => D (len + j))
      have hDi : ∀ i, i < len → Rows.uptoBulk (D i) ≤ N := fun i hi => by
        have := bulks.part_le (List.mem_map.2 ⟨i, List.mem_range.2 hi, rfl⟩ : D i ∈ (List.range len).map D)
        omega
      have each : ∀ i, i < len → ∃ q : Val × Array Value, q.2.size = 6 ∧ (∀ j, j < 6 → W.cell? (a.add (i * 6 + j)) = q.2[j]?) ∧ VRd W (fun g => g < W.heap.size) q.1 (.agg q.2) ∧ i64V q.1 ∧ sizeV q.1 ≤ Rows.uptoBulk (D i) := fun i hi => by
        obtain ⟨cs', c1, c2⟩ := hel i (by omega)
        rw [show Tryz.prog.cellsOf 55 = 6 by kernel_rfl] at c1
        obtain ⟨_, hlen, hcell⟩ := World.cells?_some c1
        obtain ⟨x, x1, x2, x3, x4⟩ := val_cells (fun hN h => ih hN h) (Nat.le_succ_of_le (hDi i hi)) c2
        exact ⟨(x, cs'.toArray), x1, fun j hj => by rw [← cellAdd, hcell j hj]; simp, x2, x3, x4⟩
      have hex : ∃ q : Nat → Val × Array Value, ∀ i, i < len → (q i).2.size = 6 ∧ (∀ j, j < 6 → W.cell? (a.add (i * 6 + j)) = (q i).2[j]?) ∧ VRd W (fun g => g < W.heap.size) (q i).1 (.agg (q i).2) ∧ i64V (q i).1 ∧ sizeV (q i).1 ≤ Rows.uptoBulk (D i) := by
        classical
        exact ⟨fun i => if hi : i < len then Classical.choose (each i hi) else (.mk 0 false 0 ⟨#[]⟩ ⟨#[]⟩ [], #[]), fun i hi => by simp only [dif_pos hi]; exact Classical.choose_spec (each i hi)⟩
      obtain ⟨q, hq⟩ := hex
      refine ⟨some a, len, cap, (List.range len).map fun i => (q i).1, rfl, hlc, ⟨by simp, fun hn => ⟨a, rfl, ?_, fun i x hx => ?_⟩⟩, ?_, ?_⟩
      · obtain ⟨cs', c1, _⟩ := hel 0 (by omega)
        rw [show Tryz.prog.cellsOf 55 = 6 by kernel_rfl] at c1
        obtain ⟨_, hlen, hcell⟩ := World.cells?_some c1
        have h0 := hcell 0 (by omega)
        rw [List.getElem?_eq_getElem (by omega)] at h0
        have := World.block_lt_of_cell? W _ h0
        simpa [Addr.add] using this
      · rw [List.getElem?_map] at hx
        have hil : i < len := by
          rcases Nat.lt_or_ge i len with h' | h'
          · exact h'
          · rw [List.getElem?_eq_none (by simpa using h')] at hx; cases hx
        rw [List.getElem?_range hil] at hx
        injection hx with hx
        subst hx
        obtain ⟨q1, q2, q3, _⟩ := hq i hil
        exact ⟨_, q1, q2, q3⟩
      · have : ∀ L : List Nat, (∀ i, i ∈ L → i < len) → i64L (L.map fun i => (q i).1) := fun L => by
          induction L with
          | nil => intro _; trivial
          | cons x r ihl => intro hL; exact ⟨(hq x (hL x (List.mem_cons_self ..))).2.2.2.1, ihl fun i hi => hL i (List.mem_cons_of_mem _ hi)⟩
        exact this _ fun i hi => List.mem_range.1 hi
      · have : ∀ L : List Nat, (∀ i, i ∈ L → i < len) → sizeL (L.map fun i => (q i).1) ≤ Rows.uptoBulkAll (L.map D) := fun L => by
          induction L with
          | nil => intro _; simp [sizeL]
          | cons x r ihl =>
            intro hL
            have h1 := (hq x (hL x (List.mem_cons_self ..))).2.2.2.2
            have h2 := ihl fun i hi => hL i (List.mem_cons_of_mem _ hi)
            simp only [List.map_cons, sizeL, Rows.uptoBulkAll]
            omega
        have := this (List.range len) fun i hi => List.mem_range.1 hi
        omega

theorem trod_seven {H : Type} {enc : TypeId × Value → H} {P : Program} {w : World} {base : Nat} {spare : Nat → Bool} {held : Bool} {t : TypeId} {f0 f1 : Field} {fuel : Nat} {cs : List Value} {x : DataW H × List MemPlace} (ht : P.underlying t = some (.struct #[f0, f1])) (ce : P.cellsOf t = 7)
    (o0 : f0.offset = 0) (o1 : f1.offset = 1) (c0 : P.cellsOf f0.type = 1) (c1 : P.cellsOf f1.type = 6)
    (h : DataW.trod enc P w base spare held fuel t cs = some x) :
    ∃ (v0 v1 v2 v3 v4 v5 v6 : Value) (y0 y1 : DataW H × List MemPlace) (k : Nat), cs = [v0, v1, v2, v3, v4, v5, v6] ∧ x.1 = .agg [y0.1, y1.1] ∧ DataW.trod enc P w base spare held k f0.type [v0] = some y0 ∧ DataW.trod enc P w base spare held k f1.type [v1, v2, v3, v4, v5, v6] = some y1 := by
  obtain ⟨xs, k, hk, hxy, hcl, hxl, hf⟩ := DataW.trod_struct ht h
  rw [ce] at hcl
  match xs, hxl, cs, hcl with
  | [y0, y1], _, [v0, v1, v2, v3, v4, v5, v6], _ =>
    have g0 := hf 0 f0 rfl
    have g1 := hf 1 f1 rfl
    simp [o0, o1, c0, c1] at g0 g1
    exact ⟨v0, v1, v2, v3, v4, v5, v6, y0, y1, k, rfl, by rw [hxy]; rfl, g0, g1⟩
theorem trod_three {H : Type} {enc : TypeId × Value → H} {P : Program} {w : World} {base : Nat} {spare : Nat → Bool} {held : Bool} {t : TypeId} {f0 f1 f2 : Field} {fuel : Nat} {cs : List Value} {x : DataW H × List MemPlace} (ht : P.underlying t = some (.struct #[f0, f1, f2])) (ce : P.cellsOf t = 3)
    (o0 : f0.offset = 0) (o1 : f1.offset = 1) (o2 : f2.offset = 2) (c0 : P.cellsOf f0.type = 1) (c1 : P.cellsOf f1.type = 1) (c2 : P.cellsOf f2.type = 1)
    (h : DataW.trod enc P w base spare held fuel t cs = some x) :
    ∃ (v0 v1 v2 : Value) (y0 y1 y2 : DataW H × List MemPlace) (k : Nat), cs = [v0, v1, v2] ∧ x.1 = .agg [y0.1, y1.1, y2.1] ∧ DataW.trod enc P w base spare held k f0.type [v0] = some y0 ∧ DataW.trod enc P w base spare held k f1.type [v1] = some y1 ∧ DataW.trod enc P w base spare held k f2.type [v2] = some y2 := by
  obtain ⟨xs, k, hk, hxy, hcl, hxl, hf⟩ := DataW.trod_struct ht h
  rw [ce] at hcl
  match xs, hxl, cs, hcl with
  | [y0, y1, y2], _, [v0, v1, v2], _ =>
    have g0 := hf 0 f0 rfl
    have g1 := hf 1 f1 rfl
    have g2 := hf 2 f2 rfl
    simp [o0, o1, o2, c0, c1, c2] at g0 g1 g2
    exact ⟨v0, v1, v2, y0, y1, y2, k, rfl, by rw [hxy]; rfl, g0, g1, g2⟩
theorem trod_five {H : Type} {enc : TypeId × Value → H} {P : Program} {w : World} {base : Nat} {spare : Nat → Bool} {held : Bool} {t : TypeId} {f0 f1 f2 f3 f4 : Field} {fuel : Nat} {cs : List Value} {x : DataW H × List MemPlace} (ht : P.underlying t = some (.struct #[f0, f1, f2, f3, f4])) (ce : P.cellsOf t = 5)
    (o0 : f0.offset = 0) (o1 : f1.offset = 1) (o2 : f2.offset = 2) (o3 : f3.offset = 3) (o4 : f4.offset = 4) (c0 : P.cellsOf f0.type = 1) (c1 : P.cellsOf f1.type = 1) (c2 : P.cellsOf f2.type = 1) (c3 : P.cellsOf f3.type = 1) (c4 : P.cellsOf f4.type = 1)
    (h : DataW.trod enc P w base spare held fuel t cs = some x) :
    ∃ (v0 v1 v2 v3 v4 : Value) (y0 y1 y2 y3 y4 : DataW H × List MemPlace) (k : Nat), cs = [v0, v1, v2, v3, v4] ∧ x.1 = .agg [y0.1, y1.1, y2.1, y3.1, y4.1] ∧ DataW.trod enc P w base spare held k f0.type [v0] = some y0 ∧ DataW.trod enc P w base spare held k f1.type [v1] = some y1 ∧ DataW.trod enc P w base spare held k f2.type [v2] = some y2 ∧ DataW.trod enc P w base spare held k f3.type [v3] = some y3 ∧ DataW.trod enc P w base spare held k f4.type [v4] = some y4 := by
  obtain ⟨xs, k, hk, hxy, hcl, hxl, hf⟩ := DataW.trod_struct ht h
  rw [ce] at hcl
  match xs, hxl, cs, hcl with
  | [y0, y1, y2, y3, y4], _, [v0, v1, v2, v3, v4], _ =>
    have g0 := hf 0 f0 rfl
    have g1 := hf 1 f1 rfl
    have g2 := hf 2 f2 rfl
    have g3 := hf 3 f3 rfl
    have g4 := hf 4 f4 rfl
    simp [o0, o1, o2, o3, o4, c0, c1, c2, c3, c4] at g0 g1 g2 g3 g4
    exact ⟨v0, v1, v2, v3, v4, y0, y1, y2, y3, y4, k, rfl, by rw [hxy]; rfl, g0, g1, g2, g3, g4⟩

set_option maxRecDepth 100000 in
/-- What a slice reads as, where its elements read. -/
theorem slice_of {α : Type} [Inhabited α] {H : Type} {enc : TypeId × Value → H} {W : World} {held : Bool} {R : Lies α} {sz N : Nat} {T E : TypeId} {Q : α → Prop} {wt : α → Nat} (hT : Tryz.prog.underlying T = some (.slice E)) (hE : Tryz.prog.cellsOf E = sz) (hsz : 0 < sz)
    (each : ∀ {fuel : Nat} {cs : List Value} {d : DataW H} {p : List MemPlace}, Rows.uptoBulk d ≤ N → DataW.trod enc Tryz.prog W 0 (fun _ => true) held fuel E cs = some (d, p) → ∃ x : α, cs.toArray.size = sz ∧ R W (fun g => g < W.heap.size) x cs.toArray ∧ Q x ∧ wt x ≤ Rows.uptoBulk d)
    {fuel : Nat} {v : Value} {d : DataW H} {p : List MemPlace} (hN : Rows.uptoBulk d ≤ N) (h : DataW.trod enc Tryz.prog W 0 (fun _ => true) held fuel T [v] = some (d, p)) :
    ∃ l : List α, SlR sz R W (fun g => g < W.heap.size) l v ∧ (∀ x, x ∈ l → Q x) ∧ sumBy wt l < Rows.uptoBulk d ∧ l.length < Rows.uptoBulk d := by
  rcases Go.Deep.open_slice hT h with ⟨h3, hd⟩ | ⟨a, len, cap, m, n, D, Pl, h3, _, hlc, hcm, hm, hd, hel⟩
  · injection h3 with h3 _
    subst h3
    have h1 := bulks.one_le d
    exact ⟨[], SlR.nil .., fun x hx => (List.not_mem_nil hx).elim, by show 0 < _; omega, by show 0 < _; omega⟩
  · injection h3 with h3 _
    subst h3
    have hml : len ≤ m := by rw [hm]; split <;> omega
    injection hd with hd _
    subst hd
    have hb := bulks.slice_elems ((List.range len).map D) ((List.range (m - len)).map fun j => D (len + j))
    have hb2 := bulks.slice_le ((List.range len).map D) ((List.range (m - len)).map fun j => D (len + j))
    have hDi : ∀ i, i < len → Rows.uptoBulk (D i) ≤ N := fun i hi => by
      have := bulks.part_le (List.mem_map.2 ⟨i, List.mem_range.2 hi, rfl⟩ : D i ∈ (List.range len).map D)
      omega
    have ev : ∀ i, i < len → ∃ q : α × Array Value, q.2.size = sz ∧ (∀ j, j < sz → W.cell? (a.add (i * sz + j)) = q.2[j]?) ∧ R W (fun g => g < W.heap.size) q.1 q.2 ∧ Q q.1 ∧ wt q.1 ≤ Rows.uptoBulk (D i) := fun i hi => by
      obtain ⟨cs', c1, c2⟩ := hel i (by omega)
      rw [hE] at c1
      obtain ⟨_, hlen, hcell⟩ := World.cells?_some c1
      obtain ⟨x, x1, x2, x3, x4⟩ := each (hDi i hi) c2
      exact ⟨(x, cs'.toArray), x1, fun j hj => by rw [← cellAdd, hcell j hj]; simp, x2, x3, x4⟩
    have hex : ∃ q : Nat → α × Array Value, ∀ i, i < len → (q i).2.size = sz ∧ (∀ j, j < sz → W.cell? (a.add (i * sz + j)) = (q i).2[j]?) ∧ R W (fun g => g < W.heap.size) (q i).1 (q i).2 ∧ Q (q i).1 ∧ wt (q i).1 ≤ Rows.uptoBulk (D i) := by
      classical
      exact ⟨fun i => if hi : i < len then Classical.choose (ev i hi) else (default, #[]), fun i hi => by simp only [dif_pos hi]; exact Classical.choose_spec (ev i hi)⟩
    obtain ⟨q, hq⟩ := hex
    have hll : ((List.range len).map fun i => (q i).1).length = len := by simp
    refine ⟨(List.range len).map fun i => (q i).1, ⟨some a, cap, by rw [hll], by rw [hll]; exact hlc, rfl, fun hn => ⟨a, rfl, ?_, fun i x hx => ?_⟩⟩, ?_, ?_, ?_⟩
    · obtain ⟨cs', c1, _⟩ := hel 0 (by rw [hll] at hn; omega)
      rw [hE] at c1
      obtain ⟨_, hlen, hcell⟩ := World.cells?_some c1
      have h0 := hcell 0 hsz
      rw [List.getElem?_eq_getElem (by omega)] at h0
      have := World.block_lt_of_cell? W _ h0
      simpa [Addr.add] using this
    · rw [List.getElem?_map] at hx
      have hil : i < len := by
        rcases Nat.lt_or_ge i len with h' | h'
        · exact h'
        · rw [List.getElem?_eq_none (by simpa using h')] at hx; cases hx
      rw [List.getElem?_range hil] at hx
      injection hx with hx
      subst hx
      obtain ⟨q1, q2, q3, _⟩ := hq i hil
      exact ⟨_, q1, q2, q3⟩
    · intro x hx
      obtain ⟨i, hi, rfl⟩ := List.mem_map.1 hx
      exact (hq i (List.mem_range.1 hi)).2.2.2.1
    · have : ∀ L : List Nat, (∀ i, i ∈ L → i < len) → sumBy wt (L.map fun i => (q i).1) ≤ Rows.uptoBulkAll (L.map D) := fun L => by
        induction L with
        | nil => intro _; simp [sumBy]
        | cons x r ihl =>
          intro hL
          have h1 := (hq x (hL x (List.mem_cons_self ..))).2.2.2.2
          have h2 := ihl fun i hi => hL i (List.mem_cons_of_mem _ hi)
          simp only [sumBy, List.map_cons, List.sum_cons, Rows.uptoBulkAll] at h2 ⊢
          omega
      have := this (List.range len) fun i hi => List.mem_range.1 hi
      omega
    · rw [hll]
      have hh : ((List.range len).map D).length = len := by simp
      omega
instance : Inhabited Val := ⟨.mk 0 false 0 ⟨#[]⟩ ⟨#[]⟩ []⟩
instance : Inhabited PairD := ⟨⟨⟨#[]⟩, default⟩⟩
instance : Inhabited NodeD := ⟨⟨0, [], []⟩⟩
instance : Inhabited EdgeD := ⟨⟨0, 0, 0, ⟨#[]⟩, []⟩⟩
section
variable {H : Type} {enc : TypeId × Value → H} {W : World} {held : Bool} {fuel : Nat} {d : DataW H} {p : List MemPlace}
set_option maxRecDepth 100000 in
theorem text_el {cs : List Value} (hN : Rows.uptoBulk d ≤ 1048576) (h : DataW.trod enc Tryz.prog W 0 (fun _ => true) held fuel 9 cs = some (d, p)) :
    ∃ x : ByteArray, cs.toArray.size = 1 ∧ TxR W (fun g => g < W.heap.size) x cs.toArray ∧ x.size ≤ 2000000 ∧ (fun _ : ByteArray => 0) x ≤ Rows.uptoBulk d := by
  obtain ⟨s, rfl, e, _⟩ := DataW.trod_string (by kernel_rfl : Tryz.prog.underlying 9 = some .string) h
  injection e with e _
  subst e
  refine ⟨s, rfl, rfl, ?_, Nat.zero_le _⟩
  rw [bulks.string_eq, Array.length_toList] at hN
  have : s.size = s.data.size := rfl
  omega
theorem texts_of {v : Value} (hN : Rows.uptoBulk d ≤ 1048576) (h : DataW.trod enc Tryz.prog W 0 (fun _ => true) held fuel 35 [v] = some (d, p)) :
    ∃ l : List ByteArray, SlR 1 TxR W (fun g => g < W.heap.size) l v ∧ (∀ x, x ∈ l → x.size ≤ 2000000) ∧ sumBy (fun _ => 0) l < Rows.uptoBulk d ∧ l.length < Rows.uptoBulk d :=
  slice_of (Q := fun x : ByteArray => x.size ≤ 2000000) Tryz.underlying35 (by kernel_rfl) (by decide) (fun hN h => text_el hN h) hN h
set_option maxRecDepth 100000 in
theorem pair_el {cs : List Value} (hN : Rows.uptoBulk d ≤ 1048576) (h : DataW.trod enc Tryz.prog W 0 (fun _ => true) held fuel 57 cs = some (d, p)) :
    ∃ x : PairD, cs.toArray.size = 7 ∧ PaR W (fun g => g < W.heap.size) x cs.toArray ∧ FitP x ∧ (fun _ : PairD => 0) x ≤ Rows.uptoBulk d := by
  obtain ⟨v0, v1, v2, v3, v4, v5, v6, y0, y1, k, rfl, hxy, g0, g1⟩ := trod_seven Tryz.underlying57 (by kernel_rfl) rfl rfl (by kernel_rfl) (by kernel_rfl) h
  obtain ⟨s, e0, d0, _⟩ := DataW.trod_string (by kernel_rfl : Tryz.prog.underlying 9 = some .string) g0
  injection e0 with e0 _
  subst e0 d0
  obtain ⟨y1, p1⟩ := y1
  simp only at hxy
  subst hxy
  have hb : s.size + Rows.uptoBulk y1 ≤ Rows.uptoBulk (DataW.agg [.lit (.string s.data.toList), y1]) := by
    have z3 : s.data.toList.length = s.size := by rw [Array.length_toList]; rfl
    simp only [Rows.uptoBulk, Rows.uptoBulkAll]
    omega
  obtain ⟨x, x1, x2, _, x4⟩ := val_cells (N := 1048576) (fun hN h => vals_open 1048576 hN h) (by omega) g1
  obtain ⟨A, cap, hu, _, _⟩ := x2.inv
  injection hu with hu
  have hl := congrArg Array.toList hu
  unfold cellsV at hl
  simp only [List.cons.injEq, and_true] at hl
  obtain ⟨r1, r2, r3, r4, r5, r6⟩ := hl
  subst r1 r2 r3 r4 r5 r6
  refine ⟨⟨s, x⟩, rfl, ⟨_, rfl, x2⟩, ⟨?_, ?_⟩, Nat.zero_le _⟩
  · show s.size ≤ 2000000; omega
  · show sizeV x ≤ 2000000; omega
theorem pairs_of {v : Value} (hN : Rows.uptoBulk d ≤ 1048576) (h : DataW.trod enc Tryz.prog W 0 (fun _ => true) held fuel 36 [v] = some (d, p)) :
    ∃ l : List PairD, SlR 7 PaR W (fun g => g < W.heap.size) l v ∧ (∀ x, x ∈ l → FitP x) ∧ sumBy (fun _ => 0) l < Rows.uptoBulk d ∧ l.length < Rows.uptoBulk d :=
  slice_of (Q := FitP) Tryz.underlying36 (by kernel_rfl) (by decide) (fun hN h => pair_el hN h) hN h
set_option maxRecDepth 100000 in
theorem node_el {cs : List Value} (hN : Rows.uptoBulk d ≤ 1048576) (h : DataW.trod enc Tryz.prog W 0 (fun _ => true) held fuel 38 cs = some (d, p)) :
    ∃ x : NodeD, cs.toArray.size = 3 ∧ NoR W (fun g => g < W.heap.size) x cs.toArray ∧ (FitN x ∧ VI x.id) ∧ wN x ≤ Rows.uptoBulk d := by
  obtain ⟨v0, v1, v2, y0, y1, y2, k, rfl, hxy, g0, g1, g2⟩ := trod_three Tryz.underlying38 (by kernel_rfl) rfl rfl rfl (by kernel_rfl) (by kernel_rfl) (by kernel_rfl) h
  obtain ⟨i0, e0, d0, w0⟩ := DataW.trod_int (by kernel_rfl : Tryz.prog.underlying 2 = some (.int .i64)) g0
  injection e0 with e0 _
  subst e0 d0
  obtain ⟨y1, p1⟩ := y1
  obtain ⟨y2, p2⟩ := y2
  simp only at hxy
  subst hxy
  have hb : Rows.uptoBulk y1 + Rows.uptoBulk y2 ≤ Rows.uptoBulk (DataW.agg [.lit (.int .i64 i0), y1, y2]) := by
    simp only [Rows.uptoBulk, Rows.uptoBulkAll]
    omega
  obtain ⟨L, l1, l2, _, l4⟩ := texts_of (by omega) g1
  obtain ⟨P, q1, q2, _, q4⟩ := pairs_of (by omega) g2
  exact ⟨⟨i0, L, P⟩, rfl, ⟨_, _, rfl, l1, q1⟩, ⟨⟨by show L.length ≤ 2000000; omega, by show P.length ≤ 2000000; omega, l2, q2⟩, w0⟩, by show L.length + P.length ≤ _; omega⟩
set_option maxRecDepth 100000 in
theorem edge_el {cs : List Value} (hN : Rows.uptoBulk d ≤ 1048576) (h : DataW.trod enc Tryz.prog W 0 (fun _ => true) held fuel 41 cs = some (d, p)) :
    ∃ x : EdgeD, cs.toArray.size = 5 ∧ EdR W (fun g => g < W.heap.size) x cs.toArray ∧ (FitE x ∧ VI x.id ∧ VI x.src ∧ VI x.dst) ∧ wE x ≤ Rows.uptoBulk d := by
  obtain ⟨v0, v1, v2, v3, v4, y0, y1, y2, y3, y4, k, rfl, hxy, g0, g1, g2, g3, g4⟩ := trod_five Tryz.underlying41 (by kernel_rfl) rfl rfl rfl rfl rfl (by kernel_rfl) (by kernel_rfl) (by kernel_rfl) (by kernel_rfl) (by kernel_rfl) h
  obtain ⟨i0, e0, d0, w0⟩ := DataW.trod_int (by kernel_rfl : Tryz.prog.underlying 2 = some (.int .i64)) g0
  obtain ⟨i1, e1, d1, w1⟩ := DataW.trod_int (by kernel_rfl : Tryz.prog.underlying 2 = some (.int .i64)) g1
  obtain ⟨i2, e2, d2, w2⟩ := DataW.trod_int (by kernel_rfl : Tryz.prog.underlying 2 = some (.int .i64)) g2
  obtain ⟨s, e3, d3, _⟩ := DataW.trod_string (by kernel_rfl : Tryz.prog.underlying 9 = some .string) g3
  injection e0 with e0 _
  injection e1 with e1 _
  injection e2 with e2 _
  injection e3 with e3 _
  subst e0 d0 e1 d1 e2 d2 e3 d3
  obtain ⟨y4, p4⟩ := y4
  simp only at hxy
  subst hxy
  have hb : s.size + Rows.uptoBulk y4 ≤ Rows.uptoBulk (DataW.agg [.lit (.int .i64 i0), .lit (.int .i64 i1), .lit (.int .i64 i2), .lit (.string s.data.toList), y4]) := by
    have z3 : s.data.toList.length = s.size := by rw [Array.length_toList]; rfl
    simp only [Rows.uptoBulk, Rows.uptoBulkAll]
    omega
  obtain ⟨P, q1, q2, _, q4⟩ := pairs_of (by omega) g4
  exact ⟨⟨i0, i1, i2, s, P⟩, rfl, ⟨_, rfl, q1⟩, ⟨⟨by show s.size ≤ 2000000; omega, by show P.length ≤ 2000000; omega, q2⟩, w0, w1, w2⟩, by show P.length ≤ _; omega⟩
end
set_option maxRecDepth 100000 in
/-- What a graph reads as. -/
theorem graph_open {H : Type} {enc : TypeId × Value → H} {W : World} {base : Nat} {v : Value} {d : DataW H} {p : List MemPlace} (hk : Rows.uptoBulk d ≤ 1048576) (hv : Value.okWide Tryz.prog W .any base 25 v)
    (h : DataW.Trod enc Tryz.prog W 0 (fun _ => true) true 25 v d p) :
    ∃ g : GraphD, GrR W (fun b => b < W.heap.size) g v ∧ FitG g ∧ totalG g ≤ 1000000000 := by
  obtain ⟨v0, v1, y0, y1, m, rfl, rfl, rfl, h0, h1⟩ := open_agg2 Tryz.underlying25 (by kernel_rfl) (by kernel_rfl) hv h
  obtain ⟨y0, p0⟩ := y0
  obtain ⟨y1, p1⟩ := y1
  simp only [Rows.uptoBulk, Rows.uptoBulkAll] at hk
  obtain ⟨N, n1, n2, n3, n4⟩ := slice_of (Q := fun n => FitN n ∧ VI n.id) (wt := wN) Tryz.underlying22 (by kernel_rfl) (by decide) (fun hN h => node_el hN h) (by omega) h0
  obtain ⟨E, q1, q2, q3, q4⟩ := slice_of (Q := fun x => FitE x ∧ VI x.id ∧ VI x.src ∧ VI x.dst) (wt := wE) Tryz.underlying23 (by kernel_rfl) (by decide) (fun hN h => edge_el hN h) (by omega) h1
  refine ⟨⟨N, E⟩, ⟨_, _, rfl, n1, q1⟩, ⟨by show N.length ≤ 2000000; omega, by show E.length ≤ 2000000; omega, n2, q2⟩, ?_⟩
  show N.length + E.length + sumBy wN N + sumBy wE E ≤ 1000000000
  omega
end Go.Proofs.YtmhjbicbdahllaaGreatDoor

namespace Go.Proofs.YtmhjbicbdahllaaGreatDoor
open Go Go.ChangeShapes Go.WideShapes Go.ChangeAt Go.RowKit Go.Joins

theorem trod_twoC {H : Type} {enc : TypeId × Value → H} {P : Program} {w : World} {base : Nat} {spare : Nat → Bool} {held : Bool} {t : TypeId} {f0 f1 : Field} {fuel : Nat} {cs : List Value} {x : DataW H × List MemPlace} (ht : P.underlying t = some (.struct #[f0, f1])) (ce : P.cellsOf t = 2)
    (o0 : f0.offset = 0) (o1 : f1.offset = 1) (c0 : P.cellsOf f0.type = 1) (c1 : P.cellsOf f1.type = 1)
    (h : DataW.trod enc P w base spare held fuel t cs = some x) :
    ∃ (v0 v1 : Value) (y0 y1 : DataW H × List MemPlace) (k : Nat), cs = [v0, v1] ∧ x.1 = .agg [y0.1, y1.1] ∧ DataW.trod enc P w base spare held k f0.type [v0] = some y0 ∧ DataW.trod enc P w base spare held k f1.type [v1] = some y1 := by
  obtain ⟨xs, k, hk, hxy, hcl, hxl, hf⟩ := DataW.trod_struct ht h
  rw [ce] at hcl
  match xs, hxl, cs, hcl with
  | [y0, y1], _, [v0, v1], _ =>
    have g0 := hf 0 f0 rfl
    have g1 := hf 1 f1 rfl
    simp [o0, o1, c0, c1] at g0 g1
    exact ⟨v0, v1, y0, y1, k, rfl, by rw [hxy]; rfl, g0, g1⟩
theorem trod_askC {H : Type} {enc : TypeId × Value → H} {P : Program} {w : World} {base : Nat} {spare : Nat → Bool} {held : Bool} {t : TypeId} {f0 f1 f2 f3 f4 f5 : Field} {fuel : Nat} {cs : List Value} {x : DataW H × List MemPlace} (ht : P.underlying t = some (.struct #[f0, f1, f2, f3, f4, f5])) (ce : P.cellsOf t = 7)
    (o0 : f0.offset = 0) (o1 : f1.offset = 2) (o2 : f2.offset = 3) (o3 : f3.offset = 4) (o4 : f4.offset = 5) (o5 : f5.offset = 6) (c0 : P.cellsOf f0.type = 2) (c1 : P.cellsOf f1.type = 1) (c2 : P.cellsOf f2.type = 1) (c3 : P.cellsOf f3.type = 1) (c4 : P.cellsOf f4.type = 1) (c5 : P.cellsOf f5.type = 1)
    (h : DataW.trod enc P w base spare held fuel t cs = some x) :
    ∃ (v0 v1 v2 v3 v4 v5 v6 : Value) (y0 y1 y2 y3 y4 y5 : DataW H × List MemPlace) (k : Nat), cs = [v0, v1, v2, v3, v4, v5, v6] ∧ x.1 = .agg [y0.1, y1.1, y2.1, y3.1, y4.1, y5.1] ∧ DataW.trod enc P w base spare held k f0.type [v0, v1] = some y0 ∧ DataW.trod enc P w base spare held k f1.type [v2] = some y1 ∧ DataW.trod enc P w base spare held k f2.type [v3] = some y2 ∧ DataW.trod enc P w base spare held k f3.type [v4] = some y3 ∧ DataW.trod enc P w base spare held k f4.type [v5] = some y4 ∧ DataW.trod enc P w base spare held k f5.type [v6] = some y5 := by
  obtain ⟨xs, k, hk, hxy, hcl, hxl, hf⟩ := DataW.trod_struct ht h
  rw [ce] at hcl
  match xs, hxl, cs, hcl with
  | [y0, y1, y2, y3, y4, y5], _, [v0, v1, v2, v3, v4, v5, v6], _ =>
    have g0 := hf 0 f0 rfl
    have g1 := hf 1 f1 rfl
    have g2 := hf 2 f2 rfl
    have g3 := hf 3 f3 rfl
    have g4 := hf 4 f4 rfl
    have g5 := hf 5 f5 rfl
    simp [o0, o1, o2, o3, o4, o5, c0, c1, c2, c3, c4, c5] at g0 g1 g2 g3 g4 g5
    exact ⟨v0, v1, v2, v3, v4, v5, v6, y0, y1, y2, y3, y4, y5, k, rfl, by rw [hxy]; rfl, g0, g1, g2, g3, g4, g5⟩

section
variable {H : Type} {enc : TypeId × Value → H} {W : World} {held : Bool} {fuel : Nat} {d : DataW H} {p : List MemPlace}
set_option maxRecDepth 100000 in
theorem graph_el {cs : List Value} (hk : Rows.uptoBulk d ≤ 1048576) (h : DataW.trod enc Tryz.prog W 0 (fun _ => true) held fuel 25 cs = some (d, p)) :
    ∃ (v0 v1 : Value) (g : GraphD), cs = [v0, v1] ∧ GrR W (fun b => b < W.heap.size) g (.agg #[v0, v1]) ∧ FitG g ∧ totalG g ≤ 1000000000 := by
  obtain ⟨v0, v1, y0, y1, k, rfl, hxy, h0, h1⟩ := trod_twoC Tryz.underlying25 (by kernel_rfl) rfl rfl (by kernel_rfl) (by kernel_rfl) h
  obtain ⟨y0, p0⟩ := y0
  obtain ⟨y1, p1⟩ := y1
  simp only at hxy
  subst hxy
  simp only [Rows.uptoBulk, Rows.uptoBulkAll] at hk
  obtain ⟨N, n1, n2, n3, n4⟩ := slice_of (Q := fun n => FitN n ∧ VI n.id) (wt := wN) Tryz.underlying22 (by kernel_rfl) (by decide) (fun hN h => node_el hN h) (by omega) h0
  obtain ⟨E, q1, q2, q3, q4⟩ := slice_of (Q := fun x => FitE x ∧ VI x.id ∧ VI x.src ∧ VI x.dst) (wt := wE) Tryz.underlying23 (by kernel_rfl) (by decide) (fun hN h => edge_el hN h) (by omega) h1
  refine ⟨_, _, ⟨N, E⟩, rfl, ⟨_, _, rfl, n1, q1⟩, ⟨by show N.length ≤ 2000000; omega, by show E.length ≤ 2000000; omega, n2, q2⟩, ?_⟩
  show N.length + E.length + sumBy wN N + sumBy wE E ≤ 1000000000
  omega
set_option maxRecDepth 100000 in
theorem num_el {cs : List Value} (h : DataW.trod enc Tryz.prog W 0 (fun _ => true) held fuel 2 cs = some (d, p)) :
    ∃ x : Int, cs.toArray.size = 1 ∧ IxR W (fun g => g < W.heap.size) x cs.toArray ∧ VI x ∧ (fun _ : Int => 0) x ≤ Rows.uptoBulk d := by
  obtain ⟨i0, rfl, _, w0⟩ := DataW.trod_int (by kernel_rfl : Tryz.prog.underlying 2 = some (.int .i64)) h
  exact ⟨i0, rfl, rfl, w0, Nat.zero_le _⟩
theorem shape_of {T E : TypeId} {v : Value} (hT : Tryz.prog.underlying T = some (.slice E)) (h : DataW.trod enc Tryz.prog W 0 (fun _ => true) held fuel T [v] = some (d, p)) : ∃ A n c, v = .slice A n c := by
  rcases Go.Deep.open_slice hT h with ⟨h3, _⟩ | ⟨a, len, cap, m, n, D, Pl, h3, _⟩
  · injection h3 with h3 _
    exact ⟨_, _, _, h3⟩
  · injection h3 with h3 _
    exact ⟨_, _, _, h3⟩
end
set_option maxRecDepth 100000 in
theorem ask_open {H : Type} {enc : TypeId × Value → H} {W : World} {base : Nat} {v : Value} {d : DataW H} {p : List MemPlace} (hk : Rows.uptoBulk d ≤ 1048576) (hv : Value.okWide Tryz.prog W .any base 46 v)
    (h : DataW.Trod enc Tryz.prog W 0 (fun _ => true) true 46 v d p) :
    ∃ (NV EV : Value) (AI AV AK AL AD : Option Addr) (nI cI nV cV nK cK nL cL nD cD : Nat) (g : GraphD) (N : List Int) (L : List ByteArray), v = .agg #[NV, EV, .slice AI nI cI, .slice AV nV cV, .slice AK nK cK, .slice AL nL cL, .slice AD nD cD] ∧
      GrR W (fun b => b < W.heap.size) g (.agg #[NV, EV]) ∧ FitG g ∧ totalG g ≤ 1000000000 ∧ (∀ x, x ∈ N → VI x) ∧ SRd 1 IxR W (fun b => b < W.heap.size) N AI nI ∧ SRd 1 TxR W (fun b => b < W.heap.size) L AL nL ∧ nI ≤ 100000000 ∧ nL ≤ 100000000 := by
  obtain ⟨cs, rfl, hsz⟩ := okWide_struct Tryz.underlying46 hv
  obtain ⟨fuel, hf⟩ := h
  obtain ⟨v0, v1, v2, v3, v4, v5, v6, y0, y1, y2, y3, y4, y5, k, hcs, hxy, g0, g1, g2, g3, g4, g5⟩ := trod_askC Tryz.underlying46 (by kernel_rfl) rfl rfl rfl rfl rfl rfl (by kernel_rfl) (by kernel_rfl) (by kernel_rfl) (by kernel_rfl) (by kernel_rfl) (by kernel_rfl) hf
  obtain ⟨y0, p0⟩ := y0
  obtain ⟨y1, p1⟩ := y1
  obtain ⟨y2, p2⟩ := y2
  obtain ⟨y3, p3⟩ := y3
  obtain ⟨y4, p4⟩ := y4
  obtain ⟨y5, p5⟩ := y5
  simp only at hxy
  subst hxy
  simp only [Rows.uptoBulk, Rows.uptoBulkAll] at hk
  obtain ⟨u0, u1, g, hu, a1, a2, a3⟩ := graph_el (by omega) g0
  injection hu with hu0 hu
  injection hu with hu1 _
  subst hu0 hu1
  obtain ⟨N, ⟨AI, cI, rfl, _, n1⟩, n2, _, n4⟩ := slice_of (Q := VI) (wt := fun _ => 0) (R := IxR) (N := 1048576) Tryz.underlying42 (by kernel_rfl) (by decide) (fun _ h => num_el h) (by omega) g1
  obtain ⟨AV, nV, cV, rfl⟩ := shape_of Tryz.underlying43 g2
  obtain ⟨AK, nK, cK, rfl⟩ := shape_of Tryz.underlying35 g3
  obtain ⟨L, ⟨AL, cL, rfl, _, l1⟩, _, _, l4⟩ := texts_of (by omega) g4
  obtain ⟨AD, nD, cD, rfl⟩ := shape_of Tryz.underlying44 g5
  have hcs2 : cs.toList = [v0, v1, .slice AI N.length cI, .slice AV nV cV, .slice AK nK cK, .slice AL L.length cL, .slice AD nD cD] := hcs
  have hcs3 : cs = #[v0, v1, .slice AI N.length cI, .slice AV nV cV, .slice AK nK cK, .slice AL L.length cL, .slice AD nD cD] := by
    rw [← Array.toList_inj, hcs2]
  subst hcs3
  exact ⟨v0, v1, AI, AV, AK, AL, AD, N.length, cI, nV, cV, nK, cK, L.length, cL, nD, cD, g, N, L, rfl, a1, a2, a3, n2, n1, l1, by omega, by omega⟩
end Go.Proofs.YtmhjbicbdahllaaGreatDoor

namespace Go.Proofs.YtmhjbicbdahllaaGreatDoor
open Go Go.ChangeShapes Go.WideShapes Go.ChangeAt Go.RowKit Go.Joins

section
variable {H : Type} {enc : TypeId × Value → H} {P : Program}
theorem post_of_below {f : Func} {s : ChangeSpec} {apart fresh handsOn again : Bool} {W W' : World} {args : Array Value} {v : Value} {ds gs : List (DataW H)} {before pa pv : List MemPlace}
    (hW : DataW.Whole enc P f.params.toList s.vars apart W args.toList ds gs before)
    (hres : ∀ (b : Nat) (sp : Nat → Bool) (hd : Bool), DataW.TrodAll enc P W' b sp hd f.resultTypes.toList (v.resultList f.resultTypes.size) (s.fn H (ds ++ gs)).results [])
    (hargs : ∀ sp : Nat → Bool, (∀ p ∈ before, sp p.block = true) → DataW.TrodAll enc P W' 0 sp true f.params.toList args.toList (s.fn H (ds ++ gs)).args pa)
    (hvars : ∀ sp : Nat → Bool, (∀ p ∈ before, sp p.block = true) → DataW.TrodVars enc P W' sp s.vars (s.fn H (ds ++ gs)).vars pv)
    (hps : before = pa ++ pv) (hb : Below W.heap.size W W')
    (hok : ∀ (j : Nat) (t : TypeId) (r : Value), f.resultTypes[j]? = some t → (v.resultList f.resultTypes.size)[j]? = some r → Value.okWide P W' .any 0 t r) :
    s.post enc P f apart fresh handsOn again W args v W' := by
  have hlt : ∀ p ∈ before, p.block < W.heap.size := fun p hp => hW.lt p hp
  have hold : ∀ p ∈ before, (fun b => decide (b < W.heap.size)) p.block = true := fun p hp => by simpa using hlt p hp
  refine ⟨ds, gs, before, [], pa, pv, hW, hres _ _ _, hargs _ hold, hvars _ hold, World.keptBut_mono (fun p hp => ⟨hp, ?_⟩) (hb.frame (· ∈ before)), fun _ => ?_⟩
  · rw [hps, List.mem_append] at hp
    exact Or.inr hp
  · obtain ⟨_, _, _, _, _, hz, hn⟩ := hW
    refine ⟨hok, _, _, ([] ++ pa) ++ pv, ⟨[] ++ pa, pv, trodAll_append (hargs _ (fun _ _ => rfl)) (hres _ _ _), hvars _ (fun _ _ => rfl), rfl, ?_, ?_⟩, ?_⟩
    · intro b off hp
      have hin : MemPlace.cell b off ∈ before := by rw [hps]; simpa using hp
      rw [hb.frozen (hlt _ hin)]
      exact hz b off hin
    · intro ha
      have := hn ha
      rw [hps] at this
      simpa using this
    · intro p hp _
      rw [hps]
      simpa using hp
end

theorem own : ownKnob Tryz.prog.godebug = none := by kernel_rfl
theorem laidOut : laidOutB Tryz.prog = true := by kernel_rfl

set_option maxRecDepth 100000 in
theorem glob_of_shape {W : World} (h : W.ShapedOpen Tryz.prog) : GlobB W :=
  cell_of_shapedOpen_int (P := Tryz.prog) (g := 0) (t := 3) (zero := #[.int .i64 0]) h (of_decide_eq_true (by kernel_rfl)) (by kernel_rfl) rfl (by kernel_rfl) (by kernel_rfl) (by kernel_rfl)

set_option maxRecDepth 100000 in
theorem graphLabels_contract (H : Type) (enc : TypeId × Value → H) (W : World) (base : Nat) (args : Array Value) (ds gs : List (DataW H)) (before : List MemPlace)
    (hval0 : ∀ (j : Nat) t v, Tryz.f4.params[j]? = some t → args[j]? = some v → Value.okWide Tryz.prog W .any base t v)
    (hW : DataW.Whole enc Tryz.prog Tryz.f4.params.toList Rows.graphLabelsSpec.vars false W args.toList ds gs before) (hk : Rows.uptoSmall H (ds ++ gs) = true) (hg : GlobB W) :
    Calls Tryz.prog 4 args W fun e W' => ∃ v, e = .returned v ∧ Rows.graphLabelsSpec.post enc Tryz.prog Tryz.f4 false true false false W args v W' := by
  have hval : ∀ (j : Nat) t v, Tryz.f4.params[j]? = some t → args[j]? = some v → Value.okWide Tryz.prog W .any base t v := hval0
  have hW' := hW
  obtain ⟨p, q, hA0, hV, rfl, hfz, hnd⟩ := hW
  have hA : DataW.TrodAll enc Tryz.prog W 0 (fun _ => true) true Tryz.f4.params.toList args.toList ds p := hA0
  rw [Tryz.params4] at hA hval
  obtain ⟨v, d, rfl, rfl, h0⟩ := trodAll_one hA
  obtain ⟨rfl, rfl⟩ := trodVars_none hV
  clear hA0 hval0
  simp only [List.append_nil] at hW' hk
  have hlt : ∀ x ∈ p, x.block < W.heap.size := fun x hx => hW'.lt x hx
  have hbk : Rows.uptoBulkAll [d] ≤ 1048576 := of_decide_eq_true hk
  simp only [Rows.uptoBulkAll] at hbk
  obtain ⟨NV, EV, AI, AV, AK, AL, AD, nI, cI, nV, cV, nK, cK, nL, cL, nD, cD, g, N, L, rfl, a1, a2, a3, a4, a5, a6, a7, a8⟩ := ask_open (by omega) (hval 0 46 v rfl rfl) h0
  refine (graphLabels_any g a2 a3 N a4 L _ NV EV AI AV AK AL AD nI cI nV cV nK cK nL cL nD cD W (fun _ h => h) a1 a5 a6 a7 a8 hg).mono fun e W' ⟨he, hg⟩ => ?_
  subst he
  exact ⟨_, rfl, post_of_below (pa := p) (pv := []) hW' (fun _ _ _ => (trodAll_cons_mk (shut_bool Tryz.underlying4 _) trodAll_mk0))
    (fun sp hsp => trodAll_mk1 (WideElems.Trod_stays laidOut (by kernel_rfl) (of_decide_eq_true (by kernel_rfl)) h0 (fun x hx => hg.same (hlt x hx)) hsp)) (fun _ _ => rfl) (by simp)
    hg (ok_one (by kernel_rfl) rfl (okWide_bool_mk Tryz.underlying4 _))⟩

set_option maxRecDepth 100000 in
theorem graphLabels_lifted (os : Os) (started : os.Started) (H : Type) (enc : TypeId × Value → H) (F : Stop.Interp) :
    ReturnsInHanded {} Tryz.checked os 4 .any ((Rows.OpenSpec.upto Rows.graphLabelsSpec).preRow enc Tryz.prog Tryz.f4 Rows.graphLabelsUptoRow.domain false Rows.graphLabelsUptoRow.laid) (((Rows.OpenSpec.upto Rows.graphLabelsSpec).at F).post enc Tryz.prog Tryz.f4 false true false false) := by
  have hx : ∃ places, DataW.whole enc Tryz.prog ((World.laidAll Tryz.prog os Rows.graphLabelsUptoRow.laid).forCall (fun _ _ => 0) ⟨#[], #[.agg #[.slice none 0 0, .slice none 0 0, .slice none 0 0, .slice none 0 0, .slice none 0 0, .slice none 0 0, .slice none 0 0]], []⟩).memory Tryz.f4.params.toList Rows.graphLabelsSpec.vars false #[.agg #[.slice none 0 0, .slice none 0 0, .slice none 0 0, .slice none 0 0, .slice none 0 0, .slice none 0 0, .slice none 0 0]].toList 8 = some ([.agg [.agg [.nil, .nil], .nil, .nil, .nil, .nil, .nil]], [], places) := ⟨[], by kernel_rfl⟩
  obtain ⟨places, hx⟩ := hx
  refine returnsInHanded_of_row (C := Tryz.checked) (s := Rows.OpenSpec.upto Rows.graphLabelsSpec) own started (by kernel_rfl) Tryz.func4
    (witness_row_at (enc := enc) (C := Tryz.checked) false (World.laidAll Tryz.prog os Rows.graphLabelsUptoRow.laid) #[.agg #[.slice none 0 0, .slice none 0 0, .slice none 0 0, .slice none 0 0, .slice none 0 0, .slice none 0 0, .slice none 0 0]] (World.laidAll_os _ _ _) (by kernel_rfl) (by kernel_rfl) (by kernel_rfl)
      (OpenSpec.preRow_of_cond 8 hx (by kernel_rfl) (fun k hk => by cases hk; kernel_rfl) (by kernel_rfl) (laidMet_laidAll _ (by kernel_rfl) (by kernel_rfl)))) ?_
  intro W base args ds gs before hval hW _ hcond _ hL hsh _
  exact graphLabels_contract H enc W base args ds gs before hval hW (hcond _ rfl) (glob_of_shape hsh)

theorem graphLabels_holds : Rows.GraphLabelsUptoSaid :=
  OpenClaim.holds_of_cond 4 Tryz.f4 rfl rfl rfl rfl rfl rfl rfl ⟨rfl, rfl, rfl, rfl, rfl⟩ rfl rfl rfl rfl rfl (by kernel_rfl) Tryz.func4 (by kernel_rfl)
    (of_decide_eq_true (by kernel_rfl)) (by unfold Func.isWrapper; first | (rw [if_pos (by decide +kernel)]; kernel_rfl) | (rw [if_neg (by decide +kernel)]; exact ⟨rfl, rfl⟩))
    (fun os started H enc _ F => by rw [OpenClaim.pre_eq_preRow]; exact graphLabels_lifted os started H enc F)

theorem graphLabels_card : Rows.GraphLabelsUptoCardSaid :=
  Claim7.holds_tied_plain_at .later [] _ _ _ _ graphLabels_holds (fun _ h => by cases h) (by kernel_rfl) (fun _ h => by cases h) graphLabelsUpto_row_tie rfl ⟨rfl, rfl⟩ (by kernel_rfl) rfl
    (fun f fn hf hfn => by
      obtain rfl : f = 4 := Option.some.inj ((show Tryz.prog.funcNamed "diptych/diptychlaw6.GraphLabels" = some 4 by kernel_rfl).symm.trans hf) |>.symm
      obtain rfl : fn = Tryz.f4 := (Option.some.inj (Tryz.func4.symm.trans hfn)).symm
      exact ⟨by kernel_rfl, fun j t ht => by
        rw [Tryz.params4] at ht
        have hm : t ∈ [46] := by simpa using Array.mem_of_getElem? ht
        have hall : ([46].all fun u => !Tryz.prog.wantsStandIn u) = true := by kernel_rfl
        exact (show Tryz.prog.wantsStandIn t = false by simpa using List.all_eq_true.1 hall t hm)⟩)
    (by kernel_rfl)
end Go.Proofs.YtmhjbicbdahllaaGreatDoor
