/- GraphProps answers true where what it reads is of bulk at most 1048576: any graph: what loads tells the properties of its nodes and edges as they were, and no others; no other condition. -/
import Derived.Test.YtmhjbicbdahllaaGreatDoorGJ
import Derived.Test.YtmhjbicbdahllaaGreatDoorGO
import Derived.Deep.RegionHeld3
import Derived.Test.YtmhjbicbdahllaaGreatDoorGI
import Derived.Test.YtmhjbicbdahllaaGreatDoorVG
import Derived.Test.YtmhjbicbdahllaaGreatDoorBulk
import Derived.Deep.Slices
import Derived.Lib.SmallJoins
import Derived.Test.YtmhjbicbdahllaaGreatDoorCards
import Derived.Test.YtmhjbicbdahllaaGreatDoorTie
import Derived.ProofKit
import Derived.OpenShut
import Derived.ChangeSame
import Derived.Carry
import Derived.Lay
import Derived.LaidOnce
import Derived.SevenTiedAt
import Derived.Deep.DeepHandedRow
import Derived.Shelf.Vars
namespace Go.Proofs.YtmhjbicbdahllaaGreatDoor
open Go Go.RowKit

theorem propsG_all {l : List PairD} : ∀ {ks : List ByteArray}, propsG ks l = true → (∀ p, p ∈ l → textB p.key = true ∧ p.key ∉ ks) ∧ (∀ p q, p ∈ l → q ∈ l → p.key = q.key → p = q) := by
  induction l with
  | nil => intro ks _; exact ⟨fun p hp => (List.not_mem_nil hp).elim, fun p q hp => (List.not_mem_nil hp).elim⟩
  | cons x r ih =>
    intro ks h
    simp only [propsG, Bool.and_eq_true] at h
    obtain ⟨⟨h1, h2, h3⟩, h4⟩ := h
    obtain ⟨i1, i2⟩ := ih h4
    have hx : x.key ∉ ks := fun hm => by rw [inB_yes hm] at h2; cases h2
    constructor
    · intro p hp
      rcases List.mem_cons.1 hp with rfl | hp
      · exact ⟨h1, hx⟩
      · exact ⟨(i1 p hp).1, fun hm => (i1 p hp).2 (List.mem_append_left _ hm)⟩
    · intro p q hp hq e
      rcases List.mem_cons.1 hp with e1 | hp1
      · rcases List.mem_cons.1 hq with e2 | hq2
        · rw [e1, e2]
        · exact absurd (List.mem_append_right ks (List.mem_singleton.2 (by rw [← e, e1]))) (i1 q hq2).2
      · rcases List.mem_cons.1 hq with e2 | hq2
        · exact absurd (List.mem_append_right ks (List.mem_singleton.2 (by rw [e, e2]))) (i1 p hp1).2
        · exact i2 p q hp1 hq2 e
theorem propsB_all {l : List PairD} (h : propsB l = true) : (∀ p, p ∈ l → textB p.key = true) ∧ (∀ p q, p ∈ l → q ∈ l → p.key = q.key → p = q) := by
  unfold propsB at h
  rw [Bool.and_eq_true] at h
  have := propsG_all h.1
  exact ⟨fun p hp => (this.1 p hp).1, this.2⟩
theorem found_key {l ps : List PairD} {q : PairD} {r : Val} (hp : propsB ps = true) (hq : q ∈ ps) (hl : l.Perm ps) (hf : FoundP l q.key r) : r = q.v := by
  rcases hf with ⟨p, h1, h2, h3⟩ | ⟨h1, _⟩
  · rw [h3, (propsB_all hp).2 p q (hl.mem_iff.1 h1) hq h2]
  · exact absurd rfl (h1 q (hl.mem_iff.2 hq))
theorem found_none {l ps : List PairD} {r : Val} (hp : propsB ps = true) (hl : l.Perm ps) (hf : FoundP l ⟨#[]⟩ r) : r = zeroV := by
  rcases hf with ⟨p, h1, h2, h3⟩ | ⟨_, h2⟩
  · have := (propsB_all hp).1 p (hl.mem_iff.1 h1)
    rw [h2] at this
    exact absurd this (by decide)
  · exact h2
theorem found_nil {key : ByteArray} {r : Val} (hf : FoundP [] key r) : r = zeroV := by
  rcases hf with ⟨p, h1, _⟩ | ⟨_, h2⟩
  · cases h1
  · exact h2
theorem props_other {G : GraphD} {k id : Int} {l : List PairD} (h6 : k ≠ 6) (h7 : k ≠ 7) (h : PropsOf G k id l) : l = [] := by
  rcases h with ⟨h, _⟩ | ⟨h, _⟩ | ⟨_, _, h⟩
  · exact absurd h h6
  · exact absurd h h7
  · exact h
theorem nodup_inj {α : Type} {key : α → Int} {l : List α} (hn : (l.map key).Nodup) {x y : α} (hx : x ∈ l) (hy : y ∈ l) (e : key x = key y) : x = y := by
  induction l with
  | nil => cases hx
  | cons a r ih =>
    rw [List.map_cons, List.nodup_cons] at hn
    rcases List.mem_cons.1 hx with e1 | hx1
    · rcases List.mem_cons.1 hy with e2 | hy2
      · rw [e1, e2]
      · exact absurd (List.mem_map.2 ⟨y, hy2, by rw [← e, e1]⟩) hn.1
    · rcases List.mem_cons.1 hy with e2 | hy2
      · exact absurd (List.mem_map.2 ⟨x, hx1, by rw [e, e2]⟩) hn.1
      · exact ih hn.2 hx1 hy2
theorem may_parts {g : GraphD} (hm : mayG g = true) : scanG okN NodeD.id [] g.nodes = true ∧ scanG (okE (g.nodes.map NodeD.id)) EdgeD.id [] g.edges = true := by
  unfold mayG at hm
  rw [Bool.and_eq_true, Bool.and_eq_true] at hm
  exact hm.2
theorem may_node {g : GraphD} (hm : mayG g = true) {n : NodeD} (hn : n ∈ g.nodes) : propsB n.props = true ∧ (lablG [] n.labels = true ∧ n.labels.length ≤ 65536) := by
  obtain ⟨i, hi⟩ := List.mem_iff_getElem?.1 hn
  have h := scan_mem (may_parts hm).1 hi
  unfold okN at h
  simp only [Bool.and_eq_true] at h
  exact ⟨h.2.2.2.2, h.2.2.1, of_decide_eq_true h.2.2.2.1⟩
theorem may_edge {g : GraphD} (hm : mayG g = true) {e : EdgeD} (he : e ∈ g.edges) : propsB e.props = true := by
  obtain ⟨i, hi⟩ := List.mem_iff_getElem?.1 he
  have h := scan_mem (may_parts hm).2 hi
  unfold okE at h
  simp only [Bool.and_eq_true] at h
  exact h.2.2.2.2.2
theorem may_nodupN {g : GraphD} (hm : mayG g = true) : (g.nodes.map NodeD.id).Nodup := scan_nodup (fun _ _ h => okN_new h) List.nodup_nil (may_parts hm).1
theorem may_nodupE {g : GraphD} (hm : mayG g = true) : (g.edges.map EdgeD.id).Nodup := scan_nodup (fun _ _ h => okE_new h) List.nodup_nil (may_parts hm).2
theorem perm_all {α β : Type} {R : α → β → Prop} {l : List α} {m l' : List β} (h : All2 R l m) (hp : l'.Perm m) {y : β} (hy : y ∈ l') : ∃ x, x ∈ l ∧ R x y := h.mem (hp.mem_iff.1 hy)
theorem all_perm {α β : Type} {R : α → β → Prop} {l : List α} {m l' : List β} (h : All2 R l m) (hp : l'.Perm m) {x : α} (hx : x ∈ l) : ∃ y, y ∈ l' ∧ R x y := by
  obtain ⟨i, hi⟩ := List.mem_iff_getElem?.1 hx
  have hl : i < m.length := by rw [← h.1]; exact idx_lt hi
  have hy := List.getElem?_eq_getElem hl
  exact ⟨_, hp.mem_iff.2 (List.mem_of_getElem? hy), h.2 i x _ hi hy⟩
theorem props_node {g g' : GraphD} (hm : mayG g = true) (hs : SrtG g g') {n : NodeD} (hn : n ∈ g.nodes) {l : List PairD} (h : PropsOf g' 6 n.id l) : l.Perm n.props := by
  obtain ⟨⟨m, h1, h2, _⟩, _⟩ := hs
  rcases h with ⟨_, n', hn', hid, rfl⟩ | ⟨h, _⟩ | ⟨h, _⟩
  · obtain ⟨x, hx, hr⟩ := perm_all h1 h2 hn'
    have e : x = n := nodup_inj (may_nodupN hm) hx hn (by rw [← hr.1, hid])
    rw [← e]
    exact hr.2.2.1
  · exact absurd h (by decide)
  · obtain ⟨y, hy, hr⟩ := all_perm h1 h2 hn
    exact absurd (List.mem_map.2 ⟨y, hy, hr.1⟩) (h rfl)
theorem props_edge {g g' : GraphD} (hm : mayG g = true) (hs : SrtG g g') {n : EdgeD} (hn : n ∈ g.edges) {l : List PairD} (h : PropsOf g' 7 n.id l) : l.Perm n.props := by
  obtain ⟨_, ⟨m, h1, h2, _⟩⟩ := hs
  rcases h with ⟨h, _⟩ | ⟨_, n', hn', hid, rfl⟩ | ⟨_, h, _⟩
  · exact absurd h (by decide)
  · obtain ⟨x, hx, hr⟩ := perm_all h1 h2 hn'
    have e : x = n := nodup_inj (may_nodupE hm) hx hn (by rw [← hr.1, hid])
    rw [← e]
    exact hr.2.2.2.2.1
  · obtain ⟨y, hy, hr⟩ := all_perm h1 h2 hn
    exact absurd (List.mem_map.2 ⟨y, hy, hr.1⟩) (h rfl)
/-- All properties of a sorted store are fit to be copied. -/
theorem props_fit {g g' : GraphD} (hm : mayG g = true) (hfit : FitG g) (hs : SrtG g g') {k id : Int} {l : List PairD} (h : PropsOf g' k id l) : l.length ≤ 2000000 ∧ ∀ p, p ∈ l → FlatP p ∧ FitP p := by
  obtain ⟨⟨m, h1, h2, _⟩, ⟨m', h3, h4, _⟩⟩ := hs
  rcases h with ⟨_, n', hn', _, rfl⟩ | ⟨_, n', hn', _, rfl⟩ | ⟨_, _, rfl⟩
  · obtain ⟨x, hx, hr⟩ := perm_all h1 h2 hn'
    have hp : n'.props.Perm x.props := hr.2.2.1
    have hf := (hfit.2.2.1 x hx).1
    exact ⟨by rw [hp.length_eq]; exact hf.2.1, fun p hq => ⟨propsB_flat (may_node hm hx).1 p (hp.mem_iff.1 hq), hf.2.2.2 p (hp.mem_iff.1 hq)⟩⟩
  · obtain ⟨x, hx, hr⟩ := perm_all h3 h4 hn'
    have hp : n'.props.Perm x.props := hr.2.2.2.2.1
    have hf := (hfit.2.2.2 x hx).1
    exact ⟨by rw [hp.length_eq]; exact hf.2.1, fun p hq => ⟨propsB_flat (may_edge hm hx) p (hp.mem_iff.1 hq), hf.2.2 p (hp.mem_iff.1 hq)⟩⟩
  · exact ⟨by simp, fun p hp => by cases hp⟩
theorem srt_len {g g' : GraphD} (hfit : FitG g) (hs : SrtG g g') : g'.nodes.length ≤ 2000000 ∧ g'.edges.length ≤ 2000000 := by
  obtain ⟨⟨m, h1, h2, _⟩, ⟨m', h3, h4, _⟩⟩ := hs
  exact ⟨by rw [h2.length_eq, ← h1.1]; exact hfit.1, by rw [h4.length_eq, ← h3.1]; exact hfit.2.1⟩
end Go.Proofs.YtmhjbicbdahllaaGreatDoor

namespace Go.Proofs.YtmhjbicbdahllaaGreatDoor
open Go Go.RowKit

set_option maxRecDepth 100000 in
theorem fieldV (a b c d e f : Value) (w : World) : (Instr.field 55 (.agg #[a, b, c, d, e, f]) 0).run Tryz.prog w = .ok a w := by kernel_rfl
/-- 'Prop' in a store that was loaded. -/
theorem prop_call {g g' : GraphD} (hm : mayG g = true) (hfit : FitG g) (hs : SrtG g g') {w4 : World} {lo p : Nat} {Ns Es : Value} {mh mt ma mid n0 : Nat} (hst : StoreAt w4 lo p g' Ns Es mh mt ma mid n0) {W : World} (hW : Below w4.heap.size w4 W) (k id : Int) (hid : VI id) (key : ByteArray) :
    Calls Tryz.prog 22 #[.pointer (some ⟨p, 0, none⟩), .agg #[.int .i64 k, .bool false, .int .i64 id, .string ⟨#[]⟩, .string ⟨#[]⟩, .slice none 0 0], .string key] W (PropIs g' k id key W) :=
  prop_any g' lo p Ns Es mh mt ma mid n0 k false id ⟨#[]⟩ ⟨#[]⟩ key (.slice none 0 0) ⟨none, 0, 0, rfl⟩ W (hst.turn (Turn.of_below hW) (fun b _ h1 h2 => by omega)) hid (fun l hl => props_fit hm hfit hs hl) (srt_len hfit hs)
set_option maxRecDepth 100000 in
set_option maxHeartbeats 8000000 in
theorem graphProps_any (g : GraphD) (hfit : FitG g) (htot : totalG g ≤ 1000000000) (F : Nat → Prop) (u : Value) (w : World) (hF : ∀ b, F b → b < w.heap.size) (hg : GrR w F g u) (hgl : GlobB w) :
    Calls Tryz.prog 6 #[u] w (ToldB true w) := by
  have HGR := Lib.hid hg
  obtain ⟨NV, EV, rfl, ⟨AN, cN, rfl, hcN, hlN⟩, AE, cE, rfl, hcE, hlE⟩ := hg
  obtain ⟨nN, HnN⟩ := name_itV g.nodes.length
  obtain ⟨nE, HnE⟩ := name_itV g.edges.length
  have hgn : nN ≤ 2000000 := by rw [← HnN.out]; exact hfit.1
  have hge : nE ≤ 2000000 := by rw [← HnE.out]; exact hfit.2.1
  rw [HnN.out] at hlN
  rw [HnE.out] at hlE
  rw [HnN.out, HnE.out] at HGR ⊢
  obtain ⟨z, HZ⟩ := name_itV w.heap.size
  have HLN := Lib.hid (hlN.mono NoR.good (F' := fun b => b < z) (fun b hb => by rw [← HZ.out]; exact hF b hb))
  have HLE := Lib.hid (hlE.mono EdR.good (F' := fun b => b < z) (fun b hb => by rw [← HZ.out]; exact hF b hb))
  have HF := Lib.hid hF
  have HG := Lib.hid hgl
  have HFIT := Lib.hid hfit
  obtain ⟨w1, HW1⟩ := name_itV (w.alloc (.cells #[.slice AN nN cN, .slice AE nE cE] 25))
  have HB1 := Lib.hid (show Below w.heap.size w w1 from by rw [← HW1.out]; exact (Below.refl _ _).alloc (Nat.le_refl _) _)
  have HK1 := Lib.hid (show w1.heap[z]? = some (.cells #[.slice AN nN cN, .slice AE nE cE] 25 (0, 0)) from by rw [← HW1.out, ← HZ.out]; exact heap_alloc_new w _)
  have hli := Lib.hid (light_any g htot F _ w1 (fun b hb => Nat.lt_of_lt_of_le (hF b hb) HB1.out.size) (HGR.out.keep (fun q hq => HB1.out.cell (hF _ hq))))
  have b0 : w1.cell? ⟨z, 0, none⟩ = some (.slice AN nN cN) := Lib.cell_of_heap HK1.out 0
  have b1 : w1.cell? ⟨z, 1, none⟩ = some (.slice AE nE cE) := Lib.cell_of_heap HK1.out 1
  clear hlN hlE hF hgl hfit hcN hcE htot
  obtain ⟨lb, HLB⟩ := name_itV (lightG g)
  rw [HLB.out] at hli
  go_enter Tryz.func6, Tryz.ntmps6
  go_upto_region 1 with fail
  rw [HZ.out, HW1.out]
  go_wp2_with fail
  refine hli.out.mono ?_
  rintro e w2 ⟨rfl, hb2⟩
  have HB2 := Lib.hid (show Below w.heap.size w w2 from HB1.out.trans (hb2.mono HB1.out.size))
  have hk2 := (hb2.block z (blk_lt HK1.out)).trans HK1.out
  have HK2 := Lib.hid hk2
  clear b0 b1 hb2 hli
  cases lb with
  | false =>
    go_wp2_with fail
    refine (wakes_any w2 (glob_under HG.out HB2.out)).mono ?_
    rintro e w3 ⟨rfl, hb3⟩
    have HB3 := Lib.hid (HB2.out.trans (hb3.mono HB2.out.size))
    clear hb3 hk2
    go_wp2_with fail
    go_ret
    exact ⟨rfl, HB3.out⟩
  | true =>
    have b0 : w2.cell? ⟨z, 0, none⟩ = some (.slice AN nN cN) := Lib.cell_of_heap hk2 0
    have b1 : w2.cell? ⟨z, 1, none⟩ = some (.slice AE nE cE) := Lib.cell_of_heap hk2 1
    have hld := Lib.hid (load_any g HFIT.out F _ w2 (fun b hb => Nat.lt_of_lt_of_le (HF.out b hb) HB2.out.size) (HGR.out.keep (fun q hq => HB2.out.cell (HF.out _ hq))) (glob_under HG.out HB2.out))
    clear hk2
    go_wp2_with fail
    refine hld.out.mono ?_
    rintro e w4 ⟨hb4, hor⟩
    have HB4 := Lib.hid (show Below w.heap.size w w4 from HB2.out.trans (hb4.mono HB2.out.size))
    have HK4 := Lib.hid ((hb4.block z (blk_lt HK2.out)).trans HK2.out)
    clear b0 b1 hb4 hld
    rcases hor with ⟨_, rfl⟩ | ⟨hmay, p, g', rfl, hst, hsr⟩
    · go_wp2_with fail
      refine (wakes_any w4 (glob_under HG.out HB4.out)).mono ?_
      rintro e w3 ⟨rfl, hb3⟩
      have HB3 := Lib.hid (HB4.out.trans (hb3.mono HB4.out.size))
      clear hb3
      go_wp2_with fail
      go_ret
      exact ⟨rfl, HB3.out⟩
    · obtain ⟨Ns, Es, mh, mt, ma, mid, n0, hst⟩ := hst
      have HPR := Lib.hid (fun (W : World) (hW : Below w4.heap.size w4 W) (k id : Int) (hid : VI id) (key : ByteArray) => prop_call hmay HFIT.out hsr hst hW k id hid key)
      have HMAY := Lib.hid hmay
      have HSR := Lib.hid hsr
      have HN4 := Lib.hid (HLN.out.under NoR.good HB4.out (fun b hb => by rw [HZ.out]; exact hb))
      have HE4 := Lib.hid (HLE.out.under EdR.good HB4.out (fun b hb => by rw [HZ.out]; exact hb))
      have hz4 := Lib.hid (blk_lt HK4.out)
      clear hmay hst hsr
      go_upto_region 6 with fail
      go_wp2_with fail
      go_loopw [5] (fun s5 wx => ∃ k : Nat, k ≤ nN ∧ s5 = .int .i64 (k : Nat) ∧ Hid (Below w4.heap.size w4 wx)) (fun s5 _ => nN - (intOf s5).toNat)
      case atStart => exact ⟨0, by omega, rfl, Lib.hid (Below.refl _ _)⟩
      case round =>
        obtain ⟨k, hk, rfl, hM⟩ := hrel
        have hkr := (hM.out.block z hz4.out).trans HK4.out
        have b0 : wr.cell? ⟨z, 0, none⟩ = some (.slice AN nN cN) := Lib.cell_of_heap hkr 0
        have b1 : wr.cell? ⟨z, 1, none⟩ = some (.slice AE nE cE) := Lib.cell_of_heap hkr 1
        clear hkr
        by_cases hlt : k < nN
        · obtain ⟨x, hx⟩ : ∃ x, g.nodes[k]? = some x := ⟨g.nodes[k]'(by rw [HnN.out]; exact hlt), List.getElem?_eq_getElem _⟩
          have HXM := Lib.hid (List.mem_of_getElem? hx)
          have HX := Lib.hid hx
          obtain ⟨ad, A1, d1, A2, d2, rfl, hFa, hNo, hl1, hl2, q0, q1, q2⟩ := nodesAt (HN4.out.under NoR.good hM.out (fun b hb => Nat.lt_trans hb hz4.out)) hx
          have HPB := Lib.hid (may_node HMAY.out HXM.out).1
          have HVI := Lib.hid (HFIT.out.2.2.1 x HXM.out).2
          clear hx hFa hNo hl1 hl2
          obtain ⟨id, Hxid⟩ := name_itV x.id
          obtain ⟨m2, Hm2⟩ := name_itV x.props.length
          rw [Hxid.out] at q0 HVI
          rw [Hm2.out] at q2
          have hm2 : m2 ≤ 2000000 := by rw [← Hm2.out]; exact (HFIT.out.2.2.1 x HXM.out).1.2.1
          have e1 : (0 : Int) ≤ k := by omega
          have e2 : (k : Int) < nN := by omega
          have w1 : IntKind.i64.wrap ((k : Int) + 1) = (k : Int) + 1 := IntWalk.i64_in _ (by omega)
          obtain ⟨za, Hza⟩ := name_itV wr.heap.size
          obtain ⟨w5, HW5⟩ := name_itV (wr.alloc (.cells #[.int .i64 6, .bool false, .int .i64 id, .string ⟨#[]⟩, .string ⟨#[]⟩, .slice none 0 0] 55))
          have HB5 := Lib.hid (show Below wr.heap.size wr w5 from by rw [← HW5.out]; exact (Below.refl _ _).alloc (Nat.le_refl _) _)
          have HK5 := Lib.hid (show w5.heap[za]? = some (.cells #[.int .i64 6, .bool false, .int .i64 id, .string ⟨#[]⟩, .string ⟨#[]⟩, .slice none 0 0] 55 (0, 0)) from by rw [← HW5.out, ← Hza.out]; exact heap_alloc_new wr _)
          have HB45 := Lib.hid (show Below w4.heap.size w4 w5 from hM.out.trans (HB5.out.mono hM.out.size))
          clear hM
          go_upto_region 10 with fail
          rw [Hza.out, HW5.out]
          clear b0 b1 q0 q1 q2
          go_wp2_with fail
          go_loopw [7] (fun s7 wx => ∃ j : Nat, j ≤ m2 ∧ s7 = .int .i64 (j : Nat) ∧ Hid (Below w5.heap.size w5 wx)) (fun s7 _ => m2 - (intOf s7).toNat)
          case atStart => exact ⟨0, by omega, rfl, Lib.hid (Below.refl _ _)⟩
          case round =>
            obtain ⟨j, hj, rfl, hM⟩ := hrel
            have HBr := Lib.hid (show Below w4.heap.size w4 wr from HB45.out.trans (hM.out.mono HB45.out.size))
            have hkr := (HBr.out.block z hz4.out).trans HK4.out
            have b0 : wr.cell? ⟨z, 0, none⟩ = some (.slice (some ad) nN cN) := Lib.cell_of_heap hkr 0
            have HKA := Lib.hid ((hM.out.block za (blk_lt HK5.out)).trans HK5.out)
            obtain ⟨ad', A1', d1', A2', d2', hade, hFa, hNo, hl1, hl2, q0, q1, q2⟩ := nodesAt (HN4.out.under NoR.good HBr.out (fun b hb => Nat.lt_trans hb hz4.out)) HX.out
            injection hade with hade
            subst hade
            rw [Hm2.out] at q2
            clear hkr hFa hNo hl1
            by_cases hltj : j < m2
            · obtain ⟨y, hy⟩ : ∃ y, x.props[j]? = some y := ⟨x.props[j]'(by rw [Hm2.out]; exact hltj), List.getElem?_eq_getElem _⟩
              have HYM := Lib.hid (List.mem_of_getElem? hy)
              obtain ⟨ap, s, rfl, hFp, hv, p0, p1, p2, p3, p4, p5, p6⟩ := pairsAt hl2 hy
              obtain ⟨B, cb, hu, _, _⟩ := hv.inv
              injection hu with hu
              obtain rfl : s = .slice B y.v.list.length cb := by
                have := congrArg (fun a : Array Value => a[5]?) hu
                simpa [cellsV] using this
              have hv2 := hv
              clear hy hu hFp hl2 hv
              obtain ⟨lx, Hlx⟩ := name_itV y.v.list.length
              rw [Hlx.out] at p6 hv2
              have HV := Lib.hid hv2
              clear hv2
              obtain ⟨ky, Hky⟩ := name_itV y.key
              rw [Hky.out] at p0
              have HFP := Lib.hid ((HFIT.out.2.2.1 x HXM.out).1.2.2.2 y HYM.out)
              obtain ⟨zc, Hzc⟩ := name_itV wr.heap.size
              obtain ⟨w6, HW6⟩ := name_itV (wr.alloc (.cells #[.string ky, .int .i64 y.v.kind, .bool y.v.truth, .int .i64 y.v.num, .string y.v.text, .string y.v.extra, .slice B lx cb] 57))
              have HB6 := Lib.hid (show Below wr.heap.size wr w6 from by rw [← HW6.out]; exact (Below.refl _ _).alloc (Nat.le_refl _) _)
              have HK6 := Lib.hid (show w6.drew.heap[zc]? = some (.cells #[.string ky, .int .i64 y.v.kind, .bool y.v.truth, .int .i64 y.v.num, .string y.v.text, .string y.v.extra, .slice B lx cb] 57 (0, 0)) from by rw [← HW6.out, ← Hzc.out]; exact heap_alloc_new wr _)
              have HA6 := Lib.hid (show w6.drew.heap[za]? = some (.cells #[.int .i64 6, .bool false, .int .i64 id, .string ⟨#[]⟩, .string ⟨#[]⟩, .slice none 0 0] 55 (0, 0)) from (HB6.out.block za (blk_lt HKA.out)).trans HKA.out)
              have HB46 := Lib.hid (show Below w4.heap.size w4 w6.drew from (HBr.out.trans (HB6.out.mono HBr.out.size)).drew)
              have HB56 := Lib.hid (show Below w5.heap.size w5 w6.drew from (hM.out.trans (HB6.out.mono hM.out.size)).drew)
              have hp1 := Lib.hid (HPR.out w6.drew HB46.out 6 id HVI.out ky)
              have s1 := Lib.hid (show w6.drew.cell? ⟨za, 0, none⟩ = some (.int .i64 6) ∧ w6.drew.cell? ⟨za, 1, none⟩ = some (.bool false) ∧ w6.drew.cell? ⟨za, 2, none⟩ = some (.int .i64 id) ∧ w6.drew.cell? ⟨za, 3, none⟩ = some (.string ⟨#[]⟩) ∧ w6.drew.cell? ⟨za, 4, none⟩ = some (.string ⟨#[]⟩) ∧ w6.drew.cell? ⟨za, 5, none⟩ = some (.slice none 0 0) ∧ w6.drew.cell? ⟨zc, 0, none⟩ = some (.string ky) ∧ w6.drew.cell? ⟨zc, 1, none⟩ = some (.int .i64 y.v.kind) ∧ w6.drew.cell? ⟨zc, 2, none⟩ = some (.bool y.v.truth) ∧ w6.drew.cell? ⟨zc, 3, none⟩ = some (.int .i64 y.v.num) ∧ w6.drew.cell? ⟨zc, 4, none⟩ = some (.string y.v.text) ∧ w6.drew.cell? ⟨zc, 5, none⟩ = some (.string y.v.extra) ∧ w6.drew.cell? ⟨zc, 6, none⟩ = some (.slice B lx cb) from ⟨Lib.cell_of_heap HA6.out 0, Lib.cell_of_heap HA6.out 1, Lib.cell_of_heap HA6.out 2, Lib.cell_of_heap HA6.out 3, Lib.cell_of_heap HA6.out 4, Lib.cell_of_heap HA6.out 5, Lib.cell_of_heap HK6.out 0, Lib.cell_of_heap HK6.out 1, Lib.cell_of_heap HK6.out 2, Lib.cell_of_heap HK6.out 3, Lib.cell_of_heap HK6.out 4, Lib.cell_of_heap HK6.out 5, Lib.cell_of_heap HK6.out 6⟩)
              have e3 : (0 : Int) ≤ j := by omega
              have e4 : (j : Int) < m2 := by omega
              have w1' : IntKind.i64.wrap ((j : Int) + 1) = (j : Int) + 1 := IntWalk.i64_in _ (by omega)
              have HVW := Lib.hid (fun (W : World) (hW : Below w6.drew.heap.size w6.drew W) => HV.out.keep (w' := W) (fun q hq => (hW.cell (by have := HBr.out.size; have := hz4.out; have h3 : wr.heap.size ≤ w6.drew.heap.size := HB6.out.size; omega)).trans (HB6.out.cell (by have := HBr.out.size; have := hz4.out; omega))))
              clear hM
              go_upto_region 14 with fail
              rw [Hzc.out, HW6.out]
              clear b0 q0 q1 q2 p0 p1 p2 p3 p4 p5 p6
              have hfv := fieldV
              go_region_held3 (fun W' => W'.cell? ⟨za, 0, none⟩ = some (.int .i64 6) ∧ W'.cell? ⟨za, 1, none⟩ = some (.bool false) ∧ W'.cell? ⟨za, 2, none⟩ = some (.int .i64 id) ∧ W'.cell? ⟨za, 3, none⟩ = some (.string ⟨#[]⟩) ∧ W'.cell? ⟨za, 4, none⟩ = some (.string ⟨#[]⟩) ∧ W'.cell? ⟨za, 5, none⟩ = some (.slice none 0 0) ∧ W'.cell? ⟨zc, 0, none⟩ = some (.string ky) ∧ W'.cell? ⟨zc, 1, none⟩ = some (.int .i64 y.v.kind) ∧ W'.cell? ⟨zc, 2, none⟩ = some (.bool y.v.truth) ∧ W'.cell? ⟨zc, 3, none⟩ = some (.int .i64 y.v.num) ∧ W'.cell? ⟨zc, 4, none⟩ = some (.string y.v.text) ∧ W'.cell? ⟨zc, 5, none⟩ = some (.string y.v.extra) ∧ W'.cell? ⟨zc, 6, none⟩ = some (.slice B lx cb)) (first | exact s1.out | exact s2.out | exact s3.out | exact s4.out | (trace_state; fail))
                (first
                  | (go_at_call 22; (with_reducible refine hp1.out.mono ?_); rintro e w7 ⟨l7, r7, B7, cb7, hpo, hfo, rfl, hb7, hv7⟩; have HR7 := Lib.hid (found_key HPB.out HYM.out (props_node HMAY.out HSR.out HXM.out (by rw [Hxid.out]; exact hpo)) (by rw [Hky.out]; exact hfo)); have hr7 := HR7.out; subst hr7; have HB7 := Lib.hid hb7; have HK7 := Lib.hid ((hb7.block zc (blk_lt HK6.out)).trans HK6.out); have HA7 := Lib.hid ((hb7.block za (blk_lt HA6.out)).trans HA6.out); have s2 := Lib.hid (show w7.cell? ⟨za, 0, none⟩ = some (.int .i64 6) ∧ w7.cell? ⟨za, 1, none⟩ = some (.bool false) ∧ w7.cell? ⟨za, 2, none⟩ = some (.int .i64 id) ∧ w7.cell? ⟨za, 3, none⟩ = some (.string ⟨#[]⟩) ∧ w7.cell? ⟨za, 4, none⟩ = some (.string ⟨#[]⟩) ∧ w7.cell? ⟨za, 5, none⟩ = some (.slice none 0 0) ∧ w7.cell? ⟨zc, 0, none⟩ = some (.string ky) ∧ w7.cell? ⟨zc, 1, none⟩ = some (.int .i64 y.v.kind) ∧ w7.cell? ⟨zc, 2, none⟩ = some (.bool y.v.truth) ∧ w7.cell? ⟨zc, 3, none⟩ = some (.int .i64 y.v.num) ∧ w7.cell? ⟨zc, 4, none⟩ = some (.string y.v.text) ∧ w7.cell? ⟨zc, 5, none⟩ = some (.string y.v.extra) ∧ w7.cell? ⟨zc, 6, none⟩ = some (.slice B lx cb) from ⟨Lib.cell_of_heap HA7.out 0, Lib.cell_of_heap HA7.out 1, Lib.cell_of_heap HA7.out 2, Lib.cell_of_heap HA7.out 3, Lib.cell_of_heap HA7.out 4, Lib.cell_of_heap HA7.out 5, Lib.cell_of_heap HK7.out 0, Lib.cell_of_heap HK7.out 1, Lib.cell_of_heap HK7.out 2, Lib.cell_of_heap HK7.out 3, Lib.cell_of_heap HK7.out 4, Lib.cell_of_heap HK7.out 5, Lib.cell_of_heap HK7.out 6⟩); have hsm := Lib.hid (sameV_any y.v y.v (by have := HFP.out.2; omega) (fun b => b < w7.heap.size) (fun b => b < z) _ (.agg (cellsV y.v (.slice B lx cb))) w7 (fun b hb => hb) (fun b hb => by have := HB46.out.size; have := hz4.out; have := hb7.size; omega) hv7 (HVW.out w7 hb7)); rw [sameB_refl] at hsm; unfold cellsV at hsm ⊢; clear hb7 hv7 hpo hfo)
                  | (go_at_call 21; (with_reducible refine hsm.out.mono ?_); rintro e w8 ⟨rfl, hb8⟩; have HB8 := Lib.hid (show Below w6.drew.heap.size w6.drew w8 from HB7.out.trans (hb8.mono HB7.out.size)); have HK8 := Lib.hid ((hb8.block zc (blk_lt HK7.out)).trans HK7.out); have HA8 := Lib.hid ((hb8.block za (blk_lt HA7.out)).trans HA7.out); have s3 := Lib.hid (show w8.cell? ⟨za, 0, none⟩ = some (.int .i64 6) ∧ w8.cell? ⟨za, 1, none⟩ = some (.bool false) ∧ w8.cell? ⟨za, 2, none⟩ = some (.int .i64 id) ∧ w8.cell? ⟨za, 3, none⟩ = some (.string ⟨#[]⟩) ∧ w8.cell? ⟨za, 4, none⟩ = some (.string ⟨#[]⟩) ∧ w8.cell? ⟨za, 5, none⟩ = some (.slice none 0 0) ∧ w8.cell? ⟨zc, 0, none⟩ = some (.string ky) ∧ w8.cell? ⟨zc, 1, none⟩ = some (.int .i64 y.v.kind) ∧ w8.cell? ⟨zc, 2, none⟩ = some (.bool y.v.truth) ∧ w8.cell? ⟨zc, 3, none⟩ = some (.int .i64 y.v.num) ∧ w8.cell? ⟨zc, 4, none⟩ = some (.string y.v.text) ∧ w8.cell? ⟨zc, 5, none⟩ = some (.string y.v.extra) ∧ w8.cell? ⟨zc, 6, none⟩ = some (.slice B lx cb) from ⟨Lib.cell_of_heap HA8.out 0, Lib.cell_of_heap HA8.out 1, Lib.cell_of_heap HA8.out 2, Lib.cell_of_heap HA8.out 3, Lib.cell_of_heap HA8.out 4, Lib.cell_of_heap HA8.out 5, Lib.cell_of_heap HK8.out 0, Lib.cell_of_heap HK8.out 1, Lib.cell_of_heap HK8.out 2, Lib.cell_of_heap HK8.out 3, Lib.cell_of_heap HK8.out 4, Lib.cell_of_heap HK8.out 5, Lib.cell_of_heap HK8.out 6⟩); have hp2 := Lib.hid (HPR.out w8 (HB46.out.trans (HB8.out.mono HB46.out.size)) 2 id HVI.out ky); clear hb8)
                  | (go_at_call 22; (with_reducible refine hp2.out.mono ?_); rintro e w9 ⟨l9, r9, B9, cb9, hpo, hfo, rfl, hb9, _⟩; have hl9 := props_other (by decide) (by decide) hpo; subst hl9; have hr9 := found_nil hfo; subst hr9; have HB9 := Lib.hid (show Below w5.heap.size w5 w9 from HB56.out.trans ((HB8.out.trans (hb9.mono HB8.out.size)).mono HB56.out.size)); have HK9 := Lib.hid ((hb9.block zc (blk_lt HK8.out)).trans HK8.out); have HA9 := Lib.hid ((hb9.block za (blk_lt HA8.out)).trans HA8.out); have s4 := Lib.hid (show w9.cell? ⟨za, 0, none⟩ = some (.int .i64 6) ∧ w9.cell? ⟨za, 1, none⟩ = some (.bool false) ∧ w9.cell? ⟨za, 2, none⟩ = some (.int .i64 id) ∧ w9.cell? ⟨za, 3, none⟩ = some (.string ⟨#[]⟩) ∧ w9.cell? ⟨za, 4, none⟩ = some (.string ⟨#[]⟩) ∧ w9.cell? ⟨za, 5, none⟩ = some (.slice none 0 0) ∧ w9.cell? ⟨zc, 0, none⟩ = some (.string ky) ∧ w9.cell? ⟨zc, 1, none⟩ = some (.int .i64 y.v.kind) ∧ w9.cell? ⟨zc, 2, none⟩ = some (.bool y.v.truth) ∧ w9.cell? ⟨zc, 3, none⟩ = some (.int .i64 y.v.num) ∧ w9.cell? ⟨zc, 4, none⟩ = some (.string y.v.text) ∧ w9.cell? ⟨zc, 5, none⟩ = some (.string y.v.extra) ∧ w9.cell? ⟨zc, 6, none⟩ = some (.slice B lx cb) from ⟨Lib.cell_of_heap HA9.out 0, Lib.cell_of_heap HA9.out 1, Lib.cell_of_heap HA9.out 2, Lib.cell_of_heap HA9.out 3, Lib.cell_of_heap HA9.out 4, Lib.cell_of_heap HA9.out 5, Lib.cell_of_heap HK9.out 0, Lib.cell_of_heap HK9.out 1, Lib.cell_of_heap HK9.out 2, Lib.cell_of_heap HK9.out 3, Lib.cell_of_heap HK9.out 4, Lib.cell_of_heap HK9.out 5, Lib.cell_of_heap HK9.out 6⟩); rw [show cellsV zeroV (.slice B9 zeroV.list.length cb9) = #[.int .i64 0, .bool false, .int .i64 0, .string ⟨#[]⟩, .string ⟨#[]⟩, .slice B9 0 cb9] from rfl]; clear hb9 hpo hfo))
              go_wp2_with fail
              go_roundw
              case rel => exact ⟨j + 1, by omega, by go_num, HB9⟩
              case measure => simp [intOf]; omega
            · have hke : m2 = j := by omega
              subst hke
              have a0 : wr.cell? ⟨za, 0, none⟩ = some (.int .i64 6) := Lib.cell_of_heap HKA.out 0
              have a1 : wr.cell? ⟨za, 1, none⟩ = some (.bool false) := Lib.cell_of_heap HKA.out 1
              have a2 : wr.cell? ⟨za, 2, none⟩ = some (.int .i64 id) := Lib.cell_of_heap HKA.out 2
              have a3 : wr.cell? ⟨za, 3, none⟩ = some (.string ⟨#[]⟩) := Lib.cell_of_heap HKA.out 3
              have a4 : wr.cell? ⟨za, 4, none⟩ = some (.string ⟨#[]⟩) := Lib.cell_of_heap HKA.out 4
              have a5 : wr.cell? ⟨za, 5, none⟩ = some (.slice none 0 0) := Lib.cell_of_heap HKA.out 5
              have hp3 := Lib.hid (HPR.out wr HBr.out 6 id HVI.out ⟨#[]⟩)
              clear hM hl2
              go_upto_region 16 with fail
              go_wp2_with fail
              refine hp3.out.mono ?_
              rintro e w9 ⟨l9, r9, B9, cb9, hpo, hfo, rfl, hb9, _⟩
              have hr9 := found_none HPB.out (props_node HMAY.out HSR.out HXM.out (by rw [Hxid.out]; exact hpo)) hfo
              subst hr9
              have HB9 := Lib.hid (show Below w4.heap.size w4 w9 from HBr.out.trans (hb9.mono HBr.out.size))
              have hfd := fieldV (.int .i64 0) (.bool false) (.int .i64 0) (.string ⟨#[]⟩) (.string ⟨#[]⟩) (.slice B9 0 cb9) w9
              rw [show cellsV zeroV (.slice B9 zeroV.list.length cb9) = #[.int .i64 0, .bool false, .int .i64 0, .string ⟨#[]⟩, .string ⟨#[]⟩, .slice B9 0 cb9] from rfl]
              clear hb9 hpo hfo a0 a1 a2 a3 a4 a5 b0 q0 q1 q2
              go_wp2_with fail
              go_roundw
              case rel => exact ⟨k + 1, by omega, by go_num, HB9⟩
              case measure => simp [intOf]; omega
        · have hke : nN = k := by omega
          subst hke
          have HM := Lib.hid hM.out
          clear hM
          go_upto_region 18 with fail
          go_wp2_with fail
          clear b0 b1
          go_loopw [9] (fun s9 wx => ∃ k : Nat, k ≤ nE ∧ s9 = .int .i64 (k : Nat) ∧ Hid (Below w4.heap.size w4 wx)) (fun s9 _ => nE - (intOf s9).toNat)
          case atStart => exact ⟨0, by omega, rfl, HM⟩
          case round =>
            clear HM
            obtain ⟨k, hk, rfl, hM⟩ := hrel
            have hkr := (hM.out.block z hz4.out).trans HK4.out
            have b1 : wr.cell? ⟨z, 1, none⟩ = some (.slice AE nE cE) := Lib.cell_of_heap hkr 1
            clear hkr
            by_cases hlt : k < nE
            · obtain ⟨x, hx⟩ : ∃ x, g.edges[k]? = some x := ⟨g.edges[k]'(by rw [HnE.out]; exact hlt), List.getElem?_eq_getElem _⟩
              have HXM := Lib.hid (List.mem_of_getElem? hx)
              have HX := Lib.hid hx
              obtain ⟨ad, A2, d2, rfl, hFa, hEd, hl2, q0, q1, q2, q3, q4⟩ := edgesAt (HE4.out.under EdR.good hM.out (fun b hb => Nat.lt_trans hb hz4.out)) hx
              have HPB := Lib.hid (may_edge HMAY.out HXM.out)
              have HVI := Lib.hid (HFIT.out.2.2.2 x HXM.out).2.1
              clear hx hFa hEd hl2
              obtain ⟨id, Hxid⟩ := name_itV x.id
              obtain ⟨m2, Hm2⟩ := name_itV x.props.length
              rw [Hxid.out] at q0 HVI
              rw [Hm2.out] at q4
              have hm2 : m2 ≤ 2000000 := by rw [← Hm2.out]; exact (HFIT.out.2.2.2 x HXM.out).1.2.1
              have e1 : (0 : Int) ≤ k := by omega
              have e2 : (k : Int) < nE := by omega
              have w1 : IntKind.i64.wrap ((k : Int) + 1) = (k : Int) + 1 := IntWalk.i64_in _ (by omega)
              obtain ⟨za, Hza⟩ := name_itV wr.heap.size
              obtain ⟨w5, HW5⟩ := name_itV (wr.alloc (.cells #[.int .i64 7, .bool false, .int .i64 id, .string ⟨#[]⟩, .string ⟨#[]⟩, .slice none 0 0] 55))
              have HB5 := Lib.hid (show Below wr.heap.size wr w5 from by rw [← HW5.out]; exact (Below.refl _ _).alloc (Nat.le_refl _) _)
              have HK5 := Lib.hid (show w5.heap[za]? = some (.cells #[.int .i64 7, .bool false, .int .i64 id, .string ⟨#[]⟩, .string ⟨#[]⟩, .slice none 0 0] 55 (0, 0)) from by rw [← HW5.out, ← Hza.out]; exact heap_alloc_new wr _)
              have HB45 := Lib.hid (show Below w4.heap.size w4 w5 from hM.out.trans (HB5.out.mono hM.out.size))
              clear hM
              go_upto_region 22 with fail
              rw [Hza.out, HW5.out]
              clear b1 q0 q1 q2 q3 q4
              go_wp2_with fail
              go_loopw [11] (fun s11 wx => ∃ j : Nat, j ≤ m2 ∧ s11 = .int .i64 (j : Nat) ∧ Hid (Below w5.heap.size w5 wx)) (fun s11 _ => m2 - (intOf s11).toNat)
              case atStart => exact ⟨0, by omega, rfl, Lib.hid (Below.refl _ _)⟩
              case round =>
                obtain ⟨j, hj, rfl, hM⟩ := hrel
                have HBr := Lib.hid (show Below w4.heap.size w4 wr from HB45.out.trans (hM.out.mono HB45.out.size))
                have hkr := (HBr.out.block z hz4.out).trans HK4.out
                have HKZ := Lib.hid hkr
                have b1 : wr.cell? ⟨z, 1, none⟩ = some (.slice (some ad) nE cE) := Lib.cell_of_heap hkr 1
                have HKA := Lib.hid ((hM.out.block za (blk_lt HK5.out)).trans HK5.out)
                obtain ⟨ad', A2', d2', hade, hFa, hEd, hl2, q0, q1, q2, q3, q4⟩ := edgesAt (HE4.out.under EdR.good HBr.out (fun b hb => Nat.lt_trans hb hz4.out)) HX.out
                injection hade with hade
                subst hade
                rw [Hm2.out] at q4
                have hzr : z < wr.heap.size := Nat.lt_of_lt_of_le hz4.out HBr.out.size
                have HQ4 := Lib.hid (And.intro q4 (show (ad.add (k * 5)).block < wr.heap.size from by rw [block_of_add]; exact Nat.lt_trans hFa hzr))
                clear hkr hFa hEd q0 q1 q2 q3
                by_cases hltj : j < m2
                · obtain ⟨y, hy⟩ : ∃ y, x.props[j]? = some y := ⟨x.props[j]'(by rw [Hm2.out]; exact hltj), List.getElem?_eq_getElem _⟩
                  have HYM := Lib.hid (List.mem_of_getElem? hy)
                  obtain ⟨ap, s, rfl, hFp, hv, p0, p1, p2, p3, p4, p5, p6⟩ := pairsAt hl2 hy
                  obtain ⟨B, cb, hu, _, _⟩ := hv.inv
                  injection hu with hu
                  obtain rfl : s = .slice B y.v.list.length cb := by
                    have := congrArg (fun a : Array Value => a[5]?) hu
                    simpa [cellsV] using this
                  have hv2 := hv
                  have HPL := Lib.hid (show (ap.add (j * 7)).block < wr.heap.size from by rw [block_of_add]; exact Nat.lt_trans hFp hzr)
                  clear hy hu hFp hl2 hv
                  obtain ⟨lx, Hlx⟩ := name_itV y.v.list.length
                  rw [Hlx.out] at p6 hv2
                  have HV := Lib.hid hv2
                  clear hv2
                  obtain ⟨ky, Hky⟩ := name_itV y.key
                  rw [Hky.out] at p0
                  have HPP := Lib.hid (And.intro p0 (And.intro p1 (And.intro p2 (And.intro p3 (And.intro p4 (And.intro p5 p6))))))
                  have HFP := Lib.hid ((HFIT.out.2.2.2 x HXM.out).1.2.2 y HYM.out)
                  have HB46 := Lib.hid (show Below w4.heap.size w4 wr.drew from HBr.out.drew)
                  have HB56 := Lib.hid (show Below w5.heap.size w5 wr.drew from hM.out.drew)
                  have hp1 := Lib.hid (HPR.out wr.drew HB46.out 7 id HVI.out ky)
                  have HSS := Lib.hid (fun (W : World) (hW : Below wr.drew.heap.size wr.drew W) => (show W.cell? ⟨za, 0, none⟩ = some (.int .i64 7) ∧ W.cell? ⟨za, 1, none⟩ = some (.bool false) ∧ W.cell? ⟨za, 2, none⟩ = some (.int .i64 id) ∧ W.cell? ⟨za, 3, none⟩ = some (.string ⟨#[]⟩) ∧ W.cell? ⟨za, 4, none⟩ = some (.string ⟨#[]⟩) ∧ W.cell? ⟨za, 5, none⟩ = some (.slice none 0 0) ∧ W.cell? ⟨z, 1, none⟩ = some (.slice (some ad) nE cE) ∧ W.cell? ⟨(ad.add (k * 5)).block, (ad.add (k * 5)).off + 4, none⟩ = some (.slice (some ap) m2 d2') ∧ W.cell? (ap.add (j * 7)) = some (.string ky) ∧ W.cell? ⟨(ap.add (j * 7)).block, (ap.add (j * 7)).off + 1, none⟩ = some (.int .i64 y.v.kind) ∧ W.cell? ⟨(ap.add (j * 7)).block, (ap.add (j * 7)).off + 2, none⟩ = some (.bool y.v.truth) ∧ W.cell? ⟨(ap.add (j * 7)).block, (ap.add (j * 7)).off + 3, none⟩ = some (.int .i64 y.v.num) ∧ W.cell? ⟨(ap.add (j * 7)).block, (ap.add (j * 7)).off + 4, none⟩ = some (.string y.v.text) ∧ W.cell? ⟨(ap.add (j * 7)).block, (ap.add (j * 7)).off + 5, none⟩ = some (.string y.v.extra) ∧ W.cell? ⟨(ap.add (j * 7)).block, (ap.add (j * 7)).off + 6, none⟩ = some (.slice B lx cb) from
                    ⟨(hW.cell (p := ⟨za, 0, none⟩) (blk_lt HKA.out)).trans (Lib.cell_of_heap HKA.out 0), (hW.cell (p := ⟨za, 1, none⟩) (blk_lt HKA.out)).trans (Lib.cell_of_heap HKA.out 1), (hW.cell (p := ⟨za, 2, none⟩) (blk_lt HKA.out)).trans (Lib.cell_of_heap HKA.out 2), (hW.cell (p := ⟨za, 3, none⟩) (blk_lt HKA.out)).trans (Lib.cell_of_heap HKA.out 3), (hW.cell (p := ⟨za, 4, none⟩) (blk_lt HKA.out)).trans (Lib.cell_of_heap HKA.out 4), (hW.cell (p := ⟨za, 5, none⟩) (blk_lt HKA.out)).trans (Lib.cell_of_heap HKA.out 5), (hW.cell (p := ⟨z, 1, none⟩) hzr).trans (Lib.cell_of_heap HKZ.out 1), (hW.cell (p := ⟨(ad.add (k * 5)).block, (ad.add (k * 5)).off + 4, none⟩) HQ4.out.2).trans HQ4.out.1, (hW.cell (p := ap.add (j * 7)) HPL.out).trans HPP.out.1, (hW.cell (p := ⟨(ap.add (j * 7)).block, (ap.add (j * 7)).off + 1, none⟩) HPL.out).trans HPP.out.2.1, (hW.cell (p := ⟨(ap.add (j * 7)).block, (ap.add (j * 7)).off + 2, none⟩) HPL.out).trans HPP.out.2.2.1, (hW.cell (p := ⟨(ap.add (j * 7)).block, (ap.add (j * 7)).off + 3, none⟩) HPL.out).trans HPP.out.2.2.2.1, (hW.cell (p := ⟨(ap.add (j * 7)).block, (ap.add (j * 7)).off + 4, none⟩) HPL.out).trans HPP.out.2.2.2.2.1, (hW.cell (p := ⟨(ap.add (j * 7)).block, (ap.add (j * 7)).off + 5, none⟩) HPL.out).trans HPP.out.2.2.2.2.2.1, (hW.cell (p := ⟨(ap.add (j * 7)).block, (ap.add (j * 7)).off + 6, none⟩) HPL.out).trans HPP.out.2.2.2.2.2.2⟩))
                  have s1 := Lib.hid (HSS.out wr.drew (Below.refl _ _))
                  have e3 : (0 : Int) ≤ j := by omega
                  have e4 : (j : Int) < m2 := by omega
                  have w1' : IntKind.i64.wrap ((j : Int) + 1) = (j : Int) + 1 := IntWalk.i64_in _ (by omega)
                  have HVW := Lib.hid (fun (W : World) (hW : Below wr.drew.heap.size wr.drew W) => HV.out.keep (w' := W) (fun q hq => hW.cell (Nat.lt_trans hq hzr)))
                  clear hM
                  go_upto_region 25 with fail
                  clear b1 q4 p0 p1 p2 p3 p4 p5 p6
                  go_region_held3 (fun W' => W'.cell? ⟨za, 0, none⟩ = some (.int .i64 7) ∧ W'.cell? ⟨za, 1, none⟩ = some (.bool false) ∧ W'.cell? ⟨za, 2, none⟩ = some (.int .i64 id) ∧ W'.cell? ⟨za, 3, none⟩ = some (.string ⟨#[]⟩) ∧ W'.cell? ⟨za, 4, none⟩ = some (.string ⟨#[]⟩) ∧ W'.cell? ⟨za, 5, none⟩ = some (.slice none 0 0) ∧ W'.cell? ⟨z, 1, none⟩ = some (.slice (some ad) nE cE) ∧ W'.cell? ⟨(ad.add (k * 5)).block, (ad.add (k * 5)).off + 4, none⟩ = some (.slice (some ap) m2 d2') ∧ W'.cell? (ap.add (j * 7)) = some (.string ky) ∧ W'.cell? ⟨(ap.add (j * 7)).block, (ap.add (j * 7)).off + 1, none⟩ = some (.int .i64 y.v.kind) ∧ W'.cell? ⟨(ap.add (j * 7)).block, (ap.add (j * 7)).off + 2, none⟩ = some (.bool y.v.truth) ∧ W'.cell? ⟨(ap.add (j * 7)).block, (ap.add (j * 7)).off + 3, none⟩ = some (.int .i64 y.v.num) ∧ W'.cell? ⟨(ap.add (j * 7)).block, (ap.add (j * 7)).off + 4, none⟩ = some (.string y.v.text) ∧ W'.cell? ⟨(ap.add (j * 7)).block, (ap.add (j * 7)).off + 5, none⟩ = some (.string y.v.extra) ∧ W'.cell? ⟨(ap.add (j * 7)).block, (ap.add (j * 7)).off + 6, none⟩ = some (.slice B lx cb)) (first | exact s1.out | exact s2.out | exact s3.out | (trace_state; fail))
                    (first
                      | (go_at_call 22; (with_reducible refine hp1.out.mono ?_); rintro e w7 ⟨l7, r7, B7, cb7, hpo, hfo, rfl, hb7, hv7⟩; have HR7 := Lib.hid (found_key HPB.out HYM.out (props_edge HMAY.out HSR.out HXM.out (by rw [Hxid.out]; exact hpo)) (by rw [Hky.out]; exact hfo)); have hr7 := HR7.out; subst hr7; have HB7 := Lib.hid hb7; have s2 := Lib.hid (HSS.out w7 hb7); have hsm := Lib.hid (sameV_any y.v y.v (by have := HFP.out.2; omega) (fun b => b < w7.heap.size) (fun b => b < z) _ (.agg (cellsV y.v (.slice B lx cb))) w7 (fun b hb => hb) (fun b hb => by have h8 : wr.heap.size ≤ w7.heap.size := hb7.size; omega) hv7 (HVW.out w7 hb7)); rw [sameB_refl] at hsm; unfold cellsV at hsm ⊢; clear hb7 hv7 hpo hfo)
                      | (go_at_call 21; (with_reducible refine hsm.out.mono ?_); rintro e w8 ⟨rfl, hb8⟩; have HB8 := Lib.hid (show Below wr.drew.heap.size wr.drew w8 from HB7.out.trans (hb8.mono HB7.out.size)); have s3 := Lib.hid (HSS.out w8 HB8.out); clear hb8))
                  have HB9 := Lib.hid (HB56.out.trans (HB8.out.mono HB56.out.size))
                  go_wp2_with fail
                  go_roundw
                  case rel => exact ⟨j + 1, by omega, by go_num, HB9⟩
                  case measure => simp [intOf]; omega
                · have hke : m2 = j := by omega
                  subst hke
                  clear hM hl2
                  go_wp2_with fail
                  go_roundw
                  case rel => exact ⟨k + 1, by omega, by go_num, HBr⟩
                  case measure => simp [intOf]; omega
            · have hke : nE = k := by omega
              subst hke
              have HBr := Lib.hid (show Below w.heap.size w wr from HB4.out.trans (hM.out.mono HB4.out.size))
              clear hM
              go_wp2_with fail
              refine (wakes_any wr (glob_under HG.out HBr.out)).mono ?_
              rintro e w3 ⟨rfl, hb3⟩
              have HB3 := Lib.hid (HBr.out.trans (hb3.mono HBr.out.size))
              clear hb3
              go_wp2_with fail
              go_ret
              exact ⟨rfl, HB3.out⟩
end Go.Proofs.YtmhjbicbdahllaaGreatDoor

namespace Go.Proofs.YtmhjbicbdahllaaGreatDoor
open Go Go.ChangeShapes Go.WideShapes Go.ChangeAt Go.RowKit Go.Joins

mutual
/-- Are a value's numbers whole numbers of 64 bits? -/
def i64V : Val → Prop
  | .mk _ _ n _ _ l => (-9223372036854775808 ≤ n ∧ n ≤ 9223372036854775807) ∧ i64L l
def i64L : List Val → Prop
  | [] => True
  | v :: r => i64V v ∧ i64L r
end
theorem cellAdd (a : Addr) (i j : Nat) : (a.add i).add j = a.add (i + j) := Go.Deep.add_add a i j

/-- A struct of six fields of one cell each. -/
theorem trod_six {H : Type} {enc : TypeId × Value → H} {P : Program} {w : World} {base : Nat} {spare : Nat → Bool} {held : Bool} {t : TypeId} {f0 f1 f2 f3 f4 f5 : Field} {fuel : Nat} {cs : List Value} {x : DataW H × List MemPlace} (ht : P.underlying t = some (.struct #[f0, f1, f2, f3, f4, f5])) (ce : P.cellsOf t = 6)
    (o0 : f0.offset = 0) (o1 : f1.offset = 1) (o2 : f2.offset = 2) (o3 : f3.offset = 3) (o4 : f4.offset = 4) (o5 : f5.offset = 5) (c0 : P.cellsOf f0.type = 1) (c1 : P.cellsOf f1.type = 1) (c2 : P.cellsOf f2.type = 1) (c3 : P.cellsOf f3.type = 1) (c4 : P.cellsOf f4.type = 1) (c5 : P.cellsOf f5.type = 1)
    (h : DataW.trod enc P w base spare held fuel t cs = some x) :
    ∃ (v0 v1 v2 v3 v4 v5 : Value) (y0 y1 y2 y3 y4 y5 : DataW H × List MemPlace) (k : Nat), cs = [v0, v1, v2, v3, v4, v5] ∧ x.1 = .agg [y0.1, y1.1, y2.1, y3.1, y4.1, y5.1] ∧ DataW.trod enc P w base spare held k f0.type [v0] = some y0 ∧ DataW.trod enc P w base spare held k f1.type [v1] = some y1 ∧ DataW.trod enc P w base spare held k f2.type [v2] = some y2 ∧ DataW.trod enc P w base spare held k f3.type [v3] = some y3 ∧ DataW.trod enc P w base spare held k f4.type [v4] = some y4 ∧ DataW.trod enc P w base spare held k f5.type [v5] = some y5 := by
  obtain ⟨xs, k, hk, hxy, hcl, hxl, hf⟩ := DataW.trod_struct ht h
  rw [ce] at hcl
  match xs, hxl, cs, hcl with
  | [y0, y1, y2, y3, y4, y5], _, [v0, v1, v2, v3, v4, v5], _ =>
    have g0 := hf 0 f0 rfl
    have g1 := hf 1 f1 rfl
    have g2 := hf 2 f2 rfl
    have g3 := hf 3 f3 rfl
    have g4 := hf 4 f4 rfl
    have g5 := hf 5 f5 rfl
    simp [o0, o1, o2, o3, o4, o5, c0, c1, c2, c3, c4, c5] at g0 g1 g2 g3 g4 g5
    exact ⟨v0, v1, v2, v3, v4, v5, y0, y1, y2, y3, y4, y5, k, rfl, by rw [hxy]; rfl, g0, g1, g2, g3, g4, g5⟩

set_option maxRecDepth 100000 in
/-- What six cells read as a value, where shorter slices of values read as lists. -/
theorem val_cells {H : Type} {enc : TypeId × Value → H} {W : World} {N : Nat} {held : Bool} {n : Nat} {cs : List Value} {d : DataW H} {p : List MemPlace}
    (ih : ∀ {fuel : Nat} {v : Value} {d : DataW H} {p : List MemPlace}, Rows.uptoBulk d ≤ N → DataW.trod enc Tryz.prog W 0 (fun _ => true) held fuel 43 [v] = some (d, p) →
      ∃ A n cap l, v = .slice A n cap ∧ n ≤ cap ∧ LRd W (fun g => g < W.heap.size) l A n ∧ i64L l ∧ sizeL l < Rows.uptoBulk d)
    (hN : Rows.uptoBulk d ≤ N + 1) (h : DataW.trod enc Tryz.prog W 0 (fun _ => true) held n 55 cs = some (d, p)) :
    ∃ x, cs.toArray.size = 6 ∧ VRd W (fun g => g < W.heap.size) x (.agg cs.toArray) ∧ i64V x ∧ sizeV x ≤ Rows.uptoBulk d := by
  obtain ⟨v0, v1, v2, v3, v4, v5, y0, y1, y2, y3, y4, y5, k, rfl, hxy, g0, g1, g2, g3, g4, g5⟩ := trod_six Tryz.underlying55 (by kernel_rfl) rfl rfl rfl rfl rfl rfl (by kernel_rfl) (by kernel_rfl) (by kernel_rfl) (by kernel_rfl) (by kernel_rfl) (by kernel_rfl) h
  obtain ⟨k0, e0, d0, w0⟩ := DataW.trod_int (by kernel_rfl : Tryz.prog.underlying 3 = some (.int .i64)) g0
  obtain ⟨k1, e1, d1⟩ := DataW.trod_bool (by kernel_rfl : Tryz.prog.underlying 4 = some .bool) g1
  obtain ⟨k2, e2, d2, w2⟩ := DataW.trod_int (by kernel_rfl : Tryz.prog.underlying 2 = some (.int .i64)) g2
  obtain ⟨k3, e3, d3, w3⟩ := DataW.trod_string (by kernel_rfl : Tryz.prog.underlying 9 = some .string) g3
  obtain ⟨k4, e4, d4, w4⟩ := DataW.trod_string (by kernel_rfl : Tryz.prog.underlying 9 = some .string) g4
  injection e0 with e0 _
  injection e1 with e1 _
  injection e2 with e2 _
  injection e3 with e3 _
  injection e4 with e4 _
  subst e0 e1 e2 e3 e4 d0 d1 d2 d3 d4
  obtain ⟨y5, p5⟩ := y5
  simp only at hxy
  subst hxy
  have hbulk : 6 + k3.size + k4.size + Rows.uptoBulk y5 ≤ Rows.uptoBulk (DataW.agg [.lit (.int .i64 k0), .lit (.bool k1), .lit (.int .i64 k2), .lit (.string k3.data.toList), .lit (.string k4.data.toList), y5]) := by
    have z3 : k3.data.toList.length = k3.size := by rw [Array.length_toList]; rfl
    have z4 : k4.data.toList.length = k4.size := by rw [Array.length_toList]; rfl
    simp only [Rows.uptoBulk, Rows.uptoBulkAll]
    omega
  obtain ⟨A, m, cap, l, e5, hcap, hl, h64, hsz⟩ := ih (by omega) g5
  subst e5
  have hm : m = l.length := hl.1
  subst hm
  have h2 : -9223372036854775808 ≤ k2 ∧ k2 ≤ 9223372036854775807 := by simpa [Lit.wf, IntKind.min, IntKind.max, IntKind.signed, IntKind.bits] using w2
  refine ⟨.mk k0 k1 k2 k3 k4 l, rfl, VRd.of_list (v := .mk k0 k1 k2 k3 k4 l) hcap hl, ⟨h2, h64⟩, ?_⟩
  simp only [sizeV]
  omega

set_option maxRecDepth 100000 in
/-- What a slice of values reads as. -/
theorem vals_open {H : Type} {enc : TypeId × Value → H} {W : World} {held : Bool} (N : Nat) : ∀ {fuel : Nat} {v : Value} {d : DataW H} {p : List MemPlace}, Rows.uptoBulk d ≤ N → DataW.trod enc Tryz.prog W 0 (fun _ => true) held fuel 43 [v] = some (d, p) →
      ∃ A n cap l, v = .slice A n cap ∧ n ≤ cap ∧ LRd W (fun g => g < W.heap.size) l A n ∧ i64L l ∧ sizeL l < Rows.uptoBulk d := by
  induction N with
  | zero => intro fuel v d p hN; have := bulks.one_le d; omega
  | succ N ih =>
    intro fuel v d p hN h
    rcases Go.Deep.open_slice Tryz.underlying43 h with ⟨h3, hd⟩ | ⟨a, len, cap, m, n, D, Pl, h3, _, hlc, hcm, hm, hd, hel⟩
    · injection h3 with h3 _
      subst h3
      exact ⟨none, 0, 0, [], rfl, Nat.le_refl _, LRd.nil 0 rfl, trivial, by simp only [sizeL]; exact bulks.one_le d⟩
    · injection h3 with h3 _
      subst h3
      have hml : len ≤ m := by rw [hm]; split <;> omega
      injection hd with hd _
      subst hd
      have hb := bulks.slice_elems ((List.range len).map D) ((List.range (m - len)).map fun j => D (len + j))
      have hDi : ∀ i, i < len → Rows.uptoBulk (D i) ≤ N := fun i hi => by
        have := bulks.part_le (List.mem_map.2 ⟨i, List.mem_range.2 hi, rfl⟩ : D i ∈ (List.range len).map D)
        omega
      have each : ∀ i, i < len → ∃ q : Val × Array Value, q.2.size = 6 ∧ (∀ j, j < 6 → W.cell? (a.add (i * 6 + j)) = q.2[j]?) ∧ VRd W (fun g => g < W.heap.size) q.1 (.agg q.2) ∧ i64V q.1 ∧ sizeV q.1 ≤ Rows.uptoBulk (D i) := fun i hi => by
        obtain ⟨cs', c1, c2⟩ := hel i (by omega)
        rw [show Tryz.prog.cellsOf 55 = 6 by kernel_rfl] at c1
        obtain ⟨_, hlen, hcell⟩ := World.cells?_some c1
        obtain ⟨x, x1, x2, x3, x4⟩ := val_cells (fun hN h => ih hN h) (Nat.le_succ_of_le (hDi i hi)) c2
        exact ⟨(x, cs'.toArray), x1, fun j hj => by rw [← cellAdd, hcell j hj]; simp, x2, x3, x4⟩
      have hex : ∃ q : Nat → Val × Array Value, ∀ i, i < len → (q i).2.size = 6 ∧ (∀ j, j < 6 → W.cell? (a.add (i * 6 + j)) = (q i).2[j]?) ∧ VRd W (fun g => g < W.heap.size) (q i).1 (.agg (q i).2) ∧ i64V (q i).1 ∧ sizeV (q i).1 ≤ Rows.uptoBulk (D i) := by
        classical
        exact ⟨fun i => if hi : i < len then Classical.choose (each i hi) else (.mk 0 false 0 ⟨#[]⟩ ⟨#[]⟩ [], #[]), fun i hi => by simp only [dif_pos hi]; exact Classical.choose_spec (each i hi)⟩
      obtain ⟨q, hq⟩ := hex
      refine ⟨some a, len, cap, (List.range len).map fun i => (q i).1, rfl, hlc, ⟨by simp, fun hn => ⟨a, rfl, ?_, fun i x hx => ?_⟩⟩, ?_, ?_⟩
      · obtain ⟨cs', c1, _⟩ := hel 0 (by omega)
        rw [show Tryz.prog.cellsOf 55 = 6 by kernel_rfl] at c1
        obtain ⟨_, hlen, hcell⟩ := World.cells?_some c1
        have h0 := hcell 0 (by omega)
        rw [List.getElem?_eq_getElem (by omega)] at h0
        have := World.block_lt_of_cell? W _ h0
        simpa [Addr.add] using this
      · rw [List.getElem?_map] at hx
        have hil : i < len := by
          rcases Nat.lt_or_ge i len with h' | h'
          · exact h'
          · rw [List.getElem?_eq_none (by simpa using h')] at hx; cases hx
        rw [List.getElem?_range hil] at hx
        injection hx with hx
        subst hx
        obtain ⟨q1, q2, q3, _⟩ := hq i hil
        exact ⟨_, q1, q2, q3⟩
      · have : ∀ L : List Nat, (∀ i, i ∈ L → i < len) → i64L (L.map fun i => (q i).1) := fun L => by
          induction L with
          | nil => intro _; trivial
          | cons x r ihl => intro hL; exact ⟨(hq x (hL x (List.mem_cons_self ..))).2.2.2.1, ihl fun i hi => hL i (List.mem_cons_of_mem _ hi)⟩
        exact this _ fun i hi => List.mem_range.1 hi
      · have : ∀ L : List Nat, (∀ i, i ∈ L → i < len) → sizeL (L.map fun i => (q i).1) ≤ Rows.uptoBulkAll (L.map D) := fun L => by
          induction L with
          | nil => intro _; simp [sizeL]
          | cons x r ihl =>
            intro hL
            have h1 := (hq x (hL x (List.mem_cons_self ..))).2.2.2.2
            have h2 := ihl fun i hi => hL i (List.mem_cons_of_mem _ hi)
            simp only [List.map_cons, sizeL, Rows.uptoBulkAll]
            omega
        have := this (List.range len) fun i hi => List.mem_range.1 hi
        omega

theorem trod_seven {H : Type} {enc : TypeId × Value → H} {P : Program} {w : World} {base : Nat} {spare : Nat → Bool} {held : Bool} {t : TypeId} {f0 f1 : Field} {fuel : Nat} {cs : List Value} {x : DataW H × List MemPlace} (ht : P.underlying t = some (.struct #[f0, f1])) (ce : P.cellsOf t = 7)
    (o0 : f0.offset = 0) (o1 : f1.offset = 1) (c0 : P.cellsOf f0.type = 1) (c1 : P.cellsOf f1.type = 6)
    (h : DataW.trod enc P w base spare held fuel t cs = some x) :
    ∃ (v0 v1 v2 v3 v4 v5 v6 : Value) (y0 y1 : DataW H × List MemPlace) (k : Nat), cs = [v0, v1, v2, v3, v4, v5, v6] ∧ x.1 = .agg [y0.1, y1.1] ∧ DataW.trod enc P w base spare held k f0.type [v0] = some y0 ∧ DataW.trod enc P w base spare held k f1.type [v1, v2, v3, v4, v5, v6] = some y1 := by
  obtain ⟨xs, k, hk, hxy, hcl, hxl, hf⟩ := DataW.trod_struct ht h
  rw [ce] at hcl
  match xs, hxl, cs, hcl with
  | [y0, y1], _, [v0, v1, v2, v3, v4, v5, v6], _ =>
    have g0 := hf 0 f0 rfl
    have g1 := hf 1 f1 rfl
    simp [o0, o1, c0, c1] at g0 g1
    exact ⟨v0, v1, v2, v3, v4, v5, v6, y0, y1, k, rfl, by rw [hxy]; rfl, g0, g1⟩
theorem trod_three {H : Type} {enc : TypeId × Value → H} {P : Program} {w : World} {base : Nat} {spare : Nat → Bool} {held : Bool} {t : TypeId} {f0 f1 f2 : Field} {fuel : Nat} {cs : List Value} {x : DataW H × List MemPlace} (ht : P.underlying t = some (.struct #[f0, f1, f2])) (ce : P.cellsOf t = 3)
    (o0 : f0.offset = 0) (o1 : f1.offset = 1) (o2 : f2.offset = 2) (c0 : P.cellsOf f0.type = 1) (c1 : P.cellsOf f1.type = 1) (c2 : P.cellsOf f2.type = 1)
    (h : DataW.trod enc P w base spare held fuel t cs = some x) :
    ∃ (v0 v1 v2 : Value) (y0 y1 y2 : DataW H × List MemPlace) (k : Nat), cs = [v0, v1, v2] ∧ x.1 = .agg [y0.1, y1.1, y2.1] ∧ DataW.trod enc P w base spare held k f0.type [v0] = some y0 ∧ DataW.trod enc P w base spare held k f1.type [v1] = some y1 ∧ DataW.trod enc P w base spare held k f2.type [v2] = some y2 := by
  obtain ⟨xs, k, hk, hxy, hcl, hxl, hf⟩ := DataW.trod_struct ht h
  rw [ce] at hcl
  match xs, hxl, cs, hcl with
  | [y0, y1, y2], _, [v0, v1, v2], _ =>
    have g0 := hf 0 f0 rfl
    have g1 := hf 1 f1 rfl
    have g2 := hf 2 f2 rfl
    simp [o0, o1, o2, c0, c1, c2] at g0 g1 g2
    exact ⟨v0, v1, v2, y0, y1, y2, k, rfl, by rw [hxy]; rfl, g0, g1, g2⟩
theorem trod_five {H : Type} {enc : TypeId × Value → H} {P : Program} {w : World} {base : Nat} {spare : Nat → Bool} {held : Bool} {t : TypeId} {f0 f1 f2 f3 f4 : Field} {fuel : Nat} {cs : List Value} {x : DataW H × List MemPlace} (ht : P.underlying t = some (.struct #[f0, f1, f2, f3, f4])) (ce : P.cellsOf t = 5)
    (o0 : f0.offset = 0) (o1 : f1.offset = 1) (o2 : f2.offset = 2) (o3 : f3.offset = 3) (o4 : f4.offset = 4) (c0 : P.cellsOf f0.type = 1) (c1 : P.cellsOf f1.type = 1) (c2 : P.cellsOf f2.type = 1) (c3 : P.cellsOf f3.type = 1) (c4 : P.cellsOf f4.type = 1)
    (h : DataW.trod enc P w base spare held fuel t cs = some x) :
    ∃ (v0 v1 v2 v3 v4 : Value) (y0 y1 y2 y3 y4 : DataW H × List MemPlace) (k : Nat), cs = [v0, v1, v2, v3, v4] ∧ x.1 = .agg [y0.1, y1.1, y2.1, y3.1, y4.1] ∧ DataW.trod enc P w base spare held k f0.type [v0] = some y0 ∧ DataW.trod enc P w base spare held k f1.type [v1] = some y1 ∧ DataW.trod enc P w base spare held k f2.type [v2] = some y2 ∧ DataW.trod enc P w base spare held k f3.type [v3] = some y3 ∧ DataW.trod enc P w base spare held k f4.type [v4] = some y4 := by
  obtain ⟨xs, k, hk, hxy, hcl, hxl, hf⟩ := DataW.trod_struct ht h
  rw [ce] at hcl
  match xs, hxl, cs, hcl with
  | [y0, y1, y2, y3, y4], _, [v0, v1, v2, v3, v4], _ =>
    have g0 := hf 0 f0 rfl
    have g1 := hf 1 f1 rfl
    have g2 := hf 2 f2 rfl
    have g3 := hf 3 f3 rfl
    have g4 := hf 4 f4 rfl
    simp [o0, o1, o2, o3, o4, c0, c1, c2, c3, c4] at g0 g1 g2 g3 g4
    exact ⟨v0, v1, v2, v3, v4, y0, y1, y2, y3, y4, k, rfl, by rw [hxy]; rfl, g0, g1, g2, g3, g4⟩

set_option maxRecDepth 100000 in
/-- What a slice reads as, where its elements read. -/
theorem slice_of {α : Type} [Inhabited α] {H : Type} {enc : TypeId × Value → H} {W : World} {held : Bool} {R : Lies α} {sz N : Nat} {T E : TypeId} {Q : α → Prop} {wt : α → Nat} (hT : Tryz.prog.underlying T = some (.slice E)) (hE : Tryz.prog.cellsOf E = sz) (hsz : 0 < sz)
    (each : ∀ {fuel : Nat} {cs : List Value} {d : DataW H} {p : List MemPlace}, Rows.uptoBulk d ≤ N → DataW.trod enc Tryz.prog W 0 (fun _ => true) held fuel E cs = some (d, p) → ∃ x : α, cs.toArray.size = sz ∧ R W (fun g => g < W.heap.size) x cs.toArray ∧ Q x ∧ wt x ≤ Rows.uptoBulk d)
    {fuel : Nat} {v : Value} {d : DataW H} {p : List MemPlace} (hN : Rows.uptoBulk d ≤ N) (h : DataW.trod enc Tryz.prog W 0 (fun _ => true) held fuel T [v] = some (d, p)) :
    ∃ l : List α, SlR sz R W (fun g => g < W.heap.size) l v ∧ (∀ x, x ∈ l → Q x) ∧ sumBy wt l < Rows.uptoBulk d ∧ l.length < Rows.uptoBulk d := by
  rcases Go.Deep.open_slice hT h with ⟨h3, hd⟩ | ⟨a, len, cap, m, n, D, Pl, h3, _, hlc, hcm, hm, hd, hel⟩
  · injection h3 with h3 _
    subst h3
    have h1 := bulks.one_le d
    exact ⟨[], SlR.nil .., fun x hx => (List.not_mem_nil hx).elim, by show 0 < _; omega, by show 0 < _; omega⟩
  · injection h3 with h3 _
    subst h3
    have hml : len ≤ m := by rw [hm]; split <;> omega
    injection hd with hd _
    subst hd
    have hb := bulks.slice_elems ((List.range len).map D) ((List.range (m - len)).map fun j => D (len + j))
    have hb2 := bulks.slice_le ((List.range len).map D) ((List.range (m - len)).map fun j => D (len + j))
    have hDi : ∀ i, i < len → Rows.uptoBulk (D i) ≤ N := fun i hi => by
      have := bulks.part_le (List.mem_map.2 ⟨i, List.mem_range.2 hi, rfl⟩ : D i ∈ (List.range len).map D)
      omega
    have ev : ∀ i, i < len → ∃ q : α × Array Value, q.2.size = sz ∧ (∀ j, j < sz → W.cell? (a.add (i * sz + j)) = q.2[j]?) ∧ R W (fun g => g < W.heap.size) q.1 q.2 ∧ Q q.1 ∧ wt q.1 ≤ Rows.uptoBulk (D i) := fun i hi => by
      obtain ⟨cs', c1, c2⟩ := hel i (by omega)
      rw [hE] at c1
      obtain ⟨_, hlen, hcell⟩ := World.cells?_some c1
      obtain ⟨x, x1, x2, x3, x4⟩ := each (hDi i hi) c2
      exact ⟨(x, cs'.toArray), x1, fun j hj => by rw [← cellAdd, hcell j hj]; simp, x2, x3, x4⟩
    have hex : ∃ q : Nat → α × Array Value, ∀ i, i < len → (q i).2.size = sz ∧ (∀ j, j < sz → W.cell? (a.add (i * sz + j)) = (q i).2[j]?) ∧ R W (fun g => g < W.heap.size) (q i).1 (q i).2 ∧ Q (q i).1 ∧ wt (q i).1 ≤ Rows.uptoBulk (D i) := by
      classical
      exact ⟨fun i => if hi : i < len then Classical.choose (ev i hi) else (default, #[]), fun i hi => by simp only [dif_pos hi]; exact Classical.choose_spec (ev i hi)⟩
    obtain ⟨q, hq⟩ := hex
    have hll : ((List.range len).map fun i => (q i).1).length = len := by simp
    refine ⟨(List.range len).map fun i => (q i).1, ⟨some a, cap, by rw [hll], by rw [hll]; exact hlc, rfl, fun hn => ⟨a, rfl, ?_, fun i x hx => ?_⟩⟩, ?_, ?_, ?_⟩
    · obtain ⟨cs', c1, _⟩ := hel 0 (by rw [hll] at hn; omega)
      rw [hE] at c1
      obtain ⟨_, hlen, hcell⟩ := World.cells?_some c1
      have h0 := hcell 0 hsz
      rw [List.getElem?_eq_getElem (by omega)] at h0
      have := World.block_lt_of_cell? W _ h0
      simpa [Addr.add] using this
    · rw [List.getElem?_map] at hx
      have hil : i < len := by
        rcases Nat.lt_or_ge i len with h' | h'
        · exact h'
        · rw [List.getElem?_eq_none (by simpa using h')] at hx; cases hx
      rw [List.getElem?_range hil] at hx
      injection hx with hx
      subst hx
      obtain ⟨q1, q2, q3, _⟩ := hq i hil
      exact ⟨_, q1, q2, q3⟩
    · intro x hx
      obtain ⟨i, hi, rfl⟩ := List.mem_map.1 hx
      exact (hq i (List.mem_range.1 hi)).2.2.2.1
    · have : ∀ L : List Nat, (∀ i, i ∈ L → i < len) → sumBy wt (L.map fun i => (q i).1) ≤ Rows.uptoBulkAll (L.map D) := fun L => by
        induction L with
        | nil => intro _; simp [sumBy]
        | cons x r ihl =>
          intro hL
          have h1 := (hq x (hL x (List.mem_cons_self ..))).2.2.2.2
          have h2 := ihl fun i hi => hL i (List.mem_cons_of_mem _ hi)
          simp only [sumBy, List.map_cons, List.sum_cons, Rows.uptoBulkAll] at h2 ⊢
          omega
      have := this (List.range len) fun i hi => List.mem_range.1 hi
      omega
    · rw [hll]
      have hh : ((List.range len).map D).length = len := by simp
      omega
instance : Inhabited Val := ⟨.mk 0 false 0 ⟨#[]⟩ ⟨#[]⟩ []⟩
instance : Inhabited PairD := ⟨⟨⟨#[]⟩, default⟩⟩
instance : Inhabited NodeD := ⟨⟨0, [], []⟩⟩
instance : Inhabited EdgeD := ⟨⟨0, 0, 0, ⟨#[]⟩, []⟩⟩
section
variable {H : Type} {enc : TypeId × Value → H} {W : World} {held : Bool} {fuel : Nat} {d : DataW H} {p : List MemPlace}
set_option maxRecDepth 100000 in
theorem text_el {cs : List Value} (hN : Rows.uptoBulk d ≤ 1048576) (h : DataW.trod enc Tryz.prog W 0 (fun _ => true) held fuel 9 cs = some (d, p)) :
    ∃ x : ByteArray, cs.toArray.size = 1 ∧ TxR W (fun g => g < W.heap.size) x cs.toArray ∧ x.size ≤ 2000000 ∧ (fun _ : ByteArray => 0) x ≤ Rows.uptoBulk d := by
  obtain ⟨s, rfl, e, _⟩ := DataW.trod_string (by kernel_rfl : Tryz.prog.underlying 9 = some .string) h
  injection e with e _
  subst e
  refine ⟨s, rfl, rfl, ?_, Nat.zero_le _⟩
  rw [bulks.string_eq, Array.length_toList] at hN
  have : s.size = s.data.size := rfl
  omega
theorem texts_of {v : Value} (hN : Rows.uptoBulk d ≤ 1048576) (h : DataW.trod enc Tryz.prog W 0 (fun _ => true) held fuel 35 [v] = some (d, p)) :
    ∃ l : List ByteArray, SlR 1 TxR W (fun g => g < W.heap.size) l v ∧ (∀ x, x ∈ l → x.size ≤ 2000000) ∧ sumBy (fun _ => 0) l < Rows.uptoBulk d ∧ l.length < Rows.uptoBulk d :=
  slice_of (Q := fun x : ByteArray => x.size ≤ 2000000) Tryz.underlying35 (by kernel_rfl) (by decide) (fun hN h => text_el hN h) hN h
set_option maxRecDepth 100000 in
theorem pair_el {cs : List Value} (hN : Rows.uptoBulk d ≤ 1048576) (h : DataW.trod enc Tryz.prog W 0 (fun _ => true) held fuel 57 cs = some (d, p)) :
    ∃ x : PairD, cs.toArray.size = 7 ∧ PaR W (fun g => g < W.heap.size) x cs.toArray ∧ FitP x ∧ (fun _ : PairD => 0) x ≤ Rows.uptoBulk d := by
  obtain ⟨v0, v1, v2, v3, v4, v5, v6, y0, y1, k, rfl, hxy, g0, g1⟩ := trod_seven Tryz.underlying57 (by kernel_rfl) rfl rfl (by kernel_rfl) (by kernel_rfl) h
  obtain ⟨s, e0, d0, _⟩ := DataW.trod_string (by kernel_rfl : Tryz.prog.underlying 9 = some .string) g0
  injection e0 with e0 _
  subst e0 d0
  obtain ⟨y1, p1⟩ := y1
  simp only at hxy
  subst hxy
  have hb : s.size + Rows.uptoBulk y1 ≤ Rows.uptoBulk (DataW.agg [.lit (.string s.data.toList), y1]) := by
    have z3 : s.data.toList.length = s.size := by rw [Array.length_toList]; rfl
    simp only [Rows.uptoBulk, Rows.uptoBulkAll]
    omega
  obtain ⟨x, x1, x2, _, x4⟩ := val_cells (N := 1048576) (fun hN h => vals_open 1048576 hN h) (by omega) g1
  obtain ⟨A, cap, hu, _, _⟩ := x2.inv
  injection hu with hu
  have hl := congrArg Array.toList hu
  unfold cellsV at hl
  simp only [List.cons.injEq, and_true] at hl
  obtain ⟨r1, r2, r3, r4, r5, r6⟩ := hl
  subst r1 r2 r3 r4 r5 r6
  refine ⟨⟨s, x⟩, rfl, ⟨_, rfl, x2⟩, ⟨?_, ?_⟩, Nat.zero_le _⟩
  · show s.size ≤ 2000000; omega
  · show sizeV x ≤ 2000000; omega
theorem pairs_of {v : Value} (hN : Rows.uptoBulk d ≤ 1048576) (h : DataW.trod enc Tryz.prog W 0 (fun _ => true) held fuel 36 [v] = some (d, p)) :
    ∃ l : List PairD, SlR 7 PaR W (fun g => g < W.heap.size) l v ∧ (∀ x, x ∈ l → FitP x) ∧ sumBy (fun _ => 0) l < Rows.uptoBulk d ∧ l.length < Rows.uptoBulk d :=
  slice_of (Q := FitP) Tryz.underlying36 (by kernel_rfl) (by decide) (fun hN h => pair_el hN h) hN h
set_option maxRecDepth 100000 in
theorem node_el {cs : List Value} (hN : Rows.uptoBulk d ≤ 1048576) (h : DataW.trod enc Tryz.prog W 0 (fun _ => true) held fuel 38 cs = some (d, p)) :
    ∃ x : NodeD, cs.toArray.size = 3 ∧ NoR W (fun g => g < W.heap.size) x cs.toArray ∧ (FitN x ∧ VI x.id) ∧ wN x ≤ Rows.uptoBulk d := by
  obtain ⟨v0, v1, v2, y0, y1, y2, k, rfl, hxy, g0, g1, g2⟩ := trod_three Tryz.underlying38 (by kernel_rfl) rfl rfl rfl (by kernel_rfl) (by kernel_rfl) (by kernel_rfl) h
  obtain ⟨i0, e0, d0, w0⟩ := DataW.trod_int (by kernel_rfl : Tryz.prog.underlying 2 = some (.int .i64)) g0
  injection e0 with e0 _
  subst e0 d0
  obtain ⟨y1, p1⟩ := y1
  obtain ⟨y2, p2⟩ := y2
  simp only at hxy
  subst hxy
  have hb : Rows.uptoBulk y1 + Rows.uptoBulk y2 ≤ Rows.uptoBulk (DataW.agg [.lit (.int .i64 i0), y1, y2]) := by
    simp only [Rows.uptoBulk, Rows.uptoBulkAll]
    omega
  obtain ⟨L, l1, l2, _, l4⟩ := texts_of (by omega) g1
  obtain ⟨P, q1, q2, _, q4⟩ := pairs_of (by omega) g2
  exact ⟨⟨i0, L, P⟩, rfl, ⟨_, _, rfl, l1, q1⟩, ⟨⟨by show L.length ≤ 2000000; omega, by show P.length ≤ 2000000; omega, l2, q2⟩, w0⟩, by show L.length + P.length ≤ _; omega⟩
set_option maxRecDepth 100000 in
theorem edge_el {cs : List Value} (hN : Rows.uptoBulk d ≤ 1048576) (h : DataW.trod enc Tryz.prog W 0 (fun _ => true) held fuel 41 cs = some (d, p)) :
    ∃ x : EdgeD, cs.toArray.size = 5 ∧ EdR W (fun g => g < W.heap.size) x cs.toArray ∧ (FitE x ∧ VI x.id ∧ VI x.src ∧ VI x.dst) ∧ wE x ≤ Rows.uptoBulk d := by
  obtain ⟨v0, v1, v2, v3, v4, y0, y1, y2, y3, y4, k, rfl, hxy, g0, g1, g2, g3, g4⟩ := trod_five Tryz.underlying41 (by kernel_rfl) rfl rfl rfl rfl rfl (by kernel_rfl) (by kernel_rfl) (by kernel_rfl) (by kernel_rfl) (by kernel_rfl) h
  obtain ⟨i0, e0, d0, w0⟩ := DataW.trod_int (by kernel_rfl : Tryz.prog.underlying 2 = some (.int .i64)) g0
  obtain ⟨i1, e1, d1, w1⟩ := DataW.trod_int (by kernel_rfl : Tryz.prog.underlying 2 = some (.int .i64)) g1
  obtain ⟨i2, e2, d2, w2⟩ := DataW.trod_int (by kernel_rfl : Tryz.prog.underlying 2 = some (.int .i64)) g2
  obtain ⟨s, e3, d3, _⟩ := DataW.trod_string (by kernel_rfl : Tryz.prog.underlying 9 = some .string) g3
  injection e0 with e0 _
  injection e1 with e1 _
  injection e2 with e2 _
  injection e3 with e3 _
  subst e0 d0 e1 d1 e2 d2 e3 d3
  obtain ⟨y4, p4⟩ := y4
  simp only at hxy
  subst hxy
  have hb : s.size + Rows.uptoBulk y4 ≤ Rows.uptoBulk (DataW.agg [.lit (.int .i64 i0), .lit (.int .i64 i1), .lit (.int .i64 i2), .lit (.string s.data.toList), y4]) := by
    have z3 : s.data.toList.length = s.size := by rw [Array.length_toList]; rfl
    simp only [Rows.uptoBulk, Rows.uptoBulkAll]
    omega
  obtain ⟨P, q1, q2, _, q4⟩ := pairs_of (by omega) g4
  exact ⟨⟨i0, i1, i2, s, P⟩, rfl, ⟨_, rfl, q1⟩, ⟨⟨by show s.size ≤ 2000000; omega, by show P.length ≤ 2000000; omega, q2⟩, w0, w1, w2⟩, by show P.length ≤ _; omega⟩
end
set_option maxRecDepth 100000 in
/-- What a graph reads as. -/
theorem graph_open {H : Type} {enc : TypeId × Value → H} {W : World} {base : Nat} {v : Value} {d : DataW H} {p : List MemPlace} (hk : Rows.uptoBulk d ≤ 1048576) (hv : Value.okWide Tryz.prog W .any base 25 v)
    (h : DataW.Trod enc Tryz.prog W 0 (fun _ => true) true 25 v d p) :
    ∃ g : GraphD, GrR W (fun b => b < W.heap.size) g v ∧ FitG g ∧ totalG g ≤ 1000000000 := by
  obtain ⟨v0, v1, y0, y1, m, rfl, rfl, rfl, h0, h1⟩ := open_agg2 Tryz.underlying25 (by kernel_rfl) (by kernel_rfl) hv h
  obtain ⟨y0, p0⟩ := y0
  obtain ⟨y1, p1⟩ := y1
  simp only [Rows.uptoBulk, Rows.uptoBulkAll] at hk
  obtain ⟨N, n1, n2, n3, n4⟩ := slice_of (Q := fun n => FitN n ∧ VI n.id) (wt := wN) Tryz.underlying22 (by kernel_rfl) (by decide) (fun hN h => node_el hN h) (by omega) h0
  obtain ⟨E, q1, q2, q3, q4⟩ := slice_of (Q := fun x => FitE x ∧ VI x.id ∧ VI x.src ∧ VI x.dst) (wt := wE) Tryz.underlying23 (by kernel_rfl) (by decide) (fun hN h => edge_el hN h) (by omega) h1
  refine ⟨⟨N, E⟩, ⟨_, _, rfl, n1, q1⟩, ⟨by show N.length ≤ 2000000; omega, by show E.length ≤ 2000000; omega, n2, q2⟩, ?_⟩
  show N.length + E.length + sumBy wN N + sumBy wE E ≤ 1000000000
  omega
end Go.Proofs.YtmhjbicbdahllaaGreatDoor

namespace Go.Proofs.YtmhjbicbdahllaaGreatDoor
open Go Go.ChangeShapes Go.WideShapes Go.ChangeAt Go.RowKit Go.Joins

section
variable {H : Type} {enc : TypeId × Value → H} {P : Program}
theorem post_of_below {f : Func} {s : ChangeSpec} {apart fresh handsOn again : Bool} {W W' : World} {args : Array Value} {v : Value} {ds gs : List (DataW H)} {before pa pv : List MemPlace}
    (hW : DataW.Whole enc P f.params.toList s.vars apart W args.toList ds gs before)
    (hres : ∀ (b : Nat) (sp : Nat → Bool) (hd : Bool), DataW.TrodAll enc P W' b sp hd f.resultTypes.toList (v.resultList f.resultTypes.size) (s.fn H (ds ++ gs)).results [])
    (hargs : ∀ sp : Nat → Bool, (∀ p ∈ before, sp p.block = true) → DataW.TrodAll enc P W' 0 sp true f.params.toList args.toList (s.fn H (ds ++ gs)).args pa)
    (hvars : ∀ sp : Nat → Bool, (∀ p ∈ before, sp p.block = true) → DataW.TrodVars enc P W' sp s.vars (s.fn H (ds ++ gs)).vars pv)
    (hps : before = pa ++ pv) (hb : Below W.heap.size W W')
    (hok : ∀ (j : Nat) (t : TypeId) (r : Value), f.resultTypes[j]? = some t → (v.resultList f.resultTypes.size)[j]? = some r → Value.okWide P W' .any 0 t r) :
    s.post enc P f apart fresh handsOn again W args v W' := by
  have hlt : ∀ p ∈ before, p.block < W.heap.size := fun p hp => hW.lt p hp
  have hold : ∀ p ∈ before, (fun b => decide (b < W.heap.size)) p.block = true := fun p hp => by simpa using hlt p hp
  refine ⟨ds, gs, before, [], pa, pv, hW, hres _ _ _, hargs _ hold, hvars _ hold, World.keptBut_mono (fun p hp => ⟨hp, ?_⟩) (hb.frame (· ∈ before)), fun _ => ?_⟩
  · rw [hps, List.mem_append] at hp
    exact Or.inr hp
  · obtain ⟨_, _, _, _, _, hz, hn⟩ := hW
    refine ⟨hok, _, _, ([] ++ pa) ++ pv, ⟨[] ++ pa, pv, trodAll_append (hargs _ (fun _ _ => rfl)) (hres _ _ _), hvars _ (fun _ _ => rfl), rfl, ?_, ?_⟩, ?_⟩
    · intro b off hp
      have hin : MemPlace.cell b off ∈ before := by rw [hps]; simpa using hp
      rw [hb.frozen (hlt _ hin)]
      exact hz b off hin
    · intro ha
      have := hn ha
      rw [hps] at this
      simpa using this
    · intro p hp _
      rw [hps]
      simpa using hp
end

theorem own : ownKnob Tryz.prog.godebug = none := by kernel_rfl
theorem laidOut : laidOutB Tryz.prog = true := by kernel_rfl

set_option maxRecDepth 100000 in
theorem glob_of_shape {W : World} (h : W.ShapedOpen Tryz.prog) : GlobB W :=
  cell_of_shapedOpen_int (P := Tryz.prog) (g := 0) (t := 3) (zero := #[.int .i64 0]) h (of_decide_eq_true (by kernel_rfl)) (by kernel_rfl) rfl (by kernel_rfl) (by kernel_rfl) (by kernel_rfl)

set_option maxRecDepth 100000 in
theorem graphProps_contract (H : Type) (enc : TypeId × Value → H) (W : World) (base : Nat) (args : Array Value) (ds gs : List (DataW H)) (before : List MemPlace)
    (hval0 : ∀ (j : Nat) t v, Tryz.f6.params[j]? = some t → args[j]? = some v → Value.okWide Tryz.prog W .any base t v)
    (hW : DataW.Whole enc Tryz.prog Tryz.f6.params.toList Rows.graphPropsSpec.vars false W args.toList ds gs before) (hk : Rows.uptoSmall H (ds ++ gs) = true) (hg : GlobB W) :
    Calls Tryz.prog 6 args W fun e W' => ∃ v, e = .returned v ∧ Rows.graphPropsSpec.post enc Tryz.prog Tryz.f6 false true false false W args v W' := by
  have hval : ∀ (j : Nat) t v, Tryz.f6.params[j]? = some t → args[j]? = some v → Value.okWide Tryz.prog W .any base t v := hval0
  have hW' := hW
  obtain ⟨p, q, hA0, hV, rfl, hfz, hnd⟩ := hW
  have hA : DataW.TrodAll enc Tryz.prog W 0 (fun _ => true) true Tryz.f6.params.toList args.toList ds p := hA0
  rw [Tryz.params6] at hA hval
  obtain ⟨v, d, rfl, rfl, h0⟩ := trodAll_one hA
  obtain ⟨rfl, rfl⟩ := trodVars_none hV
  clear hA0 hval0
  simp only [List.append_nil] at hW' hk
  have hlt : ∀ x ∈ p, x.block < W.heap.size := fun x hx => hW'.lt x hx
  have hbk : Rows.uptoBulkAll [d] ≤ 1048576 := of_decide_eq_true hk
  simp only [Rows.uptoBulkAll] at hbk
  obtain ⟨g, a1, a2, a3⟩ := graph_open (by omega) (hval 0 25 v rfl rfl) h0
  refine (graphProps_any g a2 a3 _ v W (fun _ h => h) a1 hg).mono fun e W' ⟨he, hg⟩ => ?_
  subst he
  exact ⟨_, rfl, post_of_below (pa := p) (pv := []) hW' (fun _ _ _ => (trodAll_cons_mk (shut_bool Tryz.underlying4 _) trodAll_mk0))
    (fun sp hsp => trodAll_mk1 (WideElems.Trod_stays laidOut (by kernel_rfl) (of_decide_eq_true (by kernel_rfl)) h0 (fun x hx => hg.same (hlt x hx)) hsp)) (fun _ _ => rfl) (by simp)
    hg (ok_one (by kernel_rfl) rfl (okWide_bool_mk Tryz.underlying4 _))⟩

set_option maxRecDepth 100000 in
theorem graphProps_lifted (os : Os) (started : os.Started) (H : Type) (enc : TypeId × Value → H) (F : Stop.Interp) :
    ReturnsInHanded {} Tryz.checked os 6 .any ((Rows.OpenSpec.upto Rows.graphPropsSpec).preRow enc Tryz.prog Tryz.f6 Rows.graphPropsUptoRow.domain false Rows.graphPropsUptoRow.laid) (((Rows.OpenSpec.upto Rows.graphPropsSpec).at F).post enc Tryz.prog Tryz.f6 false true false false) := by
  have hx : ∃ places, DataW.whole enc Tryz.prog ((World.laidAll Tryz.prog os Rows.graphPropsUptoRow.laid).forCall (fun _ _ => 0) ⟨#[], #[.agg #[.slice none 0 0, .slice none 0 0]], []⟩).memory Tryz.f6.params.toList Rows.graphPropsSpec.vars false #[.agg #[.slice none 0 0, .slice none 0 0]].toList 8 = some ([.agg [.nil, .nil]], [], places) := ⟨[], by kernel_rfl⟩
  obtain ⟨places, hx⟩ := hx
  refine returnsInHanded_of_row (C := Tryz.checked) (s := Rows.OpenSpec.upto Rows.graphPropsSpec) own started (by kernel_rfl) Tryz.func6
    (witness_row_at (enc := enc) (C := Tryz.checked) false (World.laidAll Tryz.prog os Rows.graphPropsUptoRow.laid) #[.agg #[.slice none 0 0, .slice none 0 0]] (World.laidAll_os _ _ _) (by kernel_rfl) (by kernel_rfl) (by kernel_rfl)
      (OpenSpec.preRow_of_cond 8 hx (by kernel_rfl) (fun k hk => by cases hk; kernel_rfl) (by kernel_rfl) (laidMet_laidAll _ (by kernel_rfl) (by kernel_rfl)))) ?_
  intro W base args ds gs before hval hW _ hcond _ hL hsh _
  exact graphProps_contract H enc W base args ds gs before hval hW (hcond _ rfl) (glob_of_shape hsh)

theorem graphProps_holds : Rows.GraphPropsUptoSaid :=
  OpenClaim.holds_of_cond 6 Tryz.f6 rfl rfl rfl rfl rfl rfl rfl ⟨rfl, rfl, rfl, rfl, rfl⟩ rfl rfl rfl rfl rfl (by kernel_rfl) Tryz.func6 (by kernel_rfl)
    (of_decide_eq_true (by kernel_rfl)) (by unfold Func.isWrapper; first | (rw [if_pos (by decide +kernel)]; kernel_rfl) | (rw [if_neg (by decide +kernel)]; exact ⟨rfl, rfl⟩))
    (fun os started H enc _ F => by rw [OpenClaim.pre_eq_preRow]; exact graphProps_lifted os started H enc F)

theorem graphProps_card : Rows.GraphPropsUptoCardSaid :=
  Claim7.holds_tied_plain_at .later [] _ _ _ _ graphProps_holds (fun _ h => by cases h) (by kernel_rfl) (fun _ h => by cases h) graphPropsUpto_row_tie rfl ⟨rfl, rfl⟩ (by kernel_rfl) rfl
    (fun f fn hf hfn => by
      obtain rfl : f = 6 := Option.some.inj ((show Tryz.prog.funcNamed "diptych/diptychlaw6.GraphProps" = some 6 by kernel_rfl).symm.trans hf) |>.symm
      obtain rfl : fn = Tryz.f6 := (Option.some.inj (Tryz.func6.symm.trans hfn)).symm
      exact ⟨by kernel_rfl, fun j t ht => by
        rw [Tryz.params6] at ht
        have hm : t ∈ [25] := by simpa using Array.mem_of_getElem? ht
        have hall : ([25].all fun u => !Tryz.prog.wantsStandIn u) = true := by kernel_rfl
        exact (show Tryz.prog.wantsStandIn t = false by simpa using List.all_eq_true.1 hall t hm)⟩)
    (by kernel_rfl)
end Go.Proofs.YtmhjbicbdahllaaGreatDoor
