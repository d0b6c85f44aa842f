/- GraphEdges answers true where what it reads is of bulk at most 1048576: any graph: each edge is among those that begin at its source, that end at its target and that touch either, and all edges that begin somewhere are all edges, each once; no other condition. -/
import Derived.Test.YtmhjbicbdahllaaGreatDoorGJ
import Derived.Test.YtmhjbicbdahllaaGreatDoorGK
import Derived.Deep.RegionHeld3
import Derived.Test.YtmhjbicbdahllaaGreatDoorGM
import Derived.Test.YtmhjbicbdahllaaGreatDoorGO
import Derived.Test.YtmhjbicbdahllaaGreatDoorGN
import Derived.BigQuiet
import Derived.Test.YtmhjbicbdahllaaGreatDoorGI
import Derived.Test.YtmhjbicbdahllaaGreatDoorVG
import Derived.Test.YtmhjbicbdahllaaGreatDoorBulk
import Derived.Deep.Slices
import Derived.Lib.SmallJoins
import Derived.Test.YtmhjbicbdahllaaGreatDoorCards
import Derived.Test.YtmhjbicbdahllaaGreatDoorTie
import Derived.ProofKit
import Derived.OpenShut
import Derived.ChangeSame
import Derived.Carry
import Derived.Lay
import Derived.LaidOnce
import Derived.SevenTiedAt
import Derived.Deep.DeepHandedRow
import Derived.Shelf.Vars
namespace Go.Proofs.YtmhjbicbdahllaaGreatDoor
open Go Go.RowKit

theorem propsG_all {l : List PairD} : ∀ {ks : List ByteArray}, propsG ks l = true → (∀ p, p ∈ l → textB p.key = true ∧ p.key ∉ ks) ∧ (∀ p q, p ∈ l → q ∈ l → p.key = q.key → p = q) := by
  induction l with
  | nil => intro ks _; exact ⟨fun p hp => (List.not_mem_nil hp).elim, fun p q hp => (List.not_mem_nil hp).elim⟩
  | cons x r ih =>
    intro ks h
    simp only [propsG, Bool.and_eq_true] at h
    obtain ⟨⟨h1, h2, h3⟩, h4⟩ := h
    obtain ⟨i1, i2⟩ := ih h4
    have hx : x.key ∉ ks := fun hm => by rw [inB_yes hm] at h2; cases h2
    constructor
    · intro p hp
      rcases List.mem_cons.1 hp with rfl | hp
      · exact ⟨h1, hx⟩
      · exact ⟨(i1 p hp).1, fun hm => (i1 p hp).2 (List.mem_append_left _ hm)⟩
    · intro p q hp hq e
      rcases List.mem_cons.1 hp with e1 | hp1
      · rcases List.mem_cons.1 hq with e2 | hq2
        · rw [e1, e2]
        · exact absurd (List.mem_append_right ks (List.mem_singleton.2 (by rw [← e, e1]))) (i1 q hq2).2
      · rcases List.mem_cons.1 hq with e2 | hq2
        · exact absurd (List.mem_append_right ks (List.mem_singleton.2 (by rw [e, e2]))) (i1 p hp1).2
        · exact i2 p q hp1 hq2 e
theorem propsB_all {l : List PairD} (h : propsB l = true) : (∀ p, p ∈ l → textB p.key = true) ∧ (∀ p q, p ∈ l → q ∈ l → p.key = q.key → p = q) := by
  unfold propsB at h
  rw [Bool.and_eq_true] at h
  have := propsG_all h.1
  exact ⟨fun p hp => (this.1 p hp).1, this.2⟩
theorem found_key {l ps : List PairD} {q : PairD} {r : Val} (hp : propsB ps = true) (hq : q ∈ ps) (hl : l.Perm ps) (hf : FoundP l q.key r) : r = q.v := by
  rcases hf with ⟨p, h1, h2, h3⟩ | ⟨h1, _⟩
  · rw [h3, (propsB_all hp).2 p q (hl.mem_iff.1 h1) hq h2]
  · exact absurd rfl (h1 q (hl.mem_iff.2 hq))
theorem found_none {l ps : List PairD} {r : Val} (hp : propsB ps = true) (hl : l.Perm ps) (hf : FoundP l ⟨#[]⟩ r) : r = zeroV := by
  rcases hf with ⟨p, h1, h2, h3⟩ | ⟨_, h2⟩
  · have := (propsB_all hp).1 p (hl.mem_iff.1 h1)
    rw [h2] at this
    exact absurd this (by decide)
  · exact h2
theorem found_nil {key : ByteArray} {r : Val} (hf : FoundP [] key r) : r = zeroV := by
  rcases hf with ⟨p, h1, _⟩ | ⟨_, h2⟩
  · cases h1
  · exact h2
theorem props_other {G : GraphD} {k id : Int} {l : List PairD} (h6 : k ≠ 6) (h7 : k ≠ 7) (h : PropsOf G k id l) : l = [] := by
  rcases h with ⟨h, _⟩ | ⟨h, _⟩ | ⟨_, _, h⟩
  · exact absurd h h6
  · exact absurd h h7
  · exact h
theorem nodup_inj {α : Type} {key : α → Int} {l : List α} (hn : (l.map key).Nodup) {x y : α} (hx : x ∈ l) (hy : y ∈ l) (e : key x = key y) : x = y := by
  induction l with
  | nil => cases hx
  | cons a r ih =>
    rw [List.map_cons, List.nodup_cons] at hn
    rcases List.mem_cons.1 hx with e1 | hx1
    · rcases List.mem_cons.1 hy with e2 | hy2
      · rw [e1, e2]
      · exact absurd (List.mem_map.2 ⟨y, hy2, by rw [← e, e1]⟩) hn.1
    · rcases List.mem_cons.1 hy with e2 | hy2
      · exact absurd (List.mem_map.2 ⟨x, hx1, by rw [e, e2]⟩) hn.1
      · exact ih hn.2 hx1 hy2
theorem may_parts {g : GraphD} (hm : mayG g = true) : scanG okN NodeD.id [] g.nodes = true ∧ scanG (okE (g.nodes.map NodeD.id)) EdgeD.id [] g.edges = true := by
  unfold mayG at hm
  rw [Bool.and_eq_true, Bool.and_eq_true] at hm
  exact hm.2
theorem may_node {g : GraphD} (hm : mayG g = true) {n : NodeD} (hn : n ∈ g.nodes) : propsB n.props = true ∧ (lablG [] n.labels = true ∧ n.labels.length ≤ 65536) := by
  obtain ⟨i, hi⟩ := List.mem_iff_getElem?.1 hn
  have h := scan_mem (may_parts hm).1 hi
  unfold okN at h
  simp only [Bool.and_eq_true] at h
  exact ⟨h.2.2.2.2, h.2.2.1, of_decide_eq_true h.2.2.2.1⟩
theorem may_edge {g : GraphD} (hm : mayG g = true) {e : EdgeD} (he : e ∈ g.edges) : propsB e.props = true := by
  obtain ⟨i, hi⟩ := List.mem_iff_getElem?.1 he
  have h := scan_mem (may_parts hm).2 hi
  unfold okE at h
  simp only [Bool.and_eq_true] at h
  exact h.2.2.2.2.2
theorem may_nodupN {g : GraphD} (hm : mayG g = true) : (g.nodes.map NodeD.id).Nodup := scan_nodup (fun _ _ h => okN_new h) List.nodup_nil (may_parts hm).1
theorem may_nodupE {g : GraphD} (hm : mayG g = true) : (g.edges.map EdgeD.id).Nodup := scan_nodup (fun _ _ h => okE_new h) List.nodup_nil (may_parts hm).2
theorem perm_all {α β : Type} {R : α → β → Prop} {l : List α} {m l' : List β} (h : All2 R l m) (hp : l'.Perm m) {y : β} (hy : y ∈ l') : ∃ x, x ∈ l ∧ R x y := h.mem (hp.mem_iff.1 hy)
theorem all_perm {α β : Type} {R : α → β → Prop} {l : List α} {m l' : List β} (h : All2 R l m) (hp : l'.Perm m) {x : α} (hx : x ∈ l) : ∃ y, y ∈ l' ∧ R x y := by
  obtain ⟨i, hi⟩ := List.mem_iff_getElem?.1 hx
  have hl : i < m.length := by rw [← h.1]; exact idx_lt hi
  have hy := List.getElem?_eq_getElem hl
  exact ⟨_, hp.mem_iff.2 (List.mem_of_getElem? hy), h.2 i x _ hi hy⟩
theorem props_node {g g' : GraphD} (hm : mayG g = true) (hs : SrtG g g') {n : NodeD} (hn : n ∈ g.nodes) {l : List PairD} (h : PropsOf g' 6 n.id l) : l.Perm n.props := by
  obtain ⟨⟨m, h1, h2, _⟩, _⟩ := hs
  rcases h with ⟨_, n', hn', hid, rfl⟩ | ⟨h, _⟩ | ⟨h, _⟩
  · obtain ⟨x, hx, hr⟩ := perm_all h1 h2 hn'
    have e : x = n := nodup_inj (may_nodupN hm) hx hn (by rw [← hr.1, hid])
    rw [← e]
    exact hr.2.2.1
  · exact absurd h (by decide)
  · obtain ⟨y, hy, hr⟩ := all_perm h1 h2 hn
    exact absurd (List.mem_map.2 ⟨y, hy, hr.1⟩) (h rfl)
theorem props_edge {g g' : GraphD} (hm : mayG g = true) (hs : SrtG g g') {n : EdgeD} (hn : n ∈ g.edges) {l : List PairD} (h : PropsOf g' 7 n.id l) : l.Perm n.props := by
  obtain ⟨_, ⟨m, h1, h2, _⟩⟩ := hs
  rcases h with ⟨h, _⟩ | ⟨_, n', hn', hid, rfl⟩ | ⟨_, h, _⟩
  · exact absurd h (by decide)
  · obtain ⟨x, hx, hr⟩ := perm_all h1 h2 hn'
    have e : x = n := nodup_inj (may_nodupE hm) hx hn (by rw [← hr.1, hid])
    rw [← e]
    exact hr.2.2.2.2.1
  · obtain ⟨y, hy, hr⟩ := all_perm h1 h2 hn
    exact absurd (List.mem_map.2 ⟨y, hy, hr.1⟩) (h rfl)
/-- All properties of a sorted store are fit to be copied. -/
theorem props_fit {g g' : GraphD} (hm : mayG g = true) (hfit : FitG g) (hs : SrtG g g') {k id : Int} {l : List PairD} (h : PropsOf g' k id l) : l.length ≤ 2000000 ∧ ∀ p, p ∈ l → FlatP p ∧ FitP p := by
  obtain ⟨⟨m, h1, h2, _⟩, ⟨m', h3, h4, _⟩⟩ := hs
  rcases h with ⟨_, n', hn', _, rfl⟩ | ⟨_, n', hn', _, rfl⟩ | ⟨_, _, rfl⟩
  · obtain ⟨x, hx, hr⟩ := perm_all h1 h2 hn'
    have hp : n'.props.Perm x.props := hr.2.2.1
    have hf := (hfit.2.2.1 x hx).1
    exact ⟨by rw [hp.length_eq]; exact hf.2.1, fun p hq => ⟨propsB_flat (may_node hm hx).1 p (hp.mem_iff.1 hq), hf.2.2.2 p (hp.mem_iff.1 hq)⟩⟩
  · obtain ⟨x, hx, hr⟩ := perm_all h3 h4 hn'
    have hp : n'.props.Perm x.props := hr.2.2.2.2.1
    have hf := (hfit.2.2.2 x hx).1
    exact ⟨by rw [hp.length_eq]; exact hf.2.1, fun p hq => ⟨propsB_flat (may_edge hm hx) p (hp.mem_iff.1 hq), hf.2.2 p (hp.mem_iff.1 hq)⟩⟩
  · exact ⟨by simp, fun p hp => by cases hp⟩
theorem srt_len {g g' : GraphD} (hfit : FitG g) (hs : SrtG g g') : g'.nodes.length ≤ 2000000 ∧ g'.edges.length ≤ 2000000 := by
  obtain ⟨⟨m, h1, h2, _⟩, ⟨m', h3, h4, _⟩⟩ := hs
  exact ⟨by rw [h2.length_eq, ← h1.1]; exact hfit.1, by rw [h4.length_eq, ← h3.1]; exact hfit.2.1⟩
end Go.Proofs.YtmhjbicbdahllaaGreatDoor

namespace Go.Proofs.YtmhjbicbdahllaaGreatDoor
open Go Go.RowKit

set_option maxRecDepth 100000 in
set_option maxHeartbeats 1000000 in
theorem eqTexts_same (l : List ByteArray) (F G : Nat → Prop) (A B : Option Addr) (n c1 c2 : Nat) (w : World) (h1 : SRd 1 TxR w F l A n) (h2 : SRd 1 TxR w G l B n) (hn : n ≤ 1000000000) :
    Calls Tryz.prog 65 #[.slice A n c1, .slice B n c2] w (ToldBd true w) := by
  have H1 := Lib.hid h1
  have H2 := Lib.hid h2
  have L1 := Lib.hid h1.1
  clear h1 h2
  have t0 : ((n : Int) != n) = false := bne_self_eq_false _
  go_enter Tryz.func65, Tryz.ntmps65
  go_wp2_with fail
  go_loopw [5] (fun s5 wx => ∃ k q : Nat, k ≤ n ∧ s5 = .int .i64 (k : Nat) ∧ Hid (wx = w.drewN q)) (fun s5 _ => n - (intOf s5).toNat)
  case atStart => exact ⟨0, 0, by omega, rfl, Lib.hid rfl⟩
  case round =>
    obtain ⟨k, q, hk, rfl, hM⟩ := hrel
    by_cases hlt : k < n
    · obtain ⟨x, hx⟩ : ∃ x, l[k]? = some x := ⟨l[k]'(by rw [← L1.out]; exact hlt), List.getElem?_eq_getElem _⟩
      obtain ⟨ad, rfl, _, q0⟩ := textAt (H1.out.keep TxR.good (w' := wr) (fun p _ => by rw [hM.out]; rfl)) hx
      obtain ⟨bd, rfl, _, q1⟩ := textAt (H2.out.keep TxR.good (w' := wr) (fun p _ => by rw [hM.out]; rfl)) hx
      clear hx
      have e1 : (0 : Int) ≤ k := by omega
      have e2 : (k : Int) < n := by omega
      have w1 : IntKind.i64.wrap ((k : Int) + 1) = (k : Int) + 1 := IntWalk.i64_in _ (by omega)
      have u1 : (x.toList != x.toList) = false := bne_self_eq_false _
      go_upto_region 6 with fail
      go_quiet (fail)
      have HW := Lib.hid (show wr.drewN nq = w.drewN (q + nq) by rw [hM.out, World.drewN_drewN])
      clear hM
      go_wp2_with fail
      go_roundw
      case rel => exact ⟨k + 1, q + nq, by omega, by go_num, HW⟩
      case measure => simp [intOf]; omega
    · have hke : n = k := by omega
      subst hke
      go_wp2_with fail
      go_ret
      exact ⟨rfl, q, hM.out⟩
set_option maxRecDepth 100000 in
set_option maxHeartbeats 4000000 in
theorem eqProps_same (l : List PairD) (hfit : ∀ p, p ∈ l → FitP p) (F G : Nat → Prop) (A B : Option Addr) (n c1 c2 : Nat) (w : World) (hF : ∀ b, F b → b < w.heap.size) (hG : ∀ b, G b → b < w.heap.size) (h1 : SRd 7 PaR w F l A n) (h2 : SRd 7 PaR w G l B n) (hn : n ≤ 1000000000) :
    Calls Tryz.prog 66 #[.slice A n c1, .slice B n c2] w (ToldB true w) := by
  have H1 := Lib.hid (h1.mono PaR.good hF)
  have H2 := Lib.hid (h2.mono PaR.good hG)
  have L1 := Lib.hid h1.1
  have HFIT := Lib.hid hfit
  clear h1 h2 hF hG hfit
  have t0 : ((n : Int) != n) = false := bne_self_eq_false _
  go_enter Tryz.func66, Tryz.ntmps66
  go_wp2_with fail
  go_loopw [5] (fun s5 wx => ∃ k : Nat, k ≤ n ∧ s5 = .int .i64 (k : Nat) ∧ Hid (Below w.heap.size w wx)) (fun s5 _ => n - (intOf s5).toNat)
  case atStart => exact ⟨0, by omega, rfl, Lib.hid (Below.refl _ _)⟩
  case round =>
    obtain ⟨k, hk, rfl, hM⟩ := hrel
    by_cases hlt : k < n
    · obtain ⟨x, hx⟩ : ∃ x, l[k]? = some x := ⟨l[k]'(by rw [← L1.out]; exact hlt), List.getElem?_eq_getElem _⟩
      have HFX := Lib.hid (HFIT.out x (List.mem_of_getElem? hx))
      have hszr : w.heap.size ≤ wr.heap.size := hM.out.size
      obtain ⟨ad, s, rfl, hFp, hv, p0, p1, p2, p3, p4, p5, p6⟩ := pairsAt (H1.out.under PaR.good hM.out (fun b hb => hb)) hx
      obtain ⟨bd, s2, rfl, hGp, hv2, q0, q1, q2, q3, q4, q5, q6⟩ := pairsAt (H2.out.under PaR.good hM.out (fun b hb => hb)) hx
      obtain ⟨B1, cb1, hu, _, _⟩ := hv.inv
      injection hu with hu
      obtain rfl : s = .slice B1 x.v.list.length cb1 := by
        have := congrArg (fun a : Array Value => a[5]?) hu
        simpa [cellsV] using this
      obtain ⟨B2, cb2, hu2, _, _⟩ := hv2.inv
      injection hu2 with hu2
      obtain rfl : s2 = .slice B2 x.v.list.length cb2 := by
        have := congrArg (fun a : Array Value => a[5]?) hu2
        simpa [cellsV] using this
      have PL := Lib.hid (show (ad.add (k * 7)).block < wr.drew.heap.size from by rw [block_of_add]; exact Nat.lt_of_lt_of_le hFp hszr)
      have QL := Lib.hid (show (bd.add (k * 7)).block < wr.drew.heap.size from by rw [block_of_add]; exact Nat.lt_of_lt_of_le hGp hszr)
      have hsame := sameV_any x.v x.v (by have := HFX.out.2; omega) (fun b => b < w.heap.size) (fun b => b < w.heap.size) (.agg (cellsV x.v (.slice B1 x.v.list.length cb1))) (.agg (cellsV x.v (.slice B2 x.v.list.length cb2))) wr.drew (fun b hb => Nat.lt_of_lt_of_le hb hszr) (fun b hb => Nat.lt_of_lt_of_le hb hszr) (hv.keep (fun _ _ => rfl)) (hv2.keep (fun _ _ => rfl))
      rw [sameB_refl] at hsame
      unfold cellsV at hsame
      obtain ⟨lx, Hlx⟩ := name_itV x.v.list.length
      rw [Hlx.out] at p6 q6 hsame
      have HSM := Lib.hid hsame
      have PP := Lib.hid (And.intro p0 (And.intro p1 (And.intro p2 (And.intro p3 (And.intro p4 (And.intro p5 p6))))))
      have QP := Lib.hid (And.intro q0 (And.intro q1 (And.intro q2 (And.intro q3 (And.intro q4 (And.intro q5 q6))))))
      have HSS := Lib.hid (fun (W : World) (hW : Below wr.drew.heap.size wr.drew W) => (show W.cell? (ad.add (k * 7)) = some (.string x.key) ∧ W.cell? ⟨(ad.add (k * 7)).block, (ad.add (k * 7)).off + 1, none⟩ = some (.int .i64 x.v.kind) ∧ W.cell? ⟨(ad.add (k * 7)).block, (ad.add (k * 7)).off + 2, none⟩ = some (.bool x.v.truth) ∧ W.cell? ⟨(ad.add (k * 7)).block, (ad.add (k * 7)).off + 3, none⟩ = some (.int .i64 x.v.num) ∧ W.cell? ⟨(ad.add (k * 7)).block, (ad.add (k * 7)).off + 4, none⟩ = some (.string x.v.text) ∧ W.cell? ⟨(ad.add (k * 7)).block, (ad.add (k * 7)).off + 5, none⟩ = some (.string x.v.extra) ∧ W.cell? ⟨(ad.add (k * 7)).block, (ad.add (k * 7)).off + 6, none⟩ = some (.slice B1 lx cb1) ∧ W.cell? (bd.add (k * 7)) = some (.string x.key) ∧ W.cell? ⟨(bd.add (k * 7)).block, (bd.add (k * 7)).off + 1, none⟩ = some (.int .i64 x.v.kind) ∧ W.cell? ⟨(bd.add (k * 7)).block, (bd.add (k * 7)).off + 2, none⟩ = some (.bool x.v.truth) ∧ W.cell? ⟨(bd.add (k * 7)).block, (bd.add (k * 7)).off + 3, none⟩ = some (.int .i64 x.v.num) ∧ W.cell? ⟨(bd.add (k * 7)).block, (bd.add (k * 7)).off + 4, none⟩ = some (.string x.v.text) ∧ W.cell? ⟨(bd.add (k * 7)).block, (bd.add (k * 7)).off + 5, none⟩ = some (.string x.v.extra) ∧ W.cell? ⟨(bd.add (k * 7)).block, (bd.add (k * 7)).off + 6, none⟩ = some (.slice B2 lx cb2) from ⟨(hW.cell (p := ad.add (k * 7)) PL.out).trans PP.out.1, (hW.cell (p := ⟨(ad.add (k * 7)).block, (ad.add (k * 7)).off + 1, none⟩) PL.out).trans PP.out.2.1, (hW.cell (p := ⟨(ad.add (k * 7)).block, (ad.add (k * 7)).off + 2, none⟩) PL.out).trans PP.out.2.2.1, (hW.cell (p := ⟨(ad.add (k * 7)).block, (ad.add (k * 7)).off + 3, none⟩) PL.out).trans PP.out.2.2.2.1, (hW.cell (p := ⟨(ad.add (k * 7)).block, (ad.add (k * 7)).off + 4, none⟩) PL.out).trans PP.out.2.2.2.2.1, (hW.cell (p := ⟨(ad.add (k * 7)).block, (ad.add (k * 7)).off + 5, none⟩) PL.out).trans PP.out.2.2.2.2.2.1, (hW.cell (p := ⟨(ad.add (k * 7)).block, (ad.add (k * 7)).off + 6, none⟩) PL.out).trans PP.out.2.2.2.2.2.2, (hW.cell (p := bd.add (k * 7)) QL.out).trans QP.out.1, (hW.cell (p := ⟨(bd.add (k * 7)).block, (bd.add (k * 7)).off + 1, none⟩) QL.out).trans QP.out.2.1, (hW.cell (p := ⟨(bd.add (k * 7)).block, (bd.add (k * 7)).off + 2, none⟩) QL.out).trans QP.out.2.2.1, (hW.cell (p := ⟨(bd.add (k * 7)).block, (bd.add (k * 7)).off + 3, none⟩) QL.out).trans QP.out.2.2.2.1, (hW.cell (p := ⟨(bd.add (k * 7)).block, (bd.add (k * 7)).off + 4, none⟩) QL.out).trans QP.out.2.2.2.2.1, (hW.cell (p := ⟨(bd.add (k * 7)).block, (bd.add (k * 7)).off + 5, none⟩) QL.out).trans QP.out.2.2.2.2.2.1, (hW.cell (p := ⟨(bd.add (k * 7)).block, (bd.add (k * 7)).off + 6, none⟩) QL.out).trans QP.out.2.2.2.2.2.2⟩))
      have s1 := Lib.hid (HSS.out wr.drew (Below.refl _ _))
      have HBr := Lib.hid (show Below w.heap.size w wr.drew from hM.out.drew)
      have e1 : (0 : Int) ≤ k := by omega
      have e2 : (k : Int) < n := by omega
      have w1 : IntKind.i64.wrap ((k : Int) + 1) = (k : Int) + 1 := IntWalk.i64_in _ (by omega)
      have u1 : (x.key.toList != x.key.toList) = false := bne_self_eq_false _
      clear hx hFp hGp hv hv2 hu hu2 hsame hM hszr
      go_upto_region 6 with fail
      clear p0 p1 p2 p3 p4 p5 p6 q0 q1 q2 q3 q4 q5 q6
      go_region_held3 (fun W' => W'.cell? (ad.add (k * 7)) = some (.string x.key) ∧ W'.cell? ⟨(ad.add (k * 7)).block, (ad.add (k * 7)).off + 1, none⟩ = some (.int .i64 x.v.kind) ∧ W'.cell? ⟨(ad.add (k * 7)).block, (ad.add (k * 7)).off + 2, none⟩ = some (.bool x.v.truth) ∧ W'.cell? ⟨(ad.add (k * 7)).block, (ad.add (k * 7)).off + 3, none⟩ = some (.int .i64 x.v.num) ∧ W'.cell? ⟨(ad.add (k * 7)).block, (ad.add (k * 7)).off + 4, none⟩ = some (.string x.v.text) ∧ W'.cell? ⟨(ad.add (k * 7)).block, (ad.add (k * 7)).off + 5, none⟩ = some (.string x.v.extra) ∧ W'.cell? ⟨(ad.add (k * 7)).block, (ad.add (k * 7)).off + 6, none⟩ = some (.slice B1 lx cb1) ∧ W'.cell? (bd.add (k * 7)) = some (.string x.key) ∧ W'.cell? ⟨(bd.add (k * 7)).block, (bd.add (k * 7)).off + 1, none⟩ = some (.int .i64 x.v.kind) ∧ W'.cell? ⟨(bd.add (k * 7)).block, (bd.add (k * 7)).off + 2, none⟩ = some (.bool x.v.truth) ∧ W'.cell? ⟨(bd.add (k * 7)).block, (bd.add (k * 7)).off + 3, none⟩ = some (.int .i64 x.v.num) ∧ W'.cell? ⟨(bd.add (k * 7)).block, (bd.add (k * 7)).off + 4, none⟩ = some (.string x.v.text) ∧ W'.cell? ⟨(bd.add (k * 7)).block, (bd.add (k * 7)).off + 5, none⟩ = some (.string x.v.extra) ∧ W'.cell? ⟨(bd.add (k * 7)).block, (bd.add (k * 7)).off + 6, none⟩ = some (.slice B2 lx cb2)) (first | exact s1.out | exact s2.out | (trace_state; fail))
        (first
          | (go_at_call 21; (with_reducible refine HSM.out.mono ?_); rintro e w8 ⟨rfl, hb8⟩; have HB8 := Lib.hid (show Below wr.drew.heap.size wr.drew w8 from hb8); have s2 := Lib.hid (HSS.out w8 HB8.out); clear hb8))
      have HB9 := Lib.hid (HBr.out.trans (HB8.out.mono HBr.out.size))
      go_wp2_with fail
      go_roundw
      case rel => exact ⟨k + 1, by omega, by go_num, HB9⟩
      case measure => simp [intOf]; omega
    · have hke : n = k := by omega
      subst hke
      go_wp2_with fail
      go_ret
      exact ⟨rfl, hM.out⟩
end Go.Proofs.YtmhjbicbdahllaaGreatDoor

namespace Go.Proofs.YtmhjbicbdahllaaGreatDoor
open Go Go.RowKit

set_option maxRecDepth 100000 in
set_option maxHeartbeats 2000000 in
theorem eqNode_same (x : NodeD) (hfit : FitN x) (F G : Nat → Prop) (u1 u2 : Value) (w : World) (hF : ∀ b, F b → b < w.heap.size) (hG : ∀ b, G b → b < w.heap.size) {c1 c2 : Array Value} (e1 : u1 = .agg c1) (e2 : u2 = .agg c2) (h1 : NoR w F x c1) (h2 : NoR w G x c2) :
    Calls Tryz.prog 40 #[u1, u2] w (ToldB true w) := by
  obtain ⟨_, _, rfl, ⟨A1, a1, rfl, _, l1⟩, A2, a2, rfl, _, l2⟩ := h1
  obtain ⟨_, _, rfl, ⟨B1, b1, rfl, _, m1⟩, B2, b2, rfl, _, m2⟩ := h2
  subst e1 e2
  obtain ⟨id, Hid1⟩ := name_itV x.id
  obtain ⟨n1, Hn1⟩ := name_itV x.labels.length
  obtain ⟨n2, Hn2⟩ := name_itV x.props.length
  have hn1 : n1 ≤ 2000000 := by rw [← Hn1.out]; exact hfit.1
  have hn2 : n2 ≤ 2000000 := by rw [← Hn2.out]; exact hfit.2.1
  rw [Hid1.out, Hn1.out, Hn2.out]
  rw [Hn1.out] at l1 m1
  rw [Hn2.out] at l2 m2
  obtain ⟨z, HZ⟩ := name_itV w.heap.size
  obtain ⟨w2, HW2⟩ := name_itV ((w.alloc (.cells #[.int .i64 id, .slice A1 n1 a1, .slice A2 n2 a2] 38)).alloc (.cells #[.int .i64 id, .slice B1 n1 b1, .slice B2 n2 b2] 38))
  have HB2 := Lib.hid (show Below w.heap.size w w2 from by rw [← HW2.out]; exact two_new w _ _)
  have HK0 := Lib.hid (show w2.heap[z]? = some (.cells #[.int .i64 id, .slice A1 n1 a1, .slice A2 n2 a2] 38 (0, 0)) from by
    rw [← HW2.out, Below.heap_alloc _ _ _ (by rw [← HZ.out]; simp), ← HZ.out]
    exact heap_alloc_new w _)
  have HK1 := Lib.hid (show w2.heap[z + 1]? = some (.cells #[.int .i64 id, .slice B1 n1 b1, .slice B2 n2 b2] 38 (0, 0)) from by
    have := heap_alloc_new (w.alloc (.cells #[.int .i64 id, .slice A1 n1 a1, .slice A2 n2 a2] 38)) (.cells #[.int .i64 id, .slice B1 n1 b1, .slice B2 n2 b2] 38)
    rw [HW2.out] at this
    simpa [HZ.out] using this)
  have hct := Lib.hid (eqTexts_same x.labels F G A1 B1 n1 a1 b1 w2 (l1.under TxR.good HB2.out hF) (m1.under TxR.good HB2.out hG) (by omega))
  have HCP := Lib.hid (fun (W : World) (hW : Below w.heap.size w W) => eqProps_same x.props hfit.2.2.2 F G A2 B2 n2 a2 b2 W (fun b hb => Nat.lt_of_lt_of_le (hF b hb) hW.size) (fun b hb => Nat.lt_of_lt_of_le (hG b hb) hW.size) (l2.under PaR.good hW hF) (m2.under PaR.good hW hG) (by omega))
  have x0 : w2.cell? ⟨z, 0, none⟩ = some (.int .i64 id) := Lib.cell_of_heap HK0.out 0
  have x1 : w2.cell? ⟨z, 1, none⟩ = some (.slice A1 n1 a1) := Lib.cell_of_heap HK0.out 1
  have y0 : w2.cell? ⟨z + 1, 0, none⟩ = some (.int .i64 id) := Lib.cell_of_heap HK1.out 0
  have y1 : w2.cell? ⟨z + 1, 1, none⟩ = some (.slice B1 n1 b1) := Lib.cell_of_heap HK1.out 1
  have t0 : (id == id) = true := beq_self_eq_true id
  clear l1 m1 l2 m2 hF hG hfit
  go_enter Tryz.func40, Tryz.ntmps40
  go_upto_region 1 with fail
  rw [HW2.out, HZ.out]
  go_wp2_with fail
  refine hct.out.mono ?_
  rintro e w3 ⟨rfl, m3, hw3⟩
  have HB3 := Lib.hid (show Below w.heap.size w w3 from by rw [hw3]; exact below_drewN HB2.out m3)
  have x2 : w3.cell? ⟨z, 2, none⟩ = some (.slice A2 n2 a2) := by rw [hw3]; exact Lib.cell_of_heap HK0.out 2
  have y2 : w3.cell? ⟨z + 1, 2, none⟩ = some (.slice B2 n2 b2) := by rw [hw3]; exact Lib.cell_of_heap HK1.out 2
  clear hw3 x0 x1 y0 y1
  go_wp2_with fail
  refine (HCP.out w3 HB3.out).mono ?_
  rintro e w4 ⟨rfl, hb4⟩
  have HB4 := Lib.hid (HB3.out.trans (hb4.mono HB3.out.size))
  clear hb4 x2 y2
  go_wp2_with fail
  go_ret
  exact ⟨rfl, HB4.out⟩
set_option maxRecDepth 100000 in
set_option maxHeartbeats 2000000 in
theorem eqEdge_same (x : EdgeD) (hfit : FitE x) (F G : Nat → Prop) (u1 u2 : Value) (w : World) (hF : ∀ b, F b → b < w.heap.size) (hG : ∀ b, G b → b < w.heap.size) {c1 c2 : Array Value} (e1 : u1 = .agg c1) (e2 : u2 = .agg c2) (h1 : EdR w F x c1) (h2 : EdR w G x c2) :
    Calls Tryz.prog 41 #[u1, u2] w (ToldB true w) := by
  obtain ⟨_, rfl, A2, a2, rfl, _, l2⟩ := h1
  obtain ⟨_, rfl, B2, b2, rfl, _, m2⟩ := h2
  subst e1 e2
  obtain ⟨id, Hid1⟩ := name_itV x.id
  obtain ⟨src, Hsrc⟩ := name_itV x.src
  obtain ⟨dst, Hdst⟩ := name_itV x.dst
  obtain ⟨typ, Htyp⟩ := name_itV x.type
  obtain ⟨n2, Hn2⟩ := name_itV x.props.length
  have hn2 : n2 ≤ 2000000 := by rw [← Hn2.out]; exact hfit.2.1
  rw [Hid1.out, Hsrc.out, Hdst.out, Htyp.out, Hn2.out]
  rw [Hn2.out] at l2 m2
  obtain ⟨z, HZ⟩ := name_itV w.heap.size
  obtain ⟨w2, HW2⟩ := name_itV ((w.alloc (.cells #[.int .i64 id, .int .i64 src, .int .i64 dst, .string typ, .slice A2 n2 a2] 41)).alloc (.cells #[.int .i64 id, .int .i64 src, .int .i64 dst, .string typ, .slice B2 n2 b2] 41))
  have HB2 := Lib.hid (show Below w.heap.size w w2 from by rw [← HW2.out]; exact two_new w _ _)
  have HK0 := Lib.hid (show w2.heap[z]? = some (.cells #[.int .i64 id, .int .i64 src, .int .i64 dst, .string typ, .slice A2 n2 a2] 41 (0, 0)) from by
    rw [← HW2.out, Below.heap_alloc _ _ _ (by rw [← HZ.out]; simp), ← HZ.out]
    exact heap_alloc_new w _)
  have HK1 := Lib.hid (show w2.heap[z + 1]? = some (.cells #[.int .i64 id, .int .i64 src, .int .i64 dst, .string typ, .slice B2 n2 b2] 41 (0, 0)) from by
    have := heap_alloc_new (w.alloc (.cells #[.int .i64 id, .int .i64 src, .int .i64 dst, .string typ, .slice A2 n2 a2] 41)) (.cells #[.int .i64 id, .int .i64 src, .int .i64 dst, .string typ, .slice B2 n2 b2] 41)
    rw [HW2.out] at this
    simpa [HZ.out] using this)
  have hcp := Lib.hid (eqProps_same x.props hfit.2.2 F G A2 B2 n2 a2 b2 w2 (fun b hb => Nat.lt_of_lt_of_le (hF b hb) HB2.out.size) (fun b hb => Nat.lt_of_lt_of_le (hG b hb) HB2.out.size) (l2.under PaR.good HB2.out hF) (m2.under PaR.good HB2.out hG) (by omega))
  have x0 : w2.cell? ⟨z, 0, none⟩ = some (.int .i64 id) := Lib.cell_of_heap HK0.out 0
  have x1 : w2.cell? ⟨z, 1, none⟩ = some (.int .i64 src) := Lib.cell_of_heap HK0.out 1
  have x2 : w2.cell? ⟨z, 2, none⟩ = some (.int .i64 dst) := Lib.cell_of_heap HK0.out 2
  have x3 : w2.cell? ⟨z, 3, none⟩ = some (.string typ) := Lib.cell_of_heap HK0.out 3
  have x4 : w2.cell? ⟨z, 4, none⟩ = some (.slice A2 n2 a2) := Lib.cell_of_heap HK0.out 4
  have y0 : w2.cell? ⟨z + 1, 0, none⟩ = some (.int .i64 id) := Lib.cell_of_heap HK1.out 0
  have y1 : w2.cell? ⟨z + 1, 1, none⟩ = some (.int .i64 src) := Lib.cell_of_heap HK1.out 1
  have y2 : w2.cell? ⟨z + 1, 2, none⟩ = some (.int .i64 dst) := Lib.cell_of_heap HK1.out 2
  have y3 : w2.cell? ⟨z + 1, 3, none⟩ = some (.string typ) := Lib.cell_of_heap HK1.out 3
  have y4 : w2.cell? ⟨z + 1, 4, none⟩ = some (.slice B2 n2 b2) := Lib.cell_of_heap HK1.out 4
  have t0 : (id == id) = true := beq_self_eq_true id
  have t1 : (src == src) = true := beq_self_eq_true src
  have t2 : (dst == dst) = true := beq_self_eq_true dst
  have t3 : (typ.toList == typ.toList) = true := beq_self_eq_true typ.toList
  clear l2 m2 hF hG hfit
  go_enter Tryz.func41, Tryz.ntmps41
  go_upto_region 1 with fail
  rw [HW2.out, HZ.out]
  go_wp2_with fail
  refine hcp.out.mono ?_
  rintro e w4 ⟨rfl, hb4⟩
  have HB4 := Lib.hid (HB2.out.trans (hb4.mono HB2.out.size))
  clear hb4
  go_wp2_with fail
  go_ret
  exact ⟨rfl, HB4.out⟩
end Go.Proofs.YtmhjbicbdahllaaGreatDoor

namespace Go.Proofs.YtmhjbicbdahllaaGreatDoor
open Go Go.RowKit

set_option maxRecDepth 100000 in
set_option maxHeartbeats 8000000 in
theorem eqGraph_same (g : GraphD) (hfit : FitG g) (F G : Nat → Prop) (u1 u2 : Value) (w : World) (hF : ∀ b, F b → b < w.heap.size) (hG : ∀ b, G b → b < w.heap.size) (h1 : GrR w F g u1) (h2 : GrR w G g u2) :
    Calls Tryz.prog 11 #[u1, u2] w (ToldB true w) := by
  obtain ⟨_, _, rfl, ⟨AN, cN, rfl, _, l1⟩, AE, cE, rfl, _, l2⟩ := h1
  obtain ⟨_, _, rfl, ⟨BN, dN, rfl, _, m1⟩, BE, dE, rfl, _, m2⟩ := h2
  have HFIT := Lib.hid hfit
  obtain ⟨nN, HnN⟩ := name_itV g.nodes.length
  obtain ⟨nE, HnE⟩ := name_itV g.edges.length
  have hn1 : nN ≤ 2000000 := by rw [← HnN.out]; exact hfit.1
  have hn2 : nE ≤ 2000000 := by rw [← HnE.out]; exact hfit.2.1
  rw [HnN.out, HnE.out]
  rw [HnN.out] at l1 m1
  rw [HnE.out] at l2 m2
  obtain ⟨z, HZ⟩ := name_itV w.heap.size
  obtain ⟨w2, HW2⟩ := name_itV ((w.alloc (.cells #[.slice AN nN cN, .slice AE nE cE] 25)).alloc (.cells #[.slice BN nN dN, .slice BE nE dE] 25))
  have HB2 := Lib.hid (show Below w.heap.size w w2 from by rw [← HW2.out]; exact two_new w _ _)
  have HK0 := Lib.hid (show w2.heap[z]? = some (.cells #[.slice AN nN cN, .slice AE nE cE] 25 (0, 0)) from by
    rw [← HW2.out, Below.heap_alloc _ _ _ (by rw [← HZ.out]; simp), ← HZ.out]
    exact heap_alloc_new w _)
  have HK1 := Lib.hid (show w2.heap[z + 1]? = some (.cells #[.slice BN nN dN, .slice BE nE dE] 25 (0, 0)) from by
    have := heap_alloc_new (w.alloc (.cells #[.slice AN nN cN, .slice AE nE cE] 25)) (.cells #[.slice BN nN dN, .slice BE nE dE] 25)
    rw [HW2.out] at this
    simpa [HZ.out] using this)
  have HS2 := Lib.hid (And.intro (blk_lt HK0.out) (blk_lt HK1.out))
  have HNA := Lib.hid ((l1.under NoR.good HB2.out hF).mono NoR.good (F' := fun b => b < w2.heap.size) (fun b hb => Nat.lt_of_lt_of_le (hF b hb) HB2.out.size))
  have HNB := Lib.hid ((m1.under NoR.good HB2.out hG).mono NoR.good (F' := fun b => b < w2.heap.size) (fun b hb => Nat.lt_of_lt_of_le (hG b hb) HB2.out.size))
  have HEA := Lib.hid ((l2.under EdR.good HB2.out hF).mono EdR.good (F' := fun b => b < w2.heap.size) (fun b hb => Nat.lt_of_lt_of_le (hF b hb) HB2.out.size))
  have HEB := Lib.hid ((m2.under EdR.good HB2.out hG).mono EdR.good (F' := fun b => b < w2.heap.size) (fun b hb => Nat.lt_of_lt_of_le (hG b hb) HB2.out.size))
  have x0 : w2.cell? ⟨z, 0, none⟩ = some (.slice AN nN cN) := Lib.cell_of_heap HK0.out 0
  have x1 : w2.cell? ⟨z, 1, none⟩ = some (.slice AE nE cE) := Lib.cell_of_heap HK0.out 1
  have y0 : w2.cell? ⟨z + 1, 0, none⟩ = some (.slice BN nN dN) := Lib.cell_of_heap HK1.out 0
  have y1 : w2.cell? ⟨z + 1, 1, none⟩ = some (.slice BE nE dE) := Lib.cell_of_heap HK1.out 1
  have t0 : ((nN : Int) != nN) = false := bne_self_eq_false _
  have t1 : ((nE : Int) != nE) = false := bne_self_eq_false _
  clear l1 m1 l2 m2 hF hG hfit
  go_enter Tryz.func11, Tryz.ntmps11
  go_upto_region 1 with fail
  rw [HW2.out, HZ.out]
  go_upto_region 3 with fail
  go_wp2_with fail
  clear x0 x1 y0 y1 t0 t1
  go_loopw [5] (fun s wx => ∃ k : Nat, k ≤ nN ∧ s = .int .i64 (k : Nat) ∧ Hid (Below w2.heap.size w2 wx)) (fun s _ => nN - (intOf s).toNat)
  case atStart => exact ⟨0, by omega, rfl, Lib.hid (Below.refl _ _)⟩
  case round =>
    obtain ⟨k, hk, rfl, hM⟩ := hrel
    have hka := (hM.out.block z HS2.out.1).trans HK0.out
    have hkb := (hM.out.block (z + 1) HS2.out.2).trans HK1.out
    have x0 : wr.cell? ⟨z, 0, none⟩ = some (.slice AN nN cN) := Lib.cell_of_heap hka 0
    have y0 : wr.cell? ⟨z + 1, 0, none⟩ = some (.slice BN nN dN) := Lib.cell_of_heap hkb 0
    by_cases hlt : k < nN
    · obtain ⟨x, hx⟩ : ∃ x, g.nodes[k]? = some x := ⟨g.nodes[k]'(by rw [HnN.out]; exact hlt), List.getElem?_eq_getElem _⟩
      have HFX := Lib.hid (HFIT.out.2.2.1 x (List.mem_of_getElem? hx)).1
      have hszr : w2.heap.size ≤ wr.heap.size := hM.out.size
      obtain ⟨ad, A1, a1, A2, a2, rfl, hFa, hNa, _, _, p0, p1, p2⟩ := nodesAt (HNA.out.under NoR.good hM.out (fun b hb => hb)) hx
      obtain ⟨bd, B1, b1, B2, b2, rfl, hFb, hNb, _, _, q0, q1, q2⟩ := nodesAt (HNB.out.under NoR.good hM.out (fun b hb => hb)) hx
      have hsm := eqNode_same x HFX.out (fun b => b < w2.heap.size) (fun b => b < w2.heap.size) _ _ wr.drew (fun b hb => Nat.lt_of_lt_of_le hb hszr) (fun b hb => Nat.lt_of_lt_of_le hb hszr) rfl rfl (NoR.good.keep hNa (w' := wr.drew) (fun _ _ => rfl)) (NoR.good.keep hNb (w' := wr.drew) (fun _ _ => rfl))
      obtain ⟨id, Hid1⟩ := name_itV x.id
      obtain ⟨m1, Hm1⟩ := name_itV x.labels.length
      obtain ⟨m2, Hm2⟩ := name_itV x.props.length
      rw [Hid1.out, Hm1.out, Hm2.out] at hsm
      rw [Hid1.out] at p0
      rw [Hm1.out] at p1
      rw [Hm2.out] at p2
      rw [Hid1.out] at q0
      rw [Hm1.out] at q1
      rw [Hm2.out] at q2
      have HSM := Lib.hid hsm
      have PP := Lib.hid (And.intro p0 (And.intro p1 p2))
      have QP := Lib.hid (And.intro q0 (And.intro q1 q2))
      have HBX := Lib.hid (And.intro x0 y0)
      have HZL := Lib.hid (And.intro (show z < wr.drew.heap.size from Nat.lt_of_lt_of_le HS2.out.1 hszr) (show z + 1 < wr.drew.heap.size from Nat.lt_of_lt_of_le HS2.out.2 hszr))
      have PL := Lib.hid (show (ad.add (k * 3)).block < wr.drew.heap.size from by rw [block_of_add]; exact Nat.lt_of_lt_of_le hFa hszr)
      have QL := Lib.hid (show (bd.add (k * 3)).block < wr.drew.heap.size from by rw [block_of_add]; exact Nat.lt_of_lt_of_le hFb hszr)
      have HSS := Lib.hid (fun (W : World) (hW : Below wr.drew.heap.size wr.drew W) => (show W.cell? ⟨z, 0, none⟩ = some (.slice (some ad) nN cN) ∧ W.cell? ⟨z + 1, 0, none⟩ = some (.slice (some bd) nN dN) ∧ W.cell? (ad.add (k * 3)) = some (.int .i64 id) ∧ W.cell? ⟨(ad.add (k * 3)).block, (ad.add (k * 3)).off + 1, none⟩ = some (.slice A1 m1 a1) ∧ W.cell? ⟨(ad.add (k * 3)).block, (ad.add (k * 3)).off + 2, none⟩ = some (.slice A2 m2 a2) ∧ W.cell? (bd.add (k * 3)) = some (.int .i64 id) ∧ W.cell? ⟨(bd.add (k * 3)).block, (bd.add (k * 3)).off + 1, none⟩ = some (.slice B1 m1 b1) ∧ W.cell? ⟨(bd.add (k * 3)).block, (bd.add (k * 3)).off + 2, none⟩ = some (.slice B2 m2 b2) from ⟨(hW.cell (p := ⟨z, 0, none⟩) HZL.out.1).trans HBX.out.1, (hW.cell (p := ⟨z + 1, 0, none⟩) HZL.out.2).trans HBX.out.2, (hW.cell (p := ad.add (k * 3)) PL.out).trans PP.out.1, (hW.cell (p := ⟨(ad.add (k * 3)).block, (ad.add (k * 3)).off + 1, none⟩) PL.out).trans PP.out.2.1, (hW.cell (p := ⟨(ad.add (k * 3)).block, (ad.add (k * 3)).off + 2, none⟩) PL.out).trans PP.out.2.2, (hW.cell (p := bd.add (k * 3)) QL.out).trans QP.out.1, (hW.cell (p := ⟨(bd.add (k * 3)).block, (bd.add (k * 3)).off + 1, none⟩) QL.out).trans QP.out.2.1, (hW.cell (p := ⟨(bd.add (k * 3)).block, (bd.add (k * 3)).off + 2, none⟩) QL.out).trans QP.out.2.2⟩))
      have s1 := Lib.hid (HSS.out wr.drew (Below.refl _ _))
      have HBr := Lib.hid (show Below w2.heap.size w2 wr.drew from hM.out.drew)
      have e1 : (0 : Int) ≤ k := by omega
      have e2 : (k : Int) < nN := by omega
      have w1 : IntKind.i64.wrap ((k : Int) + 1) = (k : Int) + 1 := IntWalk.i64_in _ (by omega)
      clear hx hFa hFb hNa hNb hsm hM hszr hka hkb
      go_upto_region 6 with fail
      clear p0 p1 p2 q0 q1 q2 x0 y0
      go_region_held3 (fun W' => W'.cell? ⟨z, 0, none⟩ = some (.slice (some ad) nN cN) ∧ W'.cell? ⟨z + 1, 0, none⟩ = some (.slice (some bd) nN dN) ∧ W'.cell? (ad.add (k * 3)) = some (.int .i64 id) ∧ W'.cell? ⟨(ad.add (k * 3)).block, (ad.add (k * 3)).off + 1, none⟩ = some (.slice A1 m1 a1) ∧ W'.cell? ⟨(ad.add (k * 3)).block, (ad.add (k * 3)).off + 2, none⟩ = some (.slice A2 m2 a2) ∧ W'.cell? (bd.add (k * 3)) = some (.int .i64 id) ∧ W'.cell? ⟨(bd.add (k * 3)).block, (bd.add (k * 3)).off + 1, none⟩ = some (.slice B1 m1 b1) ∧ W'.cell? ⟨(bd.add (k * 3)).block, (bd.add (k * 3)).off + 2, none⟩ = some (.slice B2 m2 b2)) (first | exact s1.out | exact s2.out | (trace_state; fail))
        (first
          | (go_at_call 40; (with_reducible refine HSM.out.mono ?_); rintro e w8 ⟨rfl, hb8⟩; have HB8 := Lib.hid (show Below wr.drew.heap.size wr.drew w8 from hb8); have s2 := Lib.hid (HSS.out w8 HB8.out); clear hb8))
      have HB9 := Lib.hid (HBr.out.trans (HB8.out.mono HBr.out.size))
      go_wp2_with fail
      go_roundw
      case rel => exact ⟨k + 1, by omega, by go_num, HB9⟩
      case measure => simp [intOf]; omega
    · have hke : nN = k := by omega
      subst hke
      have HM0 := Lib.hid hM.out
      clear hM hka hkb
      go_upto_region 8 with fail
      go_wp2_with fail
      clear x0 y0
      go_loopw [6] (fun s wx => ∃ k : Nat, k ≤ nE ∧ s = .int .i64 (k : Nat) ∧ Hid (Below w2.heap.size w2 wx)) (fun s _ => nE - (intOf s).toNat)
      case atStart => exact ⟨0, by omega, rfl, HM0⟩
      case round =>
        clear HM0
        obtain ⟨k, hk, rfl, hM⟩ := hrel
        have hka := (hM.out.block z HS2.out.1).trans HK0.out
        have hkb := (hM.out.block (z + 1) HS2.out.2).trans HK1.out
        have x1 : wr.cell? ⟨z, 1, none⟩ = some (.slice AE nE cE) := Lib.cell_of_heap hka 1
        have y1 : wr.cell? ⟨z + 1, 1, none⟩ = some (.slice BE nE dE) := Lib.cell_of_heap hkb 1
        by_cases hlt : k < nE
        · obtain ⟨x, hx⟩ : ∃ x, g.edges[k]? = some x := ⟨g.edges[k]'(by rw [HnE.out]; exact hlt), List.getElem?_eq_getElem _⟩
          have HFX := Lib.hid (HFIT.out.2.2.2 x (List.mem_of_getElem? hx)).1
          have hszr : w2.heap.size ≤ wr.heap.size := hM.out.size
          obtain ⟨ad, A2, a2, rfl, hFa, hNa, _, p0, p1, p2, p3, p4⟩ := edgesAt (HEA.out.under EdR.good hM.out (fun b hb => hb)) hx
          obtain ⟨bd, B2, b2, rfl, hFb, hNb, _, q0, q1, q2, q3, q4⟩ := edgesAt (HEB.out.under EdR.good hM.out (fun b hb => hb)) hx
          have hsm := eqEdge_same x HFX.out (fun b => b < w2.heap.size) (fun b => b < w2.heap.size) _ _ wr.drew (fun b hb => Nat.lt_of_lt_of_le hb hszr) (fun b hb => Nat.lt_of_lt_of_le hb hszr) rfl rfl (EdR.good.keep hNa (w' := wr.drew) (fun _ _ => rfl)) (EdR.good.keep hNb (w' := wr.drew) (fun _ _ => rfl))
          obtain ⟨id, Hid1⟩ := name_itV x.id
          obtain ⟨src, Hsrc⟩ := name_itV x.src
          obtain ⟨dst, Hdst⟩ := name_itV x.dst
          obtain ⟨typ, Htyp⟩ := name_itV x.type
          obtain ⟨m2, Hm2⟩ := name_itV x.props.length
          rw [Hid1.out, Hsrc.out, Hdst.out, Htyp.out, Hm2.out] at hsm
          rw [Hid1.out] at p0
          rw [Hsrc.out] at p1
          rw [Hdst.out] at p2
          rw [Htyp.out] at p3
          rw [Hm2.out] at p4
          rw [Hid1.out] at q0
          rw [Hsrc.out] at q1
          rw [Hdst.out] at q2
          rw [Htyp.out] at q3
          rw [Hm2.out] at q4
          have HSM := Lib.hid hsm
          have PP := Lib.hid (And.intro p0 (And.intro p1 (And.intro p2 (And.intro p3 p4))))
          have QP := Lib.hid (And.intro q0 (And.intro q1 (And.intro q2 (And.intro q3 q4))))
          have HBX := Lib.hid (And.intro x1 y1)
          have HZL := Lib.hid (And.intro (show z < wr.drew.heap.size from Nat.lt_of_lt_of_le HS2.out.1 hszr) (show z + 1 < wr.drew.heap.size from Nat.lt_of_lt_of_le HS2.out.2 hszr))
          have PL := Lib.hid (show (ad.add (k * 5)).block < wr.drew.heap.size from by rw [block_of_add]; exact Nat.lt_of_lt_of_le hFa hszr)
          have QL := Lib.hid (show (bd.add (k * 5)).block < wr.drew.heap.size from by rw [block_of_add]; exact Nat.lt_of_lt_of_le hFb hszr)
          have HSS := Lib.hid (fun (W : World) (hW : Below wr.drew.heap.size wr.drew W) => (show W.cell? ⟨z, 1, none⟩ = some (.slice (some ad) nE cE) ∧ W.cell? ⟨z + 1, 1, none⟩ = some (.slice (some bd) nE dE) ∧ W.cell? (ad.add (k * 5)) = some (.int .i64 id) ∧ W.cell? ⟨(ad.add (k * 5)).block, (ad.add (k * 5)).off + 1, none⟩ = some (.int .i64 src) ∧ W.cell? ⟨(ad.add (k * 5)).block, (ad.add (k * 5)).off + 2, none⟩ = some (.int .i64 dst) ∧ W.cell? ⟨(ad.add (k * 5)).block, (ad.add (k * 5)).off + 3, none⟩ = some (.string typ) ∧ W.cell? ⟨(ad.add (k * 5)).block, (ad.add (k * 5)).off + 4, none⟩ = some (.slice A2 m2 a2) ∧ W.cell? (bd.add (k * 5)) = some (.int .i64 id) ∧ W.cell? ⟨(bd.add (k * 5)).block, (bd.add (k * 5)).off + 1, none⟩ = some (.int .i64 src) ∧ W.cell? ⟨(bd.add (k * 5)).block, (bd.add (k * 5)).off + 2, none⟩ = some (.int .i64 dst) ∧ W.cell? ⟨(bd.add (k * 5)).block, (bd.add (k * 5)).off + 3, none⟩ = some (.string typ) ∧ W.cell? ⟨(bd.add (k * 5)).block, (bd.add (k * 5)).off + 4, none⟩ = some (.slice B2 m2 b2) from ⟨(hW.cell (p := ⟨z, 1, none⟩) HZL.out.1).trans HBX.out.1, (hW.cell (p := ⟨z + 1, 1, none⟩) HZL.out.2).trans HBX.out.2, (hW.cell (p := ad.add (k * 5)) PL.out).trans PP.out.1, (hW.cell (p := ⟨(ad.add (k * 5)).block, (ad.add (k * 5)).off + 1, none⟩) PL.out).trans PP.out.2.1, (hW.cell (p := ⟨(ad.add (k * 5)).block, (ad.add (k * 5)).off + 2, none⟩) PL.out).trans PP.out.2.2.1, (hW.cell (p := ⟨(ad.add (k * 5)).block, (ad.add (k * 5)).off + 3, none⟩) PL.out).trans PP.out.2.2.2.1, (hW.cell (p := ⟨(ad.add (k * 5)).block, (ad.add (k * 5)).off + 4, none⟩) PL.out).trans PP.out.2.2.2.2, (hW.cell (p := bd.add (k * 5)) QL.out).trans QP.out.1, (hW.cell (p := ⟨(bd.add (k * 5)).block, (bd.add (k * 5)).off + 1, none⟩) QL.out).trans QP.out.2.1, (hW.cell (p := ⟨(bd.add (k * 5)).block, (bd.add (k * 5)).off + 2, none⟩) QL.out).trans QP.out.2.2.1, (hW.cell (p := ⟨(bd.add (k * 5)).block, (bd.add (k * 5)).off + 3, none⟩) QL.out).trans QP.out.2.2.2.1, (hW.cell (p := ⟨(bd.add (k * 5)).block, (bd.add (k * 5)).off + 4, none⟩) QL.out).trans QP.out.2.2.2.2⟩))
          have s1 := Lib.hid (HSS.out wr.drew (Below.refl _ _))
          have HBr := Lib.hid (show Below w2.heap.size w2 wr.drew from hM.out.drew)
          have e1 : (0 : Int) ≤ k := by omega
          have e2 : (k : Int) < nE := by omega
          have w1 : IntKind.i64.wrap ((k : Int) + 1) = (k : Int) + 1 := IntWalk.i64_in _ (by omega)
          clear hx hFa hFb hNa hNb hsm hM hszr hka hkb
          go_upto_region 11 with fail
          clear p0 p1 p2 p3 p4 q0 q1 q2 q3 q4 x1 y1
          go_region_held3 (fun W' => W'.cell? ⟨z, 1, none⟩ = some (.slice (some ad) nE cE) ∧ W'.cell? ⟨z + 1, 1, none⟩ = some (.slice (some bd) nE dE) ∧ W'.cell? (ad.add (k * 5)) = some (.int .i64 id) ∧ W'.cell? ⟨(ad.add (k * 5)).block, (ad.add (k * 5)).off + 1, none⟩ = some (.int .i64 src) ∧ W'.cell? ⟨(ad.add (k * 5)).block, (ad.add (k * 5)).off + 2, none⟩ = some (.int .i64 dst) ∧ W'.cell? ⟨(ad.add (k * 5)).block, (ad.add (k * 5)).off + 3, none⟩ = some (.string typ) ∧ W'.cell? ⟨(ad.add (k * 5)).block, (ad.add (k * 5)).off + 4, none⟩ = some (.slice A2 m2 a2) ∧ W'.cell? (bd.add (k * 5)) = some (.int .i64 id) ∧ W'.cell? ⟨(bd.add (k * 5)).block, (bd.add (k * 5)).off + 1, none⟩ = some (.int .i64 src) ∧ W'.cell? ⟨(bd.add (k * 5)).block, (bd.add (k * 5)).off + 2, none⟩ = some (.int .i64 dst) ∧ W'.cell? ⟨(bd.add (k * 5)).block, (bd.add (k * 5)).off + 3, none⟩ = some (.string typ) ∧ W'.cell? ⟨(bd.add (k * 5)).block, (bd.add (k * 5)).off + 4, none⟩ = some (.slice B2 m2 b2)) (first | exact s1.out | exact s2.out | (trace_state; fail))
            (first
              | (go_at_call 41; (with_reducible refine HSM.out.mono ?_); rintro e w8 ⟨rfl, hb8⟩; have HB8 := Lib.hid (show Below wr.drew.heap.size wr.drew w8 from hb8); have s2 := Lib.hid (HSS.out w8 HB8.out); clear hb8))
          have HB9 := Lib.hid (HBr.out.trans (HB8.out.mono HBr.out.size))
          go_wp2_with fail
          go_roundw
          case rel => exact ⟨k + 1, by omega, by go_num, HB9⟩
          case measure => simp [intOf]; omega
        · have hke : nE = k := by omega
          subst hke
          have HBF := Lib.hid (show Below w.heap.size w wr from HB2.out.trans (hM.out.mono HB2.out.size))
          clear hM hka hkb
          go_wp2_with fail
          go_ret
          exact ⟨rfl, HBF.out⟩
end Go.Proofs.YtmhjbicbdahllaaGreatDoor

namespace Go.Proofs.YtmhjbicbdahllaaGreatDoor
open Go Go.RowKit Go.Maps Go.WideMaps

theorem five_set {w : World} {b : Nat} {T : TypeId} {c0 c1 c2 c3 c4 : Value} (hb : w.heap[b]? = some (.cells #[c0, c1, c2, c3, c4] T (0, 0))) (v0 v1 v2 v3 v4 : Value) :
    (((((w.setCell ⟨b, 0, none⟩ v0).setCell ⟨b, 1, none⟩ v1).setCell ⟨b, 2, none⟩ v2).setCell ⟨b, 3, none⟩ v3).setCell ⟨b, 4, none⟩ v4).heap[b]? = some (.cells #[v0, v1, v2, v3, v4] T (0, 0)) ∧
      Turn (fun q => q = b) w (((((w.setCell ⟨b, 0, none⟩ v0).setCell ⟨b, 1, none⟩ v1).setCell ⟨b, 2, none⟩ v2).setCell ⟨b, 3, none⟩ v3).setCell ⟨b, 4, none⟩ v4) := by
  refine ⟨heap_setCell_same _ b 4 _ T _ (heap_setCell_same _ b 3 _ T _ (heap_setCell_same _ b 2 _ T _ (heap_setCell_same _ b 1 _ T _ (heap_setCell_same _ b 0 _ T _ hb)))), ?_⟩
  exact ((((((Turn.refl (fun q => q = b) w).setCell (p := ⟨b, 0, none⟩) (.inr rfl) _).setCell (p := ⟨b, 1, none⟩) (.inr rfl) _).setCell (p := ⟨b, 2, none⟩) (.inr rfl) _).setCell (p := ⟨b, 3, none⟩) (.inr rfl) _).setCell (p := ⟨b, 4, none⟩) (.inr rfl) _)
/-- An edge of that number comes back. -/
def EdgeGot (G : GraphD) (id : Int) (w : World) (e : Ending) (w' : World) : Prop :=
  ∃ (x : EdgeD) (B : Option Addr) (r c : Nat), x ∈ G.edges ∧ x.id = id ∧ e = .returned (.tuple #[.agg #[.int .i64 x.id, .int .i64 x.src, .int .i64 x.dst, .string x.type, .slice B r c], .bool true]) ∧ Below w.heap.size w w'
set_option maxRecDepth 100000 in
set_option maxHeartbeats 4000000 in
theorem edge_got (G : GraphD) (lo p : Nat) (Ns Es : Value) (mh mt ma mid n0 : Nat) (id : Int) (w : World) (hst : StoreAt w lo p G Ns Es mh mt ma mid n0) (hid : VI id) (hin : id ∈ G.edges.map EdgeD.id)
    (hfit : ∀ x, x ∈ G.edges → FitE x ∧ FlatE x) :
    Calls Tryz.prog 20 #[.pointer (some ⟨p, 0, none⟩), .int .i64 id] w (EdgeGot G id w) := by
  have HST0 := Lib.hid hst
  have HFIT := Lib.hid hfit
  obtain ⟨z, HZ⟩ := name_itV w.heap.size
  obtain ⟨w2, HW2⟩ := name_itV (w.alloc (.cells #[.int .i64 0, .int .i64 0, .int .i64 0, .string ⟨#[]⟩, .slice none 0 0] 41))
  have HB2 := Lib.hid (show Below w.heap.size w w2 from by rw [← HW2.out]; exact (Below.refl _ _).alloc (Nat.le_refl _) _)
  have HST := Lib.hid (show StoreAt w2 lo p G Ns Es mh mt ma mid n0 from HST0.out.turn (Turn.of_below HB2.out) (fun b _ h1 h2 => by omega))
  have HK := Lib.hid (show w2.heap[z]? = some (.cells #[.int .i64 0, .int .i64 0, .int .i64 0, .string ⟨#[]⟩, .slice none 0 0] 41 (0, 0)) from by rw [← HW2.out, ← HZ.out]; exact heap_alloc_new w _)
  obtain ⟨AE, cE, hEe, _, hEr⟩ := HST.out.edges
  obtain ⟨nE, HnE⟩ := name_itV G.edges.length
  rw [HnE.out] at hEe hEr
  subst hEe
  obtain ⟨q7, hq7, hi7⟩ := HST.out.types.look hid
  rw [inB_yes hin] at hq7
  obtain ⟨i, rfl, hx⟩ := hi7 hin
  rw [List.getElem?_map] at hx
  obtain ⟨x, hy, hxid⟩ : ∃ x, G.edges[i]? = some x ∧ x.id = id := by
    cases hy : G.edges[i]? with
    | none => rw [hy] at hx; cases hx
    | some x => rw [hy] at hx; exact ⟨x, rfl, by injection hx⟩
  have HXM := Lib.hid (And.intro (List.mem_of_getElem? hy) hxid)
  have hil : i < nE := by rw [← HnE.out]; exact idx_lt hy
  have hEr2 := hEr.mono EdR.good (F' := fun b => b < z) (fun b hb => by have := HST0.out.loc; have := HZ.out; omega)
  obtain ⟨ad, A2, d2, rfl, hFa, hEd, hl2, q0, q1, q2, q3, q4⟩ := edgesAt hEr2 hy
  have hfx := HFIT.out x HXM.out.1
  have hnd := edge_any x hfx.1 hfx.2 (fun b => b < z) _ w2 (fun b hb => by have := HB2.out.size; have := HZ.out; omega) hEd
  obtain ⟨src, Hsrc⟩ := name_itV x.src
  obtain ⟨dst, Hdst⟩ := name_itV x.dst
  obtain ⟨typ, Htyp⟩ := name_itV x.type
  obtain ⟨m2, Hm2⟩ := name_itV x.props.length
  rw [hxid, Hsrc.out, Hdst.out, Htyp.out, Hm2.out] at hnd
  rw [hxid] at q0
  rw [Hsrc.out] at q1
  rw [Hdst.out] at q2
  rw [Htyp.out] at q3
  rw [Hm2.out] at q4
  have HND := Lib.hid hnd
  have HXI := Lib.hid hxid
  have x3 : w2.cell? ⟨p, 3, none⟩ = some (.map (some mt)) := Lib.cell_of_heap HST.out.blk 3
  have x1 : w2.cell? ⟨p, 1, none⟩ = some (.slice (some ad) nE cE) := Lib.cell_of_heap HST.out.blk 1
  have e1 : (0 : Int) ≤ i := by omega
  have e2 : (i : Int) < nE := by omega
  clear hst hid hin hfit hEr hEr2 hx hy hFa hEd hl2 hnd hfx hxid hi7
  go_enter Tryz.func20, Tryz.ntmps20
  go_upto_region 1 with fail
  rw [HW2.out, HZ.out]
  go_wp2_with fail
  refine HND.out.mono ?_
  rintro e w6 ⟨c, x', rfl, hb6, hsrt, P6, rfl, B6, cb6, rfl, _, _⟩
  obtain ⟨r6, Hr6⟩ := name_itV x'.props.length
  rw [Hr6.out, hsrt.1, hsrt.2.1, hsrt.2.2.1, hsrt.2.2.2.1, HXI.out, Hsrc.out, Hdst.out, Htyp.out]
  have hk6 := (hb6.block z (blk_lt HK.out)).trans HK.out
  have HK6 := Lib.hid hk6
  have HB6 := Lib.hid hb6
  have r0 : w6.cell? ⟨z, 0, none⟩ = some (.int .i64 0) := Lib.cell_of_heap hk6 0
  have y0 : w6.frozen? ⟨z, 0, none⟩ = false := Lib.frozen_of_heap hk6 0
  have r1 : w6.cell? ⟨z, 1, none⟩ = some (.int .i64 0) := Lib.cell_of_heap hk6 1
  have y1 : w6.frozen? ⟨z, 1, none⟩ = false := Lib.frozen_of_heap hk6 1
  have r2 : w6.cell? ⟨z, 2, none⟩ = some (.int .i64 0) := Lib.cell_of_heap hk6 2
  have y2 : w6.frozen? ⟨z, 2, none⟩ = false := Lib.frozen_of_heap hk6 2
  have r3 : w6.cell? ⟨z, 3, none⟩ = some (.string ⟨#[]⟩) := Lib.cell_of_heap hk6 3
  have y3 : w6.frozen? ⟨z, 3, none⟩ = false := Lib.frozen_of_heap hk6 3
  have r4 : w6.cell? ⟨z, 4, none⟩ = some (.slice none 0 0) := Lib.cell_of_heap hk6 4
  have y4 : w6.frozen? ⟨z, 4, none⟩ = false := Lib.frozen_of_heap hk6 4
  clear hk6 hb6 hsrt x1 x3 q0 q1 q2 q3 q4 hq7
  go_wp2_with fail
  obtain ⟨hz9, ht9⟩ := five_set HK6.out (.int .i64 id) (.int .i64 src) (.int .i64 dst) (.string typ) (.slice B6 r6 cb6)
  obtain ⟨W9, HW9⟩ := name_itV (((((w6.setCell ⟨z, 0, none⟩ (.int .i64 id)).setCell ⟨z, 1, none⟩ (.int .i64 src)).setCell ⟨z, 2, none⟩ (.int .i64 dst)).setCell ⟨z, 3, none⟩ (.string typ)).setCell ⟨z, 4, none⟩ (.slice B6 r6 cb6))
  rw [HW9.out] at hz9 ht9 ⊢
  have g0 : W9.cell? ⟨z, 0, none⟩ = some (.int .i64 id) := Lib.cell_of_heap hz9 0
  have g1 : W9.cell? ⟨z, 1, none⟩ = some (.int .i64 src) := Lib.cell_of_heap hz9 1
  have g2 : W9.cell? ⟨z, 2, none⟩ = some (.int .i64 dst) := Lib.cell_of_heap hz9 2
  have g3 : W9.cell? ⟨z, 3, none⟩ = some (.string typ) := Lib.cell_of_heap hz9 3
  have g4 : W9.cell? ⟨z, 4, none⟩ = some (.slice B6 r6 cb6) := Lib.cell_of_heap hz9 4
  refine bodyPost_ret (v := .tuple #[.agg #[.int .i64 id, .int .i64 src, .int .i64 dst, .string typ, .slice B6 r6 cb6], .bool true]) (by simp [results, Tryz.results20, go_sem, g0, g1, g2, g3, g4]) rfl ⟨x, B6, r6, cb6, HXM.out.1, HXM.out.2, by rw [HXI.out, Hsrc.out, Hdst.out, Htyp.out], ?_⟩
  exact (HB2.out.trans (HB6.out.mono HB2.out.size)).trans (ht9.below (fun i _ h => by have := HZ.out; omega) (by have := HZ.out; have := HB2.out.size; have := HB6.out.size; omega))
end Go.Proofs.YtmhjbicbdahllaaGreatDoor

namespace Go.Proofs.YtmhjbicbdahllaaGreatDoor
open Go Go.RowKit

theorem ordS_anti {a b : ByteArray} (h1 : ¬ ordS a b < 0) (h2 : ¬ ordS b a < 0) : a = b := by
  rw [ordS_lt] at h1 h2
  have h3 : a.data.toList = b.data.toList := List.le_antisymm (List.not_lt.1 h2) (List.not_lt.1 h1)
  exact ByteArray.ext (Array.toList_inj.1 h3)
theorem srtT_self {l l' : List ByteArray} (hs : l.Pairwise (fun a b => ¬ ordS b a < 0)) (h : SrtT l l') : l' = l :=
  List.Perm.eq_of_pairwise (le := fun a b => ¬ ordS b a < 0) (fun _ _ _ _ h1 h2 => ordS_anti h2 h1) h.2 hs h.1
theorem srtP_self {l l' : List PairD} (hk : ∀ p q, p ∈ l → q ∈ l → p.key = q.key → p = q) (hs : l.Pairwise (fun a b => ¬ ordS b.key a.key < 0)) (h : SrtP l l') : l' = l :=
  List.Perm.eq_of_pairwise (le := fun a b => ¬ ordS b.key a.key < 0) (fun a b ha hb h1 h2 => hk a b (h.1.mem_iff.1 ha) hb (ordS_anti h2 h1)) h.2 hs h.1
theorem ordI_anti {a b : Int} (h1 : ¬ ordI a b < 0) (h2 : ¬ ordI b a < 0) : a = b := by
  rw [ordI_lt] at h1 h2
  omega
theorem perm_self {α : Type} {key : α → Int} {l l' : List α} (hn : (l.map key).Nodup) (hs : l.Pairwise (fun a b => ¬ ordI (key b) (key a) < 0)) (hp : l'.Perm l) (h : l'.Pairwise (fun a b => ¬ ordI (key b) (key a) < 0)) : l' = l :=
  List.Perm.eq_of_pairwise (le := fun a b => ¬ ordI (key b) (key a) < 0) (fun _ _ ha hb h1 h2 => nodup_inj hn (hp.mem_iff.1 ha) hb (ordI_anti h2 h1)) h hs hp
theorem all2_eq {α : Type} {R : α → α → Prop} {l m : List α} (h : All2 R l m) (he : ∀ x y, x ∈ l → R x y → y = x) : m = l := by
  apply List.ext_getElem?
  intro i
  cases hx : l[i]? with
  | none =>
    have h2 : m[i]? = none := by
      rw [List.getElem?_eq_none_iff] at hx ⊢
      rw [← h.1]; exact hx
    exact h2
  | some x =>
    have hm : i < m.length := by rw [← h.1]; exact idx_lt hx
    have h2 := List.getElem?_eq_getElem hm
    rw [h2, he x _ (List.mem_of_getElem? hx) (h.2 i x _ hx h2)]
/-- The elements of a sorted graph are sorted. -/
theorem srt_node_self {g g' : GraphD} (hm : mayG g = true) (hs : SrtG g g') {n n' : NodeD} (hn : n ∈ g'.nodes) (h : SrtN n n') : n' = n := by
  obtain ⟨⟨m, h1, h2, _⟩, _⟩ := hs
  obtain ⟨x, hx, hr⟩ := perm_all h1 h2 hn
  have hp : n.props.Perm x.props := hr.2.2.1
  have e2 := srtT_self hr.2.1.2 h.2.1
  have e3 := srtP_self (fun p q hp1 hq1 e => (propsB_all (may_node hm hx).1).2 p q (hp.mem_iff.1 hp1) (hp.mem_iff.1 hq1) e) hr.2.2.2 h.2.2
  obtain ⟨i, L, P⟩ := n
  obtain ⟨i', L', P'⟩ := n'
  have e1 : i' = i := h.1
  subst e1
  simp only at e2 e3
  rw [e2, e3]
theorem srt_edge_self {g g' : GraphD} (hm : mayG g = true) (hs : SrtG g g') {n n' : EdgeD} (hn : n ∈ g'.edges) (h : SrtE n n') : n' = n := by
  obtain ⟨_, ⟨m, h1, h2, _⟩⟩ := hs
  obtain ⟨x, hx, hr⟩ := perm_all h1 h2 hn
  have hp : n.props.Perm x.props := hr.2.2.2.2.1
  have e3 := srtP_self (fun p q hp1 hq1 e => (propsB_all (may_edge hm hx)).2 p q (hp.mem_iff.1 hp1) (hp.mem_iff.1 hq1) e) hr.2.2.2.2.2 h.2.2.2.2
  obtain ⟨i, s, d, t, P⟩ := n
  obtain ⟨i', s', d', t', P'⟩ := n'
  have e1 : i' = i := h.1
  have f1 : s' = s := h.2.1
  have f2 : d' = d := h.2.2.1
  have f4 : t' = t := h.2.2.2.1
  subst e1 f1 f2 f4
  simp only at e3
  rw [e3]
/-- A copy of a sorted graph is that graph. -/
theorem plain_self {g g' : GraphD} (hm : mayG g = true) (hs : SrtG g g') {ns : List NodeD} {es : List EdgeD} (h1 : All2 SrtN g'.nodes ns) (h2 : All2 SrtE g'.edges es) : (⟨ns, es⟩ : GraphD) = g' := by
  rw [all2_eq h1 (fun x y hx hr => srt_node_self hm hs hx hr), all2_eq h2 (fun x y hx hr => srt_edge_self hm hs hx hr)]
end Go.Proofs.YtmhjbicbdahllaaGreatDoor

namespace Go.Proofs.YtmhjbicbdahllaaGreatDoor
open Go Go.RowKit

/-- A scan whose test is 'unlike those before, and fit': every element is fit, no two are alike. -/
theorem scan_iff {α K : Type} [DecidableEq K] {ok : List K → α → Bool} {key : α → K} {c : α → Prop} (hok : ∀ ks x, ok ks x = true ↔ (key x ∉ ks ∧ c x)) {l : List α} : ∀ {ks : List K}, scanG ok key ks l = true ↔ ((∀ x, x ∈ l → c x ∧ key x ∉ ks) ∧ (l.map key).Nodup) := by
  induction l with
  | nil => intro ks; simp [scanG]
  | cons x r ih =>
    intro ks
    simp only [scanG, Bool.and_eq_true, hok, ih, List.map_cons, List.nodup_cons, List.mem_cons, List.mem_append, List.mem_map]
    constructor
    · rintro ⟨⟨h1, h2⟩, h3, h4⟩
      refine ⟨fun y hy => ?_, fun ⟨y, hy, he⟩ => ?_, h4⟩
      · rcases hy with rfl | hy
        · exact ⟨h2, h1⟩
        · exact ⟨(h3 y hy).1, fun h => (h3 y hy).2 (.inl h)⟩
      · exact (h3 y hy).2 (.inr (.inl he))
    · rintro ⟨h1, h2, h3⟩
      refine ⟨⟨(h1 x (.inl rfl)).2, (h1 x (.inl rfl)).1⟩, fun y hy => ⟨(h1 y (.inr hy)).1, fun h => ?_⟩, h3⟩
      rcases h with h | h
      · exact (h1 y (.inr hy)).2 h
      · rcases h with h | h
        · exact h2 ⟨y, hy, h⟩
        · cases h
theorem scan_perm {α K : Type} [DecidableEq K] {ok : List K → α → Bool} {key : α → K} {c : α → Prop} (hok : ∀ ks x, ok ks x = true ↔ (key x ∉ ks ∧ c x)) {l m : List α} (hp : m.Perm l) (h : scanG ok key [] l = true) : scanG ok key [] m = true := by
  rw [scan_iff hok] at h ⊢
  exact ⟨fun x hx => h.1 x (hp.mem_iff.1 hx), ((hp.map key).nodup_iff).2 h.2⟩
theorem labl_scan (l : List ByteArray) : ∀ ks, lablG ks l = scanG (fun ks s => textB s && !inB ks s) (fun s => s) ks l := by
  induction l with
  | nil => intro ks; rfl
  | cons x r ih => intro ks; simp only [lablG, scanG, ih]
theorem props_scan (l : List PairD) : ∀ ks, propsG ks l = scanG (fun ks p => textB p.key && (!inB ks p.key && plainB p.v)) PairD.key ks l := by
  induction l with
  | nil => intro ks; rfl
  | cons x r ih => intro ks; simp only [propsG, scanG, ih]
theorem inB_iff {K : Type} [DecidableEq K] {ks : List K} {x : K} : (!inB ks x) = true ↔ x ∉ ks := by
  unfold inB
  simp
theorem labl_perm {l m : List ByteArray} (hp : m.Perm l) (h : lablG [] l = true) : lablG [] m = true := by
  rw [labl_scan] at h ⊢
  refine scan_perm (c := fun s => textB s = true) (fun ks s => ?_) hp h
  rw [Bool.and_eq_true, inB_iff]
  exact ⟨fun h => ⟨h.2, h.1⟩, fun h => ⟨h.2, h.1⟩⟩
theorem props_perm {l m : List PairD} (hp : m.Perm l) (h : propsB l = true) : propsB m = true := by
  unfold propsB at h ⊢
  rw [Bool.and_eq_true] at h ⊢
  refine ⟨?_, by rw [hp.length_eq]; exact h.2⟩
  rw [props_scan] at ⊢
  have h1 := h.1
  rw [props_scan] at h1
  refine scan_perm (c := fun p => textB p.key = true ∧ plainB p.v = true) (fun ks p => ?_) hp h1
  rw [Bool.and_eq_true, Bool.and_eq_true, inB_iff]
  exact ⟨fun h => ⟨h.2.1, h.1, h.2.2⟩, fun h => ⟨h.2.1, h.1, h.2.2⟩⟩
theorem okN_iff (ks : List Int) (n : NodeD) : okN ks n = true ↔ (n.id ∉ ks ∧ (0 ≤ n.id ∧ lablG [] n.labels = true ∧ n.labels.length ≤ 65536 ∧ propsB n.props = true)) := by
  unfold okN
  rw [Bool.and_eq_true, Bool.and_eq_true, Bool.and_eq_true, Bool.and_eq_true, inB_iff, decide_eq_true_iff, decide_eq_true_iff]
  exact ⟨fun h => ⟨h.2.1, h.1, h.2.2.1, h.2.2.2.1, h.2.2.2.2⟩, fun h => ⟨h.2.1, h.1, h.2.2.1, h.2.2.2.1, h.2.2.2.2⟩⟩
theorem okE_iff (ns ks : List Int) (e : EdgeD) : okE ns ks e = true ↔ (e.id ∉ ks ∧ (0 ≤ e.id ∧ e.src ∈ ns ∧ e.dst ∈ ns ∧ textB e.type = true ∧ propsB e.props = true)) := by
  unfold okE
  rw [Bool.and_eq_true, Bool.and_eq_true, Bool.and_eq_true, Bool.and_eq_true, Bool.and_eq_true, inB_iff, decide_eq_true_iff]
  have h1 : inB ns e.src = true ↔ e.src ∈ ns := by unfold inB; simp
  have h2 : inB ns e.dst = true ↔ e.dst ∈ ns := by unfold inB; simp
  rw [h1, h2]
  exact ⟨fun h => ⟨h.2.1, h.1, h.2.2.1, h.2.2.2.1, h.2.2.2.2.1, h.2.2.2.2.2⟩, fun h => ⟨h.2.1, h.1, h.2.2.1, h.2.2.2.1, h.2.2.2.2.1, h.2.2.2.2.2⟩⟩
/-- What 'Load' made of a graph that may be may be. -/
theorem may_srt {g g' : GraphD} (hm : mayG g = true) (hs : SrtG g g') : mayG g' = true := by
  obtain ⟨hn, he⟩ := may_parts hm
  have hlen : g.nodes.length ≤ 131072 ∧ g.edges.length ≤ 65536 := by
    unfold mayG at hm
    rw [Bool.and_eq_true] at hm
    exact of_decide_eq_true hm.1
  obtain ⟨⟨m, h1, h2, _⟩, ⟨m', h3, h4, _⟩⟩ := hs
  rw [scan_iff okN_iff] at hn
  rw [scan_iff (okE_iff _)] at he
  have idN : ∀ i, i ∈ g.nodes.map NodeD.id → i ∈ g'.nodes.map NodeD.id := fun i hi => by
    obtain ⟨x, hx, rfl⟩ := List.mem_map.1 hi
    obtain ⟨y, hy, hr⟩ := all_perm h1 h2 hx
    exact List.mem_map.2 ⟨y, hy, hr.1⟩
  unfold mayG
  rw [Bool.and_eq_true, Bool.and_eq_true, scan_iff okN_iff, scan_iff (okE_iff _), decide_eq_true_iff]
  refine ⟨⟨by rw [h2.length_eq, ← h1.1]; exact hlen.1, by rw [h4.length_eq, ← h3.1]; exact hlen.2⟩, ⟨fun y hy => ?_, ?_⟩, fun y hy => ?_, ?_⟩
  · obtain ⟨x, hx, hr⟩ := perm_all h1 h2 hy
    obtain ⟨c1, c2, c3, c4⟩ := (hn.1 x hx).1
    exact ⟨⟨by rw [hr.1]; exact c1, labl_perm hr.2.1.1 c2, by rw [hr.2.1.1.length_eq]; exact c3, props_perm hr.2.2.1 c4⟩, List.not_mem_nil⟩
  · refine perm_ids h2 ?_
    rw [all2_map (R := SrtN) (f := NodeD.id) (g := NodeD.id) (fun x y h => h.1) h1]
    exact hn.2
  · obtain ⟨x, hx, hr⟩ := perm_all h3 h4 hy
    obtain ⟨c1, c2, c3, c4, c5⟩ := (he.1 x hx).1
    exact ⟨⟨by rw [hr.1]; exact c1, by rw [hr.2.1]; exact idN _ c2, by rw [hr.2.2.1]; exact idN _ c3, by rw [hr.2.2.2.1]; exact c4, props_perm hr.2.2.2.2.1 c5⟩, List.not_mem_nil⟩
  · refine perm_ids h4 ?_
    rw [all2_map (R := SrtE) (f := EdgeD.id) (g := EdgeD.id) (fun x y h => h.1) h3]
    exact he.2
/-- What 'Load' makes of what 'Load' made is the same. -/
theorem srt_self {g g' g2 : GraphD} (hm : mayG g = true) (hs : SrtG g g') (h : SrtG g' g2) : g2 = g' := by
  have hm' := may_srt hm hs
  have hs0 := hs
  obtain ⟨⟨m, h1, h2, h3⟩, ⟨k, h4, h5, h6⟩⟩ := h
  have e1 := all2_eq h1 (fun x y hx hr => srt_node_self hm hs0 hx hr)
  have e2 := all2_eq h4 (fun x y hx hr => srt_edge_self hm hs0 hx hr)
  subst e1 e2
  have f1 := perm_self (key := NodeD.id) (may_nodupN hm') hs.1.choose_spec.2.2 h2 h3
  have f2 := perm_self (key := EdgeD.id) (may_nodupE hm') hs.2.choose_spec.2.2 h5 h6
  obtain ⟨a, b⟩ := g2
  obtain ⟨c, d⟩ := g'
  simp only at f1 f2
  rw [f1, f2]
end Go.Proofs.YtmhjbicbdahllaaGreatDoor

namespace Go.Proofs.YtmhjbicbdahllaaGreatDoor
open Go Go.RowKit

theorem hopIds_snoc (es : List EdgeD) (e : EdgeD) (q : List ByteArray) (a d : Int) : hopIds (es ++ [e]) q (hopsG (es ++ [e]) a d) = hopIds es q (hopsG es a d) ++ (if (hopB e a d && typeOk q e) = true then [e.id] else []) := by
  rw [hops_snoc]
  unfold hopIds
  rw [List.filterMap_append]
  congr 1
  · have hc : ∀ l : List Nat, (∀ i, i ∈ l → i < es.length) → (l.filterMap fun i => ((es ++ [e])[i]?).bind fun e => if typeOk q e = true then some e.id else none) = l.filterMap fun i => (es[i]?).bind fun e => if typeOk q e = true then some e.id else none := fun l => by
      induction l with
      | nil => intro _; rfl
      | cons i r ih =>
        intro hl
        rw [List.filterMap_cons, List.filterMap_cons, ih (fun j hj => hl j (List.mem_cons_of_mem _ hj)), List.getElem?_append_left (hl i (List.mem_cons_self ..))]
    exact hc _ (fun i hi => hops_lt hi)
  · by_cases hb : hopB e a d = true
    · rw [if_pos hb]
      by_cases ht : typeOk q e = true
      · simp [hb, ht]
      · simp [hb, ht]
    · simp [hb]
theorem hopIds_take (es : List EdgeD) (q : List ByteArray) (a d : Int) (k : Nat) (hk : k ≤ es.length) : hopIds (es.take k) q (hopsG (es.take k) a d) = ((es.take k).filter (fun e => hopB e a d && typeOk q e)).map EdgeD.id := by
  induction k with
  | zero => simp [hopIds, hopsG]
  | succ k ih =>
    have hx : es[k]? = some (es[k]'(by omega)) := List.getElem?_eq_getElem _
    rw [take_oneMore hx, hopIds_snoc, ih (by omega), List.filter_append, List.map_append]
    congr 1
    by_cases h : (hopB (es[k]'(by omega)) a d && typeOk q (es[k]'(by omega))) = true
    · rw [if_pos h, List.filter_cons, if_pos h]; rfl
    · rw [if_neg h, List.filter_cons, if_neg h]; rfl
/-- The hops' edges: those that lead so and are of the types. -/
theorem hopIds_eq (es : List EdgeD) (q : List ByteArray) (a d : Int) : hopIds es q (hopsG es a d) = (es.filter (fun e => hopB e a d && typeOk q e)).map EdgeD.id := by
  have h := hopIds_take es q a d es.length (Nat.le_refl _)
  rw [List.take_length] at h
  exact h
end Go.Proofs.YtmhjbicbdahllaaGreatDoor

namespace Go.Proofs.YtmhjbicbdahllaaGreatDoor
open Go Go.RowKit

theorem sum_one {ids : List Int} (hn : ids.Nodup) {x : Int} (hx : x ∈ ids) : sumBy (fun a => if x = a then 1 else 0) ids = 1 := by
  induction ids with
  | nil => cases hx
  | cons a r ih =>
    rw [List.nodup_cons] at hn
    have hs : sumBy (fun a => if x = a then 1 else 0) (a :: r) = (if x = a then 1 else 0) + sumBy (fun a => if x = a then 1 else 0) r := by unfold sumBy; simp
    rw [hs]
    rcases List.mem_cons.1 hx with e | hm
    · have h0 : ∀ l : List Int, x ∉ l → sumBy (fun a => if x = a then 1 else 0) l = 0 := fun l => by
        induction l with
        | nil => intro _; rfl
        | cons b s ihs =>
          intro hb
          have h1 : x ≠ b := fun e => hb (e ▸ List.mem_cons_self ..)
          have h2 := ihs (fun h => hb (List.mem_cons_of_mem _ h))
          have h3 : sumBy (fun a => if x = a then 1 else 0) (b :: s) = (if x = b then 1 else 0) + sumBy (fun a => if x = a then 1 else 0) s := by unfold sumBy; simp
          rw [h3, h2, if_neg h1]
      rw [if_pos e, h0 r (e ▸ hn.1)]
    · have hne : x ≠ a := fun e => hn.1 (by rw [← e]; exact hm)
      rw [ih hn.2 hm, if_neg hne]
theorem sum_add {α : Type} (f g : α → Nat) (l : List α) : sumBy (fun a => f a + g a) l = sumBy f l + sumBy g l := by
  unfold sumBy
  induction l with
  | nil => rfl
  | cons a r ih => simp only [List.map_cons, List.sum_cons, ih]; omega
/-- Each element is counted once. -/
theorem count_sum {ids : List Int} (hn : ids.Nodup) (f : EdgeD → Int) (es : List EdgeD) (hin : ∀ e, e ∈ es → f e ∈ ids) : sumBy (fun a => (es.filter (fun e => decide (f e = a))).length) ids = es.length := by
  induction es with
  | nil =>
    unfold sumBy
    clear hin hn
    induction ids with
    | nil => rfl
    | cons a r ih => simpa using ih
  | cons e r ih =>
    have h1 := ih (fun x hx => hin x (List.mem_cons_of_mem _ hx))
    have h2 := sum_one hn (hin e (List.mem_cons_self ..))
    have h3 : (fun a => ((e :: r).filter (fun e => decide (f e = a))).length) = fun a => (if f e = a then 1 else 0) + (r.filter (fun e => decide (f e = a))).length := by
      funext a
      rw [List.filter_cons]
      by_cases h : f e = a
      · simp [h]; omega
      · simp [h]
    rw [h3, sum_add, h1, h2, List.length_cons]
    omega
end Go.Proofs.YtmhjbicbdahllaaGreatDoor

namespace Go.Proofs.YtmhjbicbdahllaaGreatDoor
open Go Go.RowKit

def outE (es : List EdgeD) (a : Int) : List Int := hopIds es [] (hopsG es a 1)
def inE (es : List EdgeD) (a : Int) : List Int := hopIds es [] (hopsG es a (-1))
def bothE (es : List EdgeD) (a : Int) : List Int := hopIds es [] (hopsG es a 0)
theorem typeOk_nil (e : EdgeD) : typeOk [] e = true := rfl
theorem out_eq (es : List EdgeD) (a : Int) : outE es a = (es.filter (fun e => decide (e.src = a))).map EdgeD.id := by
  unfold outE
  rw [hopIds_eq]
  congr 1
  apply List.filter_congr
  intro e _
  rw [typeOk_nil, Bool.and_true, Bool.eq_iff_iff]
  simp [hopB]
theorem in_eq (es : List EdgeD) (a : Int) : inE es a = (es.filter (fun e => decide (e.dst = a))).map EdgeD.id := by
  unfold inE
  rw [hopIds_eq]
  congr 1
  apply List.filter_congr
  intro e _
  rw [typeOk_nil, Bool.and_true, Bool.eq_iff_iff]
  simp [hopB]
theorem both_eq (es : List EdgeD) (a : Int) : bothE es a = (es.filter (fun e => decide (e.src = a) || decide (e.dst = a))).map EdgeD.id := by
  unfold bothE
  rw [hopIds_eq]
  congr 1
  apply List.filter_congr
  intro e _
  rw [typeOk_nil, Bool.and_true, Bool.eq_iff_iff]
  simp [hopB]
theorem filter_or_len (p q : EdgeD → Bool) (es : List EdgeD) : (es.filter (fun e => p e || q e)).length ≤ (es.filter p).length + (es.filter q).length ∧ (es.filter p).length ≤ (es.filter (fun e => p e || q e)).length ∧ (es.filter q).length ≤ (es.filter (fun e => p e || q e)).length := by
  induction es with
  | nil => simp
  | cons e r ih =>
    obtain ⟨h1, h2, h3⟩ := ih
    rw [List.filter_cons, List.filter_cons, List.filter_cons]
    cases hp : p e <;> cases hq : q e <;> simp <;> omega
theorem both_len (es : List EdgeD) (a : Int) : (bothE es a).length ≤ (outE es a).length + (inE es a).length ∧ (outE es a).length ≤ (bothE es a).length ∧ (inE es a).length ≤ (bothE es a).length := by
  rw [both_eq, out_eq, in_eq, List.length_map, List.length_map, List.length_map]
  exact filter_or_len _ _ es
theorem sum_map {α β : Type} (f : β → Nat) (g : α → β) (l : List α) : sumBy f (l.map g) = sumBy (fun a => f (g a)) l := by
  unfold sumBy
  rw [List.map_map]
  rfl
theorem may_edge2 {g : GraphD} (hm : mayG g = true) {e : EdgeD} (he : e ∈ g.edges) : e.src ∈ g.nodes.map NodeD.id ∧ e.dst ∈ g.nodes.map NodeD.id ∧ textB e.type = true := by
  obtain ⟨i, hi⟩ := List.mem_iff_getElem?.1 he
  have h := scan_mem (may_parts hm).2 hi
  rw [okE_iff] at h
  exact ⟨h.2.2.1, h.2.2.2.1, h.2.2.2.2.1⟩
/-- All edges begin somewhere, and end somewhere, once. -/
theorem begin_all {G : GraphD} (hm : mayG G = true) : sumBy (fun n => (outE G.edges n.id).length) G.nodes = G.edges.length := by
  rw [← count_sum (may_nodupN hm) EdgeD.src G.edges (fun e he => (may_edge2 hm he).1), sum_map]
  congr 1
  funext n
  rw [out_eq, List.length_map]
theorem end_all {G : GraphD} (hm : mayG G = true) : sumBy (fun n => (inE G.edges n.id).length) G.nodes = G.edges.length := by
  rw [← count_sum (may_nodupN hm) EdgeD.dst G.edges (fun e he => (may_edge2 hm he).2.1), sum_map]
  congr 1
  funext n
  rw [in_eq, List.length_map]
theorem lt_of_ord {a b : Int} (h : ¬ ordI b a < 0) (hne : a ≠ b) : a < b := by
  rw [ordI_lt] at h
  omega
theorem rise_map {α : Type} {key : α → Int} {l : List α} (hn : (l.map key).Nodup) (hs : l.Pairwise (fun a b => ¬ ordI (key b) (key a) < 0)) : (l.map key).Pairwise (fun a b => a < b) := by
  rw [List.pairwise_map]
  rw [List.nodup_iff_pairwise_ne, List.pairwise_map] at hn
  exact (hs.and hn).imp (fun h => lt_of_ord h.1 h.2)
theorem rise_at {l : List Int} (h : l.Pairwise (fun a b => a < b)) {k : Nat} {x y : Int} (hx : l[k]? = some x) (hy : l[k + 1]? = some y) : x < y := by
  have h1 := idx_lt hx
  have h2 := idx_lt hy
  have h3 := List.pairwise_iff_getElem.1 h k (k + 1) h1 h2 (by omega)
  rw [List.getElem?_eq_getElem h1] at hx
  rw [List.getElem?_eq_getElem h2] at hy
  injection hx with hx
  injection hy with hy
  rw [hx, hy] at h3
  exact h3
theorem both_rise {G : GraphD} (hm : mayG G = true) (hs : G.edges.Pairwise (fun a b => ¬ ordI b.id a.id < 0)) (a : Int) : (bothE G.edges a).Pairwise (fun a b => a < b) := by
  rw [both_eq]
  exact (rise_map (may_nodupE hm) hs).sublist (List.Sublist.map _ List.filter_sublist)
/-- What touches a node is an edge that begins or ends there. -/
theorem both_edge {G : GraphD} (hm : mayG G = true) {a y : Int} (hy : y ∈ bothE G.edges a) : y ∈ G.edges.map EdgeD.id ∧ ∀ x, x ∈ G.edges → x.id = y → x.src = a ∨ x.dst = a := by
  rw [both_eq] at hy
  obtain ⟨e, he, rfl⟩ := List.mem_map.1 hy
  obtain ⟨h1, h2⟩ := List.mem_filter.1 he
  refine ⟨List.mem_map.2 ⟨e, h1, rfl⟩, fun x hx hid => ?_⟩
  rw [nodup_inj (may_nodupE hm) hx h1 hid]
  simpa using h2
theorem has_out {G : GraphD} {x : EdgeD} (hx : x ∈ G.edges) : inB (outE G.edges x.src) x.id = true := by
  rw [out_eq]
  exact inB_yes (List.mem_map.2 ⟨x, List.mem_filter.2 ⟨hx, by simp⟩, rfl⟩)
theorem has_in {G : GraphD} {x : EdgeD} (hx : x ∈ G.edges) : inB (inE G.edges x.dst) x.id = true := by
  rw [in_eq]
  exact inB_yes (List.mem_map.2 ⟨x, List.mem_filter.2 ⟨hx, by simp⟩, rfl⟩)
theorem has_type {G : GraphD} {x : EdgeD} (hx : x ∈ G.edges) (t : ByteArray) : inB (hopIds G.edges [t, x.type] (hopsG G.edges x.dst 0)) x.id = true := by
  rw [hopIds_eq]
  exact inB_yes (List.mem_map.2 ⟨x, List.mem_filter.2 ⟨hx, by simp [hopB, typeOk, inB]⟩, rfl⟩)
theorem has_no {G : GraphD} (hm : mayG G = true) {x : EdgeD} (hx : x ∈ G.edges) (t : ByteArray) (ht : x.type ≠ t) : inB (hopIds G.edges [t] (hopsG G.edges x.src 0)) x.id = false := by
  rw [hopIds_eq]
  refine inB_no (fun h => ?_)
  obtain ⟨e, he, hid⟩ := List.mem_map.1 h
  obtain ⟨h1, h2⟩ := List.mem_filter.1 he
  rw [nodup_inj (may_nodupE hm) h1 hx hid] at h2
  simp [typeOk, inB] at h2
  exact ht h2.2
theorem labeled_nil (G : GraphD) : labeledG G [] = G.nodes.map NodeD.id := by
  unfold labeledG
  rw [List.filter_eq_self.2]
  intro n _
  rfl
/-- A sorted graph is as fit as it was. -/
theorem fit_srt {g g' : GraphD} (hfit : FitG g) (hs : SrtG g g') : FitG g' := by
  have hl := srt_len hfit hs
  obtain ⟨⟨m, h1, h2, _⟩, ⟨m', h3, h4, _⟩⟩ := hs
  refine ⟨hl.1, hl.2, fun n hn => ?_, fun e he => ?_⟩
  · obtain ⟨x, hx, hr⟩ := perm_all h1 h2 hn
    obtain ⟨⟨f1, f2, f3, f4⟩, f5⟩ := hfit.2.2.1 x hx
    have p1 : n.labels.Perm x.labels := hr.2.1.1
    have p2 : n.props.Perm x.props := hr.2.2.1
    exact ⟨⟨by rw [p1.length_eq]; exact f1, by rw [p2.length_eq]; exact f2, fun s hs => f3 s (p1.mem_iff.1 hs), fun p hp => f4 p (p2.mem_iff.1 hp)⟩, by rw [hr.1]; exact f5⟩
  · obtain ⟨x, hx, hr⟩ := perm_all h3 h4 he
    obtain ⟨⟨f1, f2, f3⟩, f4, f5, f6⟩ := hfit.2.2.2 x hx
    have p2 : e.props.Perm x.props := hr.2.2.2.2.1
    exact ⟨⟨by rw [hr.2.2.2.1]; exact f1, by rw [p2.length_eq]; exact f2, fun p hp => f3 p (p2.mem_iff.1 hp)⟩, by rw [hr.1]; exact f4, by rw [hr.2.1]; exact f5, by rw [hr.2.2.1]; exact f6⟩
theorem flat_may {g : GraphD} (hm : mayG g = true) : (∀ n, n ∈ g.nodes → FlatN n) ∧ ∀ e, e ∈ g.edges → FlatE e :=
  ⟨fun _ hn => propsB_flat (may_node hm hn).1, fun _ he => propsB_flat (may_edge hm he)⟩
theorem srt_lens {g g' : GraphD} (hs : SrtG g g') : g'.nodes.length = g.nodes.length ∧ g'.edges.length = g.edges.length := by
  obtain ⟨⟨m, h1, h2, _⟩, ⟨m', h3, h4, _⟩⟩ := hs
  exact ⟨by rw [h2.length_eq, ← h1.1], by rw [h4.length_eq, ← h3.1]⟩
theorem srt_rise {g g' : GraphD} (hs : SrtG g g') : g'.nodes.Pairwise (fun a b => ¬ ordI b.id a.id < 0) ∧ g'.edges.Pairwise (fun a b => ¬ ordI b.id a.id < 0) := ⟨hs.1.choose_spec.2.2, hs.2.choose_spec.2.2⟩
end Go.Proofs.YtmhjbicbdahllaaGreatDoor

namespace Go.Proofs.YtmhjbicbdahllaaGreatDoor
open Go Go.RowKit

/-- A row of two texts, of one block. -/
theorem rd_pair {w : World} {F : Nat → Prop} {b : Nat} {T : TypeId} {x y : ByteArray} (hb : w.heap[b]? = some (.cells #[.string x, .string y] T (0, 0))) (hF : F b) : SRd 1 TxR w F [x, y] (some ⟨b, 0, none⟩) 2 := by
  refine ⟨rfl, fun _ => ⟨⟨b, 0, none⟩, rfl, hF, fun i u hu => ?_⟩⟩
  have ha : ∀ j, (⟨b, 0, none⟩ : Addr).add j = ⟨b, j, none⟩ := fun j => by
    unfold Addr.add
    split
    · rename_i h0; rw [h0]
    · simp
  match i, hu with
  | 0, hu =>
    simp at hu
    subst hu
    refine ⟨#[.string x], rfl, fun j hj => ?_, rfl⟩
    rw [ha]
    have h0 : j = 0 := by omega
    subst h0
    exact Lib.cell_of_heap hb 0
  | 1, hu =>
    simp at hu
    subst hu
    refine ⟨#[.string y], rfl, fun j hj => ?_, rfl⟩
    rw [ha]
    have h0 : j = 0 := by omega
    subst h0
    exact Lib.cell_of_heap hb 1
  | i + 2, hu => simp at hu
theorem hopIds_few (es : List EdgeD) (q : List ByteArray) (a d : Int) : (hopIds es q (hopsG es a d)).length ≤ es.length := by
  unfold hopIds
  exact Nat.le_trans (List.length_filterMap_le ..) (hops_len es a d)
theorem GrR.lists {w : World} {F : Nat → Prop} {g : GraphD} {A B : Option Addr} {n c m d : Nat} (h : GrR w F g (.agg #[.slice A n c, .slice B m d])) : SRd 3 NoR w F g.nodes A n ∧ SRd 5 EdR w F g.edges B m := by
  obtain ⟨_, _, he, ⟨A', c', rfl, _, h1⟩, B', d', rfl, _, h2⟩ := h
  injection he with he
  have he2 := congrArg Array.toList he
  simp only [List.cons.injEq, and_true] at he2
  obtain ⟨e1, e2⟩ := he2
  injection e1 with a1 a2 a3
  injection e2 with b1 b2 b3
  subst a1 b1
  rw [a2, b2]
  exact ⟨h1, h2⟩
theorem vim1 : VI (-1) := by unfold VI; decide
set_option maxRecDepth 100000 in
set_option maxHeartbeats 8000000 in
theorem graphEdges_any (g : GraphD) (hfit : FitG g) (htot : totalG g ≤ 1000000000) (F : Nat → Prop) (u : Value) (w : World) (hF : ∀ b, F b → b < w.heap.size) (hg : GrR w F g u) (hgl : GlobB w) :
    Calls Tryz.prog 5 #[u] w (ToldB true w) := by
  have HGR := Lib.hid hg
  obtain ⟨NV, EV, rfl, ⟨AN, cN, rfl, hcN, hlN⟩, AE, cE, rfl, hcE, hlE⟩ := hg
  obtain ⟨nN, HnN⟩ := name_itV g.nodes.length
  obtain ⟨nE, HnE⟩ := name_itV g.edges.length
  have hgn : nN ≤ 2000000 := by rw [← HnN.out]; exact hfit.1
  have hge : nE ≤ 2000000 := by rw [← HnE.out]; exact hfit.2.1
  rw [HnN.out] at hlN
  rw [HnE.out] at hlE
  rw [HnN.out, HnE.out] at HGR ⊢
  obtain ⟨z, HZ⟩ := name_itV w.heap.size
  have HLN := Lib.hid (hlN.mono NoR.good (F' := fun b => b < z) (fun b hb => by rw [← HZ.out]; exact hF b hb))
  have HLE := Lib.hid (hlE.mono EdR.good (F' := fun b => b < z) (fun b hb => by rw [← HZ.out]; exact hF b hb))
  have HF := Lib.hid hF
  have HG := Lib.hid hgl
  have HFIT := Lib.hid hfit
  obtain ⟨w1, HW1⟩ := name_itV (w.alloc (.cells #[.slice AN nN cN, .slice AE nE cE] 25))
  have HB1 := Lib.hid (show Below w.heap.size w w1 from by rw [← HW1.out]; exact (Below.refl _ _).alloc (Nat.le_refl _) _)
  have HK1 := Lib.hid (show w1.heap[z]? = some (.cells #[.slice AN nN cN, .slice AE nE cE] 25 (0, 0)) from by rw [← HW1.out, ← HZ.out]; exact heap_alloc_new w _)
  have hli := Lib.hid (light_any g htot F _ w1 (fun b hb => Nat.lt_of_lt_of_le (hF b hb) HB1.out.size) (HGR.out.keep (fun q hq => HB1.out.cell (hF _ hq))))
  have b0 : w1.cell? ⟨z, 0, none⟩ = some (.slice AN nN cN) := Lib.cell_of_heap HK1.out 0
  have b1 : w1.cell? ⟨z, 1, none⟩ = some (.slice AE nE cE) := Lib.cell_of_heap HK1.out 1
  clear hlN hlE hF hgl hfit hcN hcE htot
  obtain ⟨lb, HLB⟩ := name_itV (lightG g)
  rw [HLB.out] at hli
  go_enter Tryz.func5, Tryz.ntmps5
  go_upto_region 1 with fail
  rw [HZ.out, HW1.out]
  go_wp2_with fail
  refine hli.out.mono ?_
  rintro e w2 ⟨rfl, hb2⟩
  have HB2 := Lib.hid (show Below w.heap.size w w2 from HB1.out.trans (hb2.mono HB1.out.size))
  have hk2 := (hb2.block z (blk_lt HK1.out)).trans HK1.out
  have HK2 := Lib.hid hk2
  clear b0 b1 hb2 hli
  cases lb with
  | false =>
    go_wp2_with fail
    refine (wakes_any w2 (glob_under HG.out HB2.out)).mono ?_
    rintro e w3 ⟨rfl, hb3⟩
    have HB3 := Lib.hid (HB2.out.trans (hb3.mono HB2.out.size))
    clear hb3 hk2
    go_wp2_with fail
    go_ret
    exact ⟨rfl, HB3.out⟩
  | true =>
    have b0 : w2.cell? ⟨z, 0, none⟩ = some (.slice AN nN cN) := Lib.cell_of_heap hk2 0
    have b1 : w2.cell? ⟨z, 1, none⟩ = some (.slice AE nE cE) := Lib.cell_of_heap hk2 1
    have hld := Lib.hid (load_any g HFIT.out F _ w2 (fun b hb => Nat.lt_of_lt_of_le (HF.out b hb) HB2.out.size) (HGR.out.keep (fun q hq => HB2.out.cell (HF.out _ hq))) (glob_under HG.out HB2.out))
    clear hk2
    go_wp2_with fail
    refine hld.out.mono ?_
    rintro e w4 ⟨hb4, hor⟩
    have HB4 := Lib.hid (show Below w.heap.size w w4 from HB2.out.trans (hb4.mono HB2.out.size))
    have HK4 := Lib.hid ((hb4.block z (blk_lt HK2.out)).trans HK2.out)
    clear b0 b1 hb4 hld
    rcases hor with ⟨_, rfl⟩ | ⟨hmay, p, g', rfl, hst, hsr⟩
    · go_wp2_with fail
      refine (wakes_any w4 (glob_under HG.out HB4.out)).mono ?_
      rintro e w3 ⟨rfl, hb3⟩
      have HB3 := Lib.hid (HB4.out.trans (hb3.mono HB4.out.size))
      clear hb3
      go_wp2_with fail
      go_ret
      exact ⟨rfl, HB3.out⟩
    · obtain ⟨Ns, Es, mh, mt, ma, mid, n0, hst⟩ := hst
      have HST := Lib.hid hst
      have HMAY := Lib.hid hmay
      have HSR := Lib.hid hsr
      have HM2 := Lib.hid (may_srt hmay hsr)
      have HFIT2 := Lib.hid (fit_srt HFIT.out hsr)
      have HPL := Lib.hid (fun (W : World) (Nz Ez : Value) (lo p mh mt ma mid n0 : Nat) (hst : StoreAt W lo p g' Nz Ez mh mt ma mid n0) => plain_any g' _ p Nz Ez mh mt ma mid n0 W hst HFIT2.out (flat_may HM2.out).1 (flat_may HM2.out).2)
      have hpl := Lib.hid (HPL.out w4 Ns Es _ p mh mt ma mid n0 hst)
      have HHOPS := Lib.hid (fun (W : World) (hW : Below w4.heap.size w4 W) (a d : Int) (ha : VI a) (hd : VI d) (q : List ByteArray) (B : Option Addr) (n2 c2 : Nat) (hn : n2 ≤ 1000000000) (hq : SRd 1 TxR W (fun b => b < W.heap.size) q B n2) => hops_any g' a d q _ p Ns Es mh mt ma mid n0 (fun b => b < W.heap.size) B n2 c2 W (hst.turn (Turn.of_below hW) (fun b _ h1 h2 => by omega)) ha hd (fun _ h => h) hq hn HFIT2.out.2.1)
      have HLAB := Lib.hid (fun (W : World) (hW : Below w4.heap.size w4 W) => labeled_any g' [] _ p Ns Es mh mt ma mid n0 (fun b => b < W.heap.size) none 0 0 W (hst.turn (Turn.of_below hW) (fun b _ h1 h2 => by omega)) (fun _ h => h) (SRd.nil ..) (by decide) HFIT2.out.1 (fun n hn => (HFIT2.out.2.2.1 n hn).1.1))
      have HEDGE := Lib.hid (fun (W : World) (hW : Below w4.heap.size w4 W) (id : Int) (hid : VI id) (hin : id ∈ g'.edges.map EdgeD.id) => edge_got g' _ p Ns Es mh mt ma mid n0 id W (hst.turn (Turn.of_below hW) (fun b _ h1 h2 => by omega)) hid hin (fun x hx => ⟨(HFIT2.out.2.2.2 x hx).1, (flat_may HM2.out).2 x hx⟩))
      have HLEN := Lib.hid (srt_lens hsr)
      clear hmay hst hsr
      go_wp2_with fail
      refine hpl.out.mono ?_
      rintro e w5 ⟨AP, cP, BP, dP, ns, es, rfl, hb5, hgr5, hal, hae⟩
      have hpe := plain_self HMAY.out HSR.out hal hae
      have hln : ns.length = nN := by rw [← HnN.out, ← HLEN.out.1, ← hpe]
      have hle : es.length = nE := by rw [← HnE.out, ← HLEN.out.2, ← hpe]
      rw [hpe] at hgr5
      rw [hln, hle] at hgr5 ⊢
      have HG5 := Lib.hid (hgr5.mono (F' := fun b => b < w5.heap.size) (fun b hb => hb.2))
      have HB5 := Lib.hid hb5
      clear hpl hb5 hgr5 hal hae hpe hln hle
      obtain ⟨zp, HZP⟩ := name_itV w5.heap.size
      obtain ⟨w6, HW6⟩ := name_itV (w5.alloc (.cells #[.slice AP nN cP, .slice BP nE dP] 25))
      have HB6 := Lib.hid (show Below w5.heap.size w5 w6 from by rw [← HW6.out]; exact (Below.refl _ _).alloc (Nat.le_refl _) _)
      have HKP := Lib.hid (show w6.heap[zp]? = some (.cells #[.slice AP nN cP, .slice BP nE dP] 25 (0, 0)) from by rw [← HW6.out, ← HZP.out]; exact heap_alloc_new w5 _)
      have HB46 := Lib.hid (HB5.out.trans (HB6.out.mono HB5.out.size))
      have HGP := Lib.hid (HG5.out.under HB6.out (fun b hb => hb))
      have HKZ := Lib.hid ((HB46.out.block z (blk_lt HK4.out)).trans HK4.out)
      go_upto_region 7 with fail
      rw [HZP.out, HW6.out]
      have p0 : w6.cell? ⟨zp, 0, none⟩ = some (.slice AP nN cP) := Lib.cell_of_heap HKP.out 0
      have p1 : w6.cell? ⟨zp, 1, none⟩ = some (.slice BP nE dP) := Lib.cell_of_heap HKP.out 1
      have hld2 := Lib.hid (load_any g' HFIT2.out (fun b => b < w5.heap.size) _ w6 (fun b hb => Nat.lt_of_lt_of_le hb HB6.out.size) HGP.out (glob_under HG.out (HB4.out.trans (HB46.out.mono HB4.out.size))))
      go_wp2_with fail
      refine hld2.out.mono ?_
      rintro e w7 ⟨hb7, hor⟩
      rcases hor with ⟨hno, _⟩ | ⟨_, p2, g2, rfl, hst2, hsr2⟩
      · rw [HM2.out] at hno; cases hno
      have hg2 := srt_self HMAY.out HSR.out hsr2
      subst hg2
      obtain ⟨Ns2, Es2, mh2, mt2, ma2, mid2, n2, hst2⟩ := hst2
      have HST2 := Lib.hid hst2
      have HB67 := Lib.hid hb7
      have HB47 := Lib.hid (HB46.out.trans (hb7.mono HB46.out.size))
      clear p0 p1 hb7 hsr2 hst2 hld2
      have HSS := Lib.hid (fun (W : World) (hW : Below w7.heap.size w7 W) => (show W.cell? ⟨zp, 0, none⟩ = some (.slice AP nN cP) ∧ W.cell? ⟨zp, 1, none⟩ = some (.slice BP nE dP) ∧ W.cell? ⟨z, 0, none⟩ = some (.slice AN nN cN) ∧ W.cell? ⟨z, 1, none⟩ = some (.slice AE nE cE) from by
        have h1 := blk_lt HKP.out
        have h2 := blk_lt HKZ.out
        have h3 := HB67.out.size
        exact ⟨(hW.cell (p := ⟨zp, 0, none⟩) (by show zp < _; omega)).trans ((HB67.out.cell (p := ⟨zp, 0, none⟩) h1).trans (Lib.cell_of_heap HKP.out 0)), (hW.cell (p := ⟨zp, 1, none⟩) (by show zp < _; omega)).trans ((HB67.out.cell (p := ⟨zp, 1, none⟩) h1).trans (Lib.cell_of_heap HKP.out 1)), (hW.cell (p := ⟨z, 0, none⟩) (by show z < _; omega)).trans ((HB67.out.cell (p := ⟨z, 0, none⟩) h2).trans (Lib.cell_of_heap HKZ.out 0)), (hW.cell (p := ⟨z, 1, none⟩) (by show z < _; omega)).trans ((HB67.out.cell (p := ⟨z, 1, none⟩) h2).trans (Lib.cell_of_heap HKZ.out 1))⟩))
      have HGW := Lib.hid (fun (W : World) (hW : Below w7.heap.size w7 W) => (HGP.out.under HB67.out (fun b hb => Nat.lt_of_lt_of_le hb HB6.out.size)).under hW (fun b hb => Nat.lt_of_lt_of_le hb (Nat.le_trans HB6.out.size HB67.out.size)))
      have hpl2 := Lib.hid (HPL.out w7.drew Ns2 Es2 _ p2 mh2 mt2 ma2 mid2 n2 (HST2.out.turn (Turn.refl (fun _ => False) w7).drew (fun _ _ _ h => h)))
      have s1 := Lib.hid (HSS.out w7.drew (Below.refl _ _).drew)
      have u1 : ((nE : Int) != nE) = false := bne_self_eq_false _
      have u2 : ((nN : Int) != nN) = false := bne_self_eq_false _
      go_upto_region 8 with fail
      go_region_held3 (fun W' => W'.cell? ⟨zp, 0, none⟩ = some (.slice AP nN cP) ∧ W'.cell? ⟨zp, 1, none⟩ = some (.slice BP nE dP) ∧ W'.cell? ⟨z, 0, none⟩ = some (.slice AN nN cN) ∧ W'.cell? ⟨z, 1, none⟩ = some (.slice AE nE cE)) (first | exact s1.out | exact s2.out | exact s3.out | (trace_state; fail))
        (first
          | (go_at_call 15; (with_reducible refine hpl2.out.mono ?_); rintro e w8 ⟨A8, c8, B8, d8, ns8, es8, rfl, hb8, hgr8, hal8, hae8⟩; have hpe8 := plain_self HMAY.out HSR.out hal8 hae8; rw [hpe8] at hgr8; have HB8 := Lib.hid (show Below w7.heap.size w7 w8 from (Below.refl w7.heap.size w7).drew.trans hb8); have s2 := Lib.hid (HSS.out w8 HB8.out); have heq := Lib.hid (eqGraph_same _ HFIT2.out (fun b => b < w8.heap.size) (fun b => b < w5.heap.size) _ _ w8 (fun b hb => hb) (fun b hb => Nat.lt_of_lt_of_le hb (Nat.le_trans (Nat.le_trans HB6.out.size HB67.out.size) HB8.out.size)) (hgr8.mono (fun b hb => hb.2)) (HGW.out w8 HB8.out)); clear hb8 hgr8 hal8 hae8 hpe8)
          | (go_at_call 11; (with_reducible refine heq.out.mono ?_); rintro e w9 ⟨rfl, hb9⟩; have HB9 := Lib.hid (HB8.out.trans (hb9.mono HB8.out.size)); have s3 := Lib.hid (HSS.out w9 HB9.out); clear hb9))
      have HB49 := Lib.hid (HB47.out.trans (HB9.out.mono HB47.out.size))
      have HB59 := Lib.hid ((HB6.out.trans (HB67.out.mono HB6.out.size)).trans (HB9.out.mono (HB6.out.trans (HB67.out.mono HB6.out.size)).size))
      have HNP := Lib.hid (HG5.out.lists.1)
      have HEP := Lib.hid (HG5.out.lists.2)
      have HSW := Lib.hid (fun (W : World) (hW : Below w9.heap.size w9 W) => HSS.out W (HB9.out.trans (hW.mono HB9.out.size)))
      have HNW := Lib.hid (fun (W : World) (hW : Below w9.heap.size w9 W) => HNP.out.under NoR.good (HB59.out.trans (hW.mono HB59.out.size)) (fun b hb => hb))
      have HEW := Lib.hid (fun (W : World) (hW : Below w9.heap.size w9 W) => HEP.out.under EdR.good (HB59.out.trans (hW.mono HB59.out.size)) (fun b hb => hb))
      have HHW := Lib.hid (fun (W : World) (hW : Below w9.heap.size w9 W) => HHOPS.out W (HB49.out.trans (hW.mono HB49.out.size)))
      have HEDW := Lib.hid (fun (W : World) (hW : Below w9.heap.size w9 W) => HEDGE.out W (HB49.out.trans (hW.mono HB49.out.size)))
      have HLAW := Lib.hid (fun (W : World) (hW : Below w9.heap.size w9 W) => HLAB.out W (HB49.out.trans (hW.mono HB49.out.size)))
      have hnN : g2.nodes.length = nN := by rw [HLEN.out.1, HnN.out]
      have hnE : g2.edges.length = nE := by rw [HLEN.out.2, HnE.out]
      have HNN := Lib.hid hnN
      have HNE := Lib.hid hnE
      have HBEG := Lib.hid (begin_all HM2.out)
      have HEND := Lib.hid (end_all HM2.out)
      have HRN := Lib.hid (rise_map (may_nodupN HM2.out) (srt_rise HSR.out).1)
      have HRE := Lib.hid (fun a => both_rise HM2.out (srt_rise HSR.out).2 a)
      rw [hnE] at HBEG HEND
      clear u1 u2 hpl2 heq HPL HLAB HHOPS HEDGE hnN hnE HGW HSS s1 s2 s3
      go_upto_region 12 with fail
      go_loopw [7, 8, 9] (fun s7 s8 s9 wx => ∃ (k b e : Nat), k ≤ nN ∧ s7 = .int .i64 (b : Nat) ∧ s8 = .int .i64 (e : Nat) ∧ s9 = .int .i64 (k : Nat) ∧ Hid (b = sumBy (fun n => (outE g2.edges n.id).length) (g2.nodes.take k)) ∧ Hid (e = sumBy (fun n => (inE g2.edges n.id).length) (g2.nodes.take k)) ∧ Hid (Below w9.heap.size w9 wx)) (fun _ _ s9 _ => nN - (intOf s9).toNat)
      case atStart => exact ⟨0, 0, 0, by omega, rfl, rfl, rfl, Lib.hid (by simp [sumBy]), Lib.hid (by simp [sumBy]), Lib.hid (Below.refl _ _)⟩
      case round =>
        obtain ⟨k, bk, ek, hk, rfl, rfl, rfl, Hbk, Hek, HBr⟩ := hrel
        have hbk : bk ≤ 2000000 := by
          have h1 := Hbk.out
          have h2 := sumBy_le (fun n => (outE g2.edges n.id).length) g2.nodes k
          rw [HBEG.out] at h2
          omega
        have hek : ek ≤ 2000000 := by
          have h1 := Hek.out
          have h2 := sumBy_le (fun n => (inE g2.edges n.id).length) g2.nodes k
          rw [HEND.out] at h2
          omega
        have p0 := (HSW.out wr HBr.out).1
        have p1 := (HSW.out wr HBr.out).2.1
        by_cases hlt : k < nN
        · as_aux_lemma =>
          obtain ⟨x, hx⟩ : ∃ x, g2.nodes[k]? = some x := ⟨g2.nodes[k]'(by rw [HNN.out]; exact hlt), List.getElem?_eq_getElem _⟩
          have HX := Lib.hid hx
          have HVI := Lib.hid (HFIT2.out.2.2.1 x (List.mem_of_getElem? hx)).2
          have HSO := Lib.hid (sumBy_more (f := fun n => (outE g2.edges n.id).length) hx)
          have HSI := Lib.hid (sumBy_more (f := fun n => (inE g2.edges n.id).length) hx)
          have HQ := Lib.hid (fun (W : World) (hW : Below w9.heap.size w9 W) => nodesAt (HNW.out W hW) hx)
          obtain ⟨ad, hAP⟩ : ∃ ad, AP = some ad := by
            obtain ⟨ad, _, _, _, _, hAP, _⟩ := HQ.out wr HBr.out
            exact ⟨ad, hAP⟩
          subst hAP
          have HQ0 := Lib.hid (fun (W : World) (hW : Below w9.heap.size w9 W) => (show W.cell? (ad.add (k * 3)) = some (.int .i64 x.id) from by
            obtain ⟨ad', _, _, _, _, hAP, _, _, _, _, q0, _⟩ := HQ.out W hW
            injection hAP with hAP
            rw [hAP]
            exact q0))
          obtain ⟨id, Hxid⟩ := name_itV x.id
          rw [Hxid.out] at HVI HQ0 HSO HSI
          have q0 := HQ0.out wr HBr.out
          clear hx HQ
          have e1 : (0 : Int) ≤ k := by omega
          have e2 : (k : Int) < nN := by omega
          have w1 : IntKind.i64.wrap ((k : Int) + 1) = (k : Int) + 1 := IntWalk.i64_in _ (by omega)
          go_upto_region 14 with fail
          go_wp2_with fail
          refine (HHW.out wr HBr.out id 1 HVI.out vi1 [] none 0 0 (by decide) (SRd.nil ..)).mono ?_
          rintro e wa ⟨AO, cO, rfl, hb, hr⟩
          obtain ⟨nO, HnO⟩ := name_itV (outE g2.edges id).length
          rw [show (hopIds g2.edges [] (hopsG g2.edges id 1)).length = nO from HnO.out] at hr ⊢
          have HBa := Lib.hid (HBr.out.trans (hb.mono HBr.out.size))
          have p0a := (HSW.out wa HBa.out).1
          have q0a := HQ0.out wa HBa.out
          clear hb hr p0 p1 q0
          go_upto_region 15 with fail
          go_wp2_with fail
          refine (HHW.out wa HBa.out id (-1) HVI.out vim1 [] none 0 0 (by decide) (SRd.nil ..)).mono ?_
          rintro e wb ⟨AI, cI, rfl, hb, hr⟩
          obtain ⟨nI, HnI⟩ := name_itV (inE g2.edges id).length
          rw [show (hopIds g2.edges [] (hopsG g2.edges id (-1))).length = nI from HnI.out] at hr ⊢
          have HBb := Lib.hid (HBa.out.trans (hb.mono HBa.out.size))
          have p0b := (HSW.out wb HBb.out).1
          have q0b := HQ0.out wb HBb.out
          clear hb hr p0a q0a
          go_upto_region 16 with fail
          go_wp2_with fail
          refine (HHW.out wb HBb.out id 0 HVI.out vi0 [] none 0 0 (by decide) (SRd.nil ..)).mono ?_
          rintro e wc ⟨AB, cB, rfl, hb, hr⟩
          obtain ⟨nB, HnB⟩ := name_itV (bothE g2.edges id).length
          rw [show (hopIds g2.edges [] (hopsG g2.edges id 0)).length = nB from HnB.out] at hr ⊢
          have HBc := Lib.hid (HBb.out.trans (hb.mono HBb.out.size))
          have HRB := Lib.hid (show SRd 1 IxR wc (fun b => b < wc.heap.size) (bothE g2.edges id) AB nB from hr.mono IxR.good (fun b hb => hb.2))
          clear hb hr p0b q0b
          have hlens := both_len g2.edges id
          rw [HnB.out, HnO.out, HnI.out] at hlens
          obtain ⟨hl1, hl2, hl3⟩ := hlens
          have hnO : nO ≤ 2000000 := by rw [← HnO.out]; exact Nat.le_trans (hopIds_few ..) HFIT2.out.2.1
          have hnI : nI ≤ 2000000 := by rw [← HnI.out]; exact Nat.le_trans (hopIds_few ..) HFIT2.out.2.1
          have hnB : nB ≤ 2000000 := by rw [← HnB.out]; exact Nat.le_trans (hopIds_few ..) HFIT2.out.2.1
          have w2 : IntKind.i64.wrap ((bk : Int) + nO) = (bk : Int) + nO := IntWalk.i64_in _ (by omega)
          have w3 : IntKind.i64.wrap ((ek : Int) + nI) = (ek : Int) + nI := IntWalk.i64_in _ (by omega)
          have w4x : IntKind.i64.wrap ((nO : Int) + nI) = (nO : Int) + nI := IntWalk.i64_in _ (by omega)
          have g1 : decide ((nO : Int) + nI < nB) = false := decide_eq_false (by omega)
          have g2x : decide ((nB : Int) < nO) = false := decide_eq_false (by omega)
          have g3 : decide ((nB : Int) < nI) = false := decide_eq_false (by omega)
          have HLL := Lib.hid (And.intro hl1 (And.intro hl2 hl3))
          have n2x : ¬ nB < nO := by omega
          have n3x : ¬ nB < nI := by omega
          clear hl1 hl2 hl3
          go_upto_region 22 with fail
          clear g1 g2x g3 n2x n3x w2 w3 w4x
          go_loopw [13] (fun s13 wx => ∃ j : Nat, j ≤ nB ∧ s13 = .int .i64 (j : Nat) ∧ Hid (Below wc.heap.size wc wx)) (fun s13 _ => nB - (intOf s13).toNat)
          case atStart => exact ⟨0, by omega, rfl, Lib.hid (Below.refl _ _)⟩
          case round =>
            obtain ⟨j, hj, rfl, HBR⟩ := hrel
            have HB9r := Lib.hid (HBc.out.trans (HBR.out.mono HBc.out.size))
            by_cases hltj : j < nB
            · obtain ⟨y, hy⟩ : ∃ y, (bothE g2.edges id)[j]? = some y := ⟨(bothE g2.edges id)[j]'(by rw [HnB.out]; exact hltj), List.getElem?_eq_getElem _⟩
              have hye := both_edge HM2.out (List.mem_of_getElem? hy)
              have hvy : VI y := by
                obtain ⟨x0, h1, h2⟩ := List.mem_map.1 hye.1
                rw [← h2]
                exact (HFIT2.out.2.2.2 x0 h1).2.1
              have HVY := Lib.hid hvy
              have HYE := Lib.hid hye
              have HY := Lib.hid hy
              obtain ⟨au, hAB⟩ : ∃ au, AB = some au := by
                obtain ⟨au, hAB, _⟩ := intAt HRB.out hy
                exact ⟨au, hAB⟩
              subst hAB
              have HQY := Lib.hid (fun (W : World) (hW : Below wc.heap.size wc W) (i : Nat) (v : Int) (hv : (bothE g2.edges id)[i]? = some v) => (show W.cell? (au.add i) = some (.int .i64 v) from by
                obtain ⟨au', hAB, _, q⟩ := intAt (HRB.out.under IxR.good hW (fun b hb => hb)) hv
                injection hAB with hAB
                rw [hAB]
                exact q))
              have y0 := HQY.out wr HBR.out j y hy
              clear hy hye hvy
              have e3 : (0 : Int) ≤ j := by omega
              have e4 : (j : Int) < nB := by omega
              have w2 : IntKind.i64.wrap ((j : Int) + 1) = (j : Int) + 1 := IntWalk.i64_in _ (by omega)
              go_upto_region 24 with fail
              go_wp2_with fail
              refine (HEDW.out wr HB9r.out y HVY.out HYE.out.1).mono ?_
              rintro e wd ⟨xe, Be, re, ce, hxe, hxid, rfl, hb⟩
              have HXE := Lib.hid (HYE.out.2 xe hxe hxid)
              obtain ⟨xid, Hx0⟩ := name_itV xe.id
              obtain ⟨src, Hx1⟩ := name_itV xe.src
              obtain ⟨dst, Hx2⟩ := name_itV xe.dst
              obtain ⟨typ, Hx3⟩ := name_itV xe.type
              rw [Hx0.out, Hx1.out, Hx2.out, Hx3.out]
              rw [Hx1.out, Hx2.out] at HXE
              have HBd := Lib.hid (HBR.out.trans (hb.mono HBR.out.size))
              obtain ⟨zx, HZX⟩ := name_itV wd.heap.size
              obtain ⟨we, HWE⟩ := name_itV (wd.alloc (.cells #[.int .i64 xid, .int .i64 src, .int .i64 dst, .string typ, .slice Be re ce] 41))
              have HBe := Lib.hid (show Below wd.heap.size wd we from by rw [← HWE.out]; exact (Below.refl _ _).alloc (Nat.le_refl _) _)
              have HKE := Lib.hid (show we.heap[zx]? = some (.cells #[.int .i64 xid, .int .i64 src, .int .i64 dst, .string typ, .slice Be re ce] 41 (0, 0)) from by rw [← HWE.out, ← HZX.out]; exact heap_alloc_new wd _)
              have HBce := Lib.hid (HBd.out.trans (HBe.out.mono HBd.out.size))
              have HB9e := Lib.hid (HBc.out.trans (HBce.out.mono HBc.out.size))
              clear hb hxe hxid y0
              go_upto_region 25 with fail
              rw [HWE.out, HZX.out]
              have p0e := (HSW.out we HB9e.out).1
              have q0e := HQ0.out we HB9e.out
              have k1 : we.cell? ⟨zx, 1, none⟩ = some (.int .i64 src) := Lib.cell_of_heap HKE.out 1
              have k2 : we.cell? ⟨zx, 2, none⟩ = some (.int .i64 dst) := Lib.cell_of_heap HKE.out 2
              have y1 := HQY.out we HBce.out j y HY.out
              have HN2 := Lib.hid (show src ≠ id → ((dst : Int) != id) = false from fun h => by
                rcases HXE.out with h1 | h1
                · exact absurd h1 h
                · rw [h1]; exact bne_self_eq_false _)
              rcases Nat.eq_zero_or_pos j with hj0 | hjp
              · have g1 : ¬ 0 < j := by omega
                have g2x : decide ((0 : Int) < (j : Int)) = false := decide_eq_false (by omega)
                clear hj0
                by_cases hs : src = id
                · have n1 : ((src : Int) != id) = false := by rw [hs]; exact bne_self_eq_false _
                  clear hs
                  go_quiet (fail)
                  go_wp2_with fail
                  go_roundw
                  case rel => exact ⟨j + 1, by omega, by go_num, Lib.hid (below_drewN HBce.out nq)⟩
                  case measure => simp [intOf]; omega
                · have n1 : ((src : Int) != id) = true := by simpa [bne] using hs
                  have n2x := HN2.out hs
                  clear hs
                  go_quiet (fail)
                  go_wp2_with fail
                  go_roundw
                  case rel => exact ⟨j + 1, by omega, by go_num, Lib.hid (below_drewN HBce.out nq)⟩
                  case measure => simp [intOf]; omega
              · obtain ⟨j0, hj0⟩ : ∃ j0, j = j0 + 1 := ⟨j - 1, by omega⟩
                obtain ⟨y0, hy0⟩ : ∃ y0, (bothE g2.edges id)[j0]? = some y0 := ⟨(bothE g2.edges id)[j0]'(by rw [HnB.out]; omega), List.getElem?_eq_getElem _⟩
                have y2 := HQY.out we HBce.out j0 y0 hy0
                have hlty := rise_at (HRE.out id) hy0 (by rw [← hj0]; exact HY.out)
                have g4 : ¬ (y ≤ y0) := by omega
                have g5 : decide (y ≤ y0) = false := decide_eq_false g4
                have g1 : 0 < j := hjp
                have g2x : decide ((0 : Int) < (j : Int)) = true := decide_eq_true (by omega)
                have w3 : IntKind.i64.wrap ((j : Int) - 1) = (j0 : Int) := by rw [show ((j : Int) - 1) = (j0 : Int) by omega]; exact IntWalk.i64_in _ (by omega)
                have e5 : (0 : Int) ≤ j0 := by omega
                have e6 : (j0 : Int) < nB := by omega
                clear hj0 hy0 hlty hjp
                by_cases hs : src = id
                · have n1 : ((src : Int) != id) = false := by rw [hs]; exact bne_self_eq_false _
                  clear hs
                  go_quiet (fail)
                  go_wp2_with fail
                  go_roundw
                  case rel => exact ⟨j + 1, by omega, by go_num, Lib.hid (below_drewN HBce.out nq)⟩
                  case measure => simp [intOf]; omega
                · have n1 : ((src : Int) != id) = true := by simpa [bne] using hs
                  have n2x := HN2.out hs
                  clear hs
                  go_quiet (fail)
                  go_wp2_with fail
                  go_roundw
                  case rel => exact ⟨j + 1, by omega, by go_num, Lib.hid (below_drewN HBce.out nq)⟩
                  case measure => simp [intOf]; omega
            · have hke : nB = j := by omega
              subst hke
              have p0r := (HSW.out wr HB9r.out).1
              have q0r := HQ0.out wr HB9r.out
              have HREL := Lib.hid (show ∀ wx, Below wr.heap.size wr wx → ∃ (k' b e : Nat), k' = k + 1 ∧ b = bk + nO ∧ e = ek + nI ∧ k' ≤ nN ∧ Hid (b = sumBy (fun n => (outE g2.edges n.id).length) (g2.nodes.take k')) ∧ Hid (e = sumBy (fun n => (inE g2.edges n.id).length) (g2.nodes.take k')) ∧ Hid (Below w9.heap.size w9 wx) from fun wx hwx => ⟨k + 1, bk + nO, ek + nI, rfl, rfl, rfl, by omega, Lib.hid (by rw [HSO.out, ← Hbk.out, HnO.out]), Lib.hid (by rw [HSI.out, ← Hek.out, HnI.out]), Lib.hid (HB9r.out.trans (hwx.mono HB9r.out.size))⟩)
              clear hlt hltj hj
              rcases Nat.eq_zero_or_pos k with hk0 | hkp
              · have g1 : ¬ 0 < k := by omega
                have g2x : decide ((0 : Int) < (k : Int)) = false := decide_eq_false (by omega)
                clear hk0
                go_upto_region 27 with fail
                go_quiet (fail)
                go_wp2_with fail
                go_roundw
                case rel =>
                  obtain ⟨k', b, e, h1, h2, h3, h4, h5, h6, h7⟩ := HREL.out (wr.drewN nq) (below_drewN (Below.refl _ _) nq)
                  exact ⟨k', b, e, h4, by rw [h2]; go_num, by rw [h3]; go_num, by rw [h1]; go_num, h5, h6, h7⟩
                case measure => simp [intOf]; omega
              · obtain ⟨k0, hk0⟩ : ∃ k0, k = k0 + 1 := ⟨k - 1, by omega⟩
                obtain ⟨x0, hx0⟩ : ∃ x0, g2.nodes[k0]? = some x0 := ⟨g2.nodes[k0]'(by have := idx_lt HX.out; omega), List.getElem?_eq_getElem _⟩
                have q2 : wr.cell? (ad.add (k0 * 3)) = some (.int .i64 x0.id) := by
                  obtain ⟨ad', _, _, _, _, hAP, _, _, _, _, q, _⟩ := nodesAt (HNW.out wr HB9r.out) hx0
                  injection hAP with hAP
                  rw [hAP]
                  exact q
                have hltx : x0.id < id := by
                  have h1 := rise_at HRN.out (k := k0) (x := x0.id) (y := id) (by rw [List.getElem?_map, hx0]; rfl) (by rw [List.getElem?_map, ← hk0, HX.out]; simp [Hxid.out])
                  exact h1
                obtain ⟨i0, Hi0⟩ := name_itV x0.id
                rw [Hi0.out] at q2 hltx
                have g4 : ¬ (id ≤ i0) := by omega
                have g5 : decide (id ≤ i0) = false := decide_eq_false g4
                have g1 : 0 < k := hkp
                have g2x : decide ((0 : Int) < (k : Int)) = true := decide_eq_true (by omega)
                have w3 : IntKind.i64.wrap ((k : Int) - 1) = (k0 : Int) := by rw [show ((k : Int) - 1) = (k0 : Int) by omega]; exact IntWalk.i64_in _ (by omega)
                have e5 : (0 : Int) ≤ k0 := by omega
                have e6 : (k0 : Int) < nN := by omega
                clear hk0 hx0 hltx hkp
                go_upto_region 27 with fail
                go_quiet (fail)
                go_wp2_with fail
                go_roundw
                case rel =>
                  obtain ⟨k', b, e, h1, h2, h3, h4, h5, h6, h7⟩ := HREL.out (wr.drewN nq) (below_drewN (Below.refl _ _) nq)
                  exact ⟨k', b, e, h4, by rw [h2]; go_num, by rw [h3]; go_num, by rw [h1]; go_num, h5, h6, h7⟩
                case measure => simp [intOf]; omega
        · have hke : nN = k := by omega
          subst hke
          have hbe : nE = bk := by rw [Hbk.out, List.take_of_length_le (by rw [HNN.out]; exact Nat.le_refl _), HBEG.out]
          have hee : nE = ek := by rw [Hek.out, List.take_of_length_le (by rw [HNN.out]; exact Nat.le_refl _), HEND.out]
          subst hbe
          subst hee
          have HB0 := HBr
          clear hlt hk Hbk Hek HBr hbk hek
          go_upto_region 30 with fail
          clear p0 p1
          go_loopw [16] (fun s16 wx => ∃ i : Nat, i ≤ nE ∧ s16 = .int .i64 (i : Nat) ∧ Hid (Below w9.heap.size w9 wx)) (fun s16 _ => nE - (intOf s16).toNat)
          case atStart => exact ⟨0, by omega, rfl, HB0⟩
          case round =>
            obtain ⟨i, hi, rfl, HBr⟩ := hrel
            have p1 := (HSW.out wr HBr.out).2.1
            by_cases hlt : i < nE
            · as_aux_lemma =>
              obtain ⟨x, hx⟩ : ∃ x, g2.edges[i]? = some x := ⟨g2.edges[i]'(by rw [HNE.out]; exact hlt), List.getElem?_eq_getElem _⟩
              have HXM := Lib.hid (List.mem_of_getElem? hx)
              have hvv := (HFIT2.out.2.2.2 x HXM.out).2
              have hty := (HFIT2.out.2.2.2 x HXM.out).1.1
              have ho := has_out HXM.out
              have hi2 := has_in HXM.out
              have ht2 := has_type HXM.out ⟨#[]⟩
              have hno := has_no HM2.out HXM.out (x.type ++ ⟨#[120]⟩) (fun h => by
                have := congrArg ByteArray.size h
                rw [ByteArray.size_append] at this
                have h1 : (⟨#[120]⟩ : ByteArray).size = 1 := rfl
                omega)
              obtain ⟨ad, A2, d2, hBP, _, _, _, q0, q1, q2, q3, q4⟩ := edgesAt (HEW.out wr HBr.out) hx
              subst hBP
              obtain ⟨xid, Hx0⟩ := name_itV x.id
              obtain ⟨src, Hx1⟩ := name_itV x.src
              obtain ⟨dst, Hx2⟩ := name_itV x.dst
              obtain ⟨typ, Hx3⟩ := name_itV x.type
              obtain ⟨m2, Hm2⟩ := name_itV x.props.length
              rw [Hx0.out] at q0 hvv ho hi2 ht2 hno
              rw [Hx1.out] at q1 hvv ho hno
              rw [Hx2.out] at q2 hvv hi2 ht2
              rw [Hx3.out] at q3 hty ht2 hno
              rw [Hm2.out] at q4
              have HVV := Lib.hid hvv
              have HTY := Lib.hid hty
              have HO := Lib.hid ho
              have HI2 := Lib.hid hi2
              have HT2 := Lib.hid ht2
              have HNO := Lib.hid hno
              have e1 : (0 : Int) ≤ i := by omega
              have e2 : (i : Int) < nE := by omega
              have w1 : IntKind.i64.wrap ((i : Int) + 1) = (i : Int) + 1 := IntWalk.i64_in _ (by omega)
              obtain ⟨zx, HZX⟩ := name_itV wr.heap.size
              obtain ⟨wa, HWA⟩ := name_itV (wr.alloc (.cells #[.int .i64 xid, .int .i64 src, .int .i64 dst, .string typ, .slice A2 m2 d2] 41))
              have HBa := Lib.hid (show Below wr.heap.size wr wa from by rw [← HWA.out]; exact (Below.refl _ _).alloc (Nat.le_refl _) _)
              have HKA := Lib.hid (show wa.heap[zx]? = some (.cells #[.int .i64 xid, .int .i64 src, .int .i64 dst, .string typ, .slice A2 m2 d2] 41 (0, 0)) from by rw [← HWA.out, ← HZX.out]; exact heap_alloc_new wr _)
              have HB9a := Lib.hid (HBr.out.trans (HBa.out.mono HBr.out.size))
              clear hx hvv hty ho hi2 ht2 hno
              go_upto_region 32 with fail
              go_upto_region 33 with fail
              rw [HZX.out, HWA.out]
              clear q0 q1 q2 q3 q4 p1
              have hadd : ∀ W : World, (Op.stringOp .add typ ⟨#[120]⟩).run Tryz.prog W = .ok (.string (typ ++ ⟨#[120]⟩)) W := fun W => run_string_add_sum W _ _ (by rw [show ((⟨#[120]⟩ : ByteArray)).size = 1 from rfl]; have := HTY.out; omega)
              have HSX := Lib.hid (fun (W : World) (hW : Below wa.heap.size wa W) => (show W.cell? ⟨zx, 0, none⟩ = some (.int .i64 xid) ∧ W.cell? ⟨zx, 1, none⟩ = some (.int .i64 src) ∧ W.cell? ⟨zx, 2, none⟩ = some (.int .i64 dst) ∧ W.cell? ⟨zx, 3, none⟩ = some (.string typ) from
                ⟨(hW.cell (p := ⟨zx, 0, none⟩) (blk_lt HKA.out)).trans (Lib.cell_of_heap HKA.out 0), (hW.cell (p := ⟨zx, 1, none⟩) (blk_lt HKA.out)).trans (Lib.cell_of_heap HKA.out 1), (hW.cell (p := ⟨zx, 2, none⟩) (blk_lt HKA.out)).trans (Lib.cell_of_heap HKA.out 2), (hW.cell (p := ⟨zx, 3, none⟩) (blk_lt HKA.out)).trans (Lib.cell_of_heap HKA.out 3)⟩))
              have HBd := Lib.hid (show Below wa.heap.size wa wa.drew from (Below.refl _ _).drew)
              have s1 := Lib.hid (HSX.out wa.drew HBd.out)
              have hc1 := Lib.hid (HHW.out wa.drew (HB9a.out.trans (HBd.out.mono HB9a.out.size)) src 1 HVV.out.2.1 vi1 [] none 0 0 (by decide) (SRd.nil ..))
              go_region_held3 (fun W' => W'.cell? ⟨zx, 0, none⟩ = some (.int .i64 xid) ∧ W'.cell? ⟨zx, 1, none⟩ = some (.int .i64 src) ∧ W'.cell? ⟨zx, 2, none⟩ = some (.int .i64 dst) ∧ W'.cell? ⟨zx, 3, none⟩ = some (.string typ)) (first | exact s1.out | exact sAA.out | exact sAB.out | exact sX.out | exact sAC.out | exact sY.out | exact sAD.out | (trace_state; fail))
                (first
                  | (go_at_call 19; (with_reducible refine hc1.out.mono ?_); rintro e wA0 ⟨AA, cAA, rfl, hb, hr⟩; obtain ⟨nA, HnA⟩ := name_itV (hopIds g2.edges [] (hopsG g2.edges src 1)).length; rw [HnA.out] at hr ⊢; have HBA := Lib.hid (HBd.out.trans (hb.mono HBd.out.size)); have sAA := Lib.hid (HSX.out wA0 HBA.out); have hbd : nA ≤ 1000000000 := (by rw [← HnA.out]; exact Nat.le_trans (hopIds_few ..) (Nat.le_trans HFIT2.out.2.1 (by decide))); have hh1 := Lib.hid (has_any (hopIds g2.edges [] (hopsG g2.edges src 1)) xid _ AA nA cAA wA0 hr hbd); rw [show inB (hopIds g2.edges [] (hopsG g2.edges src 1)) xid = true from HO.out] at hh1; clear hb hr hbd)
                  | (go_at_call 17; (with_reducible refine hh1.out.mono ?_); rintro e wA ⟨rfl, rfl⟩; have hc2 := Lib.hid (HHW.out wA (HB9a.out.trans (HBA.out.mono HB9a.out.size)) dst (-1) HVV.out.2.2 vim1 [] none 0 0 (by decide) (SRd.nil ..)))
                  | (go_at_call 19; (with_reducible refine hc2.out.mono ?_); rintro e wB0 ⟨AB, cAB, rfl, hb, hr⟩; obtain ⟨nBx, HnBx⟩ := name_itV (hopIds g2.edges [] (hopsG g2.edges dst (-1))).length; rw [HnBx.out] at hr ⊢; have HBB := Lib.hid (HBA.out.trans (hb.mono HBA.out.size)); have sAB := Lib.hid (HSX.out wB0 HBB.out); have hbd : nBx ≤ 1000000000 := (by rw [← HnBx.out]; exact Nat.le_trans (hopIds_few ..) (Nat.le_trans HFIT2.out.2.1 (by decide))); have hh2 := Lib.hid (has_any (hopIds g2.edges [] (hopsG g2.edges dst (-1))) xid _ AB nBx cAB wB0 hr hbd); rw [show inB (hopIds g2.edges [] (hopsG g2.edges dst (-1))) xid = true from HI2.out] at hh2; clear hb hr hbd)
                  | (go_at_call 17; (with_reducible refine hh2.out.mono ?_); rintro e wB ⟨rfl, rfl⟩; have HBX := Lib.hid (show Below wa.heap.size wa (wB.alloc (.cells #[.string ⟨#[]⟩, .string typ] 9)) from HBB.out.alloc HBB.out.size _); have sX := Lib.hid (HSX.out _ HBX.out); have hc3 := Lib.hid (HHW.out (wB.alloc (.cells #[.string ⟨#[]⟩, .string typ] 9)) (HB9a.out.trans (HBX.out.mono HB9a.out.size)) dst 0 HVV.out.2.2 vi0 [⟨#[]⟩, typ] (some ⟨wB.heap.size, 0, none⟩) 2 2 (by decide) (rd_pair (heap_alloc_new wB _) (by simp))))
                  | (go_at_call 19; (with_reducible refine hc3.out.mono ?_); rintro e wC0 ⟨AC, cAC, rfl, hb, hr⟩; obtain ⟨nC, HnC⟩ := name_itV (hopIds g2.edges [⟨#[]⟩, typ] (hopsG g2.edges dst 0)).length; rw [HnC.out] at hr ⊢; have HBC := Lib.hid (HBX.out.trans (hb.mono HBX.out.size)); have sAC := Lib.hid (HSX.out wC0 HBC.out); have hbd : nC ≤ 1000000000 := (by rw [← HnC.out]; exact Nat.le_trans (hopIds_few ..) (Nat.le_trans HFIT2.out.2.1 (by decide))); have hh3 := Lib.hid (has_any (hopIds g2.edges [⟨#[]⟩, typ] (hopsG g2.edges dst 0)) xid _ AC nC cAC wC0 hr hbd); rw [HT2.out] at hh3; clear hb hr hbd)
                  | (go_at_call 17; (with_reducible refine hh3.out.mono ?_); rintro e wC ⟨rfl, rfl⟩; have HBY := Lib.hid (show Below wa.heap.size wa (wC.alloc (.cells #[.string (typ ++ ⟨#[120]⟩)] 9)) from HBC.out.alloc HBC.out.size _); have sY := Lib.hid (HSX.out _ HBY.out); have hc4 := Lib.hid (HHW.out (wC.alloc (.cells #[.string (typ ++ ⟨#[120]⟩)] 9)) (HB9a.out.trans (HBY.out.mono HB9a.out.size)) src 0 HVV.out.2.1 vi0 [typ ++ ⟨#[120]⟩] (some ⟨wC.heap.size, 0, none⟩) 1 1 (by decide) (rd_one (c := #[.string (typ ++ ⟨#[120]⟩)]) (T := 9) (heap_alloc_new wC (.cells #[.string (typ ++ ⟨#[120]⟩)] 9)) (by simp) rfl rfl)))
                  | (go_at_call 19; (with_reducible refine hc4.out.mono ?_); rintro e wD0 ⟨AD, cAD, rfl, hb, hr⟩; obtain ⟨nD, HnD⟩ := name_itV (hopIds g2.edges [typ ++ ⟨#[120]⟩] (hopsG g2.edges src 0)).length; rw [HnD.out] at hr ⊢; have HBD := Lib.hid (HBY.out.trans (hb.mono HBY.out.size)); have sAD := Lib.hid (HSX.out wD0 HBD.out); have hbd : nD ≤ 1000000000 := (by rw [← HnD.out]; exact Nat.le_trans (hopIds_few ..) (Nat.le_trans HFIT2.out.2.1 (by decide))); have hh4 := Lib.hid (has_any (hopIds g2.edges [typ ++ ⟨#[120]⟩] (hopsG g2.edges src 0)) xid _ AD nD cAD wD0 hr hbd); rw [HNO.out] at hh4; clear hb hr hbd)
                  | (go_at_call 17; (with_reducible refine hh4.out.mono ?_); rintro e wD ⟨rfl, rfl⟩; skip))
              have HBz := Lib.hid (HB9a.out.trans (HBD.out.mono HB9a.out.size))
              go_wp2_with fail
              go_roundw
              case rel => exact ⟨i + 1, by omega, by go_num, HBz⟩
              case measure => simp [intOf]; omega
            · as_aux_lemma =>
              have hke : nE = i := by omega
              subst hke
              clear hlt hi
              have HBd := Lib.hid (HBr.out.drew)
              have s1 := Lib.hid (And.intro (HSW.out wr.drew HBd.out).1 (HSW.out wr.drew HBd.out).2.1)
              have hc1 := Lib.hid (HLAW.out wr.drew HBd.out)
              have u3 : ((nE : Int) == nE) = true := beq_self_eq_true _
              have u4 : ((nN : Int) == nN) = true := beq_self_eq_true _
              go_upto_region 35 with fail
              go_region_held3 (fun W' => W'.cell? ⟨zp, 0, none⟩ = some (.slice AP nN cP) ∧ W'.cell? ⟨zp, 1, none⟩ = some (.slice BP nE dP)) (first | exact s1.out | exact s2.out | exact s3.out | (trace_state; fail))
                (first
                  | (go_at_call 16; (with_reducible refine hc1.out.mono ?_); rintro e wy ⟨AA, cA, rfl, hb, hr⟩; have hla : (labeledG g2 []).length = nN := (by rw [labeled_nil, List.length_map, HNN.out]); rw [hla]; have HBy := Lib.hid (HBd.out.trans (hb.mono HBd.out.size)); have s2 := Lib.hid (And.intro (HSW.out wy HBy.out).1 (HSW.out wy HBy.out).2.1); have HB0y := Lib.hid (HB4.out.trans ((HB49.out.trans (HBy.out.mono HB49.out.size)).mono HB4.out.size)); have hwk := Lib.hid (wakes_any wy (glob_under HG.out HB0y.out)); clear hb hr hla)
                  | (go_at_call 8; (with_reducible refine hwk.out.mono ?_); rintro e wz ⟨rfl, hb3⟩; have HB3 := Lib.hid (HB0y.out.trans (hb3.mono HB0y.out.size)); have HBz := Lib.hid (HBy.out.trans (hb3.mono HBy.out.size)); have s3 := Lib.hid (And.intro (HSW.out wz HBz.out).1 (HSW.out wz HBz.out).2.1); clear hb3))
              go_wp2_with fail
              go_ret
              exact ⟨rfl, HB3.out⟩
end Go.Proofs.YtmhjbicbdahllaaGreatDoor

namespace Go.Proofs.YtmhjbicbdahllaaGreatDoor
open Go Go.ChangeShapes Go.WideShapes Go.ChangeAt Go.RowKit Go.Joins

mutual
/-- Are a value's numbers whole numbers of 64 bits? -/
def i64V : Val → Prop
  | .mk _ _ n _ _ l => (-9223372036854775808 ≤ n ∧ n ≤ 9223372036854775807) ∧ i64L l
def i64L : List Val → Prop
  | [] => True
  | v :: r => i64V v ∧ i64L r
end
theorem cellAdd (a : Addr) (i j : Nat) : (a.add i).add j = a.add (i + j) := Go.Deep.add_add a i j

/-- A struct of six fields of one cell each. -/
theorem trod_six {H : Type} {enc : TypeId × Value → H} {P : Program} {w : World} {base : Nat} {spare : Nat → Bool} {held : Bool} {t : TypeId} {f0 f1 f2 f3 f4 f5 : Field} {fuel : Nat} {cs : List Value} {x : DataW H × List MemPlace} (ht : P.underlying t = some (.struct #[f0, f1, f2, f3, f4, f5])) (ce : P.cellsOf t = 6)
    (o0 : f0.offset = 0) (o1 : f1.offset = 1) (o2 : f2.offset = 2) (o3 : f3.offset = 3) (o4 : f4.offset = 4) (o5 : f5.offset = 5) (c0 : P.cellsOf f0.type = 1) (c1 : P.cellsOf f1.type = 1) (c2 : P.cellsOf f2.type = 1) (c3 : P.cellsOf f3.type = 1) (c4 : P.cellsOf f4.type = 1) (c5 : P.cellsOf f5.type = 1)
    (h : DataW.trod enc P w base spare held fuel t cs = some x) :
    ∃ (v0 v1 v2 v3 v4 v5 : Value) (y0 y1 y2 y3 y4 y5 : DataW H × List MemPlace) (k : Nat), cs = [v0, v1, v2, v3, v4, v5] ∧ x.1 = .agg [y0.1, y1.1, y2.1, y3.1, y4.1, y5.1] ∧ DataW.trod enc P w base spare held k f0.type [v0] = some y0 ∧ DataW.trod enc P w base spare held k f1.type [v1] = some y1 ∧ DataW.trod enc P w base spare held k f2.type [v2] = some y2 ∧ DataW.trod enc P w base spare held k f3.type [v3] = some y3 ∧ DataW.trod enc P w base spare held k f4.type [v4] = some y4 ∧ DataW.trod enc P w base spare held k f5.type [v5] = some y5 := by
  obtain ⟨xs, k, hk, hxy, hcl, hxl, hf⟩ := DataW.trod_struct ht h
  rw [ce] at hcl
  match xs, hxl, cs, hcl with
  | [y0, y1, y2, y3, y4, y5], _, [v0, v1, v2, v3, v4, v5], _ =>
    have g0 := hf 0 f0 rfl
    have g1 := hf 1 f1 rfl
    have g2 := hf 2 f2 rfl
    have g3 := hf 3 f3 rfl
    have g4 := hf 4 f4 rfl
    have g5 := hf 5 f5 rfl
    simp [o0, o1, o2, o3, o4, o5, c0, c1, c2, c3, c4, c5] at g0 g1 g2 g3 g4 g5
    exact ⟨v0, v1, v2, v3, v4, v5, y0, y1, y2, y3, y4, y5, k, rfl, by rw [hxy]; rfl, g0, g1, g2, g3, g4, g5⟩

set_option maxRecDepth 100000 in
/-- What six cells read as a value, where shorter slices of values read as lists. -/
theorem val_cells {H : Type} {enc : TypeId × Value → H} {W : World} {N : Nat} {held : Bool} {n : Nat} {cs : List Value} {d : DataW H} {p : List MemPlace}
    (ih : ∀ {fuel : Nat} {v : Value} {d : DataW H} {p : List MemPlace}, Rows.uptoBulk d ≤ N → DataW.trod enc Tryz.prog W 0 (fun _ => true) held fuel 43 [v] = some (d, p) →
      ∃ A n cap l, v = .slice A n cap ∧ n ≤ cap ∧ LRd W (fun g => g < W.heap.size) l A n ∧ i64L l ∧ sizeL l < Rows.uptoBulk d)
    (hN : Rows.uptoBulk d ≤ N + 1) (h : DataW.trod enc Tryz.prog W 0 (fun _ => true) held n 55 cs = some (d, p)) :
    ∃ x, cs.toArray.size = 6 ∧ VRd W (fun g => g < W.heap.size) x (.agg cs.toArray) ∧ i64V x ∧ sizeV x ≤ Rows.uptoBulk d := by
  obtain ⟨v0, v1, v2, v3, v4, v5, y0, y1, y2, y3, y4, y5, k, rfl, hxy, g0, g1, g2, g3, g4, g5⟩ := trod_six Tryz.underlying55 (by kernel_rfl) rfl rfl rfl rfl rfl rfl (by kernel_rfl) (by kernel_rfl) (by kernel_rfl) (by kernel_rfl) (by kernel_rfl) (by kernel_rfl) h
  obtain ⟨k0, e0, d0, w0⟩ := DataW.trod_int (by kernel_rfl : Tryz.prog.underlying 3 = some (.int .i64)) g0
  obtain ⟨k1, e1, d1⟩ := DataW.trod_bool (by kernel_rfl : Tryz.prog.underlying 4 = some .bool) g1
  obtain ⟨k2, e2, d2, w2⟩ := DataW.trod_int (by kernel_rfl : Tryz.prog.underlying 2 = some (.int .i64)) g2
  obtain ⟨k3, e3, d3, w3⟩ := DataW.trod_string (by kernel_rfl : Tryz.prog.underlying 9 = some .string) g3
  obtain ⟨k4, e4, d4, w4⟩ := DataW.trod_string (by kernel_rfl : Tryz.prog.underlying 9 = some .string) g4
  injection e0 with e0 _
  injection e1 with e1 _
  injection e2 with e2 _
  injection e3 with e3 _
  injection e4 with e4 _
  subst e0 e1 e2 e3 e4 d0 d1 d2 d3 d4
  obtain ⟨y5, p5⟩ := y5
  simp only at hxy
  subst hxy
  have hbulk : 6 + k3.size + k4.size + Rows.uptoBulk y5 ≤ Rows.uptoBulk (DataW.agg [.lit (.int .i64 k0), .lit (.bool k1), .lit (.int .i64 k2), .lit (.string k3.data.toList), .lit (.string k4.data.toList), y5]) := by
    have z3 : k3.data.toList.length = k3.size := by rw [Array.length_toList]; rfl
    have z4 : k4.data.toList.length = k4.size := by rw [Array.length_toList]; rfl
    simp only [Rows.uptoBulk, Rows.uptoBulkAll]
    omega
  obtain ⟨A, m, cap, l, e5, hcap, hl, h64, hsz⟩ := ih (by omega) g5
  subst e5
  have hm : m = l.length := hl.1
  subst hm
  have h2 : -9223372036854775808 ≤ k2 ∧ k2 ≤ 9223372036854775807 := by simpa [Lit.wf, IntKind.min, IntKind.max, IntKind.signed, IntKind.bits] using w2
  refine ⟨.mk k0 k1 k2 k3 k4 l, rfl, VRd.of_list (v := .mk k0 k1 k2 k3 k4 l) hcap hl, ⟨h2, h64⟩, ?_⟩
  simp only [sizeV]
  omega

set_option maxRecDepth 100000 in
/-- What a slice of values reads as. -/
theorem vals_open {H : Type} {enc : TypeId × Value → H} {W : World} {held : Bool} (N : Nat) : ∀ {fuel : Nat} {v : Value} {d : DataW H} {p : List MemPlace}, Rows.uptoBulk d ≤ N → DataW.trod enc Tryz.prog W 0 (fun _ => true) held fuel 43 [v] = some (d, p) →
      ∃ A n cap l, v = .slice A n cap ∧ n ≤ cap ∧ LRd W (fun g => g < W.heap.size) l A n ∧ i64L l ∧ sizeL l < Rows.uptoBulk d := by
  induction N with
  | zero => intro fuel v d p hN; have := bulks.one_le d; omega
  | succ N ih =>
    intro fuel v d p hN h
    rcases Go.Deep.open_slice Tryz.underlying43 h with ⟨h3, hd⟩ | ⟨a, len, cap, m, n, D, Pl, h3, _, hlc, hcm, hm, hd, hel⟩
    · injection h3 with h3 _
      subst h3
      exact ⟨none, 0, 0, [], rfl, Nat.le_refl _, LRd.nil 0 rfl, trivial, by simp only [sizeL]; exact bulks.one_le d⟩
    · injection h3 with h3 _
      subst h3
      have hml : len ≤ m := by rw [hm]; split <;> omega
      injection hd with hd _
      subst hd
      have hb := bulks.slice_elems ((List.range len).map D) ((List.range (m - len)).map fun j => D (len + j))
      have hDi : ∀ i, i < len → Rows.uptoBulk (D i) ≤ N := fun i hi => by
        have := bulks.part_le (List.mem_map.2 ⟨i, List.mem_range.2 hi, rfl⟩ : D i ∈ (List.range len).map D)
        omega
      have each : ∀ i, i < len → ∃ q : Val × Array Value, q.2.size = 6 ∧ (∀ j, j < 6 → W.cell? (a.add (i * 6 + j)) = q.2[j]?) ∧ VRd W (fun g => g < W.heap.size) q.1 (.agg q.2) ∧ i64V q.1 ∧ sizeV q.1 ≤ Rows.uptoBulk (D i) := fun i hi => by
        obtain ⟨cs', c1, c2⟩ := hel i (by omega)
        rw [show Tryz.prog.cellsOf 55 = 6 by kernel_rfl] at c1
        obtain ⟨_, hlen, hcell⟩ := World.cells?_some c1
        obtain ⟨x, x1, x2, x3, x4⟩ := val_cells (fun hN h => ih hN h) (Nat.le_succ_of_le (hDi i hi)) c2
        exact ⟨(x, cs'.toArray), x1, fun j hj => by rw [← cellAdd, hcell j hj]; simp, x2, x3, x4⟩
      have hex : ∃ q : Nat → Val × Array Value, ∀ i, i < len → (q i).2.size = 6 ∧ (∀ j, j < 6 → W.cell? (a.add (i * 6 + j)) = (q i).2[j]?) ∧ VRd W (fun g => g < W.heap.size) (q i).1 (.agg (q i).2) ∧ i64V (q i).1 ∧ sizeV (q i).1 ≤ Rows.uptoBulk (D i) := by
        classical
        exact ⟨fun i => if hi : i < len then Classical.choose (each i hi) else (.mk 0 false 0 ⟨#[]⟩ ⟨#[]⟩ [], #[]), fun i hi => by simp only [dif_pos hi]; exact Classical.choose_spec (each i hi)⟩
      obtain ⟨q, hq⟩ := hex
      refine ⟨some a, len, cap, (List.range len).map fun i => (q i).1, rfl, hlc, ⟨by simp, fun hn => ⟨a, rfl, ?_, fun i x hx => ?_⟩⟩, ?_, ?_⟩
      · obtain ⟨cs', c1, _⟩ := hel 0 (by omega)
        rw [show Tryz.prog.cellsOf 55 = 6 by kernel_rfl] at c1
        obtain ⟨_, hlen, hcell⟩ := World.cells?_some c1
        have h0 := hcell 0 (by omega)
        rw [List.getElem?_eq_getElem (by omega)] at h0
        have := World.block_lt_of_cell? W _ h0
        simpa [Addr.add] using this
      · rw [List.getElem?_map] at hx
        have hil : i < len := by
          rcases Nat.lt_or_ge i len with h' | h'
          · exact h'
          · rw [List.getElem?_eq_none (by simpa using h')] at hx; cases hx
        rw [List.getElem?_range hil] at hx
        injection hx with hx
        subst hx
        obtain ⟨q1, q2, q3, _⟩ := hq i hil
        exact ⟨_, q1, q2, q3⟩
      · have : ∀ L : List Nat, (∀ i, i ∈ L → i < len) → i64L (L.map fun i => (q i).1) := fun L => by
          induction L with
          | nil => intro _; trivial
          | cons x r ihl => intro hL; exact ⟨(hq x (hL x (List.mem_cons_self ..))).2.2.2.1, ihl fun i hi => hL i (List.mem_cons_of_mem _ hi)⟩
        exact this _ fun i hi => List.mem_range.1 hi
      · have : ∀ L : List Nat, (∀ i, i ∈ L → i < len) → sizeL (L.map fun i => (q i).1) ≤ Rows.uptoBulkAll (L.map D) := fun L => by
          induction L with
          | nil => intro _; simp [sizeL]
          | cons x r ihl =>
            intro hL
            have h1 := (hq x (hL x (List.mem_cons_self ..))).2.2.2.2
            have h2 := ihl fun i hi => hL i (List.mem_cons_of_mem _ hi)
            simp only [List.map_cons, sizeL, Rows.uptoBulkAll]
            omega
        have := this (List.range len) fun i hi => List.mem_range.1 hi
        omega

theorem trod_seven {H : Type} {enc : TypeId × Value → H} {P : Program} {w : World} {base : Nat} {spare : Nat → Bool} {held : Bool} {t : TypeId} {f0 f1 : Field} {fuel : Nat} {cs : List Value} {x : DataW H × List MemPlace} (ht : P.underlying t = some (.struct #[f0, f1])) (ce : P.cellsOf t = 7)
    (o0 : f0.offset = 0) (o1 : f1.offset = 1) (c0 : P.cellsOf f0.type = 1) (c1 : P.cellsOf f1.type = 6)
    (h : DataW.trod enc P w base spare held fuel t cs = some x) :
    ∃ (v0 v1 v2 v3 v4 v5 v6 : Value) (y0 y1 : DataW H × List MemPlace) (k : Nat), cs = [v0, v1, v2, v3, v4, v5, v6] ∧ x.1 = .agg [y0.1, y1.1] ∧ DataW.trod enc P w base spare held k f0.type [v0] = some y0 ∧ DataW.trod enc P w base spare held k f1.type [v1, v2, v3, v4, v5, v6] = some y1 := by
  obtain ⟨xs, k, hk, hxy, hcl, hxl, hf⟩ := DataW.trod_struct ht h
  rw [ce] at hcl
  match xs, hxl, cs, hcl with
  | [y0, y1], _, [v0, v1, v2, v3, v4, v5, v6], _ =>
    have g0 := hf 0 f0 rfl
    have g1 := hf 1 f1 rfl
    simp [o0, o1, c0, c1] at g0 g1
    exact ⟨v0, v1, v2, v3, v4, v5, v6, y0, y1, k, rfl, by rw [hxy]; rfl, g0, g1⟩
theorem trod_three {H : Type} {enc : TypeId × Value → H} {P : Program} {w : World} {base : Nat} {spare : Nat → Bool} {held : Bool} {t : TypeId} {f0 f1 f2 : Field} {fuel : Nat} {cs : List Value} {x : DataW H × List MemPlace} (ht : P.underlying t = some (.struct #[f0, f1, f2])) (ce : P.cellsOf t = 3)
    (o0 : f0.offset = 0) (o1 : f1.offset = 1) (o2 : f2.offset = 2) (c0 : P.cellsOf f0.type = 1) (c1 : P.cellsOf f1.type = 1) (c2 : P.cellsOf f2.type = 1)
    (h : DataW.trod enc P w base spare held fuel t cs = some x) :
    ∃ (v0 v1 v2 : Value) (y0 y1 y2 : DataW H × List MemPlace) (k : Nat), cs = [v0, v1, v2] ∧ x.1 = .agg [y0.1, y1.1, y2.1] ∧ DataW.trod enc P w base spare held k f0.type [v0] = some y0 ∧ DataW.trod enc P w base spare held k f1.type [v1] = some y1 ∧ DataW.trod enc P w base spare held k f2.type [v2] = some y2 := by
  obtain ⟨xs, k, hk, hxy, hcl, hxl, hf⟩ := DataW.trod_struct ht h
  rw [ce] at hcl
  match xs, hxl, cs, hcl with
  | [y0, y1, y2], _, [v0, v1, v2], _ =>
    have g0 := hf 0 f0 rfl
    have g1 := hf 1 f1 rfl
    have g2 := hf 2 f2 rfl
    simp [o0, o1, o2, c0, c1, c2] at g0 g1 g2
    exact ⟨v0, v1, v2, y0, y1, y2, k, rfl, by rw [hxy]; rfl, g0, g1, g2⟩
theorem trod_five {H : Type} {enc : TypeId × Value → H} {P : Program} {w : World} {base : Nat} {spare : Nat → Bool} {held : Bool} {t : TypeId} {f0 f1 f2 f3 f4 : Field} {fuel : Nat} {cs : List Value} {x : DataW H × List MemPlace} (ht : P.underlying t = some (.struct #[f0, f1, f2, f3, f4])) (ce : P.cellsOf t = 5)
    (o0 : f0.offset = 0) (o1 : f1.offset = 1) (o2 : f2.offset = 2) (o3 : f3.offset = 3) (o4 : f4.offset = 4) (c0 : P.cellsOf f0.type = 1) (c1 : P.cellsOf f1.type = 1) (c2 : P.cellsOf f2.type = 1) (c3 : P.cellsOf f3.type = 1) (c4 : P.cellsOf f4.type = 1)
    (h : DataW.trod enc P w base spare held fuel t cs = some x) :
    ∃ (v0 v1 v2 v3 v4 : Value) (y0 y1 y2 y3 y4 : DataW H × List MemPlace) (k : Nat), cs = [v0, v1, v2, v3, v4] ∧ x.1 = .agg [y0.1, y1.1, y2.1, y3.1, y4.1] ∧ DataW.trod enc P w base spare held k f0.type [v0] = some y0 ∧ DataW.trod enc P w base spare held k f1.type [v1] = some y1 ∧ DataW.trod enc P w base spare held k f2.type [v2] = some y2 ∧ DataW.trod enc P w base spare held k f3.type [v3] = some y3 ∧ DataW.trod enc P w base spare held k f4.type [v4] = some y4 := by
  obtain ⟨xs, k, hk, hxy, hcl, hxl, hf⟩ := DataW.trod_struct ht h
  rw [ce] at hcl
  match xs, hxl, cs, hcl with
  | [y0, y1, y2, y3, y4], _, [v0, v1, v2, v3, v4], _ =>
    have g0 := hf 0 f0 rfl
    have g1 := hf 1 f1 rfl
    have g2 := hf 2 f2 rfl
    have g3 := hf 3 f3 rfl
    have g4 := hf 4 f4 rfl
    simp [o0, o1, o2, o3, o4, c0, c1, c2, c3, c4] at g0 g1 g2 g3 g4
    exact ⟨v0, v1, v2, v3, v4, y0, y1, y2, y3, y4, k, rfl, by rw [hxy]; rfl, g0, g1, g2, g3, g4⟩

set_option maxRecDepth 100000 in
/-- What a slice reads as, where its elements read. -/
theorem slice_of {α : Type} [Inhabited α] {H : Type} {enc : TypeId × Value → H} {W : World} {held : Bool} {R : Lies α} {sz N : Nat} {T E : TypeId} {Q : α → Prop} {wt : α → Nat} (hT : Tryz.prog.underlying T = some (.slice E)) (hE : Tryz.prog.cellsOf E = sz) (hsz : 0 < sz)
    (each : ∀ {fuel : Nat} {cs : List Value} {d : DataW H} {p : List MemPlace}, Rows.uptoBulk d ≤ N → DataW.trod enc Tryz.prog W 0 (fun _ => true) held fuel E cs = some (d, p) → ∃ x : α, cs.toArray.size = sz ∧ R W (fun g => g < W.heap.size) x cs.toArray ∧ Q x ∧ wt x ≤ Rows.uptoBulk d)
    {fuel : Nat} {v : Value} {d : DataW H} {p : List MemPlace} (hN : Rows.uptoBulk d ≤ N) (h : DataW.trod enc Tryz.prog W 0 (fun _ => true) held fuel T [v] = some (d, p)) :
    ∃ l : List α, SlR sz R W (fun g => g < W.heap.size) l v ∧ (∀ x, x ∈ l → Q x) ∧ sumBy wt l < Rows.uptoBulk d ∧ l.length < Rows.uptoBulk d := by
  rcases Go.Deep.open_slice hT h with ⟨h3, hd⟩ | ⟨a, len, cap, m, n, D, Pl, h3, _, hlc, hcm, hm, hd, hel⟩
  · injection h3 with h3 _
    subst h3
    have h1 := bulks.one_le d
    exact ⟨[], SlR.nil .., fun x hx => (List.not_mem_nil hx).elim, by show 0 < _; omega, by show 0 < _; omega⟩
  · injection h3 with h3 _
    subst h3
    have hml : len ≤ m := by rw [hm]; split <;> omega
    injection hd with hd _
    subst hd
    have hb := bulks.slice_elems ((List.range len).map D) ((List.range (m - len)).map fun j => D (len + j))
    have hb2 := bulks.slice_le ((List.range len).map D) ((List.range (m - len)).map fun j => D (len + j))
    have hDi : ∀ i, i < len → Rows.uptoBulk (D i) ≤ N := fun i hi => by
      have := bulks.part_le (List.mem_map.2 ⟨i, List.mem_range.2 hi, rfl⟩ : D i ∈ (List.range len).map D)
      omega
    have ev : ∀ i, i < len → ∃ q : α × Array Value, q.2.size = sz ∧ (∀ j, j < sz → W.cell? (a.add (i * sz + j)) = q.2[j]?) ∧ R W (fun g => g < W.heap.size) q.1 q.2 ∧ Q q.1 ∧ wt q.1 ≤ Rows.uptoBulk (D i) := fun i hi => by
      obtain ⟨cs', c1, c2⟩ := hel i (by omega)
      rw [hE] at c1
      obtain ⟨_, hlen, hcell⟩ := World.cells?_some c1
      obtain ⟨x, x1, x2, x3, x4⟩ := each (hDi i hi) c2
      exact ⟨(x, cs'.toArray), x1, fun j hj => by rw [← cellAdd, hcell j hj]; simp, x2, x3, x4⟩
    have hex : ∃ q : Nat → α × Array Value, ∀ i, i < len → (q i).2.size = sz ∧ (∀ j, j < sz → W.cell? (a.add (i * sz + j)) = (q i).2[j]?) ∧ R W (fun g => g < W.heap.size) (q i).1 (q i).2 ∧ Q (q i).1 ∧ wt (q i).1 ≤ Rows.uptoBulk (D i) := by
      classical
      exact ⟨fun i => if hi : i < len then Classical.choose (ev i hi) else (default, #[]), fun i hi => by simp only [dif_pos hi]; exact Classical.choose_spec (ev i hi)⟩
    obtain ⟨q, hq⟩ := hex
    have hll : ((List.range len).map fun i => (q i).1).length = len := by simp
    refine ⟨(List.range len).map fun i => (q i).1, ⟨some a, cap, by rw [hll], by rw [hll]; exact hlc, rfl, fun hn => ⟨a, rfl, ?_, fun i x hx => ?_⟩⟩, ?_, ?_, ?_⟩
    · obtain ⟨cs', c1, _⟩ := hel 0 (by rw [hll] at hn; omega)
      rw [hE] at c1
      obtain ⟨_, hlen, hcell⟩ := World.cells?_some c1
      have h0 := hcell 0 hsz
      rw [List.getElem?_eq_getElem (by omega)] at h0
      have := World.block_lt_of_cell? W _ h0
      simpa [Addr.add] using this
    · rw [List.getElem?_map] at hx
      have hil : i < len := by
        rcases Nat.lt_or_ge i len with h' | h'
        · exact h'
        · rw [List.getElem?_eq_none (by simpa using h')] at hx; cases hx
      rw [List.getElem?_range hil] at hx
      injection hx with hx
      subst hx
      obtain ⟨q1, q2, q3, _⟩ := hq i hil
      exact ⟨_, q1, q2, q3⟩
    · intro x hx
      obtain ⟨i, hi, rfl⟩ := List.mem_map.1 hx
      exact (hq i (List.mem_range.1 hi)).2.2.2.1
    · have : ∀ L : List Nat, (∀ i, i ∈ L → i < len) → sumBy wt (L.map fun i => (q i).1) ≤ Rows.uptoBulkAll (L.map D) := fun L => by
        induction L with
        | nil => intro _; simp [sumBy]
        | cons x r ihl =>
          intro hL
          have h1 := (hq x (hL x (List.mem_cons_self ..))).2.2.2.2
          have h2 := ihl fun i hi => hL i (List.mem_cons_of_mem _ hi)
          simp only [sumBy, List.map_cons, List.sum_cons, Rows.uptoBulkAll] at h2 ⊢
          omega
      have := this (List.range len) fun i hi => List.mem_range.1 hi
      omega
    · rw [hll]
      have hh : ((List.range len).map D).length = len := by simp
      omega
instance : Inhabited Val := ⟨.mk 0 false 0 ⟨#[]⟩ ⟨#[]⟩ []⟩
instance : Inhabited PairD := ⟨⟨⟨#[]⟩, default⟩⟩
instance : Inhabited NodeD := ⟨⟨0, [], []⟩⟩
instance : Inhabited EdgeD := ⟨⟨0, 0, 0, ⟨#[]⟩, []⟩⟩
section
variable {H : Type} {enc : TypeId × Value → H} {W : World} {held : Bool} {fuel : Nat} {d : DataW H} {p : List MemPlace}
set_option maxRecDepth 100000 in
theorem text_el {cs : List Value} (hN : Rows.uptoBulk d ≤ 1048576) (h : DataW.trod enc Tryz.prog W 0 (fun _ => true) held fuel 9 cs = some (d, p)) :
    ∃ x : ByteArray, cs.toArray.size = 1 ∧ TxR W (fun g => g < W.heap.size) x cs.toArray ∧ x.size ≤ 2000000 ∧ (fun _ : ByteArray => 0) x ≤ Rows.uptoBulk d := by
  obtain ⟨s, rfl, e, _⟩ := DataW.trod_string (by kernel_rfl : Tryz.prog.underlying 9 = some .string) h
  injection e with e _
  subst e
  refine ⟨s, rfl, rfl, ?_, Nat.zero_le _⟩
  rw [bulks.string_eq, Array.length_toList] at hN
  have : s.size = s.data.size := rfl
  omega
theorem texts_of {v : Value} (hN : Rows.uptoBulk d ≤ 1048576) (h : DataW.trod enc Tryz.prog W 0 (fun _ => true) held fuel 35 [v] = some (d, p)) :
    ∃ l : List ByteArray, SlR 1 TxR W (fun g => g < W.heap.size) l v ∧ (∀ x, x ∈ l → x.size ≤ 2000000) ∧ sumBy (fun _ => 0) l < Rows.uptoBulk d ∧ l.length < Rows.uptoBulk d :=
  slice_of (Q := fun x : ByteArray => x.size ≤ 2000000) Tryz.underlying35 (by kernel_rfl) (by decide) (fun hN h => text_el hN h) hN h
set_option maxRecDepth 100000 in
theorem pair_el {cs : List Value} (hN : Rows.uptoBulk d ≤ 1048576) (h : DataW.trod enc Tryz.prog W 0 (fun _ => true) held fuel 57 cs = some (d, p)) :
    ∃ x : PairD, cs.toArray.size = 7 ∧ PaR W (fun g => g < W.heap.size) x cs.toArray ∧ FitP x ∧ (fun _ : PairD => 0) x ≤ Rows.uptoBulk d := by
  obtain ⟨v0, v1, v2, v3, v4, v5, v6, y0, y1, k, rfl, hxy, g0, g1⟩ := trod_seven Tryz.underlying57 (by kernel_rfl) rfl rfl (by kernel_rfl) (by kernel_rfl) h
  obtain ⟨s, e0, d0, _⟩ := DataW.trod_string (by kernel_rfl : Tryz.prog.underlying 9 = some .string) g0
  injection e0 with e0 _
  subst e0 d0
  obtain ⟨y1, p1⟩ := y1
  simp only at hxy
  subst hxy
  have hb : s.size + Rows.uptoBulk y1 ≤ Rows.uptoBulk (DataW.agg [.lit (.string s.data.toList), y1]) := by
    have z3 : s.data.toList.length = s.size := by rw [Array.length_toList]; rfl
    simp only [Rows.uptoBulk, Rows.uptoBulkAll]
    omega
  obtain ⟨x, x1, x2, _, x4⟩ := val_cells (N := 1048576) (fun hN h => vals_open 1048576 hN h) (by omega) g1
  obtain ⟨A, cap, hu, _, _⟩ := x2.inv
  injection hu with hu
  have hl := congrArg Array.toList hu
  unfold cellsV at hl
  simp only [List.cons.injEq, and_true] at hl
  obtain ⟨r1, r2, r3, r4, r5, r6⟩ := hl
  subst r1 r2 r3 r4 r5 r6
  refine ⟨⟨s, x⟩, rfl, ⟨_, rfl, x2⟩, ⟨?_, ?_⟩, Nat.zero_le _⟩
  · show s.size ≤ 2000000; omega
  · show sizeV x ≤ 2000000; omega
theorem pairs_of {v : Value} (hN : Rows.uptoBulk d ≤ 1048576) (h : DataW.trod enc Tryz.prog W 0 (fun _ => true) held fuel 36 [v] = some (d, p)) :
    ∃ l : List PairD, SlR 7 PaR W (fun g => g < W.heap.size) l v ∧ (∀ x, x ∈ l → FitP x) ∧ sumBy (fun _ => 0) l < Rows.uptoBulk d ∧ l.length < Rows.uptoBulk d :=
  slice_of (Q := FitP) Tryz.underlying36 (by kernel_rfl) (by decide) (fun hN h => pair_el hN h) hN h
set_option maxRecDepth 100000 in
theorem node_el {cs : List Value} (hN : Rows.uptoBulk d ≤ 1048576) (h : DataW.trod enc Tryz.prog W 0 (fun _ => true) held fuel 38 cs = some (d, p)) :
    ∃ x : NodeD, cs.toArray.size = 3 ∧ NoR W (fun g => g < W.heap.size) x cs.toArray ∧ (FitN x ∧ VI x.id) ∧ wN x ≤ Rows.uptoBulk d := by
  obtain ⟨v0, v1, v2, y0, y1, y2, k, rfl, hxy, g0, g1, g2⟩ := trod_three Tryz.underlying38 (by kernel_rfl) rfl rfl rfl (by kernel_rfl) (by kernel_rfl) (by kernel_rfl) h
  obtain ⟨i0, e0, d0, w0⟩ := DataW.trod_int (by kernel_rfl : Tryz.prog.underlying 2 = some (.int .i64)) g0
  injection e0 with e0 _
  subst e0 d0
  obtain ⟨y1, p1⟩ := y1
  obtain ⟨y2, p2⟩ := y2
  simp only at hxy
  subst hxy
  have hb : Rows.uptoBulk y1 + Rows.uptoBulk y2 ≤ Rows.uptoBulk (DataW.agg [.lit (.int .i64 i0), y1, y2]) := by
    simp only [Rows.uptoBulk, Rows.uptoBulkAll]
    omega
  obtain ⟨L, l1, l2, _, l4⟩ := texts_of (by omega) g1
  obtain ⟨P, q1, q2, _, q4⟩ := pairs_of (by omega) g2
  exact ⟨⟨i0, L, P⟩, rfl, ⟨_, _, rfl, l1, q1⟩, ⟨⟨by show L.length ≤ 2000000; omega, by show P.length ≤ 2000000; omega, l2, q2⟩, w0⟩, by show L.length + P.length ≤ _; omega⟩
set_option maxRecDepth 100000 in
theorem edge_el {cs : List Value} (hN : Rows.uptoBulk d ≤ 1048576) (h : DataW.trod enc Tryz.prog W 0 (fun _ => true) held fuel 41 cs = some (d, p)) :
    ∃ x : EdgeD, cs.toArray.size = 5 ∧ EdR W (fun g => g < W.heap.size) x cs.toArray ∧ (FitE x ∧ VI x.id ∧ VI x.src ∧ VI x.dst) ∧ wE x ≤ Rows.uptoBulk d := by
  obtain ⟨v0, v1, v2, v3, v4, y0, y1, y2, y3, y4, k, rfl, hxy, g0, g1, g2, g3, g4⟩ := trod_five Tryz.underlying41 (by kernel_rfl) rfl rfl rfl rfl rfl (by kernel_rfl) (by kernel_rfl) (by kernel_rfl) (by kernel_rfl) (by kernel_rfl) h
  obtain ⟨i0, e0, d0, w0⟩ := DataW.trod_int (by kernel_rfl : Tryz.prog.underlying 2 = some (.int .i64)) g0
  obtain ⟨i1, e1, d1, w1⟩ := DataW.trod_int (by kernel_rfl : Tryz.prog.underlying 2 = some (.int .i64)) g1
  obtain ⟨i2, e2, d2, w2⟩ := DataW.trod_int (by kernel_rfl : Tryz.prog.underlying 2 = some (.int .i64)) g2
  obtain ⟨s, e3, d3, _⟩ := DataW.trod_string (by kernel_rfl : Tryz.prog.underlying 9 = some .string) g3
  injection e0 with e0 _
  injection e1 with e1 _
  injection e2 with e2 _
  injection e3 with e3 _
  subst e0 d0 e1 d1 e2 d2 e3 d3
  obtain ⟨y4, p4⟩ := y4
  simp only at hxy
  subst hxy
  have hb : s.size + Rows.uptoBulk y4 ≤ Rows.uptoBulk (DataW.agg [.lit (.int .i64 i0), .lit (.int .i64 i1), .lit (.int .i64 i2), .lit (.string s.data.toList), y4]) := by
    have z3 : s.data.toList.length = s.size := by rw [Array.length_toList]; rfl
    simp only [Rows.uptoBulk, Rows.uptoBulkAll]
    omega
  obtain ⟨P, q1, q2, _, q4⟩ := pairs_of (by omega) g4
  exact ⟨⟨i0, i1, i2, s, P⟩, rfl, ⟨_, rfl, q1⟩, ⟨⟨by show s.size ≤ 2000000; omega, by show P.length ≤ 2000000; omega, q2⟩, w0, w1, w2⟩, by show P.length ≤ _; omega⟩
end
set_option maxRecDepth 100000 in
/-- What a graph reads as. -/
theorem graph_open {H : Type} {enc : TypeId × Value → H} {W : World} {base : Nat} {v : Value} {d : DataW H} {p : List MemPlace} (hk : Rows.uptoBulk d ≤ 1048576) (hv : Value.okWide Tryz.prog W .any base 25 v)
    (h : DataW.Trod enc Tryz.prog W 0 (fun _ => true) true 25 v d p) :
    ∃ g : GraphD, GrR W (fun b => b < W.heap.size) g v ∧ FitG g ∧ totalG g ≤ 1000000000 := by
  obtain ⟨v0, v1, y0, y1, m, rfl, rfl, rfl, h0, h1⟩ := open_agg2 Tryz.underlying25 (by kernel_rfl) (by kernel_rfl) hv h
  obtain ⟨y0, p0⟩ := y0
  obtain ⟨y1, p1⟩ := y1
  simp only [Rows.uptoBulk, Rows.uptoBulkAll] at hk
  obtain ⟨N, n1, n2, n3, n4⟩ := slice_of (Q := fun n => FitN n ∧ VI n.id) (wt := wN) Tryz.underlying22 (by kernel_rfl) (by decide) (fun hN h => node_el hN h) (by omega) h0
  obtain ⟨E, q1, q2, q3, q4⟩ := slice_of (Q := fun x => FitE x ∧ VI x.id ∧ VI x.src ∧ VI x.dst) (wt := wE) Tryz.underlying23 (by kernel_rfl) (by decide) (fun hN h => edge_el hN h) (by omega) h1
  refine ⟨⟨N, E⟩, ⟨_, _, rfl, n1, q1⟩, ⟨by show N.length ≤ 2000000; omega, by show E.length ≤ 2000000; omega, n2, q2⟩, ?_⟩
  show N.length + E.length + sumBy wN N + sumBy wE E ≤ 1000000000
  omega
end Go.Proofs.YtmhjbicbdahllaaGreatDoor

namespace Go.Proofs.YtmhjbicbdahllaaGreatDoor
open Go Go.ChangeShapes Go.WideShapes Go.ChangeAt Go.RowKit Go.Joins

section
variable {H : Type} {enc : TypeId × Value → H} {P : Program}
theorem post_of_below {f : Func} {s : ChangeSpec} {apart fresh handsOn again : Bool} {W W' : World} {args : Array Value} {v : Value} {ds gs : List (DataW H)} {before pa pv : List MemPlace}
    (hW : DataW.Whole enc P f.params.toList s.vars apart W args.toList ds gs before)
    (hres : ∀ (b : Nat) (sp : Nat → Bool) (hd : Bool), DataW.TrodAll enc P W' b sp hd f.resultTypes.toList (v.resultList f.resultTypes.size) (s.fn H (ds ++ gs)).results [])
    (hargs : ∀ sp : Nat → Bool, (∀ p ∈ before, sp p.block = true) → DataW.TrodAll enc P W' 0 sp true f.params.toList args.toList (s.fn H (ds ++ gs)).args pa)
    (hvars : ∀ sp : Nat → Bool, (∀ p ∈ before, sp p.block = true) → DataW.TrodVars enc P W' sp s.vars (s.fn H (ds ++ gs)).vars pv)
    (hps : before = pa ++ pv) (hb : Below W.heap.size W W')
    (hok : ∀ (j : Nat) (t : TypeId) (r : Value), f.resultTypes[j]? = some t → (v.resultList f.resultTypes.size)[j]? = some r → Value.okWide P W' .any 0 t r) :
    s.post enc P f apart fresh handsOn again W args v W' := by
  have hlt : ∀ p ∈ before, p.block < W.heap.size := fun p hp => hW.lt p hp
  have hold : ∀ p ∈ before, (fun b => decide (b < W.heap.size)) p.block = true := fun p hp => by simpa using hlt p hp
  refine ⟨ds, gs, before, [], pa, pv, hW, hres _ _ _, hargs _ hold, hvars _ hold, World.keptBut_mono (fun p hp => ⟨hp, ?_⟩) (hb.frame (· ∈ before)), fun _ => ?_⟩
  · rw [hps, List.mem_append] at hp
    exact Or.inr hp
  · obtain ⟨_, _, _, _, _, hz, hn⟩ := hW
    refine ⟨hok, _, _, ([] ++ pa) ++ pv, ⟨[] ++ pa, pv, trodAll_append (hargs _ (fun _ _ => rfl)) (hres _ _ _), hvars _ (fun _ _ => rfl), rfl, ?_, ?_⟩, ?_⟩
    · intro b off hp
      have hin : MemPlace.cell b off ∈ before := by rw [hps]; simpa using hp
      rw [hb.frozen (hlt _ hin)]
      exact hz b off hin
    · intro ha
      have := hn ha
      rw [hps] at this
      simpa using this
    · intro p hp _
      rw [hps]
      simpa using hp
end

theorem own : ownKnob Tryz.prog.godebug = none := by kernel_rfl
theorem laidOut : laidOutB Tryz.prog = true := by kernel_rfl

set_option maxRecDepth 100000 in
theorem glob_of_shape {W : World} (h : W.ShapedOpen Tryz.prog) : GlobB W :=
  cell_of_shapedOpen_int (P := Tryz.prog) (g := 0) (t := 3) (zero := #[.int .i64 0]) h (of_decide_eq_true (by kernel_rfl)) (by kernel_rfl) rfl (by kernel_rfl) (by kernel_rfl) (by kernel_rfl)

set_option maxRecDepth 100000 in
theorem graphEdges_contract (H : Type) (enc : TypeId × Value → H) (W : World) (base : Nat) (args : Array Value) (ds gs : List (DataW H)) (before : List MemPlace)
    (hval0 : ∀ (j : Nat) t v, Tryz.f5.params[j]? = some t → args[j]? = some v → Value.okWide Tryz.prog W .any base t v)
    (hW : DataW.Whole enc Tryz.prog Tryz.f5.params.toList Rows.graphEdgesSpec.vars false W args.toList ds gs before) (hk : Rows.uptoSmall H (ds ++ gs) = true) (hg : GlobB W) :
    Calls Tryz.prog 5 args W fun e W' => ∃ v, e = .returned v ∧ Rows.graphEdgesSpec.post enc Tryz.prog Tryz.f5 false true false false W args v W' := by
  have hval : ∀ (j : Nat) t v, Tryz.f5.params[j]? = some t → args[j]? = some v → Value.okWide Tryz.prog W .any base t v := hval0
  have hW' := hW
  obtain ⟨p, q, hA0, hV, rfl, hfz, hnd⟩ := hW
  have hA : DataW.TrodAll enc Tryz.prog W 0 (fun _ => true) true Tryz.f5.params.toList args.toList ds p := hA0
  rw [Tryz.params5] at hA hval
  obtain ⟨v, d, rfl, rfl, h0⟩ := trodAll_one hA
  obtain ⟨rfl, rfl⟩ := trodVars_none hV
  clear hA0 hval0
  simp only [List.append_nil] at hW' hk
  have hlt : ∀ x ∈ p, x.block < W.heap.size := fun x hx => hW'.lt x hx
  have hbk : Rows.uptoBulkAll [d] ≤ 1048576 := of_decide_eq_true hk
  simp only [Rows.uptoBulkAll] at hbk
  obtain ⟨g, a1, a2, a3⟩ := graph_open (by omega) (hval 0 25 v rfl rfl) h0
  refine (graphEdges_any g a2 a3 _ v W (fun _ h => h) a1 hg).mono fun e W' ⟨he, hg⟩ => ?_
  subst he
  exact ⟨_, rfl, post_of_below (pa := p) (pv := []) hW' (fun _ _ _ => (trodAll_cons_mk (shut_bool Tryz.underlying4 _) trodAll_mk0))
    (fun sp hsp => trodAll_mk1 (WideElems.Trod_stays laidOut (by kernel_rfl) (of_decide_eq_true (by kernel_rfl)) h0 (fun x hx => hg.same (hlt x hx)) hsp)) (fun _ _ => rfl) (by simp)
    hg (ok_one (by kernel_rfl) rfl (okWide_bool_mk Tryz.underlying4 _))⟩

set_option maxRecDepth 100000 in
theorem graphEdges_lifted (os : Os) (started : os.Started) (H : Type) (enc : TypeId × Value → H) (F : Stop.Interp) :
    ReturnsInHanded {} Tryz.checked os 5 .any ((Rows.OpenSpec.upto Rows.graphEdgesSpec).preRow enc Tryz.prog Tryz.f5 Rows.graphEdgesUptoRow.domain false Rows.graphEdgesUptoRow.laid) (((Rows.OpenSpec.upto Rows.graphEdgesSpec).at F).post enc Tryz.prog Tryz.f5 false true false false) := by
  have hx : ∃ places, DataW.whole enc Tryz.prog ((World.laidAll Tryz.prog os Rows.graphEdgesUptoRow.laid).forCall (fun _ _ => 0) ⟨#[], #[.agg #[.slice none 0 0, .slice none 0 0]], []⟩).memory Tryz.f5.params.toList Rows.graphEdgesSpec.vars false #[.agg #[.slice none 0 0, .slice none 0 0]].toList 8 = some ([.agg [.nil, .nil]], [], places) := ⟨[], by kernel_rfl⟩
  obtain ⟨places, hx⟩ := hx
  refine returnsInHanded_of_row (C := Tryz.checked) (s := Rows.OpenSpec.upto Rows.graphEdgesSpec) own started (by kernel_rfl) Tryz.func5
    (witness_row_at (enc := enc) (C := Tryz.checked) false (World.laidAll Tryz.prog os Rows.graphEdgesUptoRow.laid) #[.agg #[.slice none 0 0, .slice none 0 0]] (World.laidAll_os _ _ _) (by kernel_rfl) (by kernel_rfl) (by kernel_rfl)
      (OpenSpec.preRow_of_cond 8 hx (by kernel_rfl) (fun k hk => by cases hk; kernel_rfl) (by kernel_rfl) (laidMet_laidAll _ (by kernel_rfl) (by kernel_rfl)))) ?_
  intro W base args ds gs before hval hW _ hcond _ hL hsh _
  exact graphEdges_contract H enc W base args ds gs before hval hW (hcond _ rfl) (glob_of_shape hsh)

theorem graphEdges_holds : Rows.GraphEdgesUptoSaid :=
  OpenClaim.holds_of_cond 5 Tryz.f5 rfl rfl rfl rfl rfl rfl rfl ⟨rfl, rfl, rfl, rfl, rfl⟩ rfl rfl rfl rfl rfl (by kernel_rfl) Tryz.func5 (by kernel_rfl)
    (of_decide_eq_true (by kernel_rfl)) (by unfold Func.isWrapper; first | (rw [if_pos (by decide +kernel)]; kernel_rfl) | (rw [if_neg (by decide +kernel)]; exact ⟨rfl, rfl⟩))
    (fun os started H enc _ F => by rw [OpenClaim.pre_eq_preRow]; exact graphEdges_lifted os started H enc F)

theorem graphEdges_card : Rows.GraphEdgesUptoCardSaid :=
  Claim7.holds_tied_plain_at .later [] _ _ _ _ graphEdges_holds (fun _ h => by cases h) (by kernel_rfl) (fun _ h => by cases h) graphEdgesUpto_row_tie rfl ⟨rfl, rfl⟩ (by kernel_rfl) rfl
    (fun f fn hf hfn => by
      obtain rfl : f = 5 := Option.some.inj ((show Tryz.prog.funcNamed "diptych/diptychlaw6.GraphEdges" = some 5 by kernel_rfl).symm.trans hf) |>.symm
      obtain rfl : fn = Tryz.f5 := (Option.some.inj (Tryz.func5.symm.trans hfn)).symm
      exact ⟨by kernel_rfl, fun j t ht => by
        rw [Tryz.params5] at ht
        have hm : t ∈ [25] := by simpa using Array.mem_of_getElem? ht
        have hall : ([25].all fun u => !Tryz.prog.wantsStandIn u) = true := by kernel_rfl
        exact (show Tryz.prog.wantsStandIn t = false by simpa using List.all_eq_true.1 hall t hm)⟩)
    (by kernel_rfl)
end Go.Proofs.YtmhjbicbdahllaaGreatDoor
