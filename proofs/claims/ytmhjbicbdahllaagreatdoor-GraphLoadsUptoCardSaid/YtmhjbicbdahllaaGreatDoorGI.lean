/- 'light': how great a graph is; 'Same' of values. -/
import Derived.Test.YtmhjbicbdahllaaGreatDoorGH
import Derived.BigQuiet
namespace Go.Proofs.YtmhjbicbdahllaaGreatDoor
open Go Go.RowKit

theorem sameV_any (a b : Val) (hs : sizeV a ≤ 1000000000) (F G : Nat → Prop) (u1 u2 : Value) (w : World) (hF : ∀ g, F g → g < w.heap.size) (hG : ∀ g, G g → g < w.heap.size) (h1 : VRd w F a u1) (h2 : VRd w G b u2) :
    Calls Tryz.prog 21 #[u1, u2] w (ToldB (sameB a b) w) := by
  obtain ⟨A, ca, rfl, _, la⟩ := h1.inv
  obtain ⟨B, cb, rfl, _, lb⟩ := h2.inv
  have hl := sizeL_list a
  exact same_step a b A B ca cb w hF hG la lb (fun w' x1 x2 x3 x4 => row_any (sizeL a.list + 1) a.list b.list (by omega) F G A B _ _ ca cb w' (by omega) x3 x4 x1 x2)

def sumBy {α : Type} (f : α → Nat) (l : List α) : Nat := (l.map f).sum
theorem sumBy_more {α : Type} {f : α → Nat} {l : List α} {k : Nat} {x : α} (hx : l[k]? = some x) : sumBy f (l.take (k + 1)) = sumBy f (l.take k) + f x := by
  unfold sumBy
  rw [take_oneMore hx]; simp
theorem sumBy_le {α : Type} (f : α → Nat) (l : List α) (k : Nat) : sumBy f (l.take k) ≤ sumBy f l := by
  unfold sumBy
  have h : (l.take k).map f ++ (l.drop k).map f = l.map f := by rw [← List.map_append, List.take_append_drop]
  rw [← h, List.sum_append]; omega
def wN (n : NodeD) : Nat := n.labels.length + n.props.length
def wE (e : EdgeD) : Nat := e.props.length
def totalG (g : GraphD) : Nat := g.nodes.length + g.edges.length + sumBy wN g.nodes + sumBy wE g.edges
def lightG (g : GraphD) : Bool := decide (totalG g ≤ 360)
set_option maxRecDepth 100000 in
set_option maxHeartbeats 2000000 in
theorem light_any (g : GraphD) (hs : totalG g ≤ 1000000000) (F : Nat → Prop) (u : Value) (w : World) (hF : ∀ b, F b → b < w.heap.size) (hg : GrR w F g u) :
    Calls Tryz.prog 7 #[u] w (ToldB (lightG g) w) := by
  obtain ⟨NV, EV, rfl, ⟨AN, cN, rfl, hcN, hlN⟩, AE, cE, rfl, hcE, hlE⟩ := hg
  have htot : totalG g = g.nodes.length + g.edges.length + sumBy wN g.nodes + sumBy wE g.edges := rfl
  obtain ⟨nN, HnN⟩ := name_itV g.nodes.length
  obtain ⟨nE, HnE⟩ := name_itV g.edges.length
  obtain ⟨sN, HsN⟩ := name_itV (sumBy wN g.nodes)
  obtain ⟨sE, HsE⟩ := name_itV (sumBy wE g.edges)
  obtain ⟨tG, HtG⟩ := name_itV (totalG g)
  have HLI := Lib.hid (show lightG g = decide (tG ≤ 360) from by rw [← HtG.out]; rfl)
  rw [HtG.out, HnN.out, HnE.out, HsN.out, HsE.out] at htot
  rw [HtG.out] at hs
  rw [HnN.out] at hlN ⊢
  rw [HnE.out] at hlE ⊢
  have HLN := Lib.hid hlN
  have HLE := Lib.hid hlE
  obtain ⟨z, HZ⟩ := name_itV w.heap.size
  obtain ⟨w1, HW1⟩ := name_itV (w.alloc (.cells #[.slice AN nN cN, .slice AE nE cE] 25))
  have HB1 := Lib.hid (show Below w.heap.size w w1 from by rw [← HW1.out]; exact (Below.refl _ _).alloc (Nat.le_refl _) _)
  have HN1 := Lib.hid (hlN.under NoR.good HB1.out hF)
  have HE1 := Lib.hid (hlE.under EdR.good HB1.out hF)
  have hk0 : w1.heap[z]? = some (.cells #[.slice AN nN cN, .slice AE nE cE] 25 (0, 0)) := by rw [← HW1.out, ← HZ.out]; exact heap_alloc_new w _
  have b0 : w1.cell? ⟨z, 0, none⟩ = some (.slice AN nN cN) := Lib.cell_of_heap hk0 0
  have b1 : w1.cell? ⟨z, 1, none⟩ = some (.slice AE nE cE) := Lib.cell_of_heap hk0 1
  have HK0 := Lib.hid hk0
  have HS := Lib.hid (show tG = nN + nE + sN + sE from htot)
  have w1' : IntKind.i64.wrap ((nN : Int) + nE) = (nN : Int) + nE := IntWalk.i64_in _ (by omega)
  clear hlN hlE hk0 htot hcN hcE hF HB1
  go_enter Tryz.func7, Tryz.ntmps7
  go_upto_region 1 with fail
  rw [HZ.out, HW1.out]
  go_wp2_with fail
  clear b0 b1
  go_loopw [3, 4] (fun s3 s4 wr => ∃ k m : Nat, k ≤ nN ∧ s3 = .int .i64 ((nN + nE + sumBy wN (g.nodes.take k) : Nat) : Int) ∧ s4 = .int .i64 (k : Nat) ∧ wr = w1.drewN m) (fun _ s4 _ => nN - (intOf s4).toNat)
  case atStart => exact ⟨0, 0, by omega, by simp [sumBy], rfl, rfl⟩
  case round =>
    obtain ⟨k, m, hk, rfl, rfl, hw⟩ := hrel
    have HW := Lib.hid hw
    have b0 : wr.cell? ⟨z, 0, none⟩ = some (.slice AN nN cN) := by rw [hw]; exact Lib.cell_of_heap HK0.out 0
    have b1 : wr.cell? ⟨z, 1, none⟩ = some (.slice AE nE cE) := by rw [hw]; exact Lib.cell_of_heap HK0.out 1
    have hNr : SRd 3 NoR wr F g.nodes AN nN := by rw [hw]; exact HN1.out.drewN NoR.good m
    clear hw
    by_cases hlt : k < nN
    · obtain ⟨x, hx⟩ : ∃ x, g.nodes[k]? = some x := ⟨g.nodes[k]'(by rw [HnN.out]; exact hlt), List.getElem?_eq_getElem _⟩
      obtain ⟨ad, A1, d1, A2, d2, rfl, hFa, hNo, hl1, hl2, q0, q1, q2⟩ := nodesAt hNr hx
      have hm := sumBy_more (f := wN) hx
      have hle := sumBy_le wN g.nodes (k + 1)
      rw [HsN.out] at hle
      have hwn : wN x = x.labels.length + x.props.length := rfl
      obtain ⟨a, Ha⟩ := name_itV x.labels.length
      obtain ⟨b, Hb⟩ := name_itV x.props.length
      obtain ⟨S, HSS⟩ := name_itV (sumBy wN (g.nodes.take k))
      rw [Ha.out] at q1
      rw [Hb.out] at q2
      rw [HSS.out]
      have HM := Lib.hid (show sumBy wN (g.nodes.take (k + 1)) = S + a + b by rw [hm, hwn, HSS.out, Ha.out, Hb.out]; omega)
      have hbd : nN + nE + S + a + b ≤ 1000000000 := by have := HM.out; have := HS.out; omega
      have w2 : IntKind.i64.wrap (((nN + nE + S : Nat) : Int) + a) = ((nN + nE + S : Nat) : Int) + a := IntWalk.i64_in _ (by omega)
      have w3 : IntKind.i64.wrap (((nN + nE + S : Nat) : Int) + a + b) = ((nN + nE + S : Nat) : Int) + a + b := IntWalk.i64_in _ (by omega)
      have e1 : (0 : Int) ≤ k := by omega
      have e2 : (k : Int) < nN := by omega
      have w4 : IntKind.i64.wrap ((k : Int) + 1) = (k : Int) + 1 := IntWalk.i64_in _ (by omega)
      clear hx hm hle hwn hl1 hl2 hNo hFa hNr
      go_upto_region 5 with fail
      go_quiet (fail)
      go_wp2_with fail
      go_roundw
      case rel => exact ⟨k + 1, m + nq, by omega, by rw [HM.out]; push_cast; simp only [Int.add_assoc], by go_num, by rw [HW.out, World.drewN_drewN]⟩
      case measure => simp [intOf]; omega
    · have hke : nN = k := by omega
      subst hke
      clear hNr hlt hk
      rw [List.take_of_length_le (by rw [HnN.out]; exact Nat.le_refl _), HsN.out]
      go_wp2_with fail
      clear b0 b1
      go_loopw [3, 5] (fun s3 s5 wx => ∃ k m : Nat, k ≤ nE ∧ s3 = .int .i64 ((nN + nE + sN + sumBy wE (g.edges.take k) : Nat) : Int) ∧ s5 = .int .i64 (k : Nat) ∧ wx = w1.drewN m) (fun _ s5 _ => nE - (intOf s5).toNat)
      case atStart => exact ⟨0, m, by omega, by simp [sumBy], rfl, HW.out⟩
      case round =>
        clear HW
        obtain ⟨k, m, hk, rfl, rfl, hw⟩ := hrel
        have HW := Lib.hid hw
        have b0 : wr.cell? ⟨z, 0, none⟩ = some (.slice AN nN cN) := by rw [hw]; exact Lib.cell_of_heap HK0.out 0
        have b1 : wr.cell? ⟨z, 1, none⟩ = some (.slice AE nE cE) := by rw [hw]; exact Lib.cell_of_heap HK0.out 1
        have hEr : SRd 5 EdR wr F g.edges AE nE := by rw [hw]; exact HE1.out.drewN EdR.good m
        clear hw
        by_cases hlt : k < nE
        · obtain ⟨x, hx⟩ : ∃ x, g.edges[k]? = some x := ⟨g.edges[k]'(by rw [HnE.out]; exact hlt), List.getElem?_eq_getElem _⟩
          obtain ⟨ad, A2, d2, rfl, hFa, hEd, hl2, q0, q1, q2, q3, q4⟩ := edgesAt hEr hx
          have hm := sumBy_more (f := wE) hx
          have hle := sumBy_le wE g.edges (k + 1)
          rw [HsE.out] at hle
          have hwn : wE x = x.props.length := rfl
          obtain ⟨b, Hb⟩ := name_itV x.props.length
          obtain ⟨S, HSS⟩ := name_itV (sumBy wE (g.edges.take k))
          rw [Hb.out] at q4
          rw [HSS.out]
          have HM := Lib.hid (show sumBy wE (g.edges.take (k + 1)) = S + b by rw [hm, hwn, HSS.out, Hb.out])
          have hbd : nN + nE + sN + S + b ≤ 1000000000 := by have := HM.out; have := HS.out; omega
          have w2 : IntKind.i64.wrap (((nN + nE + sN + S : Nat) : Int) + b) = ((nN + nE + sN + S : Nat) : Int) + b := IntWalk.i64_in _ (by omega)
          have e1 : (0 : Int) ≤ k := by omega
          have e2 : (k : Int) < nE := by omega
          have w4 : IntKind.i64.wrap ((k : Int) + 1) = (k : Int) + 1 := IntWalk.i64_in _ (by omega)
          clear hx hm hle hwn hl2 hEd hFa hEr q0 q1 q2 q3
          go_wp2_with fail
          go_roundw
          case rel => exact ⟨k + 1, m, by omega, by rw [HM.out]; push_cast; simp only [Int.add_assoc], by go_num, HW.out⟩
          case measure => simp [intOf]; omega
        · have hke : nE = k := by omega
          subst hke
          clear hEr hlt hk
          rw [List.take_of_length_le (by rw [HnE.out]; exact Nat.le_refl _), HsE.out]
          go_wp2_with fail
          go_ret
          refine told_bool ?_ ?_
          · rw [HLI.out, HS.out]
            simp
            omega
          · rw [HW.out, ← HW1.out]
            exact below_drewN ((Below.refl _ _).alloc (Nat.le_refl _) _) m
end Go.Proofs.YtmhjbicbdahllaaGreatDoor
