/- 'wakes': the least graph loads, and tells its hops, its labels, itself. -/
import Derived.Test.YtmhjbicbdahllaaGreatDoorGN
import Derived.Test.YtmhjbicbdahllaaGreatDoorGF
namespace Go.Proofs.YtmhjbicbdahllaaGreatDoor
open Go Go.RowKit

def n00 : NodeD := ⟨1, [⟨#[65]⟩], []⟩
def e00 : EdgeD := ⟨7, 1, 1, ⟨#[116]⟩, []⟩
def g00 : GraphD := ⟨[n00], [e00]⟩
theorem may_g00 : mayG g00 = true := by
  unfold mayG g00 n00 e00
  simp [scanG, okN, okE, lablG, propsB, propsG, textB, inB]
  exact ⟨⟨by decide, by decide⟩, by decide, by decide⟩
theorem fit_g00 : FitG g00 := by
  refine ⟨by decide, by decide, fun n hn => ?_, fun e he => ?_⟩
  · rw [List.mem_singleton.1 hn]
    exact ⟨⟨by decide, by decide, fun s hs => by rw [List.mem_singleton.1 hs]; decide, fun p hp => by cases hp⟩, vi1⟩
  · rw [List.mem_singleton.1 he]
    exact ⟨⟨by decide, by decide, fun p hp => by cases hp⟩, by unfold VI; decide, vi1, vi1⟩
theorem all2_one {α β : Type} {R : α → β → Prop} {x : α} {m : List β} (h : All2 R [x] m) : ∃ y, m = [y] ∧ R x y := by
  match m, h with
  | [y], h => exact ⟨y, rfl, h.2 0 x y rfl rfl⟩
  | [], h => exact absurd h.1 (by simp)
  | _ :: _ :: _, h => exact absurd h.1 (by simp)
theorem srt_g00 {g : GraphD} (h : SrtG g00 g) : g = g00 := by
  obtain ⟨⟨m, h1, h2, _⟩, ⟨k, h3, h4, _⟩⟩ := h
  obtain ⟨y, rfl, hy⟩ := all2_one h1
  obtain ⟨u, rfl, hu⟩ := all2_one h3
  obtain ⟨ns, es⟩ := g
  have e1 : ns = [y] := List.perm_singleton.1 h2
  have e2 : es = [u] := List.perm_singleton.1 h4
  obtain ⟨a, b, c⟩ := y
  obtain ⟨i, s, d, t, q⟩ := u
  obtain ⟨p1, p2, p3⟩ := hy
  obtain ⟨q1, q2, q3, q4, q5⟩ := hu
  have f1 : b = [⟨#[65]⟩] := List.perm_singleton.1 p2.1
  have f2 : c = [] := List.perm_nil.1 p3.1
  have f3 : q = [] := List.perm_nil.1 q5.1
  have p1 : a = 1 := p1
  have q1 : i = 7 := q1
  have q2 : s = 1 := q2
  have q3 : d = 1 := q3
  have q4 : t = ⟨#[116]⟩ := q4
  subst e1 e2 f1 f2 f3 p1 q1 q2 q3 q4
  rfl
theorem hops_g00 : hopIds g00.edges [] (hopsG g00.edges 1 0) = [7] := by decide
theorem lab_g00 : labeledG g00 [⟨#[65]⟩] = [1] := by
  unfold labeledG g00 n00
  simp [allB, inB]
theorem rd_one {α : Type} {R : Lies α} {w : World} {F : Nat → Prop} {b sz : Nat} {T : TypeId} {c : Array Value} {x : α} (hb : w.heap[b]? = some (.cells c T (0, 0))) (hF : F b) (hc : c.size = sz) (hx : R w F x c) : SRd sz R w F [x] (some ⟨b, 0, none⟩) 1 := by
  refine ⟨rfl, fun _ => ⟨⟨b, 0, none⟩, rfl, hF, fun i y hy => ?_⟩⟩
  cases i with
  | zero =>
    simp at hy
    subst hy
    refine ⟨c, hc, fun j hj => ?_, hx⟩
    have h : (⟨b, 0, none⟩ : Addr).add (0 * sz + j) = ⟨b, j, none⟩ := by
      unfold Addr.add
      simp only [Nat.zero_mul, Nat.zero_add]
      split
      · rename_i h0; rw [h0]
      · rfl
    rw [h]
    exact Lib.cell_of_heap hb j
  | succ i => simp at hy
set_option maxRecDepth 100000 in
theorem fieldG (a b : Value) (w : World) : (Instr.field 25 (.agg #[a, b]) 1).run Tryz.prog w = .ok b w := by kernel_rfl
/-- One number comes back. -/
def NumIs (x : Int) (w : World) (e : Ending) (w' : World) : Prop := ∃ A c, e = .returned (.slice A 1 c) ∧ Below w.heap.size w w' ∧ SRd 1 IxR w' (fun b => b < w'.heap.size) [x] A 1
theorem nums_one {P : Program} {f : Nat} {args : Array Value} {x : Int} {w : World} (h : Calls P f args w (NumsIs [x] w)) : Calls P f args w (NumIs x w) :=
  h.mono fun _ _ ⟨A, c, he, hb, hr⟩ => ⟨A, c, he, hb, hr.mono IxR.good (fun _ h => h.2)⟩
set_option maxRecDepth 100000 in
set_option maxHeartbeats 4000000 in
theorem wakes_any (w : World) (hg : GlobB w) : Calls Tryz.prog 8 #[] w (ToldB true w) := by
  obtain ⟨z, HZ⟩ := name_itV w.heap.size
  obtain ⟨w3, HW3⟩ := name_itV (((w.alloc (.cells #[.string ⟨#[65]⟩] 9)).alloc (.cells #[.int .i64 1, .slice (some ⟨z, 0, none⟩) 1 1, .slice none 0 0] 38)).alloc (.cells #[.int .i64 7, .int .i64 1, .int .i64 1, .string ⟨#[116]⟩, .slice none 0 0] 41))
  have HN3 := Lib.hid (three_new w (.cells #[.string ⟨#[65]⟩] 9) (.cells #[.int .i64 1, .slice (some ⟨z, 0, none⟩) 1 1, .slice none 0 0] 38) (.cells #[.int .i64 7, .int .i64 1, .int .i64 1, .string ⟨#[116]⟩, .slice none 0 0] 41))
  have HB3 := Lib.hid (show Below w.heap.size w w3 from by rw [← HW3.out]; exact below_new3 w _ _ _)
  have hs3 : w3.heap.size = z + 3 := by rw [← HW3.out, ← HZ.out]; simp
  have HS3 := Lib.hid hs3
  have k0 : w3.heap[z + 0]? = some (.cells #[.string ⟨#[65]⟩] 9 (0, 0)) := by rw [← HW3.out, HN3.out]; exact app_at HZ.out rfl
  have k1 : w3.heap[z + 1]? = some (.cells #[.int .i64 1, .slice (some ⟨z, 0, none⟩) 1 1, .slice none 0 0] 38 (0, 0)) := by rw [← HW3.out, HN3.out]; exact app_at HZ.out rfl
  have k2 : w3.heap[z + 2]? = some (.cells #[.int .i64 7, .int .i64 1, .int .i64 1, .string ⟨#[116]⟩, .slice none 0 0] 41 (0, 0)) := by rw [← HW3.out, HN3.out]; exact app_at HZ.out rfl
  have hgr : GrR w3 (fun b => b < w3.heap.size) g00 (.agg #[.slice (some ⟨z + 1, 0, none⟩) 1 1, .slice (some ⟨z + 2, 0, none⟩) 1 1]) := by
    refine ⟨_, _, rfl, ⟨_, 1, rfl, Nat.le_refl _, rd_one (c := #[.int .i64 1, .slice (some ⟨z, 0, none⟩) 1 1, .slice none 0 0]) k1 (by omega) rfl ?_⟩, ⟨_, 1, rfl, Nat.le_refl _, rd_one (c := #[.int .i64 7, .int .i64 1, .int .i64 1, .string ⟨#[116]⟩, .slice none 0 0]) k2 (by omega) rfl ?_⟩⟩
    · exact ⟨_, _, rfl, ⟨_, 1, rfl, Nat.le_refl _, rd_one (c := #[.string ⟨#[65]⟩]) k0 (by omega) rfl rfl⟩, SlR.nil ..⟩
    · exact ⟨_, rfl, SlR.nil ..⟩
  have hld := Lib.hid (load_any g00 fit_g00 _ _ w3 (fun b hb => hb) hgr (glob_under hg HB3.out))
  clear hs3 k0 k1 k2 hgr hg
  go_enter Tryz.func8, Tryz.ntmps8
  go_wp2_with fail
  rw [HZ.out]
  simp only [Nat.add_assoc, Nat.reduceAdd]
  rw [HW3.out]
  refine hld.out.mono ?_
  rintro e w4 ⟨hb4, hor⟩
  rcases hor with ⟨hno, _⟩ | ⟨_, p, g', rfl, hst, hsr⟩
  · rw [may_g00] at hno; cases hno
  have hg' := srt_g00 hsr
  subst hg'
  obtain ⟨Ns, Es, mh, mt, ma, mid, n0, hst⟩ := hst
  have HST := Lib.hid hst
  have HB4 := Lib.hid (HB3.out.trans (hb4.mono HB3.out.size))
  have hhp := Lib.hid (nums_one (hops_g00 ▸ hops_any g00 1 0 [] _ p Ns Es mh mt ma mid n0 (fun _ => False) none 0 0 w4 hst vi1 vi0 (fun _ h => h.elim) (SRd.nil ..) (by decide) (by decide)))
  clear hst hsr hb4 hld HN3
  go_wp2_with fail
  refine hhp.out.mono ?_
  rintro e w5 ⟨A5, c5, rfl, hb5, hr5⟩
  have HB5 := Lib.hid hb5
  have HR5 := Lib.hid hr5
  clear hb5 hr5 hhp
  go_wp2_with fail
  obtain ⟨w6, HW6⟩ := name_itV (w5.alloc (.cells #[.int .i64 7] 2))
  have HB6 := Lib.hid (show Below w5.heap.size w5 w6 from by rw [← HW6.out]; exact (Below.refl _ _).alloc (Nat.le_refl _) _)
  have HK6 := Lib.hid (show w6.heap[w5.heap.size]? = some (.cells #[.int .i64 7] 2 (0, 0)) from by rw [← HW6.out]; exact heap_alloc_new w5 _)
  rw [HW6.out]
  refine (eqNums_any [7] [7] (fun b => b < w5.heap.size) (fun _ => True) A5 _ 1 c5 1 1 w6 (HR5.out.under IxR.good HB6.out (fun b hb => hb)) (rd_one HK6.out trivial rfl rfl) (by decide) (by decide)).mono ?_
  rintro e w7 ⟨rfl, m7, hw7⟩
  have HB7 := Lib.hid (show Below w4.heap.size w4 w7 from by rw [hw7]; exact below_drewN (HB5.out.trans (HB6.out.mono HB5.out.size)) m7)
  clear hw7
  rw [show eqI [7] [7] = true from by decide]
  go_wp2_with fail
  obtain ⟨w8, HW8⟩ := name_itV (w7.alloc (.cells #[.string ⟨#[65]⟩] 9))
  have HB8 := Lib.hid (show Below w7.heap.size w7 w8 from by rw [← HW8.out]; exact (Below.refl _ _).alloc (Nat.le_refl _) _)
  have HK8 := Lib.hid (show w8.heap[w7.heap.size]? = some (.cells #[.string ⟨#[65]⟩] 9 (0, 0)) from by rw [← HW8.out]; exact heap_alloc_new w7 _)
  have HB48 := Lib.hid (show Below w4.heap.size w4 w8 from HB7.out.trans (HB8.out.mono HB7.out.size))
  have HS8 := Lib.hid (show StoreAt w8 w3.heap.size p g00 Ns Es mh mt ma mid n0 from HST.out.turn (Turn.of_below HB48.out) (fun b _ h1 h2 => by omega))
  rw [HW8.out]
  have hlb := Lib.hid (nums_one (lab_g00 ▸ labeled_any g00 [⟨#[65]⟩] _ p Ns Es mh mt ma mid n0 (fun b => b < w8.heap.size) (some ⟨w7.heap.size, 0, none⟩) 1 1 w8 HS8.out (fun _ h => h) (rd_one HK8.out (blk_lt HK8.out) rfl rfl) (by decide) (by decide) (fun n hn => by rw [List.mem_singleton.1 hn]; decide)))
  refine hlb.out.mono ?_
  rintro e w9 ⟨A9, c9, rfl, hb9, hr9⟩
  have HB9 := Lib.hid hb9
  have HR9 := Lib.hid hr9
  clear hb9 hr9 hlb
  go_wp2_with fail
  obtain ⟨wa, HWA⟩ := name_itV (w9.alloc (.cells #[.int .i64 1] 2))
  have HBA := Lib.hid (show Below w9.heap.size w9 wa from by rw [← HWA.out]; exact (Below.refl _ _).alloc (Nat.le_refl _) _)
  have HKA := Lib.hid (show wa.heap[w9.heap.size]? = some (.cells #[.int .i64 1] 2 (0, 0)) from by rw [← HWA.out]; exact heap_alloc_new w9 _)
  rw [HWA.out]
  refine (eqNums_any [1] [1] (fun b => b < w9.heap.size) (fun _ => True) A9 _ 1 c9 1 1 wa (HR9.out.under IxR.good HBA.out (fun b hb => hb)) (rd_one HKA.out trivial rfl rfl) (by decide) (by decide)).mono ?_
  rintro e wb ⟨rfl, mb, hwb⟩
  have HBB := Lib.hid (show Below w4.heap.size w4 wb from by
    rw [hwb]
    exact below_drewN (HB48.out.trans ((HB9.out.trans (HBA.out.mono HB9.out.size)).mono HB48.out.size)) mb)
  have HSB := Lib.hid (show StoreAt wb w3.heap.size p g00 Ns Es mh mt ma mid n0 from HST.out.turn (Turn.of_below HBB.out) (fun b _ h1 h2 => by omega))
  clear hwb
  rw [show eqI [1] [1] = true from by decide]
  have hpl := Lib.hid (plain_any g00 _ p Ns Es mh mt ma mid n0 wb HSB.out fit_g00 (fun n hn => by rw [List.mem_singleton.1 hn]; intro q hq; cases hq) (fun n hn => by rw [List.mem_singleton.1 hn]; intro q hq; cases hq))
  go_wp2_with fail
  refine hpl.out.mono ?_
  rintro e wc ⟨A1, c1, B1, d1, ns, es, rfl, hbc, _, _, hae⟩
  have hes : es.length = 1 := hae.1.symm
  rw [hes]
  have HBC := Lib.hid (show Below w.heap.size w wc from HB4.out.trans ((HBB.out.trans (hbc.mono HBB.out.size)).mono HB4.out.size))
  clear hbc hae hes hpl
  have hfd := fieldG (.slice A1 ns.length c1) (.slice B1 1 d1) wc
  go_wp2_with fail
  go_ret
  exact ⟨rfl, HBC.out⟩
end Go.Proofs.YtmhjbicbdahllaaGreatDoor
