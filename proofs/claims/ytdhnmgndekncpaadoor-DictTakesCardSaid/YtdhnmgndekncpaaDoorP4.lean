/- Walk of the law DictTakes. -/
import Derived.Test.YtdhnmgndekncpaaDoorP3
import Derived.Test.YtdhnmgndekncpaaDoorN2
import Derived.Test.YtdhnmgndekncpaaDoorM1
namespace Go.Proofs.YtdhnmgndekncpaaDoor
open Go Go.RowKit Go.Maps Go.WideMaps

/-- Two columns side by side: texts, pairs; null at the same places. -/
def Both2 (z k : Nat) (F : List Bool) (wr : World) : Prop :=
  ∃ (ss : List ByteArray) (xs : List (Int × ByteArray)) (va ua vb ub : Value) (ba bb : List Nat), ss.length = k ∧ xs.length = k ∧ (∀ g, ua.ownBlock = some g → ub.ownBlock ≠ some g) ∧
    Col 114 9 1 wr (z + 1) (z + 1) va ua k (ss.map .string) ba F (F.count true) ∧ Col 117 68 2 wr (z + 2) (z + 2) vb ub k (pairCells xs) bb F (F.count true)

theorem both2_step {z k nl nl2 : Nat} {F : List Bool} {nu : Bool} {wr w5 w6 : World} {ss : List ByteArray} {xs : List (Int × ByteArray)} {ua vb ub va5 ua5 vb6 ub6 : Value} {bb ba5 bb6 : List Nat} {s : ByteArray} {x : Int} {y : ByteArray}
    (hs : ss.length = k) (hx : xs.length = k) (hu5 : Fresh wr ua ua5)
    (hb : Col 117 68 2 w5 (z + 2) (z + 2) vb ub k (pairCells xs) bb F nl)
    (hbr : Col 117 68 2 wr (z + 2) (z + 2) vb ub k (pairCells xs) bb F nl) (hsep : ∀ g, ua.ownBlock = some g → ub.ownBlock ≠ some g)
    (h5 : Col 114 9 1 w5 (z + 1) (z + 1) va5 ua5 (k + 1) (ss.map .string ++ [.string s]) ba5 (F ++ [nu]) nl2) (ht6 : Turn (SC (z + 2) vb ub) w5 w6) (hu6 : Fresh w5 ub ub6)
    (h6 : Col 117 68 2 w6 (z + 2) (z + 2) vb6 ub6 (k + 1) (pairCells xs ++ [.int .i64 x, .string y]) bb6 (F ++ [nu]) nl2) (hn : nl2 = (F ++ [nu]).count true) : Both2 z (k + 1) (F ++ [nu]) w6 := by
  have hsep5 : ∀ g, ua5.ownBlock = some g → ub.ownBlock ≠ some g := fun g hg e => by
    rcases hu5 with h | h
    · exact hsep g (h ▸ hg) e
    · have := h g hg
      have := (hbr.bits.lt g e).2
      omega
  refine ⟨ss ++ [s], xs ++ [(x, y)], va5, ua5, vb6, ub6, ba5, bb6, by simp [hs], by simp [hx], fun g hg e => ?_, ?_, ?_⟩
  · rcases hu6 with h | h
    · exact hsep5 g hg (h ▸ e)
    · have := h g e
      have := (h5.bits.lt g hg).2
      omega
  · rw [List.map_append, ← hn]
    refine h5.kept ht6 (fun i hi => ?_)
    obtain ⟨cur, e, hc, he⟩ := hb.types i hi
    refine ⟨cur, e, hc, ?_, ?_, fun h112 hu => ?_⟩
    · rcases he with rfl | rfl | ⟨rfl, _⟩ <;> decide
    · rcases he with rfl | rfl | ⟨rfl, _⟩ <;> decide
    · rcases he with rfl | rfl | ⟨rfl, hub⟩
      · cases h112
      · cases h112
      · exact hsep5 i hu hub
  · rw [pairCells_snoc, ← hn]
    exact h6
/-- What is put to the texts leaves the pairs. -/
theorem both2_a {z k nl : Nat} {F : List Bool} {wr w5 : World} {vs : List Value} {xs : List (Int × ByteArray)} {va ua vb ub : Value} {ba bb : List Nat} (ht5 : Turn (SC (z + 1) va ua) wr w5)
    (ha : Col 114 9 1 wr (z + 1) (z + 1) va ua k vs ba F nl) (hb : Col 117 68 2 wr (z + 2) (z + 2) vb ub k (pairCells xs) bb F nl) (hsep : ∀ g, ua.ownBlock = some g → ub.ownBlock ≠ some g) :
    Col 117 68 2 w5 (z + 2) (z + 2) vb ub k (pairCells xs) bb F nl :=
  hb.kept ht5 (fun i hi => by
    obtain ⟨cur, e, hc, he⟩ := ha.types i hi
    refine ⟨cur, e, hc, ?_, ?_, fun h112 hu => ?_⟩
    · rcases he with rfl | rfl | ⟨rfl, _⟩ <;> decide
    · rcases he with rfl | rfl | ⟨rfl, _⟩ <;> decide
    · rcases he with rfl | rfl | ⟨rfl, hua⟩
      · cases h112
      · cases h112
      · exact hsep i hua hu)

theorem infoInt : (Tryd.prog.info? 3).map (fun i => (i.zero, i.size, i.bytes)) = some (some (.int .i64 0), 1, 8) := by kernel_rfl
/-- Two rows of numbers are made beside the columns: all numbers, the odd ones. -/
def RowsAt (z i k : Nat) (ss : List ByteArray) (xs : List (Int × ByteArray)) (va ua vb ub : Value) (ba bb : List Nat) (F : List Bool) (nf : Nat) (w : World) (r7 r8 : Value) (wr : World) : Prop :=
  wr.ownsRow (z + 1) 3 1 r7 i (ints (nats (List.range i))) ∧ wr.ownsRow (z + 1) 3 1 r8 (oddN i).length (ints (nats (oddN i))) ∧ (∀ g, r7.ownBlock = some g → r8.ownBlock ≠ some g) ∧
    Below z w wr ∧ z < wr.heap.size ∧ Col 114 9 1 wr (z + 1) (z + 1) va ua k (ss.map .string) ba F nf ∧ Col 117 68 2 wr (z + 2) (z + 2) vb ub k (pairCells xs) bb F nf

theorem rows_one {z k nf m m2 g4 c4 n4 : Nat} {ss : List ByteArray} {xs : List (Int × ByteArray)} {va ua vb ub : Value} {ba bb : List Nat} {F : List Bool} {w wr w4 : World} {r r2 : Value} {l l2 : List Value}
    (hr : wr.ownsRow (z + 1) 3 1 r m l) (hr2 : wr.ownsRow (z + 1) 3 1 r2 m2 l2) (hs : ∀ g, r.ownBlock = some g → r2.ownBlock ≠ some g) (hg : wr.grownBy w4 r.ownBlock) (hl : r.ownBlock = some g4 ∨ wr.heap.size ≤ g4)
    (hbz : Below z w wr) (hz : z < wr.heap.size) (hca : Col 114 9 1 wr (z + 1) (z + 1) va ua k (ss.map .string) ba F nf) (hcb : Col 117 68 2 wr (z + 2) (z + 2) vb ub k (pairCells xs) bb F nf) :
    w4.ownsRow (z + 1) 3 1 r2 m2 l2 ∧ (∀ g, (Value.slice (some ⟨g4, 0, none⟩) n4 c4).ownBlock = some g → r2.ownBlock ≠ some g) ∧ Below z w w4 ∧ z < w4.heap.size ∧
      Col 114 9 1 w4 (z + 1) (z + 1) va ua k (ss.map .string) ba F nf ∧ Col 117 68 2 w4 (z + 2) (z + 2) vb ub k (pairCells xs) bb F nf := by
  refine ⟨(Turn.of_grown hg).owns hr2 (fun g hg2 e => hs g e.symm hg2), fun g hg4 e => ?_, hbz.trans ((Turn.of_grown hg).below (fun i _ hi => by have := (hr.lt i hi.symm).1; omega) (Nat.le_of_lt hz)), Nat.lt_of_lt_of_le hz hg.size, hca.grown hr hg (by decide) (by decide) (by decide), hcb.grown hr hg (by decide) (by decide) (by decide)⟩
  injection hg4 with hg4
  have hg4 : g4 = g := hg4
  subst hg4
  rcases hl with h | h
  · exact hs g4 h e
  · have := (hr2.lt g4 e).2
    omega
theorem nats_snoc (l : List Nat) (i : Nat) : ints (nats (l ++ [i])) = ints (nats l) ++ [.int .i64 (i : Int)] := by unfold ints nats; simp

theorem nats_inside {l : List Nat} {n : Nat} (h : ∀ j ∈ l, j < n) : ∀ i ∈ nats l, inside n i := by
  intro i hi
  unfold nats at hi
  obtain ⟨j, hj, rfl⟩ := List.mem_map.1 hi
  exact ⟨by omega, by have := h j hj; omega⟩

/-- The odd numbers' places, the last first, are made. -/
def LastAt (z i M j zd : Nat) (ss : List ByteArray) (xs : List (Int × ByteArray)) (va ua vb ub : Value) (ba bb : List Nat) (F : List Bool) (nf : Nat) (w : World) (r8 : Value) (dv : List Value) (df : List Bool) (vd ud : Value) (bd : List Nat) (r14 : Value) (wr : World) : Prop :=
  wr.ownsRow (z + 1) 3 1 r14 j (ints (lastOf M j)) ∧ (∀ g, r14.ownBlock = some g → r8.ownBlock ≠ some g) ∧ wr.ownsRow (z + 1) 3 1 r8 M (ints (nats (oddN i))) ∧
    Below z w wr ∧ z < wr.heap.size ∧ Col 114 9 1 wr (z + 1) (z + 1) va ua i (ss.map .string) ba F nf ∧ Col 117 68 2 wr (z + 2) (z + 2) vb ub i (pairCells xs) bb F nf ∧ Col 117 68 2 wr zd zd vd ud M dv bd df (df.count true)

theorem lastOf_inside (M : Nat) : ∀ i ∈ lastOf M M, inside M i := by
  intro i hi
  unfold lastOf at hi
  obtain ⟨t, ht, rfl⟩ := List.mem_map.1 hi
  have := List.mem_range.1 ht
  exact ⟨by omega, by omega⟩
/-- Where the cells are looked at. -/
def LookAt (z i M zg : Nat) (ss : List ByteArray) (xs : List (Int × ByteArray)) (va ua vb ub : Value) (ba bb : List Nat) (F : List Bool) (nf : Nat) (w : World) (r8 : Value) (vg ug : Value) (bg : List Nat) (wr : World) : Prop :=
  wr.ownsRow (z + 1) 3 1 r8 M (ints (nats (oddN i))) ∧
    Below z w wr ∧ z < wr.heap.size ∧ Col 114 9 1 wr (z + 1) (z + 1) va ua i (ss.map .string) ba F nf ∧ Col 117 68 2 wr (z + 2) (z + 2) vb ub i (pairCells xs) bb F nf ∧
    Col 117 68 2 wr zg zg vg ug M (pairCells (pickP (pickP xs (nats (oddN i))) (lastOf M M))) bg (pickedNull (pickedNull F (nats (oddN i))) (lastOf M M)) ((pickedNull (pickedNull F (nats (oddN i))) (lastOf M M)).count true)

set_option maxRecDepth 100000 in
set_option maxHeartbeats 8000000 in
theorem takes_any (A : Option Addr) (n cap : Nat) (A1 : Option Addr) (n1 cap1 : Nat) (A2 : Option Addr) (n2 cap2 : Nat) (L : List (Int × Bool)) (w : World) (hr : Reads w w.heap.size 2 A n (cellsOf L)) :
    Calls Tryd.prog 6 #[.agg #[.slice A n cap, .slice A1 n1 cap1, .slice A2 n2 cap2]] w fun e w' => e = .returned (.bool true) ∧ Below w.heap.size w w' := by
  have HR := Lib.hid hr
  have HLL := Lib.hid (cells_length hr)
  clear hr
  have HW1 := Lib.hid (show (w.alloc (.cells #[.slice A n cap, .slice A1 n1 cap1, .slice A2 n2 cap2] 50)).heap[w.heap.size]? = some (.cells #[.slice A n cap, .slice A1 n1 cap1, .slice A2 n2 cap2] 50 (0, 0)) from heap_alloc_new w _)
  have HB1 := Lib.hid ((Below.refl w.heap.size w).alloc (Nat.le_refl _) (.cells #[.slice A n cap, .slice A1 n1 cap1, .slice A2 n2 cap2] 50))
  have HS1 := Lib.hid (show (w.alloc (.cells #[.slice A n cap, .slice A1 n1 cap1, .slice A2 n2 cap2] 50)).heap.size = w.heap.size + 1 by simp)
  go_enter Tryd.func6, Tryd.ntmps6
  go_wp2_with fail
  refine (newT_any _).mono ?_
  rintro e w2 ⟨rfl, hd, hb2, hs2⟩
  obtain ⟨z, HZ⟩ := name_it w.heap.size
  rw [HS1.out] at hd hb2 hs2 ⊢
  rw [HZ.out] at HR HW1 HB1 hd hb2 hs2 ⊢
  have HW2 := Lib.hid ((hb2.block z (by omega)).trans HW1.out)
  have HD2 := Lib.hid hd
  have HBB := Lib.hid (HB1.out.trans (hb2.mono (by omega)))
  have HZ2 := Lib.hid hs2
  clear hd hb2 hs2
  go_wp2_with fail
  refine (newP_any _).mono ?_
  rintro e w3 ⟨rfl, hd, hb3, hs3⟩
  rw [HZ2.out] at hd hb3 hs3 ⊢
  have HW3 := Lib.hid ((hb3.block z (by omega)).trans HW2.out)
  have HA3 := Lib.hid (HD2.out.below hb3 (by rw [HZ2.out]; exact Nat.le_refl _))
  have HD3 := Lib.hid hd
  have HBB3 := Lib.hid (HBB.out.trans (hb3.mono (by omega)))
  clear hd hb3 hs3
  go_wp2_with fail
  go_loopw [5, 6] (fun s5 i wr => ∃ k : Nat, k ≤ n ∧ k ≤ 200 ∧ s5 = .int .i64 k ∧ i = .int .i64 k ∧ Below z w wr ∧ wr.heap[z]? = some (.cells #[.slice A n cap, .slice A1 n1 cap1, .slice A2 n2 cap2] 50 (0, 0)) ∧ Both2 z k (nullsOf (L.take k)) wr) (fun _ i _ => n - (intOf i).toNat)
  case atStart => exact ⟨0, by omega, by omega, rfl, rfl, HBB3.out, HW3.out, [], [], _, _, _, _, _, _, rfl, rfl, (fun g hg => by cases hg), HA3.out, HD3.out⟩
  case round =>
    obtain ⟨k, hkn, hk3, rfl, rfl, hbz, hbox, hboth⟩ := hrel
    have c0 : wr.cell? ⟨z, 0, none⟩ = some (.slice A n cap) := Lib.cell_of_heap hbox 0
    have HBZ := Lib.hid hbz
    have HBOX := Lib.hid hbox
    have HBO := Lib.hid hboth
    have hfl : (nullsOf (L.take k)).length = k := by have := HLL.out; simp [nullsOf]; omega
    have HFL := Lib.hid hfl
    clear hbz hbox hboth hfl
    go_upto_region 7 with fail
    go_cut [43] (fun s43 wx => s43 = .bool (decide (k < n ∧ k < 200)) ∧ wx = wr)
    case first =>
      by_cases h1 : k < n
      · by_cases h2 : k < 200
        · go_wp2_with fail
          go_meet
          exact ⟨by simp [h1]; omega, rfl⟩
        · go_wp2_with fail
          go_meet
          exact ⟨by simp [h1]; omega, rfl⟩
      · go_wp2_with fail
        go_meet
        exact ⟨by simp [h1], rfl⟩
    case rest =>
      obtain ⟨h43, rfl⟩ := hcut
      by_cases hlt : k < n ∧ k < 200
      · have t1 : decide (k < n ∧ k < 200) = true := decide_eq_true hlt
        rw [t1] at h43
        subst h43
        clear t1
        obtain ⟨hlt, h300⟩ := hlt
        obtain ⟨ad, N, nu, rfl, hx, k1, k2⟩ := reads_cell (HR.out.below HBZ.out) hlt
        have e1 : (0 : Int) ≤ k := by omega
        have e2 : (k : Int) < n := by omega
        have HX := Lib.hid hx
        obtain ⟨ss, xs, va, ua, vb, ub, ba, bb, hss, hxs, hsep, hca, hcb⟩ := HBO.out
        have hct : (nullsOf (L.take k)).count true ≤ k := by have := List.count_le_length (a := true) (l := nullsOf (L.take k)); have := HFL.out; omega
        have HCA := Lib.hid hca
        have HCB := Lib.hid hcb
        have HSEP := Lib.hid hsep
        have HSS := Lib.hid hss
        have HXS := Lib.hid hxs
        have hzl : z < wc.heap.size := blk_lt HBOX.out
        clear hx hca hcb hsep hss hxs
        cases nu with
        | true =>
          have HP := Lib.hid (nullT_any HCA.out HFL.out (by omega) hct)
          go_wp2_with fail
          refine HP.out.mono ?_
          rintro e w5 ⟨rfl, ⟨va5, ua5, ba5, hc5, _, hu5⟩, ht5⟩
          have HC5 := Lib.hid hc5
          have HT5 := Lib.hid ht5
          have HU5 := Lib.hid hu5
          have HB5 := Lib.hid (both2_a HT5.out HCA.out HCB.out HSEP.out)
          clear hc5 ht5 hu5
          have HP2 := Lib.hid (nullP_any HB5.out HFL.out (by omega) hct)
          go_wp2_with fail
          refine HP2.out.mono ?_
          rintro e w6 ⟨rfl, ⟨vb6, ub6, bb6, hc6, _, hu6⟩, ht6⟩
          have HC6 := Lib.hid hc6
          have HT6 := Lib.hid ht6
          have HU6 := Lib.hid hu6
          clear hc6 ht6 hu6
          go_wp2_with fail
          go_roundw
          case rel =>
            refine ⟨k + 1, by omega, by omega, by go_num, by go_num, ?_, ?_, ?_⟩
            · have h5 := HT5.out.size
              exact (HBZ.out.trans (HT5.out.below (fun i _ h => by have := (SC_ge HCA.out i h).1; omega) (by omega))).trans (HT6.out.below (fun i _ h => by have := (SC_ge HB5.out i h).1; omega) (by omega))
            · have h5 := HT5.out.size
              exact (HT6.out.block z (by omega) (fun h => by have := (SC_ge HB5.out z h).1; omega)).trans ((HT5.out.block z hzl (fun h => by have := (SC_ge HCA.out z h).1; omega)).trans HBOX.out)
            · rw [take_more HX.out, show nullsOf (L.take k ++ [(N, true)]) = nullsOf (L.take k) ++ [true] by simp [nullsOf]]
              exact both2_step HSS.out HXS.out HU5.out HB5.out HCB.out HSEP.out HC5.out HT6.out HU6.out HC6.out (by rw [List.count_append]; rfl)
          case measure => simp [intOf]; omega
        | false =>
          have HP := Lib.hid (putT_any HCA.out HFL.out (by omega) hct ⟨#[120]⟩)
          go_wp2_with fail
          refine HP.out.mono ?_
          rintro e w5 ⟨rfl, ⟨va5, ua5, ba5, hc5, _, hu5⟩, ht5⟩
          have HC5 := Lib.hid hc5
          have HT5 := Lib.hid ht5
          have HU5 := Lib.hid hu5
          have HB5 := Lib.hid (both2_a HT5.out HCA.out HCB.out HSEP.out)
          clear hc5 ht5 hu5
          have HP2 := Lib.hid (putP_any HB5.out HFL.out (by omega) hct (k : Int) ⟨#[121]⟩)
          go_wp2_with fail
          refine HP2.out.mono ?_
          rintro e w6 ⟨rfl, ⟨vb6, ub6, bb6, hc6, _, hu6⟩, ht6⟩
          have HC6 := Lib.hid hc6
          have HT6 := Lib.hid ht6
          have HU6 := Lib.hid hu6
          clear hc6 ht6 hu6
          go_wp2_with fail
          go_roundw
          case rel =>
            refine ⟨k + 1, by omega, by omega, by go_num, by go_num, ?_, ?_, ?_⟩
            · have h5 := HT5.out.size
              exact (HBZ.out.trans (HT5.out.below (fun i _ h => by have := (SC_ge HCA.out i h).1; omega) (by omega))).trans (HT6.out.below (fun i _ h => by have := (SC_ge HB5.out i h).1; omega) (by omega))
            · have h5 := HT5.out.size
              exact (HT6.out.block z (by omega) (fun h => by have := (SC_ge HB5.out z h).1; omega)).trans ((HT5.out.block z hzl (fun h => by have := (SC_ge HCA.out z h).1; omega)).trans HBOX.out)
            · rw [take_more HX.out, show nullsOf (L.take k ++ [(N, false)]) = nullsOf (L.take k) ++ [false] by simp [nullsOf]]
              exact both2_step HSS.out HXS.out HU5.out HB5.out HCB.out HSEP.out HC5.out HT6.out HU6.out HC6.out (by rw [List.count_append]; rfl)
          case measure => simp [intOf]; omega
      · have t1 : decide (k < n ∧ k < 200) = false := decide_eq_false hlt
        rw [t1] at h43
        subst h43
        clear t1
        obtain ⟨ss, xs, va, ua, vb, ub, ba, bb, hss, hxs, hsep, hca, hcb⟩ := HBO.out
        obtain ⟨F, HF⟩ := name_it (nullsOf (L.take k))
        rw [HF.out] at hca hcb HFL
        obtain ⟨nf, HNF⟩ := name_it (F.count true)
        rw [HNF.out] at hca hcb
        have HSS := Lib.hid hss
        have HXS := Lib.hid hxs
        have hzl : z < wc.heap.size := blk_lt HBOX.out
        have HSZ := Lib.hid (blk_lt hcb.blk)
        have HCA := Lib.hid hca
        have HCB := Lib.hid hcb
        have hk200 : k ≤ 200 := hk3
        clear hss hxs hsep hca hcb HBO HBOX c0
        go_wp2_with fail
        go_loopw [7, 8, 9] (fun s7 s8 s9 wr => ∃ (i : Nat), i ≤ k ∧ s9 = .int .i64 i ∧ RowsAt z i k ss xs va ua vb ub ba bb F nf w s7 s8 wr) (fun _ _ s9 _ => k - (intOf s9).toNat)
        case atStart => exact ⟨0, by omega, rfl, World.ownsRow_nil _ _ _ _, World.ownsRow_nil _ _ _ _, (fun g hg => by cases hg), HBZ.out, hzl, HCA.out, HCB.out⟩
        case round =>
          obtain ⟨i, hik, rfl, hr7, hr8, hs78, hbz, hzl2, hca, hcb⟩ := hrel
          have HR7 := Lib.hid hr7
          have HR8 := Lib.hid hr8
          have HS78 := Lib.hid hs78
          have HBZ2 := Lib.hid hbz
          have HCA2 := Lib.hid hca
          have HCB2 := Lib.hid hcb
          have hlen8 : (oddN i).length ≤ 200 := by have := oddN_le i; omega
          clear hr7 hr8 hs78 hbz hca hcb
          by_cases hit : i < k
          · have hB7 : z + 1 ≤ wr.heap.size := hzl2
            by_cases hodd : i % 2 = 1
            · have t1 : ((i : Int) % 2 == 1) = true := by simp; omega
              go_wp2_with (at_builtin; refine app_new rfl _ _ 23 rfl (z + 1) 3 (.int .i64 0) 1 8 Tryd.underlying23 infoInt rfl (by decide) _ _ _ rfl HR7.out hB7 #[.int .i64 (i : Int)] 1 1 rfl rfl (one_int _ _) (by omega) (by omega) (by decide) ?_)
              intro g4 cp4 w4 ho4 hg4 hl4
              have HO4 := Lib.hid (show w4.ownsRow (z + 1) 3 1 (.slice (some ⟨g4, 0, none⟩) (i + 1) cp4) (i + 1) (ints (nats (List.range (i + 1)))) from by rw [List.range_succ, nats_snoc]; exact ho4)
              have hstep := rows_one (n4 := i + 1) (c4 := cp4) HR7.out HR8.out HS78.out hg4 hl4 HBZ2.out hzl2 HCA2.out HCB2.out
              obtain ⟨h8, h78, hbz4, hzl4, hca4, hcb4⟩ := hstep
              have H8 := Lib.hid h8
              have H78 := Lib.hid (show ∀ g, u8.ownBlock = some g → (Value.slice (some ⟨g4, 0, none⟩) (i + 1) cp4).ownBlock ≠ some g from fun g h1 h2 => h78 g h2 h1)
              have HBZ4 := Lib.hid hbz4
              have HCA4 := Lib.hid hca4
              have HCB4 := Lib.hid hcb4
              have hB8 : z + 1 ≤ w4.heap.size := hzl4
              clear ho4 hg4 hl4 h8 h78 hbz4 hca4 hcb4
              go_wp2_with (at_builtin; refine app_new rfl _ _ 23 rfl (z + 1) 3 (.int .i64 0) 1 8 Tryd.underlying23 infoInt rfl (by decide) _ _ _ rfl H8.out hB8 #[.int .i64 (i : Int)] 1 1 rfl rfl (one_int _ _) (by omega) (by omega) (by decide) ?_)
              intro g5 cp5 w5 ho5 hg5 hl5
              have hstep := rows_one (n4 := (oddN i).length + 1) (c4 := cp5) H8.out HO4.out H78.out hg5 hl5 HBZ4.out hzl4 HCA4.out HCB4.out
              obtain ⟨h7, h87, hbz5, hzl5, hca5, hcb5⟩ := hstep
              have HO5 := Lib.hid (show w5.ownsRow (z + 1) 3 1 (.slice (some ⟨g5, 0, none⟩) ((oddN i).length + 1) cp5) (oddN (i + 1)).length (ints (nats (oddN (i + 1)))) from by rw [oddN_succ, if_pos hodd, nats_snoc, List.length_append]; exact ho5)
              have H7 := Lib.hid h7
              have H87 := Lib.hid (show ∀ g, (Value.slice (some ⟨g4, 0, none⟩) (i + 1) cp4).ownBlock = some g → (Value.slice (some ⟨g5, 0, none⟩) ((oddN i).length + 1) cp5).ownBlock ≠ some g from fun g h1 h2 => h87 g h2 h1)
              have HBZ5 := Lib.hid hbz5
              have HCA5 := Lib.hid hca5
              have HCB5 := Lib.hid hcb5
              clear ho5 hg5 hl5 h7 h87 hbz5 hca5 hcb5
              go_wp2_with fail
              go_roundw
              case rel => exact ⟨i + 1, by omega, by go_num, H7.out, HO5.out, H87.out, HBZ5.out, hzl5, HCA5.out, HCB5.out⟩
              case measure => simp [intOf]; omega
            · have t1 : ((i : Int) % 2 == 1) = false := by simp; omega
              go_wp2_with (at_builtin; refine app_new rfl _ _ 23 rfl (z + 1) 3 (.int .i64 0) 1 8 Tryd.underlying23 infoInt rfl (by decide) _ _ _ rfl HR7.out hB7 #[.int .i64 (i : Int)] 1 1 rfl rfl (one_int _ _) (by omega) (by omega) (by decide) ?_)
              intro g4 cp4 w4 ho4 hg4 hl4
              have HO4 := Lib.hid (show w4.ownsRow (z + 1) 3 1 (.slice (some ⟨g4, 0, none⟩) (i + 1) cp4) (i + 1) (ints (nats (List.range (i + 1)))) from by rw [List.range_succ, nats_snoc]; exact ho4)
              have hstep := rows_one (n4 := i + 1) (c4 := cp4) HR7.out HR8.out HS78.out hg4 hl4 HBZ2.out hzl2 HCA2.out HCB2.out
              obtain ⟨h8, h78, hbz4, hzl4, hca4, hcb4⟩ := hstep
              have H8 := Lib.hid (show w4.ownsRow (z + 1) 3 1 u8 (oddN (i + 1)).length (ints (nats (oddN (i + 1)))) from by rw [oddN_succ, if_neg hodd]; exact h8)
              have H78 := Lib.hid h78
              have HBZ4 := Lib.hid hbz4
              have HCA4 := Lib.hid hca4
              have HCB4 := Lib.hid hcb4
              clear ho4 hg4 hl4 h8 h78 hbz4 hca4 hcb4
              go_wp2_with fail
              go_roundw
              case rel => exact ⟨i + 1, by omega, by go_num, HO4.out, H8.out, H78.out, HBZ4.out, hzl4, HCA4.out, HCB4.out⟩
              case measure => simp [intOf]; omega
          · have hie : i = k := by omega
            subst hie
            obtain ⟨A7, cp7, h7⟩ := slice_form HR7.out
            subst h7
            obtain ⟨A8, cp8, h8⟩ := slice_form HR8.out
            subst h8
            have hm7 : (Value.slice A7 i cp7) = .slice A7 i cp7 := rfl
            have HT1 := Lib.hid (takeP_any (w := wr) (xs := xs) (fs := F) (by rw [HXS.out]; exact HCB2.out) (by rw [HXS.out]; exact HFL.out) (by rw [HXS.out]; omega) A7 i cp7 (nats (List.range i)) (Reads.of_own HR7.out) (by omega) (by rw [HXS.out]; exact nats_inside (fun j hj => List.mem_range.1 hj)))
            obtain ⟨M, HM⟩ := name_it (oddN i).length
            rw [HM.out] at HR8 hlen8
            clear hm7
            go_wp2_with fail
            rw [HM.out]
            refine HT1.out.mono ?_
            rintro e w9 ⟨hb9, rfl, vc, uc, bc, hc9⟩
            have hpn : pickedNull F (nats (List.range i)) = F := by have h := pickedNull_all F; rw [HFL.out] at h; exact h
            rw [hpn, HNF.out, show (nats (List.range i)).length = i by simp [nats]] at hc9
            have HC9 := Lib.hid hc9
            have HBZ9 := Lib.hid (HBZ2.out.trans (hb9.mono (Nat.le_of_lt hzl2)))
            have HA9 := Lib.hid (HCA2.out.below hb9 (Nat.le_refl _))
            have HCB9 := Lib.hid (HCB2.out.below hb9 (Nat.le_refl _))
            have HR9 := Lib.hid (own_below HR8.out hb9 (Nat.le_refl _))
            have hz9 : wr.heap.size ≤ w9.heap.size := hb9.size
            obtain ⟨zc, HZC⟩ := name_it wr.heap.size
            rw [HZC.out] at HC9 ⊢
            clear hb9 hc9 hpn
            have HT2 := Lib.hid (takeP_any (w := w9) (xs := xs) (fs := F) (by rw [HXS.out]; exact HCB9.out) (by rw [HXS.out]; exact HFL.out) (by rw [HXS.out]; omega) A8 M cp8 (nats (oddN i)) (Reads.of_own HR9.out) (by omega) (by rw [HXS.out]; exact nats_inside (fun j hj => oddN_lt hj)))
            go_wp2_with fail
            refine HT2.out.mono ?_
            rintro e w10 ⟨hb10, rfl, vd, ud, bd, hd10⟩
            rw [show (nats (oddN i)).length = M by simpa [nats] using HM.out] at hd10
            have HD10 := Lib.hid hd10
            have HC10 := Lib.hid (HC9.out.below hb10 (Nat.le_refl _))
            have HBZ10 := Lib.hid (HBZ9.out.trans (hb10.mono (by omega)))
            have HA10 := Lib.hid (HA9.out.below hb10 (Nat.le_refl _))
            have HCB10 := Lib.hid (HCB9.out.below hb10 (Nat.le_refl _))
            have HR10 := Lib.hid (own_below HR9.out hb10 (Nat.le_refl _))
            have hz10 : w9.heap.size ≤ w10.heap.size := hb10.size
            obtain ⟨zd, HZD⟩ := name_it w9.heap.size
            rw [HZD.out] at HD10 ⊢
            clear hb10 hd10
            have K1 := Lib.hid (lenP_any HC10.out)
            have K2 := Lib.hid (nullsP_any HC10.out)
            have K3 := Lib.hid (nullsP_any HCB10.out)
            have K4 := Lib.hid (nullsT_any HA10.out)
            go_wp2_with (first
              | ((with_reducible refine K1.out.mono ?_); rintro e w' ⟨rfl, rfl⟩)
              | ((with_reducible refine K2.out.mono ?_); rintro e w' ⟨rfl, rfl⟩)
              | ((with_reducible refine K3.out.mono ?_); rintro e w' ⟨rfl, rfl⟩)
              | ((with_reducible refine K4.out.mono ?_); rintro e w' ⟨rfl, rfl⟩))
            have hz0 : z < w'.heap.size := by omega
            go_loopw [14, 15] (fun s14 s15 wr => ∃ (j : Nat), j ≤ M ∧ s15 = .int .i64 ((M : Int) - 1 - (j : Int)) ∧ LastAt z i M j zd ss xs va ua vb ub ba bb F nf w (.slice A8 M cp8) (pairCells (pickP xs (nats (oddN i)))) (pickedNull F (nats (oddN i))) vd ud bd s14 wr) (fun _ s15 _ => (intOf s15 + 1).toNat)
            case atStart => exact ⟨0, by omega, by simp, World.ownsRow_nil _ _ _ _, (fun g hg => by cases hg), HR10.out, HBZ10.out, hz0, HA10.out, HCB10.out, HD10.out⟩
            case round =>
              clear K1 K2 K3 K4 HR10 HBZ10 HA10 HCB10 HD10 HC10
              obtain ⟨j, hjM, rfl, hr14, hs148, hr8, hbz, hzl3, hca, hcb, hcd⟩ := hrel
              have H14 := Lib.hid hr14
              have HS14 := Lib.hid hs148
              have H8 := Lib.hid hr8
              have HBZ3 := Lib.hid hbz
              have HCA3 := Lib.hid hca
              have HCB3 := Lib.hid hcb
              have HCD3 := Lib.hid hcd
              clear hr14 hs148 hr8 hbz hca hcb hcd
              by_cases hjt : j < M
              · have hB3 : z + 1 ≤ wr.heap.size := hzl3
                have t1 : decide ((0 : Int) ≤ (M : Int) - 1 - j) = true := decide_eq_true (by omega)
                go_wp2_with (at_builtin; refine app_new rfl _ _ 23 rfl (z + 1) 3 (.int .i64 0) 1 8 Tryd.underlying23 infoInt rfl (by decide) _ _ _ rfl H14.out hB3 #[.int .i64 ((M : Int) - 1 - (j : Int))] 1 1 rfl rfl (one_int _ _) (by omega) (by omega) (by decide) ?_)
                intro g4 cp4 w4 ho4 hg4 hl4
                have hstep := rows_one (n4 := j + 1) (c4 := cp4) H14.out H8.out HS14.out hg4 hl4 HBZ3.out hzl3 HCA3.out HCB3.out
                obtain ⟨h8', h78, hbz4, hzl4, hca4, hcb4⟩ := hstep
                have HO4 := Lib.hid (show w4.ownsRow (z + 1) 3 1 (.slice (some ⟨g4, 0, none⟩) (j + 1) cp4) (j + 1) (ints (lastOf M (j + 1))) from by
                  rw [lastOf_succ, show ints (lastOf M j ++ [((M - 1 - j : Nat) : Int)]) = ints (lastOf M j) ++ [.int .i64 ((M : Int) - 1 - (j : Int))] by unfold ints; rw [List.map_append, show ((M - 1 - j : Nat) : Int) = (M : Int) - 1 - (j : Int) by omega]; rfl]
                  exact ho4)
                have HCD4 := Lib.hid (HCD3.out.grown H14.out hg4 (by decide) (by decide) (by decide))
                have H8' := Lib.hid h8'
                have H78 := Lib.hid h78
                have HBZ4 := Lib.hid hbz4
                have HCA4 := Lib.hid hca4
                have HCB4 := Lib.hid hcb4
                clear ho4 hg4 hl4 h8' h78 hbz4 hca4 hcb4
                go_wp2_with fail
                go_roundw
                case rel => exact ⟨j + 1, by omega, by congr 1; omega, HO4.out, H78.out, H8'.out, HBZ4.out, hzl4, HCA4.out, HCB4.out, HCD4.out⟩
                case measure => simp [intOf]; omega
              · have hje : j = M := by omega
                subst hje
                obtain ⟨A14, cp14, h14⟩ := slice_form H14.out
                subst h14
                have hpl : (pickP xs (nats (oddN i))).length = j := by simpa [pickP, nats] using HM.out
                have HPL := Lib.hid hpl
                have HT3 := Lib.hid (takeP_any (w := wr) (xs := pickP xs (nats (oddN i))) (fs := pickedNull F (nats (oddN i))) (by rw [hpl]; exact HCD3.out) (by rw [hpl]; simpa [pickedNull, nats] using HM.out) (by rw [hpl]; omega) A14 j cp14 (lastOf j j) (Reads.of_own H14.out) (by omega) (by rw [hpl]; exact lastOf_inside j))
                clear hpl
                go_wp2_with fail
                refine HT3.out.mono ?_
                rintro e w11 ⟨hb11, rfl, vg, ug, bg, hg11⟩
                rw [show (lastOf j j).length = j by simp [lastOf]] at hg11
                have HG11 := Lib.hid hg11
                have HBZ11 := Lib.hid (HBZ3.out.trans (hb11.mono (Nat.le_of_lt hzl3)))
                have HA11 := Lib.hid (HCA3.out.below hb11 (Nat.le_refl _))
                have HCB11 := Lib.hid (HCB3.out.below hb11 (Nat.le_refl _))
                have HR11 := Lib.hid (own_below H8.out hb11 (Nat.le_refl _))
                have hz11 : z < w11.heap.size := by have := hb11.size; omega
                obtain ⟨zg, HZG⟩ := name_it wr.heap.size
                rw [HZG.out] at HG11 ⊢
                have K1 := Lib.hid (lenP_any HG11.out)
                clear hb11 hg11
                go_wp2_with ((with_reducible refine K1.out.mono ?_); rintro e w' ⟨rfl, rfl⟩)
                go_loopw [17] (fun s17 wr => ∃ t : Nat, t ≤ j ∧ s17 = .int .i64 t ∧ LookAt z i j zg ss xs va ua vb ub ba bb F nf w (.slice A8 j cp8) vg ug bg wr) (fun s17 _ => j - (intOf s17).toNat)
                case atStart => exact ⟨0, by omega, rfl, HR11.out, HBZ11.out, hz11, HA11.out, HCB11.out, HG11.out⟩
                case round =>
                  clear K1 HR11 HBZ11 HA11 HCB11 HG11
                  obtain ⟨t, htj, rfl, hr8, hbz, hzl4, hca, hcb, hcg⟩ := hrel
                  have H8 := Lib.hid hr8
                  have HBZ4 := Lib.hid hbz
                  have HCA4 := Lib.hid hca
                  have HCB4 := Lib.hid hcb
                  have HCG4 := Lib.hid hcg
                  clear hr8 hbz hca hcb hcg
                  by_cases htt : t < j
                  · obtain ⟨q, HQ⟩ := name_it (j - 1 - t)
                    have hqj : q < j := by have := HQ.out; omega
                    have hq1 : (j : Int) - 1 - (t : Int) = (q : Int) := by have := HQ.out; omega
                    have hod : (oddN i)[q]? = some ((oddN i)[q]'(by rw [HM.out]; exact hqj)) := List.getElem?_eq_getElem _
                    obtain ⟨o, HO⟩ := name_it ((oddN i)[q]'(by rw [HM.out]; exact hqj))
                    rw [HO.out] at hod
                    have hoi : o < i := oddN_lt (List.mem_of_getElem? hod)
                    have hxo : xs[o]? = some (xs[o]'(by rw [HXS.out]; exact hoi)) := List.getElem?_eq_getElem _
                    obtain ⟨xy, HXY⟩ := name_it (xs[o]'(by rw [HXS.out]; exact hoi))
                    rw [HXY.out] at hxo
                    obtain ⟨x, y⟩ := xy
                    have hfo : F[o]? = some (F[o]'(by rw [HFL.out]; exact hoi)) := List.getElem?_eq_getElem _
                    obtain ⟨f, HFO⟩ := name_it (F[o]'(by rw [HFL.out]; exact hoi))
                    rw [HFO.out] at hfo
                    have hso : ss[o]? = some (ss[o]'(by rw [HSS.out]; exact hoi)) := List.getElem?_eq_getElem _
                    obtain ⟨sx, HSX⟩ := name_it (ss[o]'(by rw [HSS.out]; exact hoi))
                    rw [HSX.out] at hso
                    have hso2 : (ss.map Value.string)[o]? = some (.string sx) := by rw [List.getElem?_map, hso]; rfl
                    have hod2 : (oddN i)[j - 1 - t]? = some o := by rw [HQ.out]; exact hod
                    obtain ⟨g1, g2⟩ := pairCells_at (pick2 htt hod2 hxo)
                    obtain ⟨b1, b2⟩ := pairCells_at hxo
                    have HAT1 := Lib.hid (atP_yes HCG4.out (by simp [pickedNull, lastOf]) (by omega) t htt x y g1 g2 f (pick2N htt hod2 hfo))
                    obtain ⟨g8, c8, h8, _, _⟩ := H8.out.form (by omega)
                    injection h8 with h8 _ h8c
                    subst h8
                    clear h8c
                    have hc8 : wr.cell? ⟨g8, q, none⟩ = some (.int .i64 o) := by
                      rw [H8.out.cellAt q (by omega)]
                      unfold ints nats
                      rw [List.getElem?_map, List.getElem?_map, hod]; rfl
                    have hg8 : g8 < wr.heap.size := (H8.out.lt g8 rfl).2
                    have HB1' := Lib.hid b1
                    have HB2' := Lib.hid b2
                    have HFO2 := Lib.hid hfo
                    have HSO2 := Lib.hid hso2
                    have e1 : (0 : Int) ≤ t := by omega
                    have e2 : (t : Int) < j := by omega
                    have e3 : (0 : Int) ≤ q := by omega
                    have e4 : (q : Int) < j := by omega
                    clear hod hxo hfo hso hso2 hod2 g1 g2 b1 b2 HXY HFO HSX HO
                    go_wp2_with fail
                    refine HAT1.out.mono ?_
                    rintro e w5 ⟨rfl, hb5⟩
                    have HB5 := Lib.hid hb5
                    have hal5 := (Below.refl w5.heap.size w5).alloc (Nat.le_refl _) (.cells #[.int .i64 x, .string y] 68)
                    have hx5 := heap_alloc_new w5 (.cells #[.int .i64 x, .string y] 68)
                    obtain ⟨W6, HW6⟩ := name_it (w5.alloc (.cells #[.int .i64 x, .string y] 68))
                    rw [HW6.out] at hal5 hx5
                    obtain ⟨p5, HP5⟩ := name_it w5.heap.size
                    have HB6 := Lib.hid (hb5.trans (hal5.mono hb5.size))
                    rw [HP5.out] at hx5
                    have HX6 := Lib.hid hx5
                    have hp5 : p5 < W6.heap.size := blk_lt hx5
                    have hc86 : W6.cell? ⟨g8, q, none⟩ = some (.int .i64 o) := (HB6.out.cell (p := ⟨g8, q, none⟩) hg8).trans hc8
                    clear hb5 hal5 hx5 hc8
                    go_upto_region 38 with fail
                    rw [HW6.out, HP5.out]
                    have HAT2 := Lib.hid (atP_yes (HCB4.out.below HB6.out (Nat.le_refl _)) HFL.out (by omega) o hoi x y HB1'.out HB2'.out f HFO2.out)
                    go_wp2_with fail
                    refine HAT2.out.mono ?_
                    rintro e w7 ⟨rfl, hb7⟩
                    have hx7 := (hb7.block p5 hp5).trans HX6.out
                    have hal7 := (Below.refl w7.heap.size w7).alloc (Nat.le_refl _) (.cells #[.int .i64 x, .string y] 68)
                    have hx8 := heap_alloc_new w7 (.cells #[.int .i64 x, .string y] 68)
                    obtain ⟨W8, HW8⟩ := name_it (w7.alloc (.cells #[.int .i64 x, .string y] 68))
                    rw [HW8.out] at hal7 hx8
                    have hx78 := (hal7.block p5 (Nat.lt_of_lt_of_le hp5 hb7.size)).trans hx7
                    have hc88 : W8.cell? ⟨g8, q, none⟩ = some (.int .i64 o) := (hal7.cell (p := ⟨g8, q, none⟩) (Nat.lt_of_lt_of_le hg8 (Nat.le_trans HB6.out.size hb7.size))).trans ((hb7.cell (p := ⟨g8, q, none⟩) (Nat.lt_of_lt_of_le hg8 HB6.out.size)).trans hc86)
                    have HB8 := Lib.hid ((HB6.out.trans (hb7.mono HB6.out.size)).trans (hal7.mono (Nat.le_trans HB6.out.size hb7.size)))
                    obtain ⟨p7, HP7⟩ := name_it w7.heap.size
                    rw [HP7.out] at hx8
                    have HX8 := Lib.hid hx8
                    have HX78 := Lib.hid hx78
                    clear hb7 hx7 hal7 hx8 hx78 hc86
                    go_upto_region 39 with fail
                    rw [HW8.out, HP7.out]
                    have HAT3 := Lib.hid (atT_yes (HCA4.out.below HB8.out (Nat.le_refl _)) HFL.out (by omega) o hoi sx HSO2.out f HFO2.out)
                    go_wp2_with fail
                    refine HAT3.out.mono ?_
                    rintro e w9 ⟨rfl, mm, hw9⟩
                    have HB9 := Lib.hid (show Below wr.heap.size wr w9 from by rw [hw9]; exact HB8.out.trans ((Turn.drewN _ mm).below (fun _ _ h => h.elim) HB8.out.size))
                    have x50 : w9.cell? ⟨p5, 0, none⟩ = some (.int .i64 x) := by rw [hw9]; exact Lib.cell_of_heap HX78.out 0
                    have x51 : w9.cell? ⟨p5, 1, none⟩ = some (.string y) := by rw [hw9]; exact Lib.cell_of_heap HX78.out 1
                    have x70 : w9.cell? ⟨p7, 0, none⟩ = some (.int .i64 x) := by rw [hw9]; exact Lib.cell_of_heap HX8.out 0
                    have x71 : w9.cell? ⟨p7, 1, none⟩ = some (.string y) := by rw [hw9]; exact Lib.cell_of_heap HX8.out 1
                    have hneq := neq68 w9 x y
                    clear hw9 hc88
                    go_wp2_with fail
                    go_roundw
                    case rel => exact ⟨t + 1, by omega, by go_num, own_below H8.out HB9.out (Nat.le_refl _), HBZ4.out.trans (HB9.out.mono (Nat.le_of_lt hzl4)), by have := HB9.out.size; omega, HCA4.out.below HB9.out (Nat.le_refl _), HCB4.out.below HB9.out (Nat.le_refl _), HCG4.out.below HB9.out (Nat.le_refl _)⟩
                    case measure => simp [intOf]; omega
                  · have hte : t = j := by omega
                    subst hte
                    go_wp2_with fail
                    refine (wakes_any _).mono ?_
                    rintro e w12 ⟨rfl, hb12⟩
                    go_wp2_with fail
                    go_ret
                    exact ⟨rfl, by rw [HZ.out]; exact HBZ4.out.trans (hb12.mono (Nat.le_of_lt hzl4))⟩
end Go.Proofs.YtdhnmgndekncpaaDoor
