/- Walk of the law DictColumns. -/
import Derived.Test.YtdhnmgndekncpaaDoorN2
import Derived.Test.YtdhnmgndekncpaaDoorM1
namespace Go.Proofs.YtdhnmgndekncpaaDoor
open Go Go.RowKit Go.Maps Go.WideMaps

/-- Behind k cells. -/
def ColAt (L : List (Int × Bool)) (z k nl : Nat) (X : Obj) (w wr : World) : Prop :=
  nl ≤ k ∧ Below z w wr ∧ wr.heap[z]? = some X ∧ ∃ v u bs, Col 110 2 1 wr (z + 1) (z + 1) v u k ((valsOf (L.take k)).map (.int .i64)) bs (nullsOf (L.take k)) nl
theorem cells_length {w : World} {B n : Nat} {A : Option Addr} {L : List (Int × Bool)} (h : Reads w B 2 A n (cellsOf L)) : L.length = n := by
  have h1 := h.1
  have h2 : (cellsOf L).length = L.length * 2 := by
    unfold cellsOf
    induction L with
    | nil => rfl
    | cons a r ih =>
      rw [List.flatMap_cons, List.length_append, List.length_cons]
      have : (List.flatMap (fun c : Int × Bool => [Value.int .i64 c.1, Value.bool c.2]) r).length = r.length * 2 := by
        clear ih h h1
        induction r with
        | nil => rfl
        | cons b r ih => rw [List.flatMap_cons, List.length_append, ih, List.length_cons]; simp; omega
      rw [this]; simp; omega
  omega
/-- A cell's two parts in memory. -/
theorem reads_cell {w : World} {B n : Nat} {A : Option Addr} {L : List (Int × Bool)} (h : Reads w B 2 A n (cellsOf L)) {k : Nat} (hk : k < n) : ∃ ad N nu, A = some ad ∧ L[k]? = some (N, nu) ∧ w.cell? (ad.add (k * 2)) = some (.int .i64 N) ∧ w.cell? ⟨(ad.add (k * 2)).block, (ad.add (k * 2)).off + 1, none⟩ = some (.bool nu) := by
  have hl := cells_length h
  obtain ⟨ad, e, hb, hc⟩ := h.2 (by omega)
  obtain ⟨x, hx⟩ : ∃ x, L[k]? = some x := ⟨L[k]'(by omega), List.getElem?_eq_getElem _⟩
  obtain ⟨q1, q2⟩ := cellsOf_at hx
  have k2 := hc _ _ q2
  rw [← add_of_add] at k2
  exact ⟨ad, x.1, x.2, e, hx, hc _ _ q1, k2⟩
theorem colAt_next {L : List (Int × Bool)} {z k nl nl' : Nat} {X : Obj} {w wr w6 : World} {v u v6 u6 : Value} {bs bs6 : List Nat} {N : Int} {nu : Bool} (hx : L[k]? = some (N, nu)) (hz : Below z w wr) (hX : wr.heap[z]? = some X)
    (hc : Col 110 2 1 wr (z + 1) (z + 1) v u k ((valsOf (L.take k)).map (.int .i64)) bs (nullsOf (L.take k)) nl) (ht : Turn (SC (z + 1) v u) wr w6)
    (h6 : Col 110 2 1 w6 (z + 1) (z + 1) v6 u6 (k + 1) ((valsOf (L.take k)).map (.int .i64) ++ [.int .i64 (if nu then 0 else N)]) bs6 (nullsOf (L.take k) ++ [nu]) nl') (hnl : nl' ≤ k + 1) : ColAt L z (k + 1) nl' X w w6 := by
  have hlz := blk_lt hX
  refine ⟨hnl, hz.trans (ht.below (fun i _ h => by have := (SC_ge hc i h).1; omega) (by omega)), (ht.block z hlz (fun h => by have := (SC_ge hc z h).1; omega)).trans hX, v6, u6, bs6, ?_⟩
  rw [take_more hx]
  have h1 : (valsOf (L.take k ++ [(N, nu)])).map (Value.int .i64) = (valsOf (L.take k)).map (.int .i64) ++ [.int .i64 (if nu then 0 else N)] := by unfold valsOf; simp
  have h2 : nullsOf (L.take k ++ [(N, nu)]) = nullsOf (L.take k) ++ [nu] := by unfold nullsOf; simp
  rw [h1, h2]
  exact h6

theorem Col.drew {C E sz : Nat} {w : World} {B c nl : Nat} {v u : Value} {n : Nat} {vs : List Value} {bs : List Nat} {fs : List Bool} (h : Col C E sz w B c v u n vs bs fs nl) : Col C E sz w.drew B c v u n vs bs fs nl :=
  h.turn (Turn.refl (fun _ => False) w).drew (fun h => h) (fun _ _ h => h) (fun _ _ h => h)

/-- Both columns, what was taken and what it was taken of. -/
def BothAt (z k nl : Nat) (X : List Int) (F : List Bool) (ts : List Int) (v u : Value) (bs : List Nat) (v8 u8 : Value) (bs8 : List Nat) (nl8 : Nat) (O : Obj) (z8 : Nat) (w8 wr : World) : Prop :=
  Turn (fun _ => False) w8 wr ∧ wr.heap[z]? = some O ∧ Col 110 2 1 wr (z + 1) (z + 1) v u k (X.map (.int .i64)) bs F nl ∧ Col 110 2 1 wr z8 z8 v8 u8 ts.length (picked X ts) bs8 (pickedNull F ts) nl8

set_option maxRecDepth 100000 in
set_option maxHeartbeats 8000000 in
theorem columns_any (A : Option Addr) (n cap : Nat) (A1 : Option Addr) (n1 cap1 : Nat) (A2 : Option Addr) (n2 cap2 : Nat) (L : List (Int × Bool)) (ys ts : List Int) (w : World)
    (hr : Reads w w.heap.size 2 A n (cellsOf L)) (hr1 : Reads w w.heap.size 1 A1 n1 (ints ys)) (hr2 : Reads w w.heap.size 1 A2 n2 (ints ts)) (hn2 : n2 < 17592186044415) :
    Calls Tryd.prog 5 #[.agg #[.slice A n cap, .slice A1 n1 cap1, .slice A2 n2 cap2]] w fun e w' => e = .returned (.bool true) ∧ Below w.heap.size w w' := by
  have HR := Lib.hid hr
  have HR1 := Lib.hid hr1
  have HR2 := Lib.hid hr2
  have HLL := Lib.hid (cells_length hr)
  clear hr hr1 hr2
  have HW1 := Lib.hid (show (w.alloc (.cells #[.slice A n cap, .slice A1 n1 cap1, .slice A2 n2 cap2] 50)).heap[w.heap.size]? = some (.cells #[.slice A n cap, .slice A1 n1 cap1, .slice A2 n2 cap2] 50 (0, 0)) from heap_alloc_new w _)
  have HB1 := Lib.hid ((Below.refl w.heap.size w).alloc (Nat.le_refl _) (.cells #[.slice A n cap, .slice A1 n1 cap1, .slice A2 n2 cap2] 50))
  have HS1 := Lib.hid (show (w.alloc (.cells #[.slice A n cap, .slice A1 n1 cap1, .slice A2 n2 cap2] 50)).heap.size = w.heap.size + 1 by simp)
  go_enter Tryd.func5, Tryd.ntmps5
  go_wp2_with fail
  refine (newI_any _).mono ?_
  rintro e w2 ⟨rfl, hd, hb2, hs2⟩
  obtain ⟨z, HZ⟩ := name_it w.heap.size
  rw [HS1.out] at hd hb2 hs2 ⊢
  rw [HZ.out] at HR HR1 HR2 HW1 HB1 hd hb2 hs2 ⊢
  have HW2 := Lib.hid ((hb2.block z (by omega)).trans HW1.out)
  have HD2 := Lib.hid hd
  have HBB := Lib.hid (HB1.out.trans (hb2.mono (by omega)))
  have HZ2 := Lib.hid hs2
  clear hd hb2 hs2
  go_wp2_with fail
  go_loopw [4, 5] (fun s4 i wr => ∃ k nl : Nat, k ≤ n ∧ k ≤ 300 ∧ s4 = .int .i64 nl ∧ i = .int .i64 k ∧ ColAt L z k nl (.cells #[.slice A n cap, .slice A1 n1 cap1, .slice A2 n2 cap2] 50 (0, 0)) w wr) (fun _ i _ => n - (intOf i).toNat)
  case atStart => exact ⟨0, 0, by omega, by omega, rfl, rfl, Nat.le_refl _, HBB.out, HW2.out, _, _, _, HD2.out⟩
  case round =>
    obtain ⟨k, nl, hkn, hk3, rfl, rfl, hnl, hbz, hbox, v, u, bs, hc⟩ := hrel
    have c0 : wr.cell? ⟨z, 0, none⟩ = some (.slice A n cap) := Lib.cell_of_heap hbox 0
    have c1 : wr.cell? ⟨z, 1, none⟩ = some (.slice A1 n1 cap1) := Lib.cell_of_heap hbox 1
    have c2 : wr.cell? ⟨z, 2, none⟩ = some (.slice A2 n2 cap2) := Lib.cell_of_heap hbox 2
    have HBZ := Lib.hid hbz
    have HBOX := Lib.hid hbox
    have HC := Lib.hid hc
    have hfl : (nullsOf (L.take k)).length = k := by have := HLL.out; simp [nullsOf]; omega
    have HFL := Lib.hid hfl
    clear hbz hbox hc hfl
    go_upto_region 6 with fail
    go_cut [29] (fun s29 wx => s29 = .bool (decide (k < n ∧ k < 300)) ∧ wx = wr)
    case first =>
      by_cases h1 : k < n
      · by_cases h2 : k < 300
        · go_wp2_with fail
          go_meet
          exact ⟨by simp [h1]; omega, rfl⟩
        · go_wp2_with fail
          go_meet
          exact ⟨by simp [h1]; omega, rfl⟩
      · go_wp2_with fail
        go_meet
        exact ⟨by simp [h1], rfl⟩
    case rest =>
      obtain ⟨h29, rfl⟩ := hcut
      by_cases hlt : k < n ∧ k < 300
      · have t1 : decide (k < n ∧ k < 300) = true := decide_eq_true hlt
        rw [t1] at h29
        subst h29
        clear t1
        obtain ⟨hlt, h300⟩ := hlt
        obtain ⟨ad, N, nu, rfl, hx, k1, k2⟩ := reads_cell (HR.out.below HBZ.out) hlt
        have e1 : (0 : Int) ≤ k := by omega
        have e2 : (k : Int) < n := by omega
        have HX := Lib.hid hx
        clear hx
        cases nu with
        | true =>
          have HP := Lib.hid (nullI_any HC.out HFL.out (by omega) hnl)
          go_wp2_with fail
          refine HP.out.mono ?_
          rintro e w6 ⟨rfl, ⟨v6, u6, bs6, hc6, _, _⟩, ht6⟩
          have HC6 := Lib.hid hc6
          have HT6 := Lib.hid ht6
          clear hc6 ht6
          go_wp2_with fail
          go_roundw
          case rel => exact ⟨k + 1, nl + 1, by omega, by omega, by go_num, by go_num, colAt_next HX.out HBZ.out HBOX.out HC.out HT6.out HC6.out (by omega)⟩
          case measure => simp [intOf]; omega
        | false =>
          have HP := Lib.hid (putI_any HC.out HFL.out (by omega) hnl N)
          go_wp2_with fail
          refine HP.out.mono ?_
          rintro e w6 ⟨rfl, ⟨v6, u6, bs6, hc6, _, _⟩, ht6⟩
          have HC6 := Lib.hid hc6
          have HT6 := Lib.hid ht6
          clear hc6 ht6
          go_wp2_with fail
          go_roundw
          case rel => exact ⟨k + 1, nl, by omega, by omega, rfl, by go_num, colAt_next HX.out HBZ.out HBOX.out HC.out HT6.out HC6.out (by omega)⟩
          case measure => simp [intOf]; omega
      · have t1 : decide (k < n ∧ k < 300) = false := decide_eq_false hlt
        rw [t1] at h29
        subst h29
        clear t1
        have hM : (L.take k).length = k := by have := HLL.out; simp; omega
        have HM := Lib.hid hM
        clear hM
        have HLE := Lib.hid (lenI_any HC.out)
        have HNU := Lib.hid (nullsI_any HC.out)
        go_upto_if 54 with fail
        go_cut [6] (fun s6 wx => s6 = .int .i64 k ∧ wx = wc)
        case first =>
          by_cases h3 : n ≤ 300
          · have hke : k = n := by omega
            subst hke
            go_wp2_with fail
            go_meet
            exact ⟨rfl, rfl⟩
          · have hke : k = 300 := by omega
            subst hke
            have h3' : (300 : Int) < n := by omega
            go_wp2_with fail
            go_meet
            exact ⟨rfl, rfl⟩
        case rest =>
          obtain ⟨rfl, rfl⟩ := hcut
          go_wp2_with (first
            | (go_at_call 27; refine HLE.out.mono ?_; rintro e w7 ⟨rfl, rfl⟩)
            | (go_at_call 28; refine HNU.out.mono ?_; rintro e w7 ⟨rfl, rfl⟩))
          go_loopw [7] (fun i wr => ∃ j : Nat, j ≤ n1 ∧ j ≤ 60 ∧ i = .int .i64 j ∧ ColAt L z k nl (.cells #[.slice A n cap, .slice A1 n1 cap1, .slice A2 n2 cap2] 50 (0, 0)) w wr) (fun i _ => n1 - (intOf i).toNat)
          case atStart => exact ⟨0, by omega, by omega, rfl, hnl, HBZ.out, HBOX.out, v, u, bs, HC.out⟩
          case round =>
            clear HBZ HBOX HC HLE HNU c0 c1 c2
            obtain ⟨j, hj1, hj6, rfl, _, hbz, hbox, v, u, bs, hc⟩ := hrel
            have c0 : wr.cell? ⟨z, 0, none⟩ = some (.slice A n cap) := Lib.cell_of_heap hbox 0
            have c1 : wr.cell? ⟨z, 1, none⟩ = some (.slice A1 n1 cap1) := Lib.cell_of_heap hbox 1
            have c2 : wr.cell? ⟨z, 2, none⟩ = some (.slice A2 n2 cap2) := Lib.cell_of_heap hbox 2
            have HBZ := Lib.hid hbz
            have HBOX := Lib.hid hbox
            have HC := Lib.hid hc
            clear hbz hbox hc
            go_upto_region 18 with fail
            go_cut [73] (fun s73 wx => s73 = .bool (decide (j < n1 ∧ j < 60)) ∧ wx = wr)
            case first =>
              by_cases h1 : j < n1
              · by_cases h2 : j < 60
                · go_wp2_with fail
                  go_meet
                  exact ⟨by simp [h1]; omega, rfl⟩
                · go_wp2_with fail
                  go_meet
                  exact ⟨by simp [h1]; omega, rfl⟩
              · go_wp2_with fail
                go_meet
                exact ⟨by simp [h1], rfl⟩
            case rest =>
              obtain ⟨h73, rfl⟩ := hcut
              by_cases hlt1 : j < n1 ∧ j < 60
              · have t1 : decide (j < n1 ∧ j < 60) = true := decide_eq_true hlt1
                rw [t1] at h73
                subst h73
                clear t1
                obtain ⟨hlt1, h60⟩ := hlt1
                obtain ⟨ad, y, rfl, hy, hcy⟩ := reads_int (HR1.out.below HBZ.out) hlt1
                clear hy
                have e1 : (0 : Int) ≤ j := by omega
                have e2 : (j : Int) < n1 := by omega
                go_wp2_with fail
                go_still_tail 8, (by kernel_rfl)
                change wpList _ _ _ _ _ (World.drew _)
                go_wp2_with fail
                have hsz : wc.drew.heap.size = wc.heap.size := rfl
                have hzl : z < wc.heap.size := blk_lt HBOX.out
                have hcell := cell_any (w := wc.drew) (L := L) (M := L.take k) (by rw [HM.out]; exact HC.out.drew) (by rw [HM.out]; exact hk3) (fun i hi => (List.getElem?_take_of_lt (by rw [HM.out] at hi; exact hi)).symm) A n cap (some ad) n1 cap1 A2 n2 cap2 ((HR.out.below HBZ.out).drew.more (by omega)) (by rw [HM.out]; exact hkn) y
                rw [HM.out] at hcell
                have HCELL := Lib.hid hcell
                clear hcell hsz
                refine HCELL.out.mono ?_
                rintro e w8 ⟨rfl, hb8⟩
                have HB8 := Lib.hid hb8
                clear hb8
                go_wp2_with fail
                go_roundw
                case rel => exact ⟨j + 1, by omega, by omega, by go_num, hnl, HBZ.out.drew.trans (HB8.out.mono (Nat.le_of_lt hzl)), (HB8.out.block z hzl).trans HBOX.out, v, u, bs, HC.out.drew.below HB8.out (Nat.le_refl _)⟩
                case measure => simp [intOf]; omega
              · have t1 : decide (j < n1 ∧ j < 60) = false := decide_eq_false hlt1
                rw [t1] at h73
                subst h73
                clear t1
                have hlm : (valsOf (L.take k)).length = k := by have := HM.out; simpa [valsOf] using this
                have hln : (nullsOf (L.take k)).length = k := by have := HM.out; simpa [nullsOf] using this
                obtain ⟨X, HXX⟩ := name_it (valsOf (L.take k))
                obtain ⟨F, HFF⟩ := name_it (nullsOf (L.take k))
                rw [HXX.out] at hlm HC
                rw [HFF.out] at hln HC
                have hzl : z < wc.heap.size := blk_lt HBOX.out
                have HTAKE := Lib.hid (takeI_any (w := wc) (xs := X) (fs := F) (by rw [hlm]; exact HC.out) (by rw [hlm, hln]) (by omega) A2 n2 cap2 ts ((HR2.out.below HBZ.out).more (Nat.le_of_lt hzl)) (by omega))
                have HLM := Lib.hid hlm
                have HLN := Lib.hid hln
                have htl : ts.length = n2 := by have := HR2.out.1; simpa [ints] using this
                have HTL := Lib.hid htl
                clear hlm hln htl
                go_wp2_with fail
                refine HTAKE.out.mono ?_
                rintro e w8 ⟨hb8, hres⟩
                have HB8 := Lib.hid hb8
                have HBZ8 := Lib.hid (HBZ.out.trans (hb8.mono (Nat.le_of_lt hzl)))
                have HBOX8 := Lib.hid ((hb8.block z hzl).trans HBOX.out)
                have HC8 := Lib.hid (HC.out.below hb8 (Nat.le_refl _))
                have d2 : w8.cell? ⟨z, 2, none⟩ = some (.slice A2 n2 cap2) := Lib.cell_of_heap HBOX8.out 2
                have hz8 : wc.heap.size ≤ w8.heap.size := hb8.size
                obtain ⟨z8, HZ8⟩ := name_it wc.heap.size
                have hc8l := (SC_ge HC.out)
                rw [HZ8.out] at hres hz8 hzl hc8l
                have HCL := Lib.hid hc8l
                clear hb8 c0 c1 c2 hc8l
                rcases hres with ⟨hin, rfl, v8, u8, bs8, nl8, hnl8, hc8⟩ | ⟨hbad, rfl⟩
                · have HIN := Lib.hid hin
                  have HC9 := Lib.hid hc8
                  clear hin hc8
                  go_wp2_with fail
                  go_loop [10] (fun i => ∃ j : Nat, j ≤ n2 ∧ i = .int .i64 j) (fun i => n2 - (intOf i).toNat)
                  case atStart => exact ⟨0, by omega, rfl⟩
                  case round =>
                    obtain ⟨i, hi, rfl⟩ := hrel
                    by_cases hit : i < n2
                    · obtain ⟨ad, y, rfl, hy, hcy⟩ := reads_int (HR2.out.below HBZ8.out) hit
                      have hyin := HIN.out y (List.mem_of_getElem? hy)
                      have HYI := Lib.hid hyin
                      have y1 : 0 ≤ y := hyin.1
                      have y2 : y < (k : Int) := by have := hyin.2; rw [HLM.out] at this; exact this
                      have e1 : (0 : Int) ≤ i := by omega
                      have e2 : (i : Int) < n2 := by omega
                      clear hy hyin
                      go_wp2_with fail
                      go_round
                      case rel => exact ⟨i + 1, by omega, by go_num⟩
                      case measure => simp [intOf]; omega
                    · have hie : i = n2 := by omega
                      subst hie
                      have HLT := Lib.hid (show ∀ m, Calls Tryd.prog 27 #[.pointer (some ⟨z8, 0, none⟩)] (w8.drewN m) fun e w' => e = .returned (.int .i64 (i : Int)) ∧ w' = w8.drewN m from fun m => by
                        have h9 := lenI_any (HC9.out.drewN m)
                        rw [HTL.out] at h9
                        exact h9)
                      go_wp2_with fail
                      go_quiet ((go_at_call 27; exact Calls.quiet_of_same (HLT.out _)))
                      go_wp2_with fail
                      go_loopw [11] (fun s11 wr => ∃ j : Nat, j ≤ i ∧ j ≤ 100 ∧ s11 = .int .i64 j ∧ BothAt z k nl X F ts v u bs v8 u8 bs8 nl8 (.cells #[.slice A n cap, .slice A1 n1 cap1, .slice A2 i cap2] 50 (0, 0)) z8 w8 wr) (fun s11 _ => i - (intOf s11).toNat)
                      case atStart => exact ⟨0, by omega, by omega, rfl, Turn.drewN _ _, HBOX8.out, HC8.out.drewN _, HC9.out.drewN _⟩
                      case round =>
                        obtain ⟨j, hj, hj100, rfl, hT, hbox, hcc, hct⟩ := hrel
                        have HT9 := Lib.hid hT
                        have HBOX9 := Lib.hid hbox
                        have HCC := Lib.hid hcc
                        have HCT := Lib.hid hct
                        have HBZ9 := Lib.hid (HBZ8.out.trans (hT.below (B := z) (fun i _ h => h.elim) (by omega)))
                        have f2 : wr.cell? ⟨z, 2, none⟩ = some (.slice A2 i cap2) := Lib.cell_of_heap hbox 2
                        clear hT hbox hcc hct d2
                        go_upto_region 31 with fail
                        go_cut [146] (fun s146 wx => s146 = .bool (decide (j < i ∧ j < 100)) ∧ wx = wr)
                        case first =>
                          by_cases h1 : j < i
                          · by_cases h2 : j < 100
                            · go_wp2_with fail
                              go_meet
                              exact ⟨by simp [h1]; omega, rfl⟩
                            · go_wp2_with fail
                              go_meet
                              exact ⟨by simp [h1]; omega, rfl⟩
                          · go_wp2_with fail
                            go_meet
                            exact ⟨by simp [h1], rfl⟩
                        case rest =>
                          obtain ⟨h146, rfl⟩ := hcut
                          by_cases hjt : j < i ∧ j < 100
                          · have t1 : decide (j < i ∧ j < 100) = true := decide_eq_true hjt
                            rw [t1] at h146
                            subst h146
                            clear t1
                            obtain ⟨hjt, hj1⟩ := hjt
                            obtain ⟨ad, y, rfl, hy, hcy⟩ := reads_int (HR2.out.below HBZ9.out) hjt
                            have hyin := HIN.out y (List.mem_of_getElem? hy)
                            obtain ⟨m, rfl⟩ := Int.eq_ofNat_of_zero_le hyin.1
                            have hm : m < X.length := by have := hyin.2; omega
                            have hmf : m < F.length := by rw [HLN.out, ← HLM.out]; exact hm
                            have hmk : m < k := by rw [← HLM.out]; exact hm
                            have HAT := Lib.hid (atI_yes HCT.out (by simp [pickedNull]) (by rw [HTL.out]; omega) j (by rw [HTL.out]; exact hjt) (X[m]'hm) (by unfold picked; rw [List.getElem?_map, hy]; simp [List.getD_eq_getElem?_getD, List.getElem?_eq_getElem hm]) (F[m]'hmf) (by unfold pickedNull; rw [List.getElem?_map, hy]; simp [List.getD_eq_getElem?_getD, List.getElem?_eq_getElem hmf]))
                            obtain ⟨x, HX⟩ := name_it (X[m]'hm)
                            obtain ⟨f, HF⟩ := name_it (F[m]'hmf)
                            have hxm : (X.map (Value.int .i64))[m]? = some (.int .i64 x) := by rw [List.getElem?_map, List.getElem?_eq_getElem hm, HX.out]; rfl
                            have hfm : F[m]? = some f := by rw [List.getElem?_eq_getElem hmf, HF.out]
                            have HXM := Lib.hid hxm
                            have HFM := Lib.hid hfm
                            rw [HX.out, HF.out] at HAT
                            have e1 : (0 : Int) ≤ j := by omega
                            have e2 : (j : Int) < i := by omega
                            clear hy hyin hxm hfm HX HF
                            go_wp2_with fail
                            refine HAT.out.mono ?_
                            rintro e w10 ⟨rfl, m10, hw10⟩
                            have HCC2 := Lib.hid (show Col 110 2 1 w10 _ _ _ _ k _ _ _ _ from by rw [hw10]; exact HCC.out.drewN m10)
                            have HCT2 := Lib.hid (show Col 110 2 1 w10 _ _ _ _ _ _ _ _ _ from by rw [hw10]; exact HCT.out.drewN m10)
                            have HT10 := Lib.hid (show Turn (fun _ => False) w8 w10 from by rw [hw10]; exact HT9.out.trans (Turn.drewN _ m10))
                            have f3 : w10.cell? ⟨z, 2, none⟩ = some (.slice (some ad) i cap2) := by rw [hw10]; exact f2
                            have hcy2 : w10.cell? (ad.add j) = some (.int .i64 m) := by rw [hw10]; exact hcy
                            have HAT2 := Lib.hid (atI_yes HCC2.out HLN.out (by omega) m hmk x HXM.out f HFM.out)
                            have HB10 := Lib.hid (show w10.heap[z]? = some (.cells #[.slice A n cap, .slice A1 n1 cap1, .slice (some ad) i cap2] 50 (0, 0)) from by rw [hw10]; exact HBOX9.out)
                            clear hw10 f2 hcy
                            go_wp2_with fail
                            refine HAT2.out.mono ?_
                            rintro e w11 ⟨rfl, m11, hw11⟩
                            have HCC3 := Lib.hid (show Col 110 2 1 w11 _ _ _ _ k _ _ _ _ from by rw [hw11]; exact HCC2.out.drewN m11)
                            have HCT3 := Lib.hid (show Col 110 2 1 w11 _ _ _ _ _ _ _ _ _ from by rw [hw11]; exact HCT2.out.drewN m11)
                            have HT11 := Lib.hid (show Turn (fun _ => False) w8 w11 from by rw [hw11]; exact HT10.out.trans (Turn.drewN _ m11))
                            have HB11 := Lib.hid (show w11.heap[z]? = some (.cells #[.slice A n cap, .slice A1 n1 cap1, .slice (some ad) i cap2] 50 (0, 0)) from by rw [hw11]; exact HB10.out)
                            clear hw11 f3 hcy2
                            go_wp2_with fail
                            go_roundw
                            case rel => exact ⟨j + 1, by omega, by omega, by go_num, HT11.out, HB11.out, HCC3.out, HCT3.out⟩
                            case measure => simp [intOf]; omega
                          · have t1 : decide (j < i ∧ j < 100) = false := decide_eq_false hjt
                            rw [t1] at h146
                            subst h146
                            clear t1
                            have HP := Lib.hid (putI_any HCT.out (by simp [pickedNull]) (by rw [HTL.out]; omega) hnl8 1)
                            go_wp2_with fail
                            refine HP.out.mono ?_
                            rintro e w12 ⟨rfl, _, ht12⟩
                            have hlo := SC_ge HCT.out
                            have HT12 := Lib.hid ht12
                            have HC12 := Lib.hid (HCC.out.turn ht12 (fun h => by have := (hlo _ h).1; have := (HCL.out _ (.inl rfl)).2; omega) (fun g hg h => by have := (hlo _ h).1; have := (HCL.out g (.inr (.inl hg.symm))).2; omega) (fun g hg h => by have := (hlo _ h).1; have := (HCL.out g (.inr (.inr hg.symm))).2; omega))
                            have HBZ12 := Lib.hid (HBZ9.out.trans (ht12.below (B := z) (fun q _ h => by have := (hlo q h).1; omega) (by have := blk_lt HBOX9.out; omega)))
                            have hz12 : z ≤ w12.heap.size := by have := ht12.size; have := blk_lt HBOX9.out; omega
                            have HLE2 := Lib.hid (lenI_any HC12.out)
                            clear ht12 hlo f2
                            go_wp2_with fail
                            refine HLE2.out.mono ?_
                            rintro e w13 ⟨rfl, rfl⟩
                            go_wp2_with fail
                            refine (wakes_any _).mono ?_
                            rintro e w14 ⟨rfl, hb14⟩
                            go_wp2_with fail
                            go_ret
                            exact ⟨rfl, by rw [HZ.out]; exact HBZ12.out.trans (hb14.mono hz12)⟩
                · have HBAD := Lib.hid hbad
                  clear hbad
                  go_wp2_with fail
                  go_loop [10] (fun i => ∃ j : Nat, j ≤ n2 ∧ i = .int .i64 j ∧ Hid (∀ y ∈ ts.take j, inside X.length y)) (fun i => n2 - (intOf i).toNat)
                  case atStart => exact ⟨0, by omega, rfl, Lib.hid (by simp)⟩
                  case round =>
                    obtain ⟨i, hi, rfl, hall⟩ := hrel
                    by_cases hit : i < n2
                    · obtain ⟨ad, y, rfl, hy, hcy⟩ := reads_int (HR2.out.below HBZ8.out) hit
                      have HY := Lib.hid hy
                      have e1 : (0 : Int) ≤ i := by omega
                      have e2 : (i : Int) < n2 := by omega
                      clear hy
                      by_cases y1 : 0 ≤ y
                      · by_cases y2 : y < (k : Int)
                        · go_wp2_with fail
                          go_round
                          case rel =>
                            refine ⟨i + 1, by omega, by go_num, Lib.hid ?_⟩
                            rw [take_more HY.out]
                            intro x hx
                            rcases List.mem_append.1 hx with hx | hx
                            · exact hall.out x hx
                            · rw [List.mem_singleton.1 hx]; exact ⟨y1, by rw [HLM.out]; exact y2⟩
                          case measure => simp [intOf]; omega
                        · have y3 : (k : Int) ≤ y := by omega
                          go_wp2_with fail
                          refine (wakes_any _).mono ?_
                          rintro e w9 ⟨rfl, hb9⟩
                          go_wp2_with fail
                          go_ret
                          exact ⟨rfl, by rw [HZ.out]; exact HBZ8.out.trans (hb9.mono (by have := blk_lt HBOX8.out; omega))⟩
                      · have y3 : y < 0 := by omega
                        go_wp2_with fail
                        refine (wakes_any _).mono ?_
                        rintro e w9 ⟨rfl, hb9⟩
                        go_wp2_with fail
                        go_ret
                        exact ⟨rfl, by rw [HZ.out]; exact HBZ8.out.trans (hb9.mono (by have := blk_lt HBOX8.out; omega))⟩
                    · exfalso
                      have hie : i = n2 := by omega
                      subst hie
                      obtain ⟨y, hy, hn⟩ := HBAD.out
                      exact hn (hall.out y (by rw [List.take_of_length_le (by rw [HTL.out]; exact Nat.le_refl _)]; exact hy))
end Go.Proofs.YtdhnmgndekncpaaDoor
