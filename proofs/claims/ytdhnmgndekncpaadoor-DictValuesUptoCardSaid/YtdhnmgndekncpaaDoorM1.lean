/- Two keys, three cells: 'wakes' answers true. -/
import Derived.Test.YtdhnmgndekncpaaDoorM0
namespace Go.Proofs.YtdhnmgndekncpaaDoor
open Go Go.RowKit Go.Maps Go.WideMaps

theorem VS_a : VS ⟨#[97]⟩ := by unfold VS; decide
theorem VS_b : VS ⟨#[98]⟩ := by unfold VS; decide
theorem a_new : (⟨#[97]⟩ : ByteArray) ∉ ([] ++ [⟨#[98]⟩] : List ByteArray) := by simp
theorem b_old : (⟨#[98]⟩ : ByteArray) ∈ (([] ++ [⟨#[98]⟩]) ++ [⟨#[97]⟩] : List ByteArray) := by simp
theorem b_place : place (([] ++ [⟨#[98]⟩]) ++ [⟨#[97]⟩] : List ByteArray) ⟨#[98]⟩ = 0 := by decide

theorem fresh_lo {w : World} {v v' : Value} {s : Nat} (h : v'.ownBlock = v.ownBlock ∨ ∀ g, v'.ownBlock = some g → w.heap.size ≤ g) (h1 : ∀ g, v.ownBlock = some g → s ≤ g) (h2 : s ≤ w.heap.size) : ∀ g, v'.ownBlock = some g → s ≤ g := fun g hg => by
  rcases h with h | h
  · exact h1 g (h ▸ hg)
  · exact Nat.le_trans h2 (h g hg)
theorem nil_lo (s : Nat) : ∀ g, (Value.slice none 0 0).ownBlock = some g → s ≤ g := fun g hg => by cases hg

set_option maxRecDepth 100000 in
set_option maxHeartbeats 1000000 in
theorem wakes_any (w : World) : Calls Tryd.prog 20 #[] w fun e w' => e = .returned (.bool true) ∧ Below w.heap.size w w' := by
  go_enter Tryd.func20, Tryd.ntmps20
  go_wp2_with fail
  refine (newS_size w).mono ?_
  rintro e w1 ⟨rfl, hd1, hb1, hs1⟩
  have HD1 := Lib.hid hd1
  have HB1 := Lib.hid hb1
  have HS1 := Lib.hid hs1
  clear hd1 hb1 hs1
  go_wp2_with fail
  refine (newI_any w1).mono ?_
  rintro e w2 ⟨rfl, hc2, hb2, hs2⟩
  have HC2 := Lib.hid hc2
  have HB2 := Lib.hid hb2
  have HS2 := Lib.hid hs2
  have HD2 := Lib.hid (HD1.out.below hb2 HD1.out.lt.1 HD1.out.lt.2.1 (fun g hg => (HD1.out.lt.2.2 g hg).2))
  clear hc2 hb2 hs2
  go_wp2_with fail
  refine (newV_any w2).mono ?_
  rintro e w3 ⟨rfl, hv3, hb3, hs3⟩
  have HV3 := Lib.hid hv3
  have HB3 := Lib.hid hb3
  have HS3 := Lib.hid hs3
  have HD3 := Lib.hid (HD2.out.below hb3 HD2.out.lt.1 HD2.out.lt.2.1 (fun g hg => (HD2.out.lt.2.2 g hg).2))
  have HC3 := Lib.hid (HC2.out.below hb3 (Nat.le_refl _))
  clear hv3 hb3 hs3
  obtain ⟨s, HS⟩ := name_it w.heap.size
  rw [HS.out] at HD1 HD2 HD3 HB1 ⊢
  rw [HS.out] at HS1
  obtain ⟨s1, HSS1⟩ := name_it w1.heap.size
  rw [HSS1.out] at HC2 HC3 HS1 HS2 HB2 ⊢
  obtain ⟨s2, HSS2⟩ := name_it w2.heap.size
  rw [HSS2.out] at HV3 HS2 HS3 HB3 ⊢
  have hz1 : s1 = s + 2 := HS1.out
  have hz2 : s2 = s1 + 1 := HS2.out
  have hz3 : w3.heap.size = s2 + 3 := HS3.out
  have HZ1 := Lib.hid hz1
  have HZ2 := Lib.hid hz2
  have HZ3 := Lib.hid hz3
  clear hz1 hz2 hz3
  go_wp2_with fail
  refine (idS_new HD3.out ⟨#[98]⟩ VS_b (by simp) (by simp)).mono ?_
  rintro e w4 ⟨rfl, ⟨v4, hd4, hf4⟩, ht4⟩
  have hz4 : s + 6 ≤ w4.heap.size := by have := ht4.size; have := HZ1.out; have := HZ2.out; have := HZ3.out; omega
  have HR4 := Lib.hid (fresh_lo (s := s + 6) hf4 (nil_lo _) (by have := HZ1.out; have := HZ2.out; have := HZ3.out; omega))
  have HC4 := Lib.hid (HC3.out.turn ht4 (by rintro (h | h | h); all_goals first | (cases h; done) | (have := HZ1.out; omega)) (fun g hg => by cases hg) (fun g hg => by cases hg))
  have HT4 := Lib.hid ht4
  have HD4 := Lib.hid hd4
  clear hd4 hf4 ht4
  go_wp2_with fail
  refine (idS_new HD4.out ⟨#[97]⟩ VS_a a_new (by simp)).mono ?_
  rintro e w5 ⟨rfl, ⟨v5, hd5, hf5⟩, ht5⟩
  have HR5 := Lib.hid (fresh_lo (s := s + 6) hf5 HR4.out hz4)
  have hz5 : s + 6 ≤ w5.heap.size := by have := ht5.size; omega
  have HC5 := Lib.hid (HC4.out.turn ht5 (by rintro (h | h | h); all_goals first | (have := HZ1.out; omega) | (have := HR4.out _ h.symm; have := HZ1.out; omega)) (fun g hg => by cases hg) (fun g hg => by cases hg))
  have HT5 := Lib.hid ht5
  have HD5 := Lib.hid hd5
  clear hd5 hf5 ht5
  go_wp2_with fail
  refine (putI_any HC5.out rfl (by omega) (by omega) 5).mono ?_
  rintro e w6 ⟨rfl, ⟨vc6, uc6, bs6, hc6, hfv6, hfu6⟩, ht6⟩
  have HV6 := Lib.hid (fresh_lo (s := w5.heap.size) hfv6 (nil_lo _) (Nat.le_refl _))
  have HU6 := Lib.hid (fresh_lo (s := w5.heap.size) hfu6 (nil_lo _) (Nat.le_refl _))
  have hz6 : w5.heap.size ≤ w6.heap.size := ht6.size
  have HD6 := Lib.hid (HD5.out.turn ht6 (by rintro (h | h | h); all_goals first | (cases h; done) | (have := HZ1.out; omega)) (by rintro (h | h | h); all_goals first | (cases h; done) | (have := HZ1.out; omega)) (fun g hg => by have := HR5.out g hg; rintro (h | h | h); all_goals first | (cases h; done) | (have := HZ1.out; omega)))
  have HT6 := Lib.hid ht6
  have HC6 := Lib.hid hc6
  clear hc6 hfv6 hfu6 ht6
  go_wp2_with fail
  refine (nullI_any HC6.out rfl (by omega) (by omega)).mono ?_
  rintro e w7 ⟨rfl, ⟨vc7, uc7, bs7, hc7, hfv7, hfu7⟩, ht7⟩
  have HV7 := Lib.hid (fresh_lo (s := w5.heap.size) hfv7 HV6.out hz6)
  have HU7 := Lib.hid (fresh_lo (s := w5.heap.size) hfu7 HU6.out hz6)
  have hz7 : w6.heap.size ≤ w7.heap.size := ht7.size
  have HN7 := Lib.hid (show ∀ i, SC s1 vc6 uc6 i → i = s1 ∨ w5.heap.size ≤ i from fun i hi => by
    rcases hi with h | h | h
    · exact .inl h
    · exact .inr (HV6.out _ h.symm)
    · exact .inr (HU6.out _ h.symm))
  have HD7 := Lib.hid (HD6.out.turn ht7 (fun h => by have := HN7.out _ h; have := HZ1.out; omega) (fun h => by have := HN7.out _ h; have := HZ1.out; omega) (fun g hg h => by have := HN7.out _ h; have := HR5.out g hg; have := (HD5.out.lt.2.2 g hg).2; have := HZ1.out; omega))
  have HT7 := Lib.hid ht7
  have HC7 := Lib.hid hc7
  clear hc7 hfv7 hfu7 ht7
  have HTT := Lib.hid (show Turn (fun i => (s ≤ i ∧ i ≤ s + 2) ∨ s + 6 ≤ i) w3 w7 from by
    have z1 := HZ1.out
    refine (((HT4.out.mono (fun i _ h => ?_)).trans (HT5.out.mono (fun i _ h => ?_))).trans (HT6.out.mono (fun i _ h => ?_))).trans (HT7.out.mono (fun i _ h => ?_))
    · rcases h with h | h | h
      · exact .inl (by omega)
      · exact .inl (by omega)
      · cases h
    · rcases h with h | h | h
      · exact .inl (by omega)
      · exact .inl (by omega)
      · exact .inr (HR4.out _ h.symm)
    · rcases h with h | h | h
      · exact .inl (by omega)
      · cases h
      · cases h
    · rcases HN7.out _ h with h | h
      · exact .inl (by omega)
      · exact .inr (by omega))
  have HV7' := Lib.hid (show DictV w7 s2 (s2 + 2) (s2 + 1) s2 (.slice none 0 0) [] (.map []) from by
    have z1 := HZ1.out
    have z2 := HZ2.out
    exact ⟨(HTT.out.block (s2 + 2) (by have := HZ3.out; omega) (by omega)).trans HV3.out.blk, HV3.out.dict.turn HTT.out (by omega) (by omega) (fun g hg => by cases hg), HV3.out.lop⟩)
  go_wp2_with fail
  refine (valId_new HV7'.out (by rintro (h | h | h); all_goals first | (cases h; done) | omega)).mono ?_
  rintro e w8 ⟨rfl, ⟨v8, D8, hv8⟩, ht8⟩
  have hz8 : w7.heap.size ≤ w8.heap.size := ht8.size
  have HN8 := Lib.hid (show ∀ i, SB (s2 + 1) s2 (.slice none 0 0) i → i = s + 4 ∨ i = s + 3 from fun i hi => by
    have z1 := HZ1.out
    have z2 := HZ2.out
    rcases hi with h | h | h
    · exact .inl (by omega)
    · exact .inr (by omega)
    · cases h)
  have HD8 := Lib.hid (HD7.out.turn ht8 (fun h => by have := HN8.out _ h; omega) (fun h => by have := HN8.out _ h; omega) (fun g hg h => by have := HN8.out _ h; have := HR5.out g hg; omega))
  have HC8 := Lib.hid (HC7.out.turn ht8 (fun h => by have := HN8.out _ h; have := HZ1.out; omega) (fun g hg h => by have := HN8.out _ h; have := HV7.out g hg; omega) (fun g hg h => by have := HN8.out _ h; have := HU7.out g hg; omega))
  have HV8 := Lib.hid hv8
  have HT8 := Lib.hid ht8
  clear hv8 ht8
  have hp := Lib.cell_of_heap HV8.out.blk 0
  have p8 : w8.cell? ⟨s2 + 2, 0, none⟩ = some (.pointer (some ⟨s2 + 1, 0, none⟩)) := hp
  clear hp
  have KI := idS_old HD8.out ⟨#[98]⟩ VS_b b_old
  rw [b_place] at KI
  have HKI := Lib.hid KI
  have HL8 := Lib.hid (lenS_any HD8.out)
  have HL9 := Lib.hid (lenS_any HV8.out.dict)
  have HCL := Lib.hid (lenI_any HC8.out)
  have HCN := Lib.hid (nullsI_any HC8.out)
  clear KI
  go_wp2_with (first
    | (go_at_call 13; refine HKI.out.mono ?_; rintro e w' ⟨rfl, rfl⟩)
    | ((with_reducible refine HL8.out.mono ?_); rintro e w' ⟨rfl, rfl⟩)
    | ((with_reducible refine HL9.out.mono ?_); rintro e w' ⟨rfl, rfl⟩)
    | (go_at_call 27; refine HCL.out.mono ?_; rintro e w' ⟨rfl, rfl⟩)
    | (go_at_call 28; refine HCN.out.mono ?_; rintro e w' ⟨rfl, rfl⟩))
  go_ret
  refine ⟨rfl, ?_⟩
  have z1 := HZ1.out
  have z2 := HZ2.out
  have z3 := HZ3.out

  have hs3 : s ≤ w3.heap.size := by omega
  have hs7 : s ≤ w7.heap.size := by have := HTT.out.size; omega
  rw [HS.out]
  exact (((HB1.out.trans (HB2.out.mono (by omega))).trans (HB3.out.mono (by omega))).trans (HTT.out.below (fun i _ h => by omega) hs3)).trans (HT8.out.below (fun i _ h => by have := HN8.out i h; omega) hs7)
end Go.Proofs.YtdhnmgndekncpaaDoor
