/- Walks of the document's own functions on words and keywords. -/
import Derived.Test.YtaaomjpkgpjegaaH4
import Derived.Test.YtaaomjpkgpjegaaD2
namespace Go.Proofs.Ytaaomjpkgpjegaa
open Go Go.RowKit

theorem rtriples_to {lang : Int} {b : Bool} (h : (lang == 1) = b) (w : World) : Calls Try.prog 24 #[.int .i64 lang] w fun e w' => e = .returned (.bool b) ∧ w' = w := by
  subst h
  exact (rtriples_any lang w).mono fun _ _ ⟨h1, h2⟩ => ⟨h1, h2.symm⟩

set_option maxHeartbeats 400000 in
theorem rword_w (s : ByteArray) (hs : s.size ≤ 100000) (w : World) :
    Calls Try.prog 12 #[.string s] w fun e w' => e = .returned (.bool (wordB s.data.toList)) ∧ w = w' := by
  have hl : s.data.toList.length = s.size := by simp
  obtain ⟨n, HN⟩ := name_it (0 + wordLen (s.data.toList.drop 0))
  have HN' : Hid (wordLen s.data.toList = n) := Lib.hid (by rw [← HN.out]; simp)
  by_cases h1 : 1 ≤ s.size
  · by_cases h2 : s.size ≤ 64
    · have HW : Hid (wordB s.data.toList = decide (n = s.size)) := Lib.hid (by unfold wordB; rw [HN'.out, hl]; simp [h1, h2])
      clear hl
      have h3 : (1 : Int) ≤ s.size := by omega
      have h4 : (s.size : Int) ≤ 64 := by omega
      go_enter Try.func12, Try.ntmps12
      go_wp2_with fail
      refine (rword_any s 0 hs (by omega) _).mono ?_
      rintro e w' ⟨rfl, rfl⟩
      rw [HN.out]
      go_wp2
      go_ret
      exact ⟨by rw [HW.out]; exact ret_bool (by rw [Bool.eq_iff_iff]; simp; omega), rfl⟩
    · have HW : Hid (wordB s.data.toList = false) := Lib.hid (by unfold wordB; rw [hl]; simp; omega)
      have t1 : decide ((s.size : Int) ≤ 64) = false := decide_eq_false (by omega)
      have h3 : (1 : Int) ≤ s.size := by omega
      clear hl
      go_enter Try.func12, Try.ntmps12
      go_wp2
      go_ret
      exact ⟨by rw [HW.out]; rfl, rfl⟩
  · have HW : Hid (wordB s.data.toList = false) := Lib.hid (by unfold wordB; rw [hl]; simp; omega)
    have t1 : decide ((1 : Int) ≤ s.size) = false := decide_eq_false (by omega)
    clear hl
    go_enter Try.func12, Try.ntmps12
    go_wp2
    go_ret
    exact ⟨by rw [HW.out]; rfl, rfl⟩

/-- A list of texts as a block's cells. -/
def textArr (xs : List (List UInt8)) : Array Value := (xs.map fun x => Value.string (strB x)).toArray
theorem textArr_at {xs : List (List UInt8)} {k : Nat} (h : k < xs.length) : (textArr xs)[k]? = some (.string (strB xs[k])) := by
  unfold textArr
  rw [List.getElem?_toArray, List.getElem?_map, List.getElem?_eq_getElem h]
  rfl

def IdxIs (b : Bool) (w : World) (e : Ending) (w' : World) : Prop := ∃ z : Int, e = .returned (.int .i64 z) ∧ decide (0 ≤ z) = b ∧ w = w'

theorem text_yes {x : List UInt8} {s : ByteArray} (h : ((strB x).toList == s.toList) = true) : x = s.data.toList := by
  have := eq_of_beq h
  rw [Lib.toList_data, Lib.toList_data] at this
  simpa [strB] using this
theorem text_nay {x : List UInt8} {s : ByteArray} (h : ((strB x).toList == s.toList) = false) : x ≠ s.data.toList := by
  intro e
  rw [Lib.toList_data, Lib.toList_data] at h
  simp [strB, e] at h

set_option maxHeartbeats 400000 in
theorem index_any (xs : List (List UInt8)) (s : ByteArray) (g n cp : Nat) (b : Bool) (hcb : xs.contains s.data.toList = b) (hn : xs.length = n) (h100 : n ≤ 1000) (w : World) (hb : w.heap[g]? = some (.cells (textArr xs) 9 (0, 0))) :
    Calls Try.prog 25 #[.slice (some ⟨g, 0, none⟩) n cp, .string s] w (IdxIs b w) := by
  have HCB := Lib.hid hcb
  clear hcb
  have HB := Lib.hid hb
  have HN := Lib.hid hn
  clear hb hn
  go_enter Try.func25, Try.ntmps25
  go_wp2
  go_loop [5] (fun i => ∃ k : Nat, k ≤ n ∧ i = .int .i64 k ∧ RowKit.Hid (s.data.toList ∉ xs.take k)) (fun i => n - (intOf i).toNat)
  case atStart => exact ⟨0, by omega, rfl, Lib.hid (by simp)⟩
  case round =>
    obtain ⟨k, hk, rfl, HT⟩ := hrel
    by_cases hlt : k < n
    · have hkx : k < xs.length := by rw [HN.out]; exact hlt
      have hc : w.cell? ⟨g, k, none⟩ = some (.string (strB xs[k])) := by rw [Lib.cell_of_heap HB.out k, textArr_at hkx]
      have HTK := Lib.hid (show xs.take (k + 1) = xs.take k ++ [xs[k]] from List.take_succ_eq_append_getElem hkx)
      have HM := Lib.hid (List.getElem_mem hkx)
      generalize xs[k] = x at *
      clear hkx
      have e1 : (0 : Int) ≤ k := by omega
      have e2 : (k : Int) < n := by omega
      go_wp2
      · have hx := text_yes (by assumption)
        have HC := Lib.hid (show b = true by rw [← HCB.out, List.contains_iff_mem, ← hx]; exact HM.out)
        clear hx
        go_ret
        exact ⟨_, rfl, by rw [HC.out]; exact decide_eq_true (by omega), rfl⟩
      · have hx := text_nay (by assumption)
        have HT2 := Lib.hid (show s.data.toList ∉ xs.take (k + 1) by
          rw [HTK.out, List.mem_append, List.mem_singleton]
          rintro (h | h)
          · exact HT.out h
          · exact hx h.symm)
        clear hx
        go_round
        case rel => exact ⟨k + 1, by omega, by go_num, HT2⟩
        case measure => simp [intOf]; omega
    · have HC := Lib.hid (show b = false by
        have := HT.out
        rw [List.take_of_length_le (by rw [HN.out]; omega)] at this
        cases hh : b with
        | false => rfl
        | true => exact absurd (List.contains_iff_mem.1 (HCB.out.trans hh)) this)
      go_wp2
      go_ret
      exact ⟨-1, rfl, by rw [HC.out]; rfl, rfl⟩

set_option maxRecDepth 100000 in
set_option maxHeartbeats 1000000 in
theorem rkey_any (lang : Int) (s : ByteArray) (w : World) :
    Calls Try.prog 14 #[.int .i64 lang, .string s] w fun e w' => e = .returned (.bool (keyB lang s.data.toList)) ∧ Below w.heap.size w w' := by
  by_cases hl : lang = 1
  · subst hl
    have HK := Lib.hid (show keyB 1 s.data.toList = keysS.contains s.data.toList by unfold keyB; rw [if_pos rfl])
    have hb := heap_alloc_new w (.cells (textArr keysS) 9)
    obtain ⟨W, HW⟩ := name_it (w.alloc (.cells (textArr keysS) 9))
    have HBW := Lib.hid (show Below w.heap.size w W by rw [← HW.out]; exact (Below.refl _ _).alloc (Nat.le_refl _) _)
    rw [HW.out] at hb
    have HH := Lib.hid hb
    clear hb
    go_enter Try.func14, Try.ntmps14
    go_wp2_with fail
    refine (rtriples_to (b := true) rfl _).mono ?_
    rintro e w' ⟨rfl, rfl⟩
    go_wp2_with fail
    change Calls Try.prog 25 #[.slice (some ⟨w'.heap.size, 0, none⟩) 25 25, .string s] (w'.alloc (.cells (textArr keysS) 9)) _
    rw [HW.out]
    refine (index_any keysS s _ 25 25 _ HK.out.symm rfl (by omega) _ HH.out).mono ?_
    rintro e w2 ⟨z, rfl, hz, rfl⟩
    have HZ := Lib.hid hz
    clear hz
    go_wp2
    go_ret
    exact ⟨ret_bool HZ.out, HBW.out⟩
  · have tl : (lang == 1) = false := by simpa using hl
    have HK := Lib.hid (show keyB lang s.data.toList = keysC.contains s.data.toList by unfold keyB; rw [if_neg hl])
    have hb := heap_alloc_new w (.cells (textArr keysC) 9)
    obtain ⟨W, HW⟩ := name_it (w.alloc (.cells (textArr keysC) 9))
    have HBW := Lib.hid (show Below w.heap.size w W by rw [← HW.out]; exact (Below.refl _ _).alloc (Nat.le_refl _) _)
    rw [HW.out] at hb
    have HH := Lib.hid hb
    clear hb hl
    go_enter Try.func14, Try.ntmps14
    go_wp2_with fail
    refine (rtriples_to tl _).mono ?_
    rintro e w' ⟨rfl, rfl⟩
    go_wp2_with fail
    change Calls Try.prog 25 #[.slice (some ⟨w'.heap.size, 0, none⟩) 34 34, .string s] (w'.alloc (.cells (textArr keysC) 9)) _
    rw [HW.out]
    refine (index_any keysC s _ 34 34 _ HK.out.symm rfl (by omega) _ HH.out).mono ?_
    rintro e w2 ⟨z, rfl, hz, rfl⟩
    have HZ := Lib.hid hz
    clear hz
    go_wp2
    go_ret
    exact ⟨ret_bool HZ.out, HBW.out⟩

end Go.Proofs.Ytaaomjpkgpjegaa
