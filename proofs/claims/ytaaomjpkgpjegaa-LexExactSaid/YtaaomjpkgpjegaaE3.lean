/- Walk of the law LexQuotes. -/
import Derived.Test.YtaaomjpkgpjegaaB4
import Derived.Test.YtaaomjpkgpjegaaD4
import Derived.Deep.RegionHeld3
import Derived.Deep.DeepCutAuto
namespace Go.Proofs.Ytaaomjpkgpjegaa
open Go.RowKit

/-- A list of texts as cells. -/
def strs (xs : List ByteArray) : List Value := xs.map .string

theorem reads_str {w : World} {B n : Nat} {A : Option Addr} {xs : List ByteArray} (h : Reads w B 1 A n (strs xs)) {k : Nat} (hk : k < n) : ∃ ad s, A = some ad ∧ xs[k]? = some s ∧ w.cell? (ad.add k) = some (.string s) := by
  obtain ⟨ad, u, rfl, _, hu, hc⟩ := h.at_ hk
  unfold strs at hu
  rw [List.getElem?_map] at hu
  cases hx : xs[k]? with
  | none => rw [hx] at hu; cases hu
  | some s =>
    rw [hx] at hu
    injection hu with hu
    subst hu
    exact ⟨ad, s, rfl, rfl, hc⟩

theorem quoteL_le (l : List UInt8) : (quoteL l).length ≤ 2 * l.length + 2 := by
  have := flat_escL_le l
  unfold quoteL
  rw [List.length_cons, List.length_append]
  simp only [List.length_singleton]
  omega
theorem lex_quoted {s X : ByteArray} (lang : Int) (hs : s.size ≤ 3000) (hX : X.data.toList = 32 :: (quoteL s.data.toList ++ [32])) (hb : s.data.toList.any badC = false) (w : World) :
    Calls Try.prog 8 #[.int .i64 lang, .string X] w fun e w' => ∃ g cp, e = .returned (.tuple #[.slice (some ⟨g, 0, none⟩) 1 cp, .int .i64 0, .int .i64 0]) ∧ Below w.heap.size w w' ∧
      w'.cell? ⟨g, 0, none⟩ = some (.int .i64 4) ∧ w'.cell? ⟨g, 1, none⟩ = some (.string s) ∧ w'.cell? ⟨g, 3, none⟩ = some (.int .i64 1) := by
  have hl : lexAll lang (32 :: (quoteL s.data.toList ++ [32])) = ([⟨⟨4, s.data.toList, [], (quoteL s.data.toList).length⟩, 1, 1 + (quoteL s.data.toList).length⟩], none) := by
    rw [lexAll_quote, hb]; rfl
  have hsz : X.size ≤ 16384 := by
    have h1 : X.data.toList.length = X.size := by simp
    rw [hX] at h1
    have h2 := quoteL_le s.data.toList
    have h3 : s.data.toList.length = s.size := by simp
    simp at h1
    omega
  refine (lex_ok hX hl hsz w).mono ?_
  rintro e w' ⟨v, rfl, ho, hbl⟩
  obtain ⟨g, cp, rfl⟩ := ownsRow_succ (k := 0) ho
  exact ⟨g, cp, rfl, hbl, ho.cellAt 0 (by decide), ho.cellAt 1 (by decide), ho.cellAt 3 (by decide)⟩
theorem lex_unquoted {s X : ByteArray} (lang : Int) (hs : s.size ≤ 3000) (hX : X.data.toList = 32 :: (quoteL s.data.toList ++ [32])) (hb : s.data.toList.any badC = true) (w : World) :
    Calls Try.prog 8 #[.int .i64 lang, .string X] w fun e w' => e = .returned (.tuple #[.slice none 0 0, .int .i64 1, .int .i64 10]) ∧ Below w.heap.size w w' := by
  have hl : lexAll lang (32 :: (quoteL s.data.toList ++ [32])) = ([], some 1) := by
    rw [lexAll_quote, hb]; rfl
  have hsz : X.size ≤ 16384 := by
    have h1 : X.data.toList.length = X.size := by simp
    rw [hX] at h1
    have h2 := quoteL_le s.data.toList
    have h3 : s.data.toList.length = s.size := by simp
    simp at h1
    omega
  exact lex_no hX hl hsz w

set_option maxRecDepth 100000 in
set_option maxHeartbeats 2000000 in
theorem quotes_any (A : Option Addr) (n cap : Nat) (lang : Int) (xs : List ByteArray) (w : World) (hr : Reads w w.heap.size 1 A n (strs xs)) (hn : n ≤ maxLen) (hx : ∀ s ∈ xs, s.size ≤ maxLen) :
    Calls Try.prog 5 #[.agg #[.slice A n cap, .int .i64 lang]] w fun e w' => e = .returned (.bool true) ∧ Below w.heap.size w w' := by
  unfold maxLen at hn
  have hX := Lib.hid hx
  clear hx
  have hbw : Below w.heap.size w (w.alloc (.cells #[.slice A n cap, .int .i64 lang] 24)) := (Below.refl _ _).alloc (Nat.le_refl _) _
  obtain ⟨W, HW⟩ := name_it (w.alloc (.cells #[.slice A n cap, .int .i64 lang] 24))
  have hp : Blk W w.heap.size 24 #[.slice A n cap, .int .i64 lang] := by rw [← HW.out]; exact Blk.new _ _ _
  have hrW : Reads W w.heap.size 1 A n (strs xs) := by rw [← HW.out]; exact hr.alloc (Nat.le_refl _) _
  have hWs : W.heap.size = w.heap.size + 1 := by rw [← HW.out]; simp
  rw [HW.out] at hbw
  have HWS := Lib.hid hWs
  clear hWs
  go_enter Try.func5, Try.ntmps5
  go_wp2
  rw [HW.out]
  go_loopw [3] (fun i wr => ∃ k : Nat, k ≤ n ∧ k ≤ 8 ∧ i = .int .i64 k ∧ Below W.heap.size W wr) (fun i _ => 8 - (intOf i).toNat)
  case atStart => exact ⟨0, by omega, by omega, rfl, Below.refl _ _⟩
  case round =>
    obtain ⟨k, hk, hk8, rfl, hb⟩ := hrel
    have hws := HWS.out
    have hpr := hp.below hb (by omega)
    have hrr := (hrW.below (hb.mono (by omega)))
    have p0 : wr.cell? ⟨w.heap.size, 0, none⟩ = some (.slice A n cap) := hpr.cell 0
    have p1 : wr.cell? ⟨w.heap.size, 1, none⟩ = some (.int .i64 lang) := hpr.cell 1
    have hsz := hb.size
    have hwl : w.heap.size < wr.heap.size := by omega
    clear hws
    by_cases hlt : k < n ∧ k < 8
    · obtain ⟨hkn, hk8'⟩ := hlt
      obtain ⟨ad, s, rfl, hxs, hc⟩ := reads_str hrr hkn
      have hss := hX.out s (List.mem_of_getElem? hxs)
      unfold maxLen at hss
      clear hxs
      have hsl : s.data.toList.length = s.size := by simp
      have HSL := Lib.hid hsl
      clear hsl
      go_wp2_with fail
      · go_roundw
        case rel => exact ⟨k + 1, by omega, by omega, by go_num, hb⟩
        case measure => simp [intOf]; omega
      · have hs3 : s.size ≤ 3000 := by omega
        obtain ⟨wo, rfl⟩ : ∃ wo : World, wo = wr := ⟨_, rfl⟩
        go_loop [5, 6] (fun bv i => ∃ j : Nat, j ≤ s.size ∧ i = .int .i64 j ∧ bv = .bool ((s.data.toList.take j).any badC)) (fun _ i => s.size - (intOf i).toNat)
        case atStart => exact ⟨0, Nat.zero_le _, rfl, rfl⟩
        case round =>
          obtain ⟨j, hj, rfl, rfl⟩ := hrel
          by_cases hjl : j < s.size
          · have hT : (s.data.toList.take (j + 1)).any badC = ((s.data.toList.take j).any badC || badC s[j]) := by rw [take_more hjl, List.any_append]; simp
            have HT := Lib.hid hT
            clear hT
            cases hbv : (s.data.toList.take j).any badC
            · rw [hbv] at HT
              clear hbv
              have hnn : (0 : Int) ≤ s[j].toNat := by omega
              by_cases h32 : (s[j].toNat : Int) < 32
              · have hlo : s[j] < 32 := by rw [UInt8.lt_iff_toNat_lt]; simp; omega
                by_cases h10 : (s[j].toNat : Int) = 10
                · have HB := Lib.hid (show badC s[j] = false by
                    have e : s[j] = 10 := u8_of (n := 10) (by omega) h10
                    rw [e]; rfl)
                  have t1 : ((s[j].toNat : Int) != 10) = false := by rw [h10]; rfl
                  clear h10 hlo
                  rw [HB.out] at HT
                  clear HB
                  go_wp2
                  go_roundw
                  case rel => exact ⟨j + 1, by omega, by go_num, by rw [HT.out]; rfl⟩
                  case measure => simp [intOf]; omega
                · have t1 : ((s[j].toNat : Int) != 10) = true := by simpa using h10
                  have n10 : s[j] ≠ 10 := u8_ne (n := 10) (by omega) h10
                  by_cases h9 : (s[j].toNat : Int) = 9
                  · have HB := Lib.hid (show badC s[j] = false by
                      have e : s[j] = 9 := u8_of (n := 9) (by omega) h9
                      rw [e]; rfl)
                    have t2 : ((s[j].toNat : Int) != 9) = false := by rw [h9]; rfl
                    clear h10 h9 n10 hlo
                    rw [HB.out] at HT
                    clear HB
                    go_wp2
                    go_roundw
                    case rel => exact ⟨j + 1, by omega, by go_num, by rw [HT.out]; rfl⟩
                    case measure => simp [intOf]; omega
                  · have t2 : ((s[j].toNat : Int) != 9) = true := by simpa using h9
                    have n9 : s[j] ≠ 9 := u8_ne (n := 9) (by omega) h9
                    have HB := Lib.hid (show badC s[j] = true by unfold badC; simp [hlo, n10, n9])
                    clear h10 h9 n10 n9 hlo
                    rw [HB.out] at HT
                    clear HB
                    go_wp2
                    go_roundw
                    case rel => exact ⟨j + 1, by omega, by go_num, by rw [HT.out]; rfl⟩
                    case measure => simp [intOf]; omega
              · have HB := Lib.hid (show badC s[j] = false by
                  unfold badC
                  have : ¬ s[j] < 32 := by rw [UInt8.lt_iff_toNat_lt]; simp; omega
                  simp [this])
                rw [HB.out] at HT
                clear HB
                go_wp2
                go_roundw
                case rel => exact ⟨j + 1, by omega, by go_num, by rw [HT.out]; rfl⟩
                case measure => simp [intOf]; omega
            · rw [hbv] at HT
              clear hbv
              go_wp2
              go_roundw
              case rel => exact ⟨j + 1, by omega, by go_num, by rw [HT.out]; rfl⟩
              case measure => simp [intOf]; omega
          · have hje : j = s.size := by omega
            have hB : s.data.toList.take j = s.data.toList := List.take_of_length_le (by rw [HSL.out]; omega)
            rw [hB]
            clear hB hje
            obtain ⟨q, HQ⟩ := name_it (strB (quoteL s.data.toList))
            have hX : ((⟨#[32]⟩ : ByteArray) ++ q ++ ⟨#[32]⟩).data.toList = 32 :: (quoteL s.data.toList ++ [32]) := by
              rw [← HQ.out]
              simp [strB]
            have hqs : q.size = (quoteL s.data.toList).length := by rw [← HQ.out]; show (quoteL s.data.toList).toArray.size = _; simp
            have hql := quoteL_le s.data.toList
            rw [HSL.out] at hql
            have hadd1 : ∀ W : World, (Op.stringOp .add ⟨#[32]⟩ q).run Try.prog W = .ok (.string (⟨#[32]⟩ ++ q)) W := fun W => run_string_add_sum W _ _ (by have : (⟨#[32]⟩ : ByteArray).size = 1 := rfl; omega)
            have hadd2 : ∀ W : World, (Op.stringOp .add (⟨#[32]⟩ ++ q) ⟨#[32]⟩).run Try.prog W = .ok (.string (⟨#[32]⟩ ++ q ++ ⟨#[32]⟩)) W := fun W => run_string_add_sum W _ _ (by have : (⟨#[32]⟩ : ByteArray).size = 1 := rfl; rw [ByteArray.size_append]; omega)
            have HX := Lib.hid hX
            clear hX hqs hql
            cases hbv : s.data.toList.any badC
            · have HBV := Lib.hid hbv
              clear hbv
              go_upto_region 11 with fail
              go_cut [7, 8, 9] (fun s7 s8 s9 wx => ∃ g cp, s7 = .slice (some ⟨g, 0, none⟩) 1 cp ∧ s8 = .int .i64 0 ∧ s9 = .int .i64 0 ∧ Below wo.heap.size wo wx ∧ wx.cell? ⟨g, 0, none⟩ = some (.int .i64 4) ∧ wx.cell? ⟨g, 1, none⟩ = some (.string s) ∧ wx.cell? ⟨g, 3, none⟩ = some (.int .i64 1))
              case first =>
                go_region_held3 (fun w' => w'.cell? ⟨w.heap.size, 1, none⟩ = some (.int .i64 lang)) (first | exact p1 | exact p2 | exact p3 | (trace_state; fail))
                  (first | (go_at_call 15; refine (quote_any s (by omega) _).mono ?_; rintro e w2 ⟨rfl, hb2⟩; rw [HQ.out]; have p2 : w2.cell? ⟨w.heap.size, 1, none⟩ = some (.int .i64 lang) := (hb2.cell (p := ⟨w.heap.size, 1, none⟩) (by simp; omega)).trans p1) | (go_at_call 8; refine (lex_quoted lang hs3 HX.out HBV.out _).mono ?_; rintro e w3 ⟨g, cp, rfl, hb3, g0, g1, g3⟩; have p3 : w3.cell? ⟨w.heap.size, 1, none⟩ = some (.int .i64 lang) := (hb3.cell (p := ⟨w.heap.size, 1, none⟩) (by show w.heap.size < _; have := hb2.size; simp at this; omega)).trans p2))
                go_wp2_with fail
                go_meet
                exact ⟨g, cp, rfl, rfl, rfl, (show Below wo.heap.size wo w2 from ⟨hb2.os, hb2.tape, hb2.output, hb2.size, hb2.block⟩).trans (hb3.mono hb2.size), g0, g1, g3⟩
              case rest =>
                obtain ⟨g, cp, rfl, rfl, rfl, hbx, g0, g1, g3⟩ := hcut
                go_wp2
                go_roundw
                case rel => exact ⟨k + 1, by omega, by omega, by go_num, hb.trans (hbx.mono hb.size)⟩
                case measure => simp [intOf]; omega
            · have HBV := Lib.hid hbv
              clear hbv
              go_upto_region 11 with fail
              go_cut [7, 8, 9] (fun s7 s8 s9 wx => s7 = .slice none 0 0 ∧ s8 = .int .i64 1 ∧ s9 = .int .i64 10 ∧ Below wo.heap.size wo wx)
              case first =>
                go_region_held3 (fun w' => w'.cell? ⟨w.heap.size, 1, none⟩ = some (.int .i64 lang)) (first | exact p1 | exact p2 | exact p3 | (trace_state; fail))
                  (first | (go_at_call 15; refine (quote_any s (by omega) _).mono ?_; rintro e w2 ⟨rfl, hb2⟩; rw [HQ.out]; have p2 : w2.cell? ⟨w.heap.size, 1, none⟩ = some (.int .i64 lang) := (hb2.cell (p := ⟨w.heap.size, 1, none⟩) (by simp; omega)).trans p1) | (go_at_call 8; refine (lex_unquoted lang hs3 HX.out HBV.out _).mono ?_; rintro e w3 ⟨rfl, hb3⟩; have p3 : w3.cell? ⟨w.heap.size, 1, none⟩ = some (.int .i64 lang) := (hb3.cell (p := ⟨w.heap.size, 1, none⟩) (by show w.heap.size < _; have := hb2.size; simp at this; omega)).trans p2))
                go_wp2_with fail
                go_meet
                exact ⟨rfl, rfl, rfl, (show Below wo.heap.size wo w2 from ⟨hb2.os, hb2.tape, hb2.output, hb2.size, hb2.block⟩).trans (hb3.mono hb2.size)⟩
              case rest =>
                obtain ⟨rfl, rfl, rfl, hbx⟩ := hcut
                go_wp2
                go_roundw
                case rel => exact ⟨k + 1, by omega, by omega, by go_num, hb.trans (hbx.mono hb.size)⟩
                case measure => simp [intOf]; omega
    · by_cases hk2 : k < n
      · have hk3 : k = 8 := by omega
        have t1 : (8 : Int) ≤ k := by omega
        go_wp2_with fail
        refine (wakes_any _).mono ?_
        rintro e w2 ⟨rfl, hb2⟩
        go_wp2
        go_ret
        exact ⟨rfl, (hbw.trans (hb.mono hbw.size)).trans (hb2.mono (Nat.le_trans hbw.size hb.size))⟩
      · go_wp2_with fail
        refine (wakes_any _).mono ?_
        rintro e w2 ⟨rfl, hb2⟩
        go_wp2
        go_ret
        exact ⟨rfl, (hbw.trans (hb.mono hbw.size)).trans (hb2.mono (Nat.le_trans hbw.size hb.size))⟩

end Go.Proofs.Ytaaomjpkgpjegaa
