/- Walk of own of package lex. -/
import Derived.Test.YtngdilbfhpcfgaaGreatDoorXD
import Derived.Test.YtngdilbfhpcfgaaGreatDoorXA
set_option linter.unusedSimpArgs false
set_option linter.unusedVariables false
namespace Go.Proofs.YtngdilbfhpcfgaaGreatDoor
set_option maxRecDepth 100000
open Go.RowKit

/-- A text of bytes. -/
def strB (l : List UInt8) : ByteArray := ⟨l.toArray⟩

theorem ext_eq (s : ByteArray) (a b : Nat) : s.extract a b = strB ((s.data.toList.drop a).take (b - a)) := by
  unfold strB
  rw [← Lib.extract_data]

/-- A lexeme, its place and its end as a struct's cells. -/
def lxCells (x : Lx) (at_ end_ : Int) : Array Value := #[.int .i64 x.kind, .string (strB x.text), .string (strB x.extra), .int .i64 at_, .int .i64 end_]

/-- A lexeme as the pair that 'own' and 'next' hand back. -/
def lxVal : Option Lx → Value
  | some x => .tuple #[.agg (lxCells x 0 0), .int .i64 x.len]
  | none => .tuple #[.agg #[.int .i64 0, .string ⟨#[]⟩, .string ⟨#[]⟩, .int .i64 0, .int .i64 0], .int .i64 0]

theorem lxVal_some {k n : Nat} {x : Option Lx} {t e : List UInt8} {T E : ByteArray} (h : x = some ⟨k, t, e, n⟩) (ht : strB t = T) (he : strB e = E) :
    lxVal x = .tuple #[.agg #[.int .i64 k, .string T, .string E, .int .i64 0, .int .i64 0], .int .i64 n] := by
  subst h; subst ht; subst he; rfl
theorem lxVal_none {x : Option Lx} (h : x = none) : lxVal x = .tuple #[.agg #[.int .i64 0, .string ⟨#[]⟩, .string ⟨#[]⟩, .int .i64 0, .int .i64 0], .int .i64 0] := by
  subst h; rfl

theorem lexAt_below {w w' : World} {b : Nat} {s : ByteArray} {p : Nat} (h : LexAt w b s p) (hb : b < w.heap.size) (hw : Below w.heap.size w w') : LexAt w' b s p :=
  ⟨(hw.cell (p := ⟨b, 0, none⟩) hb).trans h.1, (hw.cell (p := ⟨b, 2, none⟩) hb).trans h.2⟩
theorem lexAt_drewN {w : World} {b : Nat} {s : ByteArray} {p : Nat} (h : LexAt w b s p) (n : Nat) : LexAt (w.drewN n) b s p := h

section
variable {b : Nat} {s : ByteArray} {p : Nat} {w : World} (hs : s.size ≤ 100000) (ha : p ≤ s.size) (h : LexAt w b s p)
include hs ha h
theorem word_at (j n : Nat) (z : Int) (m : Nat) (hz : z = n) (hn : n ≤ 150000) (hm : wordLen ((s.data.toList.drop p).drop n) = m) :
    Calls Tryz.prog 141 #[.pointer (some ⟨b, 0, none⟩), .int .i64 z] (w.drewN j) fun e w' => e = .returned (.int .i64 m) ∧ ∃ k, w' = w.drewN k := by
  subst hz; subst hm
  rw [List.drop_drop]
  refine (word_any b s p n (w.drewN j) hs hn ha h).mono ?_
  rintro e w' ⟨rfl, k, rfl⟩
  exact ⟨rfl, j + k, World.drewN_drewN _ _ _⟩
theorem digits_at (j n : Nat) (z : Int) (m : Nat) (hz : z = n) (hn : n ≤ 150000) (hm : digLen ((s.data.toList.drop p).drop n) = m) :
    Calls Tryz.prog 144 #[.pointer (some ⟨b, 0, none⟩), .int .i64 z] (w.drewN j) fun e w' => e = .returned (.int .i64 m) ∧ ∃ k, w' = w.drewN k := by
  subst hz; subst hm
  rw [List.drop_drop]
  refine (digits_any b s p n (w.drewN j) hs hn ha h).mono ?_
  rintro e w' ⟨rfl, k, rfl⟩
  exact ⟨rfl, j + k, World.drewN_drewN _ _ _⟩
theorem peek_to (j n : Nat) (z c : Int) (hz : z = n) (hn : n ≤ 300000) (hc : pk (s.data.toList.drop p) n = c) :
    Calls Tryz.prog 137 #[.pointer (some ⟨b, 0, none⟩), .int .i64 z] (w.drewN j) fun e w' => e = .returned (.int .u8 c) ∧ ∃ k, w' = w.drewN k := by
  subst hc
  rw [pk_drop]
  exact peek_at hs ha h j n z hz hn
theorem iri_at (j m : Nat) (hm : iriLen (s.data.toList.drop p) = m) :
    Calls Tryz.prog 194 #[.pointer (some ⟨b, 0, none⟩)] (w.drewN j) fun e w' => e = .returned (.int .i64 m) ∧ ∃ k, w' = w.drewN k := by
  subst hm
  refine (iri_any b s p (w.drewN j) hs ha h).mono ?_
  rintro e w' ⟨rfl, k, rfl⟩
  exact ⟨rfl, j + k, World.drewN_drewN _ _ _⟩
omit ha in
theorem part_at (j m k : Nat) (y z : Int) (T : ByteArray) (hy : y = m) (hz : z = k) (hm : p + m + k ≤ s.size) (hT : strB (((s.data.toList.drop p).drop m).take k) = T) :
    Calls Tryz.prog 142 #[.pointer (some ⟨b, 0, none⟩), .int .i64 y, .int .i64 z] (w.drewN j) fun e w' => e = .returned (.string T) ∧ ∃ k, w' = w.drewN k := by
  subst hy; subst hz; subst hT
  refine (part_any b s p m k (w.drewN j) hs hm h).mono ?_
  rintro e w' ⟨rfl, i, rfl⟩
  refine ⟨?_, j + i, World.drewN_drewN _ _ _⟩
  rw [ext_eq, List.drop_drop]
  congr 4
  omega
end

theorem name_it {α : Type} (a : α) : ∃ x, Hid (a = x) := ⟨a, Lib.hid rfl⟩

theorem below_set5 {B g : Nat} {w W : World} {a0 a1 a2 a3 a4 : Value} (h : Below B w W) (hg : B ≤ g) :
    Below B w (((((W.setCell ⟨g, 0, none⟩ a0).setCell ⟨g, 1, none⟩ a1).setCell ⟨g, 2, none⟩ a2).setCell ⟨g, 3, none⟩ a3).setCell ⟨g, 4, none⟩ a4) :=
  ((((h.setCell (p := ⟨g, 0, none⟩) hg _).setCell (p := ⟨g, 1, none⟩) hg _).setCell (p := ⟨g, 2, none⟩) hg _).setCell (p := ⟨g, 3, none⟩) hg _).setCell (p := ⟨g, 4, none⟩) hg _

set_option maxHeartbeats 1000000 in
theorem own_other (b : Nat) (s : ByteArray) (p : Nat) (lang : Int) (blank : Bool) (w : World) (hb : b < w.heap.size)
   (h1 : w.cell? ⟨b, 1, none⟩ = some (.int .i64 lang)) (hlang : lang ≠ 1) :
    Calls Tryz.prog 139 #[.pointer (some ⟨b, 0, none⟩), .bool blank] w fun e w' => e = .returned (lxVal (ownLx lang blank (s.data.toList.drop p))) ∧ Below w.heap.size w w' := by
  have hbw : Below w.heap.size w (w.alloc (.cells #[.int .i64 0, .string ⟨#[]⟩, .string ⟨#[]⟩, .int .i64 0, .int .i64 0] 76)) := (Below.refl _ _).alloc (Nat.le_refl _) _
  have h1w : (w.alloc (.cells #[.int .i64 0, .string ⟨#[]⟩, .string ⟨#[]⟩, .int .i64 0, .int .i64 0] 76)).cell? ⟨b, 1, none⟩ = some (.int .i64 lang) := (hbw.cell (p := ⟨b, 1, none⟩) hb).trans h1
  have HR : Hid (ownLx lang blank (s.data.toList.drop p) = none) := Lib.hid (by unfold ownLx; rw [if_pos hlang])
  have t1 : (lang != 1) = true := by simpa using hlang
  clear hlang
  go_enter Tryz.func139, Tryz.ntmps139
  go_wp2
  refine bodyPost_ret (v := .tuple #[.agg #[.int .i64 0, .string ⟨#[]⟩, .string ⟨#[]⟩, .int .i64 0, .int .i64 0], .int .i64 0]) (by simp [results, Tryz.results139, go_sem]) rfl ⟨by rw [lxVal_none HR.out], ?_⟩
  exact hbw

set_option maxHeartbeats 1000000 in
theorem own_var (b : Nat) (s : ByteArray) (p : Nat) (blank : Bool) (w : World) (hs : s.size ≤ 100000) (ha : p ≤ s.size) (hb : b < w.heap.size)
   (hl : LexAt w b s p) (h1 : w.cell? ⟨b, 1, none⟩ = some (.int .i64 1)) (c63 : pk (s.data.toList.drop p) 0 = 63) :
    Calls Tryz.prog 139 #[.pointer (some ⟨b, 0, none⟩), .bool blank] w fun e w' => e = .returned (lxVal (ownLx 1 blank (s.data.toList.drop p))) ∧ Below w.heap.size w w' := by
  have hlen : (s.data.toList.drop p).length = s.size - p := by simp
  have hbw : Below w.heap.size w (w.alloc (.cells #[.int .i64 0, .string ⟨#[]⟩, .string ⟨#[]⟩, .int .i64 0, .int .i64 0] 76)) := (Below.refl _ _).alloc (Nat.le_refl _) _
  have hlw := lexAt_below hl hb hbw
  have h1w : (w.alloc (.cells #[.int .i64 0, .string ⟨#[]⟩, .string ⟨#[]⟩, .int .i64 0, .int .i64 0] 76)).cell? ⟨b, 1, none⟩ = some (.int .i64 1) := (hbw.cell (p := ⟨b, 1, none⟩) hb).trans h1
  obtain ⟨n, HN⟩ := name_it (wordLen ((s.data.toList.drop p).drop 1))
  obtain ⟨T, HT⟩ := name_it (strB (((s.data.toList.drop p).drop 1).take n))
  have hwl : n ≤ s.size - p - 1 := by
    rw [← HN.out]
    have := wordLen_le ((s.data.toList.drop p).drop 1)
    rw [List.length_drop, hlen] at this; omega
  have C63 := Lib.hid c63
  by_cases hw0 : 0 < n
  · have HR := Lib.hid (show ownLx 1 blank (s.data.toList.drop p) = some ⟨1, ((s.data.toList.drop p).drop 1).take n, [], n + 1⟩ by unfold ownLx; rw [if_neg (by decide), if_pos c63, HN.out, if_pos hw0])
    clear c63 hlen
    go_enter Tryz.func139, Tryz.ntmps139
    go_wp2_with fail
    refine (peek_to hs ha hlw 0 0 _ _ rfl (by omega) C63.out).mono ?_
    rintro e w' ⟨rfl, j1, rfl⟩
    go_wp2_with fail
    refine (word_at hs ha hlw _ 1 _ _ rfl (by omega) HN.out).mono ?_
    rintro e w' ⟨rfl, j2, rfl⟩
    go_wp2_with fail
    refine (part_at hs hlw _ 1 n _ _ _ rfl rfl (by omega) HT.out).mono ?_
    rintro e w' ⟨rfl, j3, rfl⟩
    go_wp2
    refine bodyPost_ret (v := .tuple #[.agg #[.int .i64 1, .string T, .string ⟨#[]⟩, .int .i64 0, .int .i64 0], .int .i64 (n + 1 : Nat)]) (by simp [results, Tryz.results139, go_sem]) rfl ⟨by rw [lxVal_some HR.out HT.out rfl]; rfl, ?_⟩
    exact below_set5 (below_drewN hbw _) (Nat.le_refl _)
  · have HR := Lib.hid (show ownLx 1 blank (s.data.toList.drop p) = none by unfold ownLx; rw [if_neg (by decide), if_pos c63, HN.out, if_neg hw0])
    clear c63 hlen
    go_enter Tryz.func139, Tryz.ntmps139
    go_wp2_with fail
    refine (peek_to hs ha hlw 0 0 _ _ rfl (by omega) C63.out).mono ?_
    rintro e w' ⟨rfl, j1, rfl⟩
    go_wp2_with fail
    refine (word_at hs ha hlw _ 1 _ _ rfl (by omega) HN.out).mono ?_
    rintro e w' ⟨rfl, j2, rfl⟩
    go_wp2
    refine bodyPost_ret (v := .tuple #[.agg #[.int .i64 0, .string ⟨#[]⟩, .string ⟨#[]⟩, .int .i64 0, .int .i64 0], .int .i64 0]) (by simp [results, Tryz.results139, go_sem]) rfl ⟨by rw [lxVal_none HR.out], ?_⟩
    exact below_set5 (below_drewN hbw _) (Nat.le_refl _)

set_option maxHeartbeats 1000000 in
theorem own_iri (b : Nat) (s : ByteArray) (p : Nat) (blank : Bool) (w : World) (hs : s.size ≤ 100000) (ha : p ≤ s.size) (hb : b < w.heap.size)
   (hl : LexAt w b s p) (h1 : w.cell? ⟨b, 1, none⟩ = some (.int .i64 1)) (c60 : pk (s.data.toList.drop p) 0 = 60) :
    Calls Tryz.prog 139 #[.pointer (some ⟨b, 0, none⟩), .bool blank] w fun e w' => e = .returned (lxVal (ownLx 1 blank (s.data.toList.drop p))) ∧ Below w.heap.size w w' := by
  have hlen : (s.data.toList.drop p).length = s.size - p := by simp
  have hbw : Below w.heap.size w (w.alloc (.cells #[.int .i64 0, .string ⟨#[]⟩, .string ⟨#[]⟩, .int .i64 0, .int .i64 0] 76)) := (Below.refl _ _).alloc (Nat.le_refl _) _
  have hlw := lexAt_below hl hb hbw
  have h1w : (w.alloc (.cells #[.int .i64 0, .string ⟨#[]⟩, .string ⟨#[]⟩, .int .i64 0, .int .i64 0] 76)).cell? ⟨b, 1, none⟩ = some (.int .i64 1) := (hbw.cell (p := ⟨b, 1, none⟩) hb).trans h1
  obtain ⟨n, HN⟩ := name_it (iriLen (s.data.toList.drop p))
  obtain ⟨T, HT⟩ := name_it (strB (((s.data.toList.drop p).drop 1).take (n - 2)))
  have hwl : n ≤ s.size - p + 1 ∧ (0 < n → 2 < n ∧ n ≤ s.size - p) := by
    rw [← HN.out, ← hlen]
    exact iriLen_le _
  obtain ⟨hwl1, hwl2⟩ := hwl
  have C60 := Lib.hid c60
  have c63 : pk (s.data.toList.drop p) 0 ≠ 63 := by omega
  by_cases hw0 : 0 < n
  · have HR := Lib.hid (show ownLx 1 blank (s.data.toList.drop p) = some ⟨5, ((s.data.toList.drop p).drop 1).take (n - 2), [], n⟩ by unfold ownLx; rw [if_neg (by decide), if_neg c63, if_pos c60, HN.out, if_pos hw0])
    clear c63 c60 hlen
    obtain ⟨hwl3, hwl4⟩ := hwl2 hw0
    clear hwl2
    go_enter Tryz.func139, Tryz.ntmps139
    go_wp2_with fail
    refine (peek_to hs ha hlw 0 0 _ _ rfl (by omega) C60.out).mono ?_
    rintro e w' ⟨rfl, j1, rfl⟩
    go_wp2_with fail
    refine (iri_at hs ha hlw _ _ HN.out).mono ?_
    rintro e w' ⟨rfl, j2, rfl⟩
    go_wp2_with fail
    refine (part_at hs hlw _ 1 (n - 2) _ _ _ rfl (by omega) (by omega) HT.out).mono ?_
    rintro e w' ⟨rfl, j3, rfl⟩
    go_wp2
    refine bodyPost_ret (v := .tuple #[.agg #[.int .i64 5, .string T, .string ⟨#[]⟩, .int .i64 0, .int .i64 0], .int .i64 (n : Nat)]) (by simp [results, Tryz.results139, go_sem]) rfl ⟨by rw [lxVal_some HR.out HT.out rfl]; rfl, ?_⟩
    exact below_set5 (below_drewN hbw _) (Nat.le_refl _)
  · have HR := Lib.hid (show ownLx 1 blank (s.data.toList.drop p) = none by unfold ownLx; rw [if_neg (by decide), if_neg c63, if_pos c60, HN.out, if_neg hw0])
    clear c63 c60 hlen hwl2
    go_enter Tryz.func139, Tryz.ntmps139
    go_wp2_with fail
    refine (peek_to hs ha hlw 0 0 _ _ rfl (by omega) C60.out).mono ?_
    rintro e w' ⟨rfl, j1, rfl⟩
    go_wp2_with fail
    refine (iri_at hs ha hlw _ _ HN.out).mono ?_
    rintro e w' ⟨rfl, j2, rfl⟩
    go_wp2
    refine bodyPost_ret (v := .tuple #[.agg #[.int .i64 0, .string ⟨#[]⟩, .string ⟨#[]⟩, .int .i64 0, .int .i64 0], .int .i64 0]) (by simp [results, Tryz.results139, go_sem]) rfl ⟨by rw [lxVal_none HR.out], ?_⟩
    exact below_set5 (below_drewN hbw _) (Nat.le_refl _)

set_option maxHeartbeats 1000000 in
theorem own_colon (b : Nat) (s : ByteArray) (p : Nat) (blank : Bool) (w : World) (hs : s.size ≤ 100000) (ha : p ≤ s.size) (hb : b < w.heap.size)
   (hl : LexAt w b s p) (h1 : w.cell? ⟨b, 1, none⟩ = some (.int .i64 1)) (c58 : pk (s.data.toList.drop p) 0 = 58) :
    Calls Tryz.prog 139 #[.pointer (some ⟨b, 0, none⟩), .bool blank] w fun e w' => e = .returned (lxVal (ownLx 1 blank (s.data.toList.drop p))) ∧ Below w.heap.size w w' := by
  have hlen : (s.data.toList.drop p).length = s.size - p := by simp
  have hbw : Below w.heap.size w (w.alloc (.cells #[.int .i64 0, .string ⟨#[]⟩, .string ⟨#[]⟩, .int .i64 0, .int .i64 0] 76)) := (Below.refl _ _).alloc (Nat.le_refl _) _
  have hlw := lexAt_below hl hb hbw
  have h1w : (w.alloc (.cells #[.int .i64 0, .string ⟨#[]⟩, .string ⟨#[]⟩, .int .i64 0, .int .i64 0] 76)).cell? ⟨b, 1, none⟩ = some (.int .i64 1) := (hbw.cell (p := ⟨b, 1, none⟩) hb).trans h1
  have C58 := Lib.hid c58
  have N63 := Lib.hid (show pk (s.data.toList.drop p) 0 ≠ 63 by omega)
  have N60 := Lib.hid (show pk (s.data.toList.drop p) 0 ≠ 60 by omega)
  have NC := Lib.hid (show pk (s.data.toList.drop p) 0 = 58 ∨ letB (pk (s.data.toList.drop p) 0) = true ∧ blank = false from .inl c58)
  clear c58
  obtain ⟨n, HN⟩ := name_it (wordLen (s.data.toList.drop p))
  obtain ⟨m, HM⟩ := name_it (wordLen ((s.data.toList.drop p).drop (n + 1)))
  obtain ⟨T, HT⟩ := name_it (strB ((s.data.toList.drop p).take n))
  obtain ⟨E, HE⟩ := name_it (strB (((s.data.toList.drop p).drop (n + 1)).take m))
  obtain ⟨d, HD⟩ := name_it (pk (s.data.toList.drop p) n)
  have hwn : n ≤ s.size - p := by
    rw [← HN.out, ← hlen]
    exact wordLen_le _
  have hwm : m ≤ s.size - p - (n + 1) := by
    rw [← HM.out, ← hlen]
    have := wordLen_le ((s.data.toList.drop p).drop (n + 1))
    rw [List.length_drop] at this; omega
  by_cases hd : d = 58
  · subst hd
    by_cases hm : 0 < m
    · have HR := Lib.hid (show ownLx 1 blank (s.data.toList.drop p) = some ⟨6, (s.data.toList.drop p).take n, ((s.data.toList.drop p).drop (n + 1)).take m, n + 1 + m⟩ by unfold ownLx; rw [if_neg (by decide), if_neg N63.out, if_neg N60.out, if_pos NC.out, HN.out, HD.out, if_pos rfl, HM.out, if_pos hm])
      clear hlen
      go_enter Tryz.func139, Tryz.ntmps139
      go_wp2_with fail
      refine (peek_to hs ha hlw 0 0 _ _ rfl (by omega) C58.out).mono ?_
      rintro e w' ⟨rfl, j1, rfl⟩
      go_wp2_with fail
      refine (word_at hs ha hlw _ 0 _ _ rfl (by omega) HN.out).mono ?_
      rintro e w' ⟨rfl, j2, rfl⟩
      go_wp2_with fail
      refine (peek_to hs ha hlw _ n _ _ rfl (by omega) HD.out).mono ?_
      rintro e w' ⟨rfl, j3, rfl⟩
      go_wp2_with fail
      refine (word_at hs ha hlw _ (n + 1) _ _ (by push_cast; rfl) (by omega) HM.out).mono ?_
      rintro e w' ⟨rfl, j4, rfl⟩
      go_wp2_with fail
      refine (part_at hs hlw _ 0 n _ _ _ rfl rfl (by omega) HT.out).mono ?_
      rintro e w' ⟨rfl, j5, rfl⟩
      go_wp2_with fail
      refine (part_at hs hlw _ (n + 1) m _ _ _ (by push_cast; rfl) rfl (by omega) HE.out).mono ?_
      rintro e w' ⟨rfl, j6, rfl⟩
      go_wp2
      refine bodyPost_ret (v := .tuple #[.agg #[.int .i64 6, .string T, .string E, .int .i64 0, .int .i64 0], .int .i64 (n + 1 + m : Nat)]) (by simp [results, Tryz.results139, go_sem]) rfl ⟨by rw [lxVal_some HR.out HT.out HE.out]; rfl, ?_⟩
      exact below_set5 (below_drewN hbw _) (Nat.le_refl _)
    · have HR := Lib.hid (show ownLx 1 blank (s.data.toList.drop p) = none by unfold ownLx; rw [if_neg (by decide), if_neg N63.out, if_neg N60.out, if_pos NC.out, HN.out, HD.out, if_pos rfl, HM.out, if_neg hm])
      clear hlen
      go_enter Tryz.func139, Tryz.ntmps139
      go_wp2_with fail
      refine (peek_to hs ha hlw 0 0 _ _ rfl (by omega) C58.out).mono ?_
      rintro e w' ⟨rfl, j1, rfl⟩
      go_wp2_with fail
      refine (word_at hs ha hlw _ 0 _ _ rfl (by omega) HN.out).mono ?_
      rintro e w' ⟨rfl, j2, rfl⟩
      go_wp2_with fail
      refine (peek_to hs ha hlw _ n _ _ rfl (by omega) HD.out).mono ?_
      rintro e w' ⟨rfl, j3, rfl⟩
      go_wp2_with fail
      refine (word_at hs ha hlw _ (n + 1) _ _ (by push_cast; rfl) (by omega) HM.out).mono ?_
      rintro e w' ⟨rfl, j4, rfl⟩
      go_wp2
      refine bodyPost_ret (v := .tuple #[.agg #[.int .i64 0, .string ⟨#[]⟩, .string ⟨#[]⟩, .int .i64 0, .int .i64 0], .int .i64 0]) (by simp [results, Tryz.results139, go_sem]) rfl ⟨by rw [lxVal_none HR.out], ?_⟩
      exact below_set5 (below_drewN hbw _) (Nat.le_refl _)
  · have HR := Lib.hid (show ownLx 1 blank (s.data.toList.drop p) = none by unfold ownLx; rw [if_neg (by decide), if_neg N63.out, if_neg N60.out, if_pos NC.out, HN.out, HD.out, if_neg hd])
    have t5 : (d == 58) = false := by simpa using hd
    clear hlen hd
    go_enter Tryz.func139, Tryz.ntmps139
    go_wp2_with fail
    refine (peek_to hs ha hlw 0 0 _ _ rfl (by omega) C58.out).mono ?_
    rintro e w' ⟨rfl, j1, rfl⟩
    go_wp2_with fail
    refine (word_at hs ha hlw _ 0 _ _ rfl (by omega) HN.out).mono ?_
    rintro e w' ⟨rfl, j2, rfl⟩
    go_wp2_with fail
    refine (peek_to hs ha hlw _ n _ _ rfl (by omega) HD.out).mono ?_
    rintro e w' ⟨rfl, j3, rfl⟩
    go_wp2
    refine bodyPost_ret (v := .tuple #[.agg #[.int .i64 0, .string ⟨#[]⟩, .string ⟨#[]⟩, .int .i64 0, .int .i64 0], .int .i64 0]) (by simp [results, Tryz.results139, go_sem]) rfl ⟨by rw [lxVal_none HR.out], ?_⟩
    exact below_set5 (below_drewN hbw _) (Nat.le_refl _)

set_option maxHeartbeats 1000000 in
theorem own_letter (b : Nat) (s : ByteArray) (p : Nat) (blank : Bool) (w : World) (hs : s.size ≤ 100000) (ha : p ≤ s.size) (hb : b < w.heap.size)
   (hl : LexAt w b s p) (h1 : w.cell? ⟨b, 1, none⟩ = some (.int .i64 1)) (hc : letB (pk (s.data.toList.drop p) 0) = true) (hbl : blank = false) :
    Calls Tryz.prog 139 #[.pointer (some ⟨b, 0, none⟩), .bool blank] w fun e w' => e = .returned (lxVal (ownLx 1 blank (s.data.toList.drop p))) ∧ Below w.heap.size w w' := by
  have hlen : (s.data.toList.drop p).length = s.size - p := by simp
  have hbw : Below w.heap.size w (w.alloc (.cells #[.int .i64 0, .string ⟨#[]⟩, .string ⟨#[]⟩, .int .i64 0, .int .i64 0] 76)) := (Below.refl _ _).alloc (Nat.le_refl _) _
  have hlw := lexAt_below hl hb hbw
  have h1w : (w.alloc (.cells #[.int .i64 0, .string ⟨#[]⟩, .string ⟨#[]⟩, .int .i64 0, .int .i64 0] 76)).cell? ⟨b, 1, none⟩ = some (.int .i64 1) := (hbw.cell (p := ⟨b, 1, none⟩) hb).trans h1
  subst hbl
  obtain ⟨c, HC⟩ := name_it (pk (s.data.toList.drop p) 0)
  have hc' : letB c = true := by rw [← HC.out]; exact hc
  have hrange : 65 ≤ c := by unfold letB at hc'; simp at hc'; omega
  have hr2 : c ≠ 63 ∧ c ≠ 60 ∧ c ≠ 58 := by omega
  have N63 := Lib.hid (show pk (s.data.toList.drop p) 0 ≠ 63 by rw [HC.out]; exact hr2.1)
  have N60 := Lib.hid (show pk (s.data.toList.drop p) 0 ≠ 60 by rw [HC.out]; exact hr2.2.1)
  have NC := Lib.hid (show pk (s.data.toList.drop p) 0 = 58 ∨ letB (pk (s.data.toList.drop p) 0) = true ∧ false = false from .inr ⟨hc, rfl⟩)
  have t1 : (c == 63) = false := by simpa using hr2.1
  have t2 : (c == 60) = false := by simpa using hr2.2.1
  have t3 : (c == 58) = false := by simpa using hr2.2.2
  have LC := Lib.hid hc'
  clear hc hc' hr2
  obtain ⟨n, HN⟩ := name_it (wordLen (s.data.toList.drop p))
  obtain ⟨m, HM⟩ := name_it (wordLen ((s.data.toList.drop p).drop (n + 1)))
  obtain ⟨T, HT⟩ := name_it (strB ((s.data.toList.drop p).take n))
  obtain ⟨E, HE⟩ := name_it (strB (((s.data.toList.drop p).drop (n + 1)).take m))
  obtain ⟨d, HD⟩ := name_it (pk (s.data.toList.drop p) n)
  have hwn : n ≤ s.size - p := by
    rw [← HN.out, ← hlen]
    exact wordLen_le _
  have hwm : m ≤ s.size - p - (n + 1) := by
    rw [← HM.out, ← hlen]
    have := wordLen_le ((s.data.toList.drop p).drop (n + 1))
    rw [List.length_drop] at this; omega
  by_cases hd : d = 58
  · subst hd
    by_cases hm : 0 < m
    · have HR := Lib.hid (show ownLx 1 false (s.data.toList.drop p) = some ⟨6, (s.data.toList.drop p).take n, ((s.data.toList.drop p).drop (n + 1)).take m, n + 1 + m⟩ by unfold ownLx; rw [if_neg (by decide), if_neg N63.out, if_neg N60.out, if_pos NC.out, HN.out, HD.out, if_pos rfl, HM.out, if_pos hm])
      clear hlen
      go_enter Tryz.func139, Tryz.ntmps139
      go_wp2_with fail
      refine (peek_to hs ha hlw 0 0 _ _ rfl (by omega) HC.out).mono ?_
      rintro e w' ⟨rfl, j1, rfl⟩
      go_wp2_with fail
      refine (letter_any _ _).mono ?_
      rintro e w' ⟨rfl, rfl⟩
      rw [LC.out]
      go_wp2_with fail
      refine (word_at hs ha hlw _ 0 _ _ rfl (by omega) HN.out).mono ?_
      rintro e w' ⟨rfl, j2, rfl⟩
      go_wp2_with fail
      refine (peek_to hs ha hlw _ n _ _ rfl (by omega) HD.out).mono ?_
      rintro e w' ⟨rfl, j3, rfl⟩
      go_wp2_with fail
      refine (word_at hs ha hlw _ (n + 1) _ _ (by push_cast; rfl) (by omega) HM.out).mono ?_
      rintro e w' ⟨rfl, j4, rfl⟩
      go_wp2_with fail
      refine (part_at hs hlw _ 0 n _ _ _ rfl rfl (by omega) HT.out).mono ?_
      rintro e w' ⟨rfl, j5, rfl⟩
      go_wp2_with fail
      refine (part_at hs hlw _ (n + 1) m _ _ _ (by push_cast; rfl) rfl (by omega) HE.out).mono ?_
      rintro e w' ⟨rfl, j6, rfl⟩
      go_wp2
      refine bodyPost_ret (v := .tuple #[.agg #[.int .i64 6, .string T, .string E, .int .i64 0, .int .i64 0], .int .i64 (n + 1 + m : Nat)]) (by simp [results, Tryz.results139, go_sem]) rfl ⟨by rw [lxVal_some HR.out HT.out HE.out]; rfl, ?_⟩
      exact below_set5 (below_drewN hbw _) (Nat.le_refl _)
    · have HR := Lib.hid (show ownLx 1 false (s.data.toList.drop p) = none by unfold ownLx; rw [if_neg (by decide), if_neg N63.out, if_neg N60.out, if_pos NC.out, HN.out, HD.out, if_pos rfl, HM.out, if_neg hm])
      clear hlen
      go_enter Tryz.func139, Tryz.ntmps139
      go_wp2_with fail
      refine (peek_to hs ha hlw 0 0 _ _ rfl (by omega) HC.out).mono ?_
      rintro e w' ⟨rfl, j1, rfl⟩
      go_wp2_with fail
      refine (letter_any _ _).mono ?_
      rintro e w' ⟨rfl, rfl⟩
      rw [LC.out]
      go_wp2_with fail
      refine (word_at hs ha hlw _ 0 _ _ rfl (by omega) HN.out).mono ?_
      rintro e w' ⟨rfl, j2, rfl⟩
      go_wp2_with fail
      refine (peek_to hs ha hlw _ n _ _ rfl (by omega) HD.out).mono ?_
      rintro e w' ⟨rfl, j3, rfl⟩
      go_wp2_with fail
      refine (word_at hs ha hlw _ (n + 1) _ _ (by push_cast; rfl) (by omega) HM.out).mono ?_
      rintro e w' ⟨rfl, j4, rfl⟩
      go_wp2
      refine bodyPost_ret (v := .tuple #[.agg #[.int .i64 0, .string ⟨#[]⟩, .string ⟨#[]⟩, .int .i64 0, .int .i64 0], .int .i64 0]) (by simp [results, Tryz.results139, go_sem]) rfl ⟨by rw [lxVal_none HR.out], ?_⟩
      exact below_set5 (below_drewN hbw _) (Nat.le_refl _)
  · have HR := Lib.hid (show ownLx 1 false (s.data.toList.drop p) = none by unfold ownLx; rw [if_neg (by decide), if_neg N63.out, if_neg N60.out, if_pos NC.out, HN.out, HD.out, if_neg hd])
    have t5 : (d == 58) = false := by simpa using hd
    clear hlen hd
    go_enter Tryz.func139, Tryz.ntmps139
    go_wp2_with fail
    refine (peek_to hs ha hlw 0 0 _ _ rfl (by omega) HC.out).mono ?_
    rintro e w' ⟨rfl, j1, rfl⟩
    go_wp2_with fail
    refine (letter_any _ _).mono ?_
    rintro e w' ⟨rfl, rfl⟩
    rw [LC.out]
    go_wp2_with fail
    refine (word_at hs ha hlw _ 0 _ _ rfl (by omega) HN.out).mono ?_
    rintro e w' ⟨rfl, j2, rfl⟩
    go_wp2_with fail
    refine (peek_to hs ha hlw _ n _ _ rfl (by omega) HD.out).mono ?_
    rintro e w' ⟨rfl, j3, rfl⟩
    go_wp2
    refine bodyPost_ret (v := .tuple #[.agg #[.int .i64 0, .string ⟨#[]⟩, .string ⟨#[]⟩, .int .i64 0, .int .i64 0], .int .i64 0]) (by simp [results, Tryz.results139, go_sem]) rfl ⟨by rw [lxVal_none HR.out], ?_⟩
    exact below_set5 (below_drewN hbw _) (Nat.le_refl _)

set_option maxHeartbeats 1000000 in
theorem own_none (b : Nat) (s : ByteArray) (p : Nat) (blank : Bool) (w : World) (hs : s.size ≤ 100000) (ha : p ≤ s.size) (hb : b < w.heap.size)
   (hl : LexAt w b s p) (h1 : w.cell? ⟨b, 1, none⟩ = some (.int .i64 1)) (n63 : pk (s.data.toList.drop p) 0 ≠ 63) (n60 : pk (s.data.toList.drop p) 0 ≠ 60) (n58 : pk (s.data.toList.drop p) 0 ≠ 58) (hc : letB (pk (s.data.toList.drop p) 0) = true → blank = true) :
    Calls Tryz.prog 139 #[.pointer (some ⟨b, 0, none⟩), .bool blank] w fun e w' => e = .returned (lxVal (ownLx 1 blank (s.data.toList.drop p))) ∧ Below w.heap.size w w' := by
  have hlen : (s.data.toList.drop p).length = s.size - p := by simp
  have hbw : Below w.heap.size w (w.alloc (.cells #[.int .i64 0, .string ⟨#[]⟩, .string ⟨#[]⟩, .int .i64 0, .int .i64 0] 76)) := (Below.refl _ _).alloc (Nat.le_refl _) _
  have hlw := lexAt_below hl hb hbw
  have h1w : (w.alloc (.cells #[.int .i64 0, .string ⟨#[]⟩, .string ⟨#[]⟩, .int .i64 0, .int .i64 0] 76)).cell? ⟨b, 1, none⟩ = some (.int .i64 1) := (hbw.cell (p := ⟨b, 1, none⟩) hb).trans h1
  have HR := Lib.hid (show ownLx 1 blank (s.data.toList.drop p) = none by unfold ownLx; rw [if_neg (by decide), if_neg n63, if_neg n60, if_neg (by rintro (h | ⟨h, h'⟩); exact n58 h; rw [hc h] at h'; cases h')])
  obtain ⟨c, HC⟩ := name_it (pk (s.data.toList.drop p) 0)
  rw [HC.out] at n63 n60 n58 hc
  have t1 : (c == 63) = false := by simpa using n63
  have t2 : (c == 60) = false := by simpa using n60
  have t3 : (c == 58) = false := by simpa using n58
  clear n63 n60 n58 hlen
  cases hlc : letB c
  · have LC := Lib.hid hlc
    clear hlc hc
    go_enter Tryz.func139, Tryz.ntmps139
    go_wp2_with fail
    refine (peek_to hs ha hlw 0 0 _ _ rfl (by omega) HC.out).mono ?_
    rintro e w' ⟨rfl, j1, rfl⟩
    go_wp2_with fail
    refine (letter_any _ _).mono ?_
    rintro e w' ⟨rfl, rfl⟩
    rw [LC.out]
    go_wp2
    refine bodyPost_ret (v := .tuple #[.agg #[.int .i64 0, .string ⟨#[]⟩, .string ⟨#[]⟩, .int .i64 0, .int .i64 0], .int .i64 0]) (by simp [results, Tryz.results139, go_sem]) rfl ⟨by rw [lxVal_none HR.out], ?_⟩
    exact below_set5 (below_drewN hbw _) (Nat.le_refl _)
  · have LC := Lib.hid hlc
    obtain rfl := hc hlc
    clear hlc hc
    go_enter Tryz.func139, Tryz.ntmps139
    go_wp2_with fail
    refine (peek_to hs ha hlw 0 0 _ _ rfl (by omega) HC.out).mono ?_
    rintro e w' ⟨rfl, j1, rfl⟩
    go_wp2_with fail
    refine (letter_any _ _).mono ?_
    rintro e w' ⟨rfl, rfl⟩
    rw [LC.out]
    go_wp2
    refine bodyPost_ret (v := .tuple #[.agg #[.int .i64 0, .string ⟨#[]⟩, .string ⟨#[]⟩, .int .i64 0, .int .i64 0], .int .i64 0]) (by simp [results, Tryz.results139, go_sem]) rfl ⟨by rw [lxVal_none HR.out], ?_⟩
    exact below_set5 (below_drewN hbw _) (Nat.le_refl _)

theorem own_any (b : Nat) (s : ByteArray) (p : Nat) (lang : Int) (blank : Bool) (w : World) (hs : s.size ≤ 100000) (ha : p ≤ s.size) (hb : b < w.heap.size)
   (hl : LexAt w b s p) (h1 : w.cell? ⟨b, 1, none⟩ = some (.int .i64 lang)) :
    Calls Tryz.prog 139 #[.pointer (some ⟨b, 0, none⟩), .bool blank] w fun e w' => e = .returned (lxVal (ownLx lang blank (s.data.toList.drop p))) ∧ Below w.heap.size w w' := by
  by_cases hlang : lang = 1
  · subst hlang
    by_cases c63 : pk (s.data.toList.drop p) 0 = 63
    · exact own_var b s p blank w hs ha hb hl h1 c63
    by_cases c60 : pk (s.data.toList.drop p) 0 = 60
    · exact own_iri b s p blank w hs ha hb hl h1 c60
    by_cases c58 : pk (s.data.toList.drop p) 0 = 58
    · exact own_colon b s p blank w hs ha hb hl h1 c58
    by_cases hc : letB (pk (s.data.toList.drop p) 0) = true ∧ blank = false
    · exact own_letter b s p blank w hs ha hb hl h1 hc.1 hc.2
    · exact own_none b s p blank w hs ha hb hl h1 c63 c60 c58 (fun h => by cases blank; exact absurd ⟨h, rfl⟩ hc; rfl)
  · exact own_other b s p lang blank w hb h1 hlang

end Go.Proofs.YtngdilbfhpcfgaaGreatDoor
