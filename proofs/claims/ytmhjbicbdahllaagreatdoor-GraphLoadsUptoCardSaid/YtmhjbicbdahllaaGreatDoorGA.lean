/- 'pairs': properties in memory of their own, sorted by their keys. -/
import Derived.Test.YtmhjbicbdahllaaGreatDoorG8
import Derived.Test.YtmhjbicbdahllaaGreatDoorG9
import Derived.Test.YtmhjbicbdahllaaGreatDoorGS
import Derived.Lib.Bytealg
import Derived.Deep.RegionLaw
namespace Go.Proofs.YtmhjbicbdahllaaGreatDoor
open Go Go.RowKit

section
variable {α : Type} {R : Lies α} {F G : Nat → Prop} {l : List α} {sz : Nat} {s : Value} {E : Nat}
/-- One more element: what 'append' makes of a row of one's own. -/
theorem own_more {w5 w6 : World} {x : α} {c : Array Value} {g4 c4 : Nat} {cs : Nat → Array Value} (hR : R.Good) (h6 : ∀ i, i < l.length → (cs i).size = sz) (hr : ∀ i x, l[i]? = some x → R w5 (fun b => F b ∧ s.ownBlock ≠ some b) x (cs i)) (hx : R w5 G x c) (hc : c.size = sz)
    (hGs : ∀ b, G b → s.ownBlock ≠ some b) (hFl : ∀ b, F b → b < w5.heap.size) (hGl : ∀ b, G b → b < w5.heap.size)
    (ho : w6.ownsRow 0 E sz (.slice (some ⟨g4, 0, none⟩) (l.length + 1) c4) (l.length + 1) (flatC cs l.length ++ c.toList)) (hg : w5.grownBy w6 s.ownBlock) (hl : s.ownBlock = some g4 ∨ w5.heap.size ≤ g4) :
    SOwn E sz R w6 (fun b => F b ∨ G b ∨ b = g4) (l ++ [x]) (.slice (some ⟨g4, 0, none⟩) (l.length + 1) c4) := by
  have hlen : (l ++ [x]).length = l.length + 1 := by simp
  have hcs : ∀ i, i < l.length → (fun i => if i < l.length then cs i else c) i = cs i := fun i hi => if_pos hi
  have hFn : ∀ b, F b → s.ownBlock ≠ some b → b ≠ g4 := fun b hb h2 e => by
    rcases hl with h | h
    · exact h2 (by rw [h, e])
    · have := hFl b hb; omega
  have hGn : ∀ b, G b → b ≠ g4 := fun b hb e => by
    rcases hl with h | h
    · exact hGs b hb (by rw [h, e])
    · have := hGl b hb; omega
  refine ⟨fun i => if i < l.length then cs i else c, ?_, fun i hi => ?_, fun g hg' => ?_, fun i y hy => ?_⟩
  · rw [hlen, flatC_succ, flatC_congr hcs, if_neg (Nat.lt_irrefl _)]
    exact ho
  · by_cases h : i < l.length
    · simp only [if_pos h]; exact h6 i h
    · simp only [if_neg h]; exact hc
  · injection hg' with hg'
    exact .inr (.inr hg'.symm)
  · by_cases h : i < l.length
    · simp only [if_pos h]
      rw [List.getElem?_append_left h] at hy
      refine hR.mono (hR.keep (hr i y hy) (w' := w6) fun p hp => (Turn.of_grown hg).cell (hFl _ hp.1) fun e => hp.2 e.symm) fun b hb => ⟨.inl hb.1, fun e => ?_⟩
      injection e with e
      exact hFn b hb.1 hb.2 e.symm
    · simp only [if_neg h]
      have hi : i = l.length := by
        have := idx_lt hy
        omega
      subst hi
      simp at hy
      subst hy
      refine hR.mono (hR.keep hx (w' := w6) fun p hp => (Turn.of_grown hg).cell (hGl _ hp) fun e => hGs _ hp e.symm) fun b hb => ⟨.inr (.inl hb), fun e => ?_⟩
      injection e with e
      exact hGn b hb e.symm

end
theorem infoPair : (Tryz.prog.info? 57).map (fun i => (i.zero, i.size, i.bytes)) = some (some (.agg #[.string ⟨#[]⟩, .int .i64 0, .bool false, .int .i64 0, .string ⟨#[]⟩, .string ⟨#[]⟩, .slice none 0 0]), 7, 96) := by kernel_rfl

/-- The closure that orders two pairs. -/
def ordS (a b : ByteArray) : Int := Lib.compareBytes a.data.toList b.data.toList
/-- A pair with its value's slice. -/
structure ItP where
  p : PairD
  A : Option Addr
  cap : Nat
instance : Inhabited ItP := ⟨⟨⟨⟨#[]⟩, .mk 0 false 0 ⟨#[]⟩ ⟨#[]⟩ []⟩, none, 0⟩⟩
def encP (x : ItP) : List Value := [.string x.p.key, .int .i64 x.p.v.kind, .bool x.p.v.truth, .int .i64 x.p.v.num, .string x.p.v.text, .string x.p.v.extra, .slice x.A x.p.v.list.length x.cap]
set_option maxRecDepth 100000 in
set_option maxHeartbeats 1000000 in
theorem cmpP_any (x y : ItP) (W : World) : Calls Tryz.prog 76 #[.agg (encP x).toArray, .agg (encP y).toArray] W fun e w' => e = .returned (.int .i64 (ordS x.p.key y.p.key)) ∧ ∃ q os', w' = Go.Sort.grow (W.drewN q) os' := by
  have hcon := fun W' => (Any.strings_Compare Tryz.lays106 x.p.key y.p.key W' : Calls Tryz.prog 77 _ W' _)
  have hcon' := Lib.hid (fun W' => (hcon W').mono fun e w' h => (show e = .returned (.int .i64 (ordS x.p.key y.p.key)) ∧ w' = W' from h))
  clear hcon
  generalize ordS x.p.key y.p.key = r at hcon' ⊢
  unfold encP
  go_enter Tryz.func76, Tryz.ntmps76
  go_wp2_with fail
  refine (hcon'.out _).mono ?_
  rintro e w' ⟨rfl, rfl⟩
  go_wp2_with fail
  go_ret
  exact ⟨rfl, 0, _, by rw [Go.Sort.alloc_eq_grow, Go.Sort.alloc_eq_grow, Go.Sort.grow_grow]; rfl⟩

/-- Texts are in order. -/
theorem ordS_lt (a b : ByteArray) : (ordS a b < 0) = (a.data.toList < b.data.toList) := by
  unfold ordS
  generalize a.data.toList = x
  generalize b.data.toList = y
  induction x generalizing y with
  | nil => cases y <;> simp [Lib.compareBytes]
  | cons u r ih =>
    cases y with
    | nil => simp [Lib.compareBytes]
    | cons v q =>
      simp only [Lib.compareBytes]
      by_cases h1 : u < v
      · simp [h1, List.cons_lt_cons_iff]
      · by_cases h2 : v < u
        · have hne : u ≠ v := fun e => by subst e; exact h1 h2
          simp [h1, h2, List.cons_lt_cons_iff, hne]
        · have he : u = v := UInt8.le_antisymm (UInt8.not_lt.1 h2) (UInt8.not_lt.1 h1)
          subst he
          simp [h1, ih]
theorem swoP : Go.Sort.SWO (ltOf fun x y : ItP => ordS x.p.key y.p.key) where
  irrefl x := by unfold ltOf; rw [decide_eq_false_iff_not, ordS_lt]; exact List.lt_irrefl _
  trans x y z h1 h2 := by
    unfold ltOf at *
    rw [decide_eq_true_iff, ordS_lt] at *
    exact List.lt_trans h1 h2
  ntrans x y z h1 h2 := by
    unfold ltOf at *
    rw [decide_eq_false_iff_not, ordS_lt] at *
    rw [List.not_lt] at *
    exact List.le_trans h2 h1
theorem itP {w : World} {F : Nat → Prop} {x : PairD} {c : Array Value} (h : PaR w F x c) : ∃ it, encP it = c.toList ∧ it.p = x := by
  obtain ⟨s, rfl, hv⟩ := h
  obtain ⟨A, cap, hu, _, _⟩ := hv.inv
  injection hu with hu
  obtain rfl : s = .slice A x.v.list.length cap := by
    have := congrArg (fun a : Array Value => a[5]?) hu
    simpa [cellsV] using this
  exact ⟨⟨x, A, cap⟩, rfl, rfl⟩
/-- The same pairs, sorted by their keys. -/
def SrtP (l l' : List PairD) : Prop := l'.Perm l ∧ l'.Pairwise (fun a b => ¬ ordS b.key a.key < 0)
set_option maxRecDepth 100000 in
/-- The pairs in a row of one's own, sorted. -/
theorem sortP_any {w : World} {F : Nat → Prop} {l : List PairD} {s : Value} (h : SOwn 57 7 PaR w F l s) (hlen : l.length ≤ 100000000) (hF : ∀ b, F b → b < w.heap.size) :
    Calls Tryz.prog 75 #[s, .func (.func 76) #[] #[]] w fun e w' => e = .returned (.tuple #[]) ∧ ∃ l' : List PairD, SrtP l l' ∧ SlR 7 PaR w' F l' s ∧ Turn (fun b => s.ownBlock = some b) w w' :=
  (sort_own Tryz.sortP PaR.good (by decide) Tryz.isAgg57 Tryz.sizeOf57 encP ItP.p (fun _ => rfl) (fun x v hv => by simp [encP] at hv; rcases hv with rfl | rfl | rfl | rfl | rfl | rfl | rfl <;> rfl) itP (fun a b => ordS a.key b.key) swoP 76 (enters_of Tryz.func76 (by kernel_rfl) rfl) cmpP_any h hlen hF).mono fun _ _ ⟨he, l', h1, h2, h3, h4⟩ => ⟨he, l', ⟨h1, h2⟩, h3, h4⟩

theorem below_of_drew {B : Nat} {w w' : World} (h : Below B w.drew w') : Below B w w' := ⟨h.os, h.tape, h.output, h.size, h.block⟩
/-- Are pairs fit for the store: their values' lists hold no lists. -/
def FlatP (p : PairD) : Prop := ∀ x, x ∈ p.v.list → x.list = []
/-- Pairs in memory of their own, sorted. -/
def PairsIs (l : List PairD) (w : World) (e : Ending) (w' : World) : Prop :=
  ∃ s, e = .returned s ∧ Below w.heap.size w w' ∧ ∃ l' : List PairD, SrtP l l' ∧ SlR 7 PaR w' (fun b => w.heap.size ≤ b ∧ b < w'.heap.size) l' s

set_option maxRecDepth 100000 in
set_option maxHeartbeats 4000000 in
theorem pairs_any (l : List PairD) (hfit : ∀ p, p ∈ l → FitP p ∧ FlatP p) (hlen : l.length ≤ 2000000) (F : Nat → Prop) (A : Option Addr) (n cap : Nat) (w : World) (hF : ∀ g, F g → g < w.heap.size) (hl : SRd 7 PaR w F l A n) :
    Calls Tryz.prog 61 #[.slice A n cap] w (PairsIs l w) := by
  have HL := Lib.hid hl
  have HF := Lib.hid hF
  have HFIT := Lib.hid hfit
  have hln := Lib.hid hl.1
  have hn2 : n ≤ 2000000 := by rw [hl.1]; exact hlen
  clear hl hF hfit
  go_enter Tryz.func61, Tryz.ntmps61
  go_wp2_with fail
  go_loopw [3, 8] (fun s3 s8 wr => ∃ k : Nat, k ≤ n ∧ s8 = .int .i64 (k : Nat) ∧ Hid (Below w.heap.size w wr) ∧ Hid (SOwn 57 7 PaR wr (fun b => w.heap.size ≤ b ∧ b < wr.heap.size) (l.take k) s3)) (fun _ s8 _ => n - (intOf s8).toNat)
  case atStart => exact ⟨0, by omega, rfl, Lib.hid (Below.refl _ _), Lib.hid (SOwn.nil ..)⟩
  case round =>
    obtain ⟨k, hk, rfl, hB, hO⟩ := hrel
    by_cases hlt : k < n
    · obtain ⟨x, hx⟩ : ∃ x, l[k]? = some x := ⟨l[k]'(by rw [← hln.out]; exact hlt), List.getElem?_eq_getElem _⟩
      have HX := Lib.hid hx
      have hfx := Lib.hid (HFIT.out x (List.mem_of_getElem? hx))
      have htl : (l.take k).length = k := by rw [List.length_take]; have := hln.out; omega
      obtain ⟨A3, c3, h3⟩ := hO.out.form
      rw [htl] at h3
      subst h3
      have HTL := Lib.hid htl
      obtain ⟨ad, s, rfl, hFa, hv, c0, c1, c2, c3', c4, c5, c6⟩ := pairsAt (HL.out.under PaR.good hB.out HF.out) hx
      obtain ⟨B, cb, hu, _, _⟩ := hv.inv
      injection hu with hu
      obtain rfl : s = .slice B x.v.list.length cb := by
        have := congrArg (fun a : Array Value => a[5]?) hu
        simpa [cellsV] using this
      have HV := Lib.hid hv
      clear hx hFa hv hu htl
      obtain ⟨lx, Hlx⟩ := name_itV x.v.list.length
      rw [Hlx.out] at c6 HV
      obtain ⟨z, Hz⟩ := name_itV wr.heap.size
      obtain ⟨w5, HW5⟩ := name_itV (wr.alloc (.cells #[.string x.key, .int .i64 x.v.kind, .bool x.v.truth, .int .i64 x.v.num, .string x.v.text, .string x.v.extra, .slice B lx cb] 57))
      have HB5 := Lib.hid (show Below wr.heap.size wr w5 from by rw [← HW5.out]; exact (Below.refl _ _).alloc (Nat.le_refl _) _)
      have HK5 := Lib.hid (show w5.heap[z]? = some (.cells #[.string x.key, .int .i64 x.v.kind, .bool x.v.truth, .int .i64 x.v.num, .string x.v.text, .string x.v.extra, .slice B lx cb] 57 (0, 0)) from by rw [← HW5.out, ← Hz.out]; exact heap_alloc_new wr _)
      have HS5 := Lib.hid (show w5.heap.size = z + 1 from by rw [← HW5.out, ← Hz.out]; simp)
      have e1 : (0 : Int) ≤ k := by omega
      have e2 : (k : Int) < n := by omega
      go_upto_region 5 with fail
      rw [HW5.out, Hz.out]
      have hszw : w.heap.size ≤ wr.heap.size := hB.out.size
      have hcp := Lib.hid (copied_any x.v hfx.out.2 hfx.out.1.2 F _ w5.drew (fun g hg => Nat.lt_of_lt_of_le (HF.out g hg) (Nat.le_trans hszw HB5.out.size)) ((HV.out.under HB5.out (fun g hg => Nat.lt_of_lt_of_le (HF.out g hg) hszw)).drewN 1))
      unfold cellsV at hcp
      have d0 : w5.drew.cell? ⟨z, 0, none⟩ = some (.string x.key) := Lib.cell_of_heap HK5.out 0
      have d1 : w5.drew.cell? ⟨z, 1, none⟩ = some (.int .i64 x.v.kind) := Lib.cell_of_heap HK5.out 1
      have d2 : w5.drew.cell? ⟨z, 2, none⟩ = some (.bool x.v.truth) := Lib.cell_of_heap HK5.out 2
      have d3 : w5.drew.cell? ⟨z, 3, none⟩ = some (.int .i64 x.v.num) := Lib.cell_of_heap HK5.out 3
      have d4 : w5.drew.cell? ⟨z, 4, none⟩ = some (.string x.v.text) := Lib.cell_of_heap HK5.out 4
      have d5 : w5.drew.cell? ⟨z, 5, none⟩ = some (.string x.v.extra) := Lib.cell_of_heap HK5.out 5
      have d6 : w5.drew.cell? ⟨z, 6, none⟩ = some (.slice B lx cb) := Lib.cell_of_heap HK5.out 6
      obtain ⟨cs, hrow, h7, hFw, hr⟩ := (hO.out.turn PaR.good (Turn.of_below HB5.out) (fun b hb => hb.2) (fun b hb h => by obtain ⟨_, h1⟩ := hb; omega))
      rw [HTL.out] at hrow h7
      have HROW := Lib.hid hrow
      have HREST := Lib.hid (And.intro h7 (And.intro hFw hr))
      clear c0 c1 c2 c3' c4 c5 c6 hrow h7 hFw hr
      obtain ⟨i0, hi0, hz0a, hz1a, hz2a⟩ := info_parts infoPair
      go_region_law (first | (refine step_append_lies _ rfl _ _ 36 rfl 0 57 i0 (.agg #[.string ⟨#[]⟩, .int .i64 0, .bool false, .int .i64 0, .string ⟨#[]⟩, .string ⟨#[]⟩, .slice none 0 0]) 7 96 Tryz.underlying36 hi0 hz0a hz1a hz2a rfl (by decide) (.slice A3 k c3) k (flatC cs k) rfl (by exact HROW6.out.alloc _) ⟨w6.heap.size, 0, none⟩ 1 1 [.string x.key, .int .i64 x.v.kind, .bool x.v.truth, .int .i64 x.v.num, .string x.v.text, .string x.v.extra, .slice B6 lx cb6] rfl rfl (World.news_of_block (cs := #[.string x.key, .int .i64 x.v.kind, .bool x.v.truth, .int .i64 x.v.num, .string x.v.text, .string x.v.extra, .slice B6 lx cb6]) (by exact NB.out)) HONE.out (by omega) (by unfold maxLen; omega) (by omega) (Nat.zero_le _) (w6.heap.size + 1) (by exact HS6.out) (fun g7 c7 w7 ho7 hg7 hl7 _ => ?_); have HO7 := Lib.hid ho7; have HG7 := Lib.hid (show w6.grownBy w7 (Value.slice A3 k c3).ownBlock from grown_after (w := w6) (o := .cells #[.string x.key, .int .i64 x.v.kind, .bool x.v.truth, .int .i64 x.v.num, .string x.v.text, .string x.v.extra, .slice B6 lx cb6] 57) ⟨hg7.os, hg7.tape, hg7.output, hg7.size, hg7.block⟩); have HL7 := Lib.hid (show (Value.slice A3 k c3).ownBlock = some g7 ∨ g7 = w6.heap.size + 1 from hl7); clear ho7 hg7 hl7) | (go_simp; go_at_call 51; (with_reducible refine hcp.out.mono ?_); rintro e w6 ⟨B6, cb6, rfl, hb6, hv6⟩; rw [Hlx.out] at hv6; unfold cellsV; rw [Hlx.out]; have HB6 := Lib.hid hb6; have HV6 := Lib.hid hv6; have HROW6 := Lib.hid ((Turn.of_below hb6).owns HROW.out (fun g hg h => by have := HREST.out.2.1 g hg; have h2 : w5.heap.size ≤ g := h; have := HB5.out.size; omega)); have d0b : w6.cell? ⟨z, 0, none⟩ = some (.string x.key) := Lib.cell_of_heap ((hb6.block z (by show z < w5.heap.size; rw [HS5.out]; omega)).trans HK5.out) 0; have HONE := Lib.hid (show ∀ u ∈ ([.string x.key, .int .i64 x.v.kind, .bool x.v.truth, .int .i64 x.v.num, .string x.v.text, .string x.v.extra, .slice B6 lx cb6] : List Value), u.oneCell' = true from fun u hu => by simp at hu; rcases hu with rfl | rfl | rfl | rfl | rfl | rfl | rfl <;> rfl); have NB := Lib.hid (heap_alloc_new w6 (.cells #[.string x.key, .int .i64 x.v.kind, .bool x.v.truth, .int .i64 x.v.num, .string x.v.text, .string x.v.extra, .slice B6 lx cb6] 57)); have HS6 := Lib.hid (show (w6.alloc (.cells #[.string x.key, .int .i64 x.v.kind, .bool x.v.truth, .int .i64 x.v.num, .string x.v.text, .string x.v.extra, .slice B6 lx cb6] 57)).heap.size = w6.heap.size + 1 by simp); clear hb6 hv6))
      all_goals (
        have w1 : IntKind.i64.wrap ((k : Int) + 1) = (k : Int) + 1 := IntWalk.i64_in _ (by omega)
        go_wp2_with fail
        go_roundw)
      all_goals first
        | (case measure => simp [intOf]; omega)
        | (case rel =>
            obtain ⟨h7, hFw, hr⟩ := HREST.out
            have hs6 : w5.heap.size ≤ w6.heap.size := HB6.out.size
            have hs7 : w6.heap.size ≤ w7.heap.size := HG7.out.size
            have hsz5 := HS5.out
            have hz := Hz.out
            have ho7 := HO7.out
            have hg7 : g7 < w7.heap.size := (ho7.lt g7 rfl).2
            have hsn := own_more (w5 := w6) (w6 := w7) (R := PaR) (E := 57) (sz := 7) (F := fun b => w.heap.size ≤ b ∧ b < wr.heap.size) (G := fun b => w5.heap.size ≤ b ∧ b < w6.heap.size) (l := l.take k) (x := x) (s := .slice A3 k c3) (c := cellsP x (.slice B6 x.v.list.length cb6)) (g4 := g7) (c4 := c7) (cs := cs) PaR.good
              (fun i hi => h7 i (by rw [HTL.out] at hi; exact hi)) (fun i y hy => PaR.good.keep (hr i y hy) (fun p hp => HB6.out.cell (show p.block < w5.heap.size from by have := hp.1.2; omega)))
              ⟨_, rfl, by rw [Hlx.out]; exact HV6.out⟩ rfl (fun b hb e => by have := (hFw b e).2; have := hb.1; omega) (fun b hb => by have := hb.2; omega) (fun b hb => hb.2) (by
                rw [HTL.out]
                unfold cellsP
                rw [Hlx.out]
                exact ho7) HG7.out (by rcases HL7.out with e | e; exact .inl e; exact .inr (by omega))
            rw [HTL.out] at hsn
            refine ⟨k + 1, by omega, by go_num, Lib.hid ?_, Lib.hid ?_⟩
            · exact ((hB.out.trans (HB5.out.mono (by omega))).trans ((below_of_drew HB6.out).mono (show w.heap.size ≤ w5.heap.size from by omega))).trans ((Turn.of_grown HG7.out).below (fun b _ hb => (hFw b hb.symm).1) (by omega))
            · rw [take_oneMore HX.out]
              refine hsn.mono PaR.good (fun b hb => ?_)
              rcases hb with hb | hb | hb
              · exact ⟨hb.1, by have := hb.2; omega⟩
              · exact ⟨by have := hb.1; omega, by have := hb.2; omega⟩
              · subst hb
                refine ⟨?_, hg7⟩
                rcases HL7.out with h | h
                · exact (hFw b h).1
                · omega)
    · have hke : k = n := by omega
      subst hke
      have htk := Lib.hid (show l.take k = l from List.take_of_length_le (by rw [hln.out]; exact Nat.le_refl _))
      obtain ⟨A3, c3, h3⟩ := hO.out.form
      rw [htk.out] at hO h3
      subst h3
      have HO2 := hO
      have HS := Lib.hid (sortP_any HO2.out (by rw [← hln.out]; omega) (fun b hb => hb.2))
      go_wp2_with fail
      refine HS.out.mono ?_
      rintro e w6 ⟨rfl, l', hp, hr, ht⟩
      have HR := Lib.hid (And.intro hp (And.intro hr ht))
      clear hp hr ht
      go_wp2_with fail
      go_ret
      obtain ⟨hp, hr, ht⟩ := HR.out
      obtain ⟨cs, hrow, h7, hFw, hrr⟩ := HO2.out
      refine ⟨_, rfl, hB.out.trans (ht.below (fun i _ hi => (hFw i hi).1) hB.out.size), l', hp, hr.mono PaR.good (fun b hb => ⟨hb.1, Nat.lt_of_lt_of_le hb.2 ht.size⟩)⟩
end Go.Proofs.YtmhjbicbdahllaaGreatDoor
