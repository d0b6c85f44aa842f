/- The smallest functions of the graph's store: text, order; sets of texts and of numbers. -/
import Derived.Test.YtmhjbicbdahllaaGreatDoorG0
namespace Go.Proofs.YtmhjbicbdahllaaGreatDoor
open Go Go.RowKit Go.Maps Go.WideMaps

/-- May a text be a label, a type, a key? -/
def textB (s : ByteArray) : Bool := decide (1 ≤ s.size ∧ s.size ≤ 1048576)

set_option maxRecDepth 100000 in
set_option maxHeartbeats 400000 in
theorem text_ok (s : ByteArray) (w : World) : Calls Tryz.prog 27 #[.string s] w fun e w' => e = .returned (.bool (textB s)) ∧ w' = w := by
  have hB : textB s = decide (1 ≤ s.size ∧ s.size ≤ 1048576) := rfl
  generalize textB s = r at hB ⊢
  have HB := Lib.hid hB
  clear hB
  by_cases h1 : 1 ≤ s.size
  · by_cases h2 : s.size ≤ 1048576
    · have e1 : decide ((1 : Int) ≤ s.size) = true := decide_eq_true (by omega)
      have e2 : decide ((s.size : Int) ≤ 1048576) = true := decide_eq_true (by omega)
      have HR : r = true := by rw [HB.out]; exact decide_eq_true ⟨h1, h2⟩
      clear h1 h2
      go_enter Tryz.func27, Tryz.ntmps27
      go_wp2
      go_ret
      exact ⟨by rw [HR]; rfl, rfl⟩
    · have e1 : decide ((1 : Int) ≤ s.size) = true := decide_eq_true (by omega)
      have e2 : decide ((s.size : Int) ≤ 1048576) = false := decide_eq_false (by omega)
      have HR : r = false := by rw [HB.out]; exact decide_eq_false (fun h => h2 h.2)
      clear h1 h2
      go_enter Tryz.func27, Tryz.ntmps27
      go_wp2
      go_ret
      exact ⟨by rw [HR]; rfl, rfl⟩
  · have e1 : decide ((1 : Int) ≤ s.size) = false := decide_eq_false (by omega)
    have HR : r = false := by rw [HB.out]; exact decide_eq_false (fun h => h1 h.1)
    clear h1
    go_enter Tryz.func27, Tryz.ntmps27
    go_wp2
    go_ret
    exact ⟨by rw [HR]; rfl, rfl⟩

/-- How two numbers are ordered. -/
def ordI (a b : Int) : Int := if a < b then -1 else if b < a then 1 else 0

set_option maxRecDepth 100000 in
set_option maxHeartbeats 400000 in
theorem order_ok (a b : Int) (w : World) : Calls Tryz.prog 36 #[.int .i64 a, .int .i64 b] w fun e w' => e = .returned (.int .i64 (ordI a b)) ∧ w' = w := by
  by_cases h1 : a < b
  · have HR := Lib.hid (show ordI a b = -1 from if_pos h1)
    generalize ordI a b = r at HR ⊢
    have e1 : decide (a < b) = true := decide_eq_true h1
    clear h1
    go_enter Tryz.func36, Tryz.ntmps36
    go_wp2
    go_ret
    exact ⟨by rw [HR.out]; rfl, rfl⟩
  · by_cases h2 : b < a
    · have HR := Lib.hid (show ordI a b = 1 from (if_neg h1).trans (if_pos h2))
      generalize ordI a b = r at HR ⊢
      have e1 : decide (a < b) = false := decide_eq_false h1
      have e2 : decide (b < a) = true := decide_eq_true h2
      clear h1 h2
      go_enter Tryz.func36, Tryz.ntmps36
      go_wp2
      go_ret
      exact ⟨by rw [HR.out]; rfl, rfl⟩
    · have HR := Lib.hid (show ordI a b = 0 from (if_neg h1).trans (if_neg h2))
      generalize ordI a b = r at HR ⊢
      have e1 : decide (a < b) = false := decide_eq_false h1
      have e2 : decide (b < a) = false := decide_eq_false h2
      clear h1 h2
      go_enter Tryz.func36, Tryz.ntmps36
      go_wp2
      go_ret
      exact ⟨by rw [HR.out]; rfl, rfl⟩

def VI (x : Int) : Prop := (Lit.int .i64 x).wf = true
def litI (x : Int) : Lit := .int .i64 x
theorem litI_inj : ∀ x y : Int, VI x → VI y → litI x = litI y → x = y := fun x y _ _ h => by
  unfold litI at h
  injection h
theorem litI_key : ∀ x : Int, VI x → WideAt.IsKeyLit (litI x) := fun _ _ => trivial
theorem lawI : Keyed Tryz.prog 2 := int_keyed Tryz.underlying2
theorem zeroUnit (w : World) : (zeroValue 94).run Tryz.prog w = .ok (.agg #[]) w := by kernel_rfl

/-- Is one on the list? -/
def inB {K : Type} [DecidableEq K] (ks : List K) (x : K) : Bool := decide (x ∈ ks)
theorem inB_yes {K : Type} [DecidableEq K] {ks : List K} {x : K} (h : x ∈ ks) : inB ks x = true := by unfold inB; exact decide_eq_true h
theorem inB_no {K : Type} [DecidableEq K] {ks : List K} {x : K} (h : x ∉ ks) : inB ks x = false := by unfold inB; exact decide_eq_false h
/-- A set in memory: its map in block m. -/
def SetAt {K : Type} [DecidableEq K] (kt : TypeId) (V : K → Prop) (lit : K → Lit) (w : World) (m : Nat) (ks : List K) : Prop :=
  ∃ D : DataW Unit, w.ownsMap Tryz.prog kt (unitElem (H := Unit)) m ks.length D ∧ ∀ x, V x → Maps.has D (lit x) = inB ks x
/-- A set with one more. -/
def setPut {K : Type} [DecidableEq K] (ks : List K) (x : K) : List K := if inB ks x = true then ks else ks ++ [x]
section
variable {K : Type} [DecidableEq K] {kt : TypeId} {V : K → Prop} {lit : K → Lit} {w w' : World} {m : Nat} {ks : List K}
theorem SetAt.turn (h : SetAt kt V lit w m ks) {S : Nat → Prop} (ht : Turn S w w') (hS : ¬ S m) : SetAt kt V lit w' m ks := by
  obtain ⟨D, h1, h2⟩ := h
  exact ⟨D, ht.map h1 hS, h2⟩
theorem SetAt.lt (h : SetAt kt V lit w m ks) : m < w.heap.size := by
  obtain ⟨D, ⟨es, clock, hb, _⟩, _⟩ := h
  exact blk_lt hb
theorem SetAt.below (h : SetAt kt V lit w m ks) (hb : Below w.heap.size w w') : SetAt kt V lit w' m ks := h.turn (Turn.of_below hb) (fun hx => by have := h.lt; omega)
theorem SetAt.made (kt : TypeId) (V : K → Prop) (lit : K → Lit) (w : World) : SetAt kt V lit (w.alloc (.map #[] 0)) w.heap.size ([] : List K) :=
  ⟨.map [], World.ownsMap_made w _ _ _, fun _ _ => rfl⟩
theorem SetAt.put (hi : ∀ x y, V x → V y → lit x = lit y → x = y) (hk : ∀ x, V x → WideAt.IsKeyLit (lit x)) {D : DataW Unit} (hD : ∀ x, V x → Maps.has D (lit x) = inB ks x) (hm : IsMap D)
    {x : K} (hx : V x) {d : DataW Unit} : ∀ y, V y → Maps.has (D.put (lit x) d) (lit y) = inB (ks ++ [x]) y := fun y hy => by
  by_cases e : y = x
  · subst e
    rw [has_put_same hm (hk _ hx), inB_yes (by simp)]
  · rw [has_put_other (fun h => e (hi _ _ hy hx h)), hD y hy]
    unfold inB
    simp [e]
/-- What a set tells of one; what it is behind 'put'. -/
def PutSet (kt : TypeId) (V : K → Prop) (lit : K → Lit) (m : Nat) (ks : List K) (x : K) (w : World) (e : Ending) (w' : World) : Prop :=
  e = .returned (.bool (!inB ks x)) ∧ SetAt kt V lit w' m (setPut ks x) ∧ Turn (fun b => b = m) w w'
def HasSet (ks : List K) (x : K) (w : World) (e : Ending) (w' : World) : Prop := e = .returned (.bool (inB ks x)) ∧ Below w.heap.size w w'
end

set_option maxRecDepth 100000 in
set_option maxHeartbeats 400000 in
theorem has_str (m : Nat) (ks : List ByteArray) (x : ByteArray) (hx : VS x) (w : World) (h : SetAt 9 VS litS w m ks) :
    Calls Tryz.prog 54 #[.map (some m), .string x] w (HasSet ks x w) := by
  obtain ⟨D, h1, h2⟩ := h
  have hkey := keyOf_string_mk Tryz.underlying9 hx
  have HH := Lib.hid (show Maps.has D (.string x.data.toList) = inB ks x from h2 x hx)
  generalize hr : inB ks x = r at HH
  have HR := Lib.hid hr
  clear h2 hx hr
  go_enter Tryz.func54, Tryz.ntmps54
  go_wp2_with (at_lookup; refine wpList_lookup_own_unit _ rfl _ _ 69 rfl 9 94 law9 Tryz.underlying69 (zeroUnit _) m _ D rfl h1 _ _ rfl hkey ?_; rw [HH.out])
  go_ret
  exact ⟨by rw [HR.out]; rfl, by repeat (first | exact Below.refl _ _ | refine Below.alloc ?_ (by simp) _)⟩

set_option maxRecDepth 100000 in
set_option maxHeartbeats 400000 in
theorem put_str (m : Nat) (ks : List ByteArray) (x : ByteArray) (hx : VS x) (hn : ks.length ≤ 100000000) (w : World) (h : SetAt 9 VS litS w m ks) :
    Calls Tryz.prog 28 #[.map (some m), .string x] w (PutSet 9 VS litS m ks x w) := by
  have HH := Lib.hid (has_str m ks x hx w h)
  have HS := Lib.hid h
  have hkey := keyOf_string_mk Tryz.underlying9 hx
  have HX := Lib.hid hx
  clear h hx
  by_cases hin : x ∈ ks
  · have HI := Lib.hid hin
    have HD := Lib.hid (inB_yes hin)
    clear hin
    go_enter Tryz.func28, Tryz.ntmps28
    go_wp2_with fail
    refine HH.out.mono ?_
    rintro e w1 ⟨rfl, hb⟩
    have HB := Lib.hid hb
    rw [HD.out]
    clear hb
    go_wp2_with fail
    go_ret
    refine ⟨by rw [HD.out]; rfl, ?_, ?_⟩
    · unfold setPut
      rw [if_pos (inB_yes HI.out)]
      exact HS.out.below HB.out
    · exact (Turn.of_below HB.out).mono (fun i hi h => by omega)
  · have HI := Lib.hid hin
    have HD := Lib.hid (inB_no hin)
    clear hin
    go_enter Tryz.func28, Tryz.ntmps28
    go_wp2_with fail
    refine HH.out.mono ?_
    rintro e w1 ⟨rfl, hb⟩
    have HB := Lib.hid hb
    rw [HD.out]
    obtain ⟨D, h1, h2⟩ := HS.out.below hb
    have H2 := Lib.hid h2
    clear hb h2
    go_wp2_with (at_mapUpdate; refine wpList_mapUpdate_own _ rfl _ _ _ 69 rfl 9 94 law9 Tryz.underlying69 (unitElem (H := Unit)) m _ D rfl h1 (by unfold maxLen; omega) _ _ _ rfl rfl hkey _ _ unitElem_mk ?_; intro w2 hown hgr)
    go_ret
    refine ⟨by rw [HD.out]; rfl, ?_, ?_⟩
    · unfold setPut
      rw [if_neg (by rw [inB_no HI.out]; decide)]
      exact ⟨_, by rw [List.length_append]; exact hown, SetAt.put litS_inj litS_key H2.out h1.isMap HX.out⟩
    · exact ((Turn.of_below HB.out).mono (fun i hi h => by omega)).trans ((Turn.of_grown hgr).mono (fun i _ h => by injection h))

set_option maxRecDepth 100000 in
set_option maxHeartbeats 400000 in
theorem has_int (m : Nat) (ks : List Int) (x : Int) (hx : VI x) (w : World) (h : SetAt 2 VI litI w m ks) :
    Calls Tryz.prog 32 #[.map (some m), .int .i64 x] w (HasSet ks x w) := by
  obtain ⟨D, h1, h2⟩ := h
  have hkey := keyOf_int_mk Tryz.underlying2 hx
  have HH := Lib.hid (show Maps.has D (.int .i64 x) = inB ks x from h2 x hx)
  generalize hr : inB ks x = r at HH
  have HR := Lib.hid hr
  clear h2 hx hr
  go_enter Tryz.func32, Tryz.ntmps32
  go_wp2_with (at_lookup; refine wpList_lookup_own_unit _ rfl _ _ 67 rfl 2 94 lawI Tryz.underlying67 (zeroUnit _) m _ D rfl h1 _ _ rfl hkey ?_; rw [HH.out])
  go_ret
  exact ⟨by rw [HR.out]; rfl, by repeat (first | exact Below.refl _ _ | refine Below.alloc ?_ (by simp) _)⟩

set_option maxRecDepth 100000 in
set_option maxHeartbeats 400000 in
theorem put_int (m : Nat) (ks : List Int) (x : Int) (hx : VI x) (hn : ks.length ≤ 100000000) (w : World) (h : SetAt 2 VI litI w m ks) :
    Calls Tryz.prog 29 #[.map (some m), .int .i64 x] w (PutSet 2 VI litI m ks x w) := by
  have HH := Lib.hid (has_int m ks x hx w h)
  have HS := Lib.hid h
  have hkey := keyOf_int_mk Tryz.underlying2 hx
  have HX := Lib.hid hx
  clear h hx
  by_cases hin : x ∈ ks
  · have HI := Lib.hid hin
    have HD := Lib.hid (inB_yes hin)
    clear hin
    go_enter Tryz.func29, Tryz.ntmps29
    go_wp2_with fail
    refine HH.out.mono ?_
    rintro e w1 ⟨rfl, hb⟩
    have HB := Lib.hid hb
    rw [HD.out]
    clear hb
    go_wp2_with fail
    go_ret
    refine ⟨by rw [HD.out]; rfl, ?_, ?_⟩
    · unfold setPut
      rw [if_pos (inB_yes HI.out)]
      exact HS.out.below HB.out
    · exact (Turn.of_below HB.out).mono (fun i hi h => by omega)
  · have HI := Lib.hid hin
    have HD := Lib.hid (inB_no hin)
    clear hin
    go_enter Tryz.func29, Tryz.ntmps29
    go_wp2_with fail
    refine HH.out.mono ?_
    rintro e w1 ⟨rfl, hb⟩
    have HB := Lib.hid hb
    rw [HD.out]
    obtain ⟨D, h1, h2⟩ := HS.out.below hb
    have H2 := Lib.hid h2
    clear hb h2
    go_wp2_with (at_mapUpdate; refine wpList_mapUpdate_own _ rfl _ _ _ 67 rfl 2 94 lawI Tryz.underlying67 (unitElem (H := Unit)) m _ D rfl h1 (by unfold maxLen; omega) _ _ _ rfl rfl hkey _ _ unitElem_mk ?_; intro w2 hown hgr)
    go_ret
    refine ⟨by rw [HD.out]; rfl, ?_, ?_⟩
    · unfold setPut
      rw [if_neg (by rw [inB_no HI.out]; decide)]
      exact ⟨_, by rw [List.length_append]; exact hown, SetAt.put litI_inj litI_key H2.out h1.isMap HX.out⟩
    · exact ((Turn.of_below HB.out).mono (fun i hi h => by omega)).trans ((Turn.of_grown hgr).mono (fun i _ h => by injection h))
end Go.Proofs.YtmhjbicbdahllaaGreatDoor
