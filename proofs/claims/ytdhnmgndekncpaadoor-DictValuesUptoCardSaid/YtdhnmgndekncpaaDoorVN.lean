/- Bytes that are laid: big, text. Printed by gen_VN.py. -/
import Derived.Test.YtdhnmgndekncpaaDoorVM
import Derived.Lib.AppendStr
namespace Go.Proofs.YtdhnmgndekncpaaDoor
open Go Go.RowKit Go.Maps Go.WideMaps

/-- A number's bytes, so many of them, the highest first. -/
def beN (W m : Nat) : List UInt8 := (List.range W).map fun j => UInt8.ofNat (m / 2 ^ (8 * (W - 1 - j)) % 256)
theorem beN_length (W m : Nat) : (beN W m).length = W := by simp [beN]
/-- From v in w to v' in w' a row has grown. -/
structure Grown (v v' : Value) (w w' : World) : Prop where
  turn : Turn (fun i => some i = v.ownBlock) w w'
  lies : v'.ownBlock = v.ownBlock ∨ ∀ g, v'.ownBlock = some g → w.heap.size ≤ g
theorem Grown.refl (v : Value) (w : World) : Grown v v w w := ⟨Turn.refl _ _, .inl rfl⟩
theorem Grown.trans {v v1 v2 : Value} {w w1 w2 : World} (h : Grown v v1 w w1) (k : Grown v1 v2 w1 w2) : Grown v v2 w w2 := by
  refine ⟨h.turn.andThen k.turn (fun i hi hs => ?_), ?_⟩
  · rcases h.lies with e | e
    · rw [← e]; exact hs
    · have := e i hs.symm; omega
  · rcases k.lies with e | e
    · rcases h.lies with e2 | e2
      · exact .inl (e.trans e2)
      · exact .inr (fun g hg => e2 g (by rw [← e]; exact hg))
    · exact .inr (fun g hg => Nat.le_trans h.turn.size (e g hg))
theorem Grown.below {v : Value} {w w' : World} (h : Below w.heap.size w w') : Grown v v w w' := ⟨(Turn.of_below h).mono (fun i hi hs => by omega), .inl rfl⟩
theorem Grown.keeps {v v' : Value} {w w' : World} (h : Grown v v' w w') {g : Nat} (hg : g < w.heap.size) (hv : v.ownBlock ≠ some g) : w'.heap[g]? = w.heap[g]? := h.turn.block g hg (fun e => hv e.symm)
/-- A row of bytes L, and what it has become: L and M. -/
def GrowIs (B : Nat) (v : Value) (L M : List UInt8) (w : World) (e : Ending) (w' : World) : Prop :=
  ∃ v', e = .returned v' ∧ w'.ownsRow B 5 1 v' (L ++ M).length (Lib.byteCells (L ++ M)) ∧ Grown v v' w w'
theorem byteCells_append (a b : List UInt8) : Lib.byteCells (a ++ b) = Lib.byteCells a ++ Lib.byteCells b := by unfold Lib.byteCells; exact List.map_append
theorem bigCell_be (W m j : Nat) (k : Nat) (hk : k = W - 1 - j) : Value.int .u8 ((m : Int) / 2 ^ (8 * k) % 256) = .int .u8 ((UInt8.ofNat (m / 2 ^ (8 * (W - 1 - j)) % 256)).toNat : Int) := by
  subst hk
  generalize 8 * (W - 1 - j) = e
  rw [UInt8.toNat_ofNat']
  have h : m / 2 ^ e % 256 % 2 ^ 8 = m / 2 ^ e % 256 := Nat.mod_eq_of_lt (Nat.mod_lt _ (by decide))
  rw [h, Int.natCast_emod, Int.natCast_ediv, Int.natCast_pow]
  rfl

def cell8 (n : Int) (j : Nat) : Value := .int .u8 (n / 2 ^ (8 * (7 - j)) % 256)
set_option maxRecDepth 100000 in
set_option maxHeartbeats 1000000 in
theorem bigW8 (B : Nat) (v : Value) (xs : List Value) (n : Int) (w : World) (hx : xs.length ≤ 60000000) (ho : w.ownsRow B 5 1 v xs.length xs) (hB : B ≤ w.heap.size) :
    Calls Tryd.prog 70 #[v, .int .u64 n, .int .i64 8] w fun e w' => ∃ v', e = .returned v' ∧ w'.ownsRow B 5 1 v' (xs.length + 8) (xs ++ (List.range 8).map (cell8 n)) ∧ Turn (fun i => some i = v.ownBlock) w w' ∧ (v'.ownBlock = v.ownBlock ∨ ∀ g, v'.ownBlock = some g → w.heap.size ≤ g) := by
  go_enter Tryd.func70, Tryd.ntmps70
  go_wp2
  go_loopw [0, 7] (fun u i wr => ∃ (k : Nat), k ≤ 8 ∧ i = .int .i64 (7 - (k : Int)) ∧ wr.ownsRow B 5 1 u (xs.length + k) (xs ++ (List.range k).map (cell8 n)) ∧ Turn (fun i => some i = v.ownBlock) w wr ∧ (u.ownBlock = v.ownBlock ∨ ∀ g, u.ownBlock = some g → w.heap.size ≤ g)) (fun _ i _ => (intOf i + 1).toNat)
  case atStart => exact ⟨0, by omega, rfl, by simpa using ho, Turn.refl _ _, .inl rfl⟩
  case round =>
    obtain ⟨k, hk, rfl, hown, ht, hl⟩ := hrel
    have HO := Lib.hid hown
    have HT := Lib.hid ht
    have HL := Lib.hid hl
    have hbs : B ≤ wr.heap.size := Nat.le_trans hB ht.size
    have hws : w.heap.size ≤ wr.heap.size := ht.size
    clear hown ht hl
    by_cases hlt : k < 8
    · have t1 : decide ((0 : Int) ≤ 7 - k) = true := decide_eq_true (by omega)
      have e1 : (0 : Int) ≤ 7 - k := by omega
      go_wp2_with (at_builtin; refine app_new rfl _ _ 106 rfl B 5 (.int .u8 0) 1 1 Tryd.underlying106 infoByte rfl (by decide) _ _ _ rfl HO.out hbs #[.int .u8 _] 1 1 rfl rfl (one_u8 _) (by omega) (by omega) (by decide) ?_)
      intro g4 cp4 w4 ho4 hg4 hl4
      have HO4 := Lib.hid ho4
      have HG4 := Lib.hid (show wr.grownBy w4 u0.ownBlock from hg4)
      have HL4 := Lib.hid (show u0.ownBlock = some g4 ∨ wr.heap.size ≤ g4 from hl4)
      clear ho4 hg4 hl4
      go_wp2
      go_roundw
      case rel =>
        refine ⟨k + 1, by omega, by go_num, ?_, ?_, ?_⟩
        · have := HO4.out
          rw [List.range_succ, List.map_append]
          simpa [cell8, Nat.add_assoc] using this
        · refine HT.out.andThen (Turn.of_grown HG4.out) (fun i hi h => ?_)
          rcases HL.out with h2 | h2
          · rw [← h2]; exact h
          · have := h2 i h.symm; omega
        · rcases HL4.out with h2 | h2
          · rcases HL.out with h3 | h3
            · left; rw [← h3, h2]; rfl
            · right; intro g hg; exact h3 g (by rw [h2]; exact hg)
          · right; intro g hg
            injection hg with hg
            have hg : g4 = g := hg
            omega
      case measure => simp [intOf]; omega
    · have hke : k = 8 := by omega
      subst hke
      go_wp2
      go_ret
      exact ⟨_, rfl, HO.out, HT.out, HL.out⟩
theorem big8_any (B : Nat) (v : Value) (L : List UInt8) (m : Nat) (w : World) (hx : L.length ≤ 60000000) (ho : w.ownsRow B 5 1 v L.length (Lib.byteCells L)) (hB : B ≤ w.heap.size) :
    Calls Tryd.prog 70 #[v, .int .u64 (m : Int), .int .i64 8] w (GrowIs B v L (beN 8 m) w) := by
  have hl := Lib.byteCells_length L
  have h := bigW8 B v (Lib.byteCells L) (m : Int) w (by omega) (by rw [hl]; exact ho) hB
  refine h.mono ?_
  rintro e w' ⟨v', he, ho', ht, hl'⟩
  refine ⟨v', he, ?_, ht, hl'⟩
  rw [byteCells_append, List.length_append, beN_length]
  rw [hl] at ho'
  have e2 : (List.range 8).map (cell8 (m : Int)) = Lib.byteCells (beN 8 m) := by
    unfold Lib.byteCells beN
    rw [List.map_map]
    refine List.map_congr_left (fun j _ => ?_)
    exact bigCell_be 8 m j (7 - j) rfl
  rw [← e2]
  exact ho'

def cell4 (n : Int) (j : Nat) : Value := .int .u8 (n / 2 ^ (8 * (3 - j)) % 256)
set_option maxRecDepth 100000 in
set_option maxHeartbeats 1000000 in
theorem bigW4 (B : Nat) (v : Value) (xs : List Value) (n : Int) (w : World) (hx : xs.length ≤ 60000000) (ho : w.ownsRow B 5 1 v xs.length xs) (hB : B ≤ w.heap.size) :
    Calls Tryd.prog 70 #[v, .int .u64 n, .int .i64 4] w fun e w' => ∃ v', e = .returned v' ∧ w'.ownsRow B 5 1 v' (xs.length + 4) (xs ++ (List.range 4).map (cell4 n)) ∧ Turn (fun i => some i = v.ownBlock) w w' ∧ (v'.ownBlock = v.ownBlock ∨ ∀ g, v'.ownBlock = some g → w.heap.size ≤ g) := by
  go_enter Tryd.func70, Tryd.ntmps70
  go_wp2
  go_loopw [0, 7] (fun u i wr => ∃ (k : Nat), k ≤ 4 ∧ i = .int .i64 (3 - (k : Int)) ∧ wr.ownsRow B 5 1 u (xs.length + k) (xs ++ (List.range k).map (cell4 n)) ∧ Turn (fun i => some i = v.ownBlock) w wr ∧ (u.ownBlock = v.ownBlock ∨ ∀ g, u.ownBlock = some g → w.heap.size ≤ g)) (fun _ i _ => (intOf i + 1).toNat)
  case atStart => exact ⟨0, by omega, rfl, by simpa using ho, Turn.refl _ _, .inl rfl⟩
  case round =>
    obtain ⟨k, hk, rfl, hown, ht, hl⟩ := hrel
    have HO := Lib.hid hown
    have HT := Lib.hid ht
    have HL := Lib.hid hl
    have hbs : B ≤ wr.heap.size := Nat.le_trans hB ht.size
    have hws : w.heap.size ≤ wr.heap.size := ht.size
    clear hown ht hl
    by_cases hlt : k < 4
    · have t1 : decide ((0 : Int) ≤ 3 - k) = true := decide_eq_true (by omega)
      have e1 : (0 : Int) ≤ 3 - k := by omega
      go_wp2_with (at_builtin; refine app_new rfl _ _ 106 rfl B 5 (.int .u8 0) 1 1 Tryd.underlying106 infoByte rfl (by decide) _ _ _ rfl HO.out hbs #[.int .u8 _] 1 1 rfl rfl (one_u8 _) (by omega) (by omega) (by decide) ?_)
      intro g4 cp4 w4 ho4 hg4 hl4
      have HO4 := Lib.hid ho4
      have HG4 := Lib.hid (show wr.grownBy w4 u0.ownBlock from hg4)
      have HL4 := Lib.hid (show u0.ownBlock = some g4 ∨ wr.heap.size ≤ g4 from hl4)
      clear ho4 hg4 hl4
      go_wp2
      go_roundw
      case rel =>
        refine ⟨k + 1, by omega, by go_num, ?_, ?_, ?_⟩
        · have := HO4.out
          rw [List.range_succ, List.map_append]
          simpa [cell4, Nat.add_assoc] using this
        · refine HT.out.andThen (Turn.of_grown HG4.out) (fun i hi h => ?_)
          rcases HL.out with h2 | h2
          · rw [← h2]; exact h
          · have := h2 i h.symm; omega
        · rcases HL4.out with h2 | h2
          · rcases HL.out with h3 | h3
            · left; rw [← h3, h2]; rfl
            · right; intro g hg; exact h3 g (by rw [h2]; exact hg)
          · right; intro g hg
            injection hg with hg
            have hg : g4 = g := hg
            omega
      case measure => simp [intOf]; omega
    · have hke : k = 4 := by omega
      subst hke
      go_wp2
      go_ret
      exact ⟨_, rfl, HO.out, HT.out, HL.out⟩
theorem big4_any (B : Nat) (v : Value) (L : List UInt8) (m : Nat) (w : World) (hx : L.length ≤ 60000000) (ho : w.ownsRow B 5 1 v L.length (Lib.byteCells L)) (hB : B ≤ w.heap.size) :
    Calls Tryd.prog 70 #[v, .int .u64 (m : Int), .int .i64 4] w (GrowIs B v L (beN 4 m) w) := by
  have hl := Lib.byteCells_length L
  have h := bigW4 B v (Lib.byteCells L) (m : Int) w (by omega) (by rw [hl]; exact ho) hB
  refine h.mono ?_
  rintro e w' ⟨v', he, ho', ht, hl'⟩
  refine ⟨v', he, ?_, ht, hl'⟩
  rw [byteCells_append, List.length_append, beN_length]
  rw [hl] at ho'
  have e2 : (List.range 4).map (cell4 (m : Int)) = Lib.byteCells (beN 4 m) := by
    unfold Lib.byteCells beN
    rw [List.map_map]
    refine List.map_congr_left (fun j _ => ?_)
    exact bigCell_be 4 m j (3 - j) rfl
  rw [← e2]
  exact ho'

open Go.Lib in
/-- A text's bytes appended to a row: where the new row lies. -/
theorem app_str {P : Program} {w : World} (base : Nat) (t u ty e : TypeId) (i : TypeInfo) (ht : P.underlying t = some (.slice e)) (hu : P.underlying u = some .string) (hi : P.info? e = some i) (hz : i.zero = some (.int .u8 0))
    (hsize : i.size = 1) (hby : i.bytes = 1) (v : Value) (n : Nat) (xs : List Value) (hown : w.ownsRow base e 1 v n xs) (s : ByteArray) (hb : n + s.size ≤ 100000000) (hbase : base ≤ w.heap.size) :
    ∃ v' w', (Builtin.append_ #[t, u] ty #[v, .string s]).run P w = .ok v' w' ∧ w'.ownsRow base e 1 v' (n + s.size) (xs ++ strCells s) ∧ w.grownBy w' v.ownBlock ∧ (v'.ownBlock = v.ownBlock ∨ v'.ownBlock = some w.heap.size) := by
  obtain ⟨v', w', hr, h1, h2, h3⟩ := run_append_own_string (P := P) w base t u ty e i ht hu hi hz hsize hby v n xs hown s (by unfold maxLen; omega) (by omega) hbase
  refine ⟨v', w', hr, h1, h2, ?_⟩
  have hxl : xs.length = n := by simpa using hown.1
  rcases hown.2 with ⟨rfl, rfl⟩ | ⟨g, cap, cur, rfl, hbg, hg, hnc, hcm, hcs, htake⟩
  · by_cases hm : s.size = 0
    · rw [h3.2 ⟨rfl, hm⟩]; exact .inl rfl
    · have hr2 := run_append_nil_string (P := P) w t u ty e i (.int .u8 0) ht hu hi hz s (by omega) (by omega) (by rw [hby]; omega)
      rw [hr2] at hr
      injection hr with hv _
      rw [← hv]
      exact .inr rfl
  · by_cases hroom : n + s.size ≤ cap
    · have hr2 := run_append_room_string (P := P) w t u ty e i ht hu hi hsize g n cap cur hg s hroom (by omega)
      rw [hr2] at hr
      injection hr with hv _
      rw [← hv]
      exact .inl rfl
    · have hr2 := run_append_grow_string (P := P) w t u ty e i (.int .u8 0) ht hu hi hz ⟨g, 0, none⟩ n cap xs (by rw [hsize]; simpa using hxl) (hown.cells (g := g) rfl) s (by omega) (by omega) (by rw [hby]; exact growslice_fits (by omega) (by omega))
      rw [hr2] at hr
      injection hr with hv _
      rw [← hv]
      exact .inr rfl
open Go.Lib in
theorem app_strW {P : Program} {w : World} {ops : Array Oper} {rest : List Oper} {o : Oper} {a : Act} {Q : Exit → Act → World → Prop} (hgd : o.guard = none) (sl x : Operand) (t u : TypeId)
    (ho : o.op = .call { callee := .builtin .append, args := #[sl, x], argTypes := #[t, u] })
    (base : Nat) (e : TypeId) (ht : P.underlying t = some (.slice e)) (hu : P.underlying u = some .string) (hinfo : (P.info? e).map (fun i => (i.zero, i.size, i.bytes)) = some (some (.int .u8 0), 1, 1))
    (v : Value) (n : Nat) (xs : List Value) (hs : a.eval sl = v) (hown : w.ownsRow base e 1 v n xs) (s : ByteArray) (hx : a.eval x = .string s) (hb : n + s.size ≤ 100000000) (hbase : base ≤ w.heap.size)
    (h : ∀ v' w', w'.ownsRow base e 1 v' (n + s.size) (xs ++ strCells s) → w.grownBy w' v.ownBlock → (v'.ownBlock = v.ownBlock ∨ v'.ownBlock = some w.heap.size) → wpList P ops Q rest (a.put o.dst v') w') : wpList P ops Q (o :: rest) a w := by
  obtain ⟨i, hi, hz0, hz1, hz2⟩ := info_parts hinfo
  refine wpList_plain hgd fun K hK => ?_
  obtain ⟨v', w', hr, h2, h3, h4⟩ := app_str (P := P) (w := w) base t u o.type e i ht hu hi hz0 hz1 hz2 v n xs hown s hb hbase
  unfold Oper.wp execOp
  simp only [ho, resolve, invoke, builtin, Sem.run_bind, Sem.run_pure, Result.andThen_ok, List.map_toArray, List.map_cons, List.map_nil, hs, hx, hr]
  exact hK _ _ (h v' w' h2 h3 h4)
theorem strCells_bytes (s : ByteArray) : Lib.strCells s = Lib.byteCells s.data.toList := rfl

/-- The bytes of a text: how many they are, and they. -/
def textE (s : ByteArray) : List UInt8 := beN 4 s.size ++ s.data.toList
theorem textE_length (s : ByteArray) : (textE s).length = 4 + s.size := by unfold textE; rw [List.length_append, beN_length, data_len]
set_option maxRecDepth 100000 in
set_option maxHeartbeats 1000000 in
theorem text_any (B : Nat) (v : Value) (L : List UInt8) (s : ByteArray) (w : World) (hx : L.length + s.size ≤ 50000000) (ho : w.ownsRow B 5 1 v L.length (Lib.byteCells L)) (hB : B ≤ w.heap.size) :
    Calls Tryd.prog 71 #[v, .string s] w (GrowIs B v L (textE s) w) := by
  have hbig := Lib.hid (big4_any B v L s.size w (by omega) ho hB)
  have hlen := Lib.hid (beN_length 4 s.size)
  have w1 : IntKind.u64.wrap (s.size : Int) = (s.size : Int) := IntWalk.u64_in _ (by omega)
  clear ho
  go_enter Tryd.func71, Tryd.ntmps71
  go_wp2_with fail
  refine hbig.out.mono ?_
  rintro e w1 ⟨v1, rfl, ho1, hg1⟩
  have HO1 := Lib.hid ho1
  have HG1 := Lib.hid hg1
  have hB1 : B ≤ w1.heap.size := Nat.le_trans hB hg1.turn.size
  have hl2 : (L ++ beN 4 s.size).length + s.size ≤ 100000000 := by rw [List.length_append, hlen.out]; omega
  obtain ⟨M, HM⟩ := name_itV (L ++ beN 4 s.size)
  rw [HM.out] at HO1 hl2
  clear ho1 hg1
  go_wp2_with (at_builtin; refine app_strW rfl _ _ 106 9 rfl B 5 Tryd.underlying106 (by kernel_rfl) infoByte _ _ _ rfl HO1.out s rfl hl2 hB1 ?_; intro v2 w2 ho2 hg2 hl3; have HO2 := Lib.hid ho2; have HG2 := Lib.hid hg2; have HL2 := Lib.hid hl3; clear ho2 hg2 hl3)
  go_ret
  refine ⟨v2, rfl, ?_, HG1.out.trans ⟨Turn.of_grown HG2.out, ?_⟩⟩
  · unfold textE
    rw [← List.append_assoc, HM.out, byteCells_append, List.length_append, data_len]
    exact HO2.out
  · rcases HL2.out with e | e
    · exact .inl e
    · refine .inr (fun g hg => ?_)
      rw [e] at hg
      injection hg with hg
      omega
end Go.Proofs.YtdhnmgndekncpaaDoor
