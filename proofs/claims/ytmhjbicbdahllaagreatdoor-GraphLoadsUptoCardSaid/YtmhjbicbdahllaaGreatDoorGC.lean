/- The map of hops: 'm[k] = append(m[k], x)' at keys that are structs. -/
import Derived.Test.YtmhjbicbdahllaaGreatDoorGB
import Derived.Maps.OwnRows
import Derived.WideKeyEntry
import Derived.DeepKeys4
namespace Go.Proofs.YtmhjbicbdahllaaGreatDoor
open Go Go.RowKit Go.Maps Go.WideMaps Go.WideElems Go.MapKept Go.ChangeMaps

theorem nodup_at {es : List MapEntry} (hp : es.Pairwise fun x y => x.key ≠ y.key) {i j : Nat} {a b : MapEntry} (hi : es[i]? = some a) (hj : es[j]? = some b) (h : a.key = b.key) : i = j := by
  obtain ⟨hil, rfl⟩ := List.getElem?_eq_some_iff.1 hi
  obtain ⟨hjl, rfl⟩ := List.getElem?_eq_some_iff.1 hj
  rw [List.pairwise_iff_getElem] at hp
  rcases Nat.lt_trichotomy i j with h1 | h1 | h1
  · exact absurd h (hp i j hil hjl h1)
  · exact h1
  · exact absurd h.symm (hp j i hjl hil h1)

section
variable {H : Type} {P : Program} {t k e : TypeId} {R : Value → Option (DataW H × List MemPlace)} {b : Nat} {es : Array MapEntry} {clock : Nat}
/-- 'mapEntry' and 'entryStore' are a look-up and a store, whatever lies beside the map. -/
theorem entry_law (K : Keyed P k) (ht : P.underlying t = some (.map k e)) {z : Value} (hz : ∀ u : World, (zeroValue e).run P u = .ok z u) (F : Fit P k R es clock) {key : Value} {kl : Lit} (hkey : keyOf P k key = some kl) (w : World) (hb : w.heap[b]? = some (.map es clock)) :
    ∃ (v0 : Value) (st : Nat) (es1 : Array MapEntry) (clock1 : Nat), (Instr.mapEntry t (.map (some b)) key).run P w = .ok (.tuple #[v0, goInt st]) (setBlock w b (.map es1 clock1)) ∧
      (∀ w3 : World, w3.heap[b]? = some (.map es clock) → (Instr.lookup t (.map (some b)) key false).run P w3 = .ok v0 w3) ∧
      ∀ val : Value, ∃ es' clock', (∀ w2 : World, w2.heap[b]? = some (.map es1 clock1) → (Instr.entryStore t (.map (some b)) (goInt st) val).run P w2 = .ok () (setBlock w2 b (.map es' clock'))) ∧
        ∀ w3 : World, w3.heap[b]? = some (.map es clock) → (Instr.mapUpdate t (.map (some b)) key val).run P w3 = .ok () (setBlock w3 b (.map es' clock')) := by
  obtain ⟨s1, s2, _⟩ := F.stamped
  have hp : es.toList.Pairwise (fun x y => x.key ≠ y.key) := ((stamped_iff es clock).1 F.stamped).2.2
  rcases K.find w hkey es.toList F.keys with ⟨h1, h2⟩ | ⟨j, e0, h1, h2, h3⟩
  · have none_at : ∀ w3 : World, (Instr.findKey k key es.toList).run P w3 = .ok none w3 := fun w3 => by
      rcases K.find w3 hkey es.toList F.keys with ⟨g1, _⟩ | ⟨j, e0, _, g2, g3⟩
      · exact g1
      · exact absurd g3 (h2 e0 (List.mem_of_getElem? g2))
    refine ⟨z, clock, es.push ⟨key, z, clock⟩, clock + 1, ?_, fun w3 hw3 => ?_, fun val => ⟨es.push ⟨key, val, clock⟩, clock + 1, fun w2 hw2 => ?_, fun w3 hw3 => ?_⟩⟩
    · simp [Instr.mapEntry, run_underlying ht, MapKept.run_getObj_map hb, K.check w false hkey, h1, hz, MapKept.run_setObj_map _ hb, Result.andThen, setBlock]
    · simp [Instr.lookup, run_underlying ht, MapKept.run_getObj_map hw3, K.check w3 _ hkey, none_at w3, hz, Result.andThen]
    · have hidx : (es.push ⟨key, z, clock⟩).findIdx? (fun e => ((e.born : Nat) : Int) == ((clock : Nat) : Int)) = some es.size := by
        rw [findIdx_arr]
        have := findIdx_born (l := (es.push ⟨key, z, clock⟩).toList) (j := es.size) (e0 := ⟨key, z, clock⟩) (by
          simp only [Array.toList_push, List.map_append, List.map_cons, List.map_nil]
          refine List.nodup_append.2 ⟨s2, by simp, fun a ha c hc e1 => ?_⟩
          simp only [List.mem_singleton] at hc
          obtain ⟨x, hx, rfl⟩ := List.mem_map.1 ha
          have := s1 x hx
          omega) (by simp)
        exact this
      have hmod : (es.push ⟨key, z, clock⟩).modify es.size (fun e => { e with val := val }) = es.push ⟨key, val, clock⟩ := by
        apply Array.ext'
        rw [Array.toList_modify, Array.toList_push, Array.toList_push, ← Array.length_toList, modify_last]
      simp [Instr.entryStore, MapKept.run_getObj_map hw2, asInt, asIntOf, goInt, hidx, hmod, MapKept.run_setObj_map _ hw2, Result.andThen, setBlock]
    · simp [Instr.mapUpdate, run_underlying ht, MapKept.run_getObj_map hw3, K.check w3 false hkey, none_at w3, MapKept.run_setObj_map _ hw3, Result.andThen, setBlock]
  · have hj : es[j]? = some e0 := by simpa using h2
    have some_at : ∀ w3 : World, (Instr.findKey k key es.toList).run P w3 = .ok (some (j, e0.val)) w3 := fun w3 => by
      rcases K.find w3 hkey es.toList F.keys with ⟨_, g2⟩ | ⟨j', e0', g1, g2, g3⟩
      · exact absurd h3 (g2 e0 (List.mem_of_getElem? h2))
      · obtain rfl := nodup_at hp h2 g2 (by rw [h3, g3])
        rw [h2] at g2
        injection g2 with g2
        rw [g2]
        exact g1
    have hsame : es.modify j (fun e => { e with key := key }) = es := by
      apply Array.ext'
      rw [Array.toList_modify, modify_eq_set _ _ _ _ h2]
      have : ({ e0 with key := key } : MapEntry) = e0 := by rw [← h3]
      rw [this]
      exact set_self _ _ _ h2
    refine ⟨e0.val, e0.born, es, clock, ?_, fun w3 hw3 => ?_, fun val => ⟨es.modify j (fun e' => { e' with key := key, val := val }), clock, fun w2 hw2 => ?_, fun w3 hw3 => ?_⟩⟩
    · simp [Instr.mapEntry, run_underlying ht, MapKept.run_getObj_map hb, K.check w false hkey, h1, hj, h3, K.stays w hkey, hsame, MapKept.run_setObj_map _ hb, Result.andThen, setBlock]
    · simp [Instr.lookup, run_underlying ht, MapKept.run_getObj_map hw3, K.check w3 _ hkey, some_at w3, Result.andThen]
    · have hidx : es.findIdx? (fun e => ((e.born : Nat) : Int) == ((e0.born : Nat) : Int)) = some j := by
        rw [findIdx_arr]
        exact findIdx_born s2 h2
      have hmod : es.modify j (fun e => { e with val := val }) = es.modify j (fun e' => { e' with key := key, val := val }) := by
        apply Array.ext'
        rw [Array.toList_modify, Array.toList_modify, modify_eq_set _ _ _ _ h2, modify_eq_set _ _ _ _ h2, ← h3]
      simp [Instr.entryStore, MapKept.run_getObj_map hw2, asInt, asIntOf, goInt, hidx, hmod, MapKept.run_setObj_map _ hw2, Result.andThen, setBlock]
    · simp [Instr.mapUpdate, run_underlying ht, MapKept.run_getObj_map hw3, K.check w3 false hkey, some_at w3, hj, h3, K.stays w3 hkey, MapKept.run_setObj_map _ hw3, Result.andThen, setBlock]
end

theorem laidOutG : laidOutB Tryz.prog = true := by kernel_rfl
set_option maxRecDepth 100000 in
theorem lawH : Keyed Tryz.prog 89 := Keyed.of_law (deep_law_laid (m := 9999) laidOutG (by decide) (of_decide_eq_true (by kernel_rfl)) (by kernel_rfl) (by kernel_rfl))
theorem keyTypeH : Tryz.prog.keyType 89 = true := by kernel_rfl
theorem cellsOfH : Tryz.prog.cellsOf 89 = 2 := by kernel_rfl
theorem cellsOfI : Tryz.prog.cellsOf 2 = 1 := by kernel_rfl
theorem cellsOfN : Tryz.prog.cellsOf 3 = 1 := by kernel_rfl
set_option maxRecDepth 100000 in
theorem keyH (a d : Int) (ha : VI a) (hd : VI d) : ∃ l, keyOf Tryz.prog 89 (.agg #[.int .i64 a, .int .i64 d]) = some l := by
  obtain ⟨m, hm⟩ : ∃ m, Tryz.prog.types.size = m + 1 := ⟨Tryz.prog.types.size - 1, by kernel_rfl⟩
  unfold VI at ha hd
  unfold keyOf
  rw [Tryz.underlying89, hm]
  simp [keyTypeH, Value.formed, Tryz.underlying89, cellsOfH, cellsOfI, cellsOfN, Program.keyLits, Tryz.underlying2, Tryz.underlying3, Value.cells, ha, hd]
/-- A hop's key as it reads. -/
noncomputable def litH (a d : Int) : Lit := match keyOf Tryz.prog 89 (.agg #[.int .i64 a, .int .i64 d]) with
  | some l => l
  | none => .bool false
set_option maxRecDepth 100000 in
theorem litH_mk {a d : Int} (ha : VI a) (hd : VI d) : keyOf Tryz.prog 89 (.agg #[.int .i64 a, .int .i64 d]) = some (litH a d) := by
  obtain ⟨l, hl⟩ := keyH a d ha hd
  unfold litH
  rw [hl]
set_option maxRecDepth 100000 in
theorem litH_inj {a d a' d' : Int} (ha : VI a) (hd : VI d) (ha' : VI a') (hd' : VI d') (h : litH a d = litH a' d') : a = a' ∧ d = d' := by
  have h1 := litH_mk ha hd
  rw [h] at h1
  have h2 := lawH.inj h1 (litH_mk ha' hd')
  injection h2 with h2
  injection h2 with h2
  injection h2 with h2 h3
  injection h3 with h3
  injection h2 with _ h2
  injection h3 with _ h3
  exact ⟨h2, h3⟩
/-- What a slice's datum holds. -/
def items : DataW Unit → List (DataW Unit)
  | .slice es _ => es
  | _ => []
open Go.ChangeShapes in
theorem items_row {w : World} {base : Nat} {e : TypeId} {q : IntKind} {v : Value} {zs : List Int} (h : w.ownsInts base e q v zs) : items (rowDatum (H := Unit) q v zs) = lits q zs := by
  rcases h.datum (H := Unit) with ⟨h1, h2⟩ | h1
  · rw [h1, h2]; rfl
  · rw [h1]; rfl
/-- Numbers as integers. -/
def natI (l : List Nat) : List Int := l.map Int.ofNat
/-- The hops in memory: of each node and direction the places of edges. -/
def HopsAt (w : World) (base m n : Nat) (H : Int → Int → List Nat) : Prop :=
  ∃ D : DataW Unit, w.ownsGroups Tryz.prog 89 base 3 .i64 m n D ∧ ∀ a d, VI a → VI d → items (D.atKey (litH a d) .nil) = Go.ChangeShapes.lits .i64 (natI (H a d))
theorem HopsAt.isMap {w : World} {base m n : Nat} {D : DataW Unit} (h : w.ownsGroups Tryz.prog 89 base 3 .i64 m n D) : IsMap D := by
  obtain ⟨es, clock, _, _, _, rfl, _⟩ := h
  exact ⟨_, rfl⟩
theorem groups_turn {H : Type} {P : Program} {k : TypeId} {base : Nat} {e : TypeId} {q : IntKind} {b n : Nat} {D : DataW H} {w w' : World} {S : Nat → Prop} (h : w.ownsGroups P k base e q b n D) (ht : Turn S w w') (hb : ¬ S b) (hr : ∀ g, base ≤ g → ¬ S g) : w'.ownsGroups P k base e q b n D := by
  obtain ⟨es, clock, hbk, F, hs, rfl, hbb, hlen, hap⟩ := h
  have keep : ∀ {v : Value} {zs : List Int}, w.ownsInts base e q v zs → w'.ownsInts base e q v zs := fun ho => ⟨ht.owns ho.1 (fun g hg => hr g (ho.1.lt g hg).1), ho.2⟩
  have hs2 : ∀ x ∈ es.toList, ∀ z, rowElem (H := H) w base e q x.val = some z → rowElem w' base e q x.val = some z := by
    intro x _ z hz
    obtain ⟨ys, ho, rfl⟩ := rowElem_inv hz
    exact rowElem_mk (keep ho)
  obtain ⟨F2, hmap2, _⟩ := F.stay hs2
  refine ⟨es, clock, (ht.block b (blk_lt hbk) hb).trans hbk, F2, hs, by rw [hmap2], hbb, fun x hx ys ho => ?_, hap⟩
  obtain ⟨y, hy⟩ := F.reads x hx
  obtain ⟨z, hz, _⟩ := rd_val hy
  obtain ⟨zs, ho', _⟩ := rowElem_inv hz
  rw [ho.unique (keep ho')]
  exact hlen x hx zs ho'
theorem HopsAt.turn {w w' : World} {base m n : Nat} {H : Int → Int → List Nat} {S : Nat → Prop} (h : HopsAt w base m n H) (ht : Turn S w w') (hm : ¬ S m) (hr : ∀ g, base ≤ g → ¬ S g) : HopsAt w' base m n H := by
  obtain ⟨D, h1, h2⟩ := h
  exact ⟨D, groups_turn h1 ht hm hr, h2⟩
theorem set_set_block (w : World) (b : Nat) (o o' : Obj) : setBlock (setBlock w b o) b o' = setBlock w b o' := by
  unfold setBlock
  simp
/-- Behind one hop more. -/
def hopMore (H : Int → Int → List Nat) (a d : Int) (x : Nat) : Int → Int → List Nat := fun a' d' => if a' = a ∧ d' = d then H a d ++ [x] else H a' d'
/-- A block that is no struct's box: free yet, or a row of ints. -/
def RowFree (w : World) (b : Nat) : Prop := ∀ (cs : Array Value) (e : TypeId) (f : Nat × Nat), w.heap[b]? = some (.cells cs e f) → e = 3
theorem rowFree_new {w : World} {b : Nat} (h : w.heap.size ≤ b) : RowFree w b := fun cs e f hb => by
  rw [Array.getElem?_eq_none h] at hb
  cases hb
theorem rowFree_own {w : World} {base sz n : Nat} {v : Value} {xs : List Value} (h : w.ownsRow base 3 sz v n xs) {g : Nat} (hg : v.ownBlock = some g) : RowFree w g := fun cs e f hb => by
  rcases h.2 with ⟨rfl, _⟩ | ⟨g', cap, cur, rfl, _, hc, _⟩
  · cases hg
  · have h1 : g' = g := by injection hg
    subst h1
    rw [hc] at hb
    injection hb with hb
    injection hb with _ h2 _
    exact h2.symm
def SpokeIs (base m n : Nat) (H : Int → Int → List Nat) (a d : Int) (x : Nat) (w : World) (e : Ending) (w' : World) : Prop :=
  e = .returned (.tuple #[]) ∧ HopsAt w' base m (n + 1) (hopMore H a d x) ∧ Turn (fun b => b = m ∨ (base ≤ b ∧ RowFree w b)) w w'

set_option maxRecDepth 100000 in
set_option maxHeartbeats 2000000 in
theorem spoke_any (p base m n : Nat) (H : Int → Int → List Nat) (a d : Int) (x : Nat) (Ns Es T A : Value) (w : World) (hp : w.heap[p]? = some (.cells #[Ns, Es, .map (some m), T, A] 65 (0, 0)))
    (hh : HopsAt w base m n H) (ha : VI a) (hd : VI d) (hx : x ≤ 1000000) (hn : n ≤ 1000000) (hbase : base ≤ w.heap.size) :
    Calls Tryz.prog 39 #[.pointer (some ⟨p, 0, none⟩), .int .i64 a, .int .i64 d, .int .i64 (x : Int)] w (SpokeIs base m n H a d x w) := by
  obtain ⟨D, hown, hat⟩ := hh
  have hkey := litH_mk ha hd
  obtain ⟨v, zs, hrun, hzs, hoi, hzl, hback⟩ := hown.at lawH Tryz.underlying62 (E := 44) (by kernel_rfl) (by unfold maxLen; omega) hkey
  have hisD := HopsAt.isMap hown
  obtain ⟨es, clock, hbk, F, hs, hDe, hbb, hlen, hap⟩ := hown
  have hmlt := blk_lt hbk
  have hplt := blk_lt hp
  -- the world behind the key's box and the new element's
  obtain ⟨z, HZ⟩ := name_itV w.heap.size
  obtain ⟨w2, HW2⟩ := name_itV (((w.alloc (.cells #[.int .i64 a, .int .i64 d] 89)).alloc (.cells #[.int .i64 (x : Int)] 3)).drew)
  have HB2 := Lib.hid (show Below w.heap.size w w2 from by
    rw [← HW2.out]
    exact (((Below.refl _ _).alloc (Nat.le_refl _) _).alloc (by simp) _).drew)
  have HS2 := Lib.hid (show w2.heap.size = z + 2 from by rw [← HW2.out, ← HZ.out]; show ((w.alloc _).alloc _).heap.size = _; simp)
  have HN2 := Lib.hid (show w2.heap[z + 1]? = some (.cells #[.int .i64 (x : Int)] 3 (0, 0)) from by
    rw [← HW2.out, ← HZ.out]
    have h1 := heap_alloc_new (w.alloc (.cells #[.int .i64 a, .int .i64 d] 89)) (.cells #[.int .i64 (x : Int)] 3)
    rw [show (w.alloc (.cells #[.int .i64 a, .int .i64 d] 89)).heap.size = w.heap.size + 1 by simp] at h1
    exact h1)
  have hb2 : w2.heap[m]? = some (.map es clock) := (HB2.out.block m hmlt).trans hbk
  obtain ⟨v0, st, es1, clock1, hme, hlk, hst⟩ := entry_law (b := m) (t := 62) lawH Tryz.underlying62 (z := .slice none 0 0) (fun u => by kernel_rfl) F hkey w2 hb2
  have hv0 : v0 = v := by
    have h1 := hlk w hbk
    rw [hrun] at h1
    injection h1 with h1
    exact h1.symm
  subst hv0
  obtain ⟨w3, HW3⟩ := name_itV (setBlock w2 m (.map es1 clock1))
  rw [HW3.out, ← HW2.out] at hme
  have HT3 := Lib.hid (show Turn (fun b => b = m) w2 w3 from by
    rw [← HW3.out]
    exact ⟨rfl, rfl, rfl, by simp [setBlock], fun i _ hi => heap_setBlock_other hb2 _ hi⟩)
  have HM3 := Lib.hid (show w3.heap[m]? = some (.map es1 clock1) from by rw [← HW3.out]; exact heap_setBlock_same hb2 _)
  have hownlo : ∀ g, v0.ownBlock = some g → base ≤ g ∧ g < w.heap.size := fun g hg => hoi.1.lt g hg
  have HLO := Lib.hid hownlo
  have HROW := Lib.hid (HT3.out.owns ((Turn.of_below HB2.out).owns hoi.1 (fun g hg h => by have := (hownlo g hg).2; omega)) (fun g hg h => by have := (hownlo g hg).1; omega))
  obtain ⟨ln, Hln⟩ := name_itV zs.length
  rw [Hln.out] at HROW
  have hln : ln ≤ 1000000 := by rw [← Hln.out]; omega
  have HNEWS := Lib.hid (World.news_of_block (w := w3) (cs := #[.int .i64 (x : Int)]) ((HT3.out.block (z + 1) (by rw [HS2.out]; omega) (by have := HZ.out; omega)).trans HN2.out))
  obtain ⟨S3, HS3⟩ := name_itV w3.heap.size
  have hS3 : z + 2 ≤ S3 := by have := HT3.out.size; have := HS2.out; have := HS3.out; omega
  have HST := Lib.hid hst
  have HBK := Lib.hid hback
  have HOI := Lib.hid hoi
  have HAT := Lib.hid (And.intro hat (And.intro hzs hisD))
  have HZL := Lib.hid hzl
  have hzb : base ≤ z := by rw [← HZ.out]; exact hbase
  have hmz : m < z := by rw [← HZ.out]; exact hmlt
  have hb2' := Lib.hid hb2
  have hma := Lib.hid (And.intro ha hd)
  have c2 : ((w.alloc (.cells #[.int .i64 a, .int .i64 d] 89)).drew).cell? ⟨p, 2, none⟩ = some (.map (some m)) := by
    rw [show (w.alloc (.cells #[.int .i64 a, .int .i64 d] 89)).drew.cell? ⟨p, 2, none⟩ = (w.alloc (.cells #[.int .i64 a, .int .i64 d] 89)).cell? ⟨p, 2, none⟩ from rfl, World.cell?_alloc_lt w _ _ hplt]
    exact Lib.cell_of_heap hp 2
  have c2w : w.cell? ⟨p, 2, none⟩ = some (.map (some m)) := Lib.cell_of_heap hp 2
  clear hlk hst hback hat hoi hzs F hs hDe hlen hap hbk hb2 hownlo hrun hkey hp hzl hisD ha hd
  obtain ⟨i0, hi0, hz0a, hz1a, hz2a⟩ := info_parts infoInt
  go_enter Tryz.func39, Tryz.ntmps39
  go_upto_region 1 with fail
  go_region_law (refine step_append_lies _ rfl _ _ 44 rfl base 3 i0 (.int .i64 0) 1 8 Tryz.underlying44 hi0 hz0a hz1a hz2a rfl (by decide) v0 ln (zs.map (Value.int .i64)) rfl (by exact HROW.out) ⟨w.heap.size + 1, 0, none⟩ 1 1 [.int .i64 (x : Int)] rfl rfl (by rw [HZ.out]; exact HNEWS.out) (one_int _ _) (by omega) (by unfold maxLen; omega) (by omega) (by have := HS3.out; omega) S3 (by exact HS3.out) (fun g cp w4 ho hg hl _ => ?_); obtain ⟨es2, clock2, hes2, hmu2⟩ := HST.out (.slice (some ⟨g, 0, none⟩) (ln + 1) cp); have HM4 := Lib.hid (show w4.heap[m]? = some (.map es1 clock1) from (hg.block m (by have := HS3.out; omega) (fun e => by have := (HLO.out m e.symm).1; omega)).trans HM3.out); have hes : (Instr.entryStore 62 (.map (some m)) (.int .i64 (st : Int)) (.slice (some ⟨g, 0, none⟩) (ln + 1) cp)).run Tryz.prog w4 = .ok () (setBlock w4 m (.map es2 clock2)) := hes2 w4 HM4.out; have HMU := Lib.hid hmu2; have HO4 := Lib.hid ho; have HG4 := Lib.hid hg; have HL4 := Lib.hid hl; clear hes2 hmu2 ho hg hl)
  all_goals (
    go_end0
    have hzz := HZ.out
    have hs34 : S3 ≤ w4.heap.size := by rw [← HS3.out]; exact HG4.out.size
    have hgrow : w.grownBy (setBlock w4 m (.map es clock)) v0.ownBlock := by
      refine ⟨HG4.out.os.trans (HT3.out.os.trans HB2.out.os), HG4.out.tape.trans (HT3.out.tape.trans HB2.out.tape), HG4.out.output.trans (HT3.out.output.trans HB2.out.output), by show w.heap.size ≤ (setBlock w4 m _).heap.size; simp [setBlock]; omega, fun i hi hne => ?_⟩
      by_cases him : i = m
      · subst him
        rw [heap_setBlock_same HM4.out]
        exact (hb2'.out.symm.trans (HB2.out.block i hi))
      · rw [heap_setBlock_other HM4.out _ him, HG4.out.block i (by rw [HS3.out]; omega) hne, HT3.out.block i (by rw [HS2.out]; omega) him]
        exact HB2.out.block i hi
    have hown' : (setBlock w4 m (.map es clock)).ownsInts base 3 .i64 (.slice (some ⟨g, 0, none⟩) (ln + 1) cp) (zs ++ [(x : Int)]) := by
      refine ⟨?_, fun y hy => ?_⟩
      · have h1 := HO4.out
        rw [← Hln.out] at h1 ⊢
        rw [List.length_append, List.map_append]
        refine Turn.owns (S := fun b => b = m) (w := w4) ⟨rfl, rfl, rfl, by simp [setBlock], fun i _ hi => heap_setBlock_other HM4.out _ hi⟩ h1 (fun k hk h => ?_)
        have := (h1.lt k hk).1
        omega
      · rcases List.mem_append.1 hy with hy | hy
        · exact HOI.out.2 y hy
        · simp at hy
          subst hy
          simp [Lit.wf, IntKind.min, IntKind.max, IntKind.signed, IntKind.bits]
          omega
    obtain ⟨w5, hrun5, hgr5, _⟩ := HBK.out _ _ _ hgrow hown' (by rw [List.length_append]; simp; have := HZL.out; omega) (by
      rcases HL4.out with e | e
      · exact .inl e.symm
      · exact .inr ⟨g, rfl, by rw [e]; omega⟩)
    have hw5 : w5 = setBlock w4 m (.map es2 clock2) := by
      have h1 := HMU.out (setBlock w4 m (.map es clock)) (heap_setBlock_same HM4.out _)
      rw [hrun5] at h1
      injection h1 with _ h1
      rw [h1, set_set_block]
    subst hw5
    obtain ⟨hat, hzs, hisD⟩ := HAT.out
    refine ⟨rfl, ⟨_, hgr5, fun a' d' ha' hd' => ?_⟩, ?_⟩
    · unfold hopMore
      by_cases hc : a' = a ∧ d' = d
      · obtain ⟨rfl, rfl⟩ := hc
        rw [if_pos ⟨rfl, rfl⟩, atKey_put_same hisD (lawH.key (litH_mk ha' hd')), items_row hown']
        have h1 := hat a' d' ha' hd'
        rw [hzs, items_row HOI.out] at h1
        unfold natI at h1 ⊢
        unfold Go.ChangeShapes.lits at h1 ⊢
        rw [List.map_append, List.map_append, List.map_append, h1]
        rfl
      · rw [if_neg hc, atKey_put_other (fun h => hc (litH_inj ha' hd' hma.out.1 hma.out.2 h))]
        exact hat a' d' ha' hd'
    · exact (((Turn.of_below HB2.out).mono (S' := fun b => b = m ∨ (base ≤ b ∧ RowFree w b)) (fun i _ h => .inr ⟨by omega, rowFree_new h⟩)).andThen HT3.out (fun i _ h => .inl h)).trans
        (((Turn.of_grown HG4.out).mono (S' := fun b => b = m ∨ (base ≤ b ∧ RowFree w b)) (fun i _ h => .inr ⟨(HLO.out i h.symm).1, rowFree_own HOI.out.1 h.symm⟩)).trans ⟨rfl, rfl, rfl, by simp [setBlock], fun i _ hi => heap_setBlock_other HM4.out _ (fun e => hi (.inl e))⟩))
end Go.Proofs.YtmhjbicbdahllaaGreatDoor
