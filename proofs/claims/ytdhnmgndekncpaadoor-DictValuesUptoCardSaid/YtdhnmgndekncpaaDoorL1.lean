/- A dictionary of texts: its functions, over any world. -/
import Derived.Test.YtdhnmgndekncpaaDoorProg
import Derived.Test.YtdhnmgndekncpaaDoorL0
import Derived.WalkKit
import Derived.WalkSpells
import Derived.WalkLawsBesides
import Derived.Lib.Hide
import Derived.OwnWalk
import Derived.Deep.AppendLies
import Derived.Maps.OwnSet
namespace Go.Proofs.YtdhnmgndekncpaaDoor
open Go Go.RowKit Go.Maps Go.WideMaps

theorem name_it {α : Type} (a : α) : ∃ x, Hid (a = x) := ⟨a, Lib.hid rfl⟩
theorem grown_after {w w' : World} {o : Obj} {row : Option Nat} (h : (w.alloc o).grownBy w' row) : w.grownBy w' row :=
  ⟨h.os, h.tape, h.output, Nat.le_trans (by simp) h.size, fun k hk hne => (h.block k (by simp; omega) hne).trans (Below.heap_alloc w o k hk)⟩
/-- 'append(v, ..)': what is appended has just been laid into a block of its own; the new slice lies where the old one lay, or in a block that is new. -/
theorem app_new {P : Program} {wr : World} {ops : Array Oper} {rest : List Oper} {o : Oper} {a : Act} {Q : Exit → Act → World → Prop} (hgd : o.guard = none) (s x : Operand) (t : TypeId)
    (ho : o.op = .call { callee := .builtin .append, args := #[s, x], argTypes := #[t, t] })
    (base : Nat) (e : TypeId) (z : Value) (size bytes : Nat) (ht : P.underlying t = some (.slice e)) (hinfo : (P.info? e).map (fun i => (i.zero, i.size, i.bytes)) = some (some z, size, bytes))
    (hzs : z.cells.size = size) (hsz : 0 < size)
    (v : Value) (n : Nat) (xs : List Value) (hs : a.eval s = v) (hown : wr.ownsRow base e size v n xs) (hbase : base ≤ wr.heap.size)
    (cs : Array Value) (m c : Nat) (hx : a.eval x = .slice (some ⟨wr.heap.size, 0, none⟩) m c) (hl : cs.size = m * size) (h1 : ∀ u ∈ cs.toList, u.oneCell' = true)
    (hm0 : 0 < m) (hm : n + m ≤ 100000000) (hb : bytes ≤ 1000)
    (h : ∀ g cap w', w'.ownsRow base e size (.slice (some ⟨g, 0, none⟩) (n + m) cap) (n + m) (xs ++ cs.toList) → wr.grownBy w' v.ownBlock → (v.ownBlock = some g ∨ wr.heap.size ≤ g) → wpList P ops Q rest (a.put o.dst (.slice (some ⟨g, 0, none⟩) (n + m) cap)) w') : wpList P ops Q (o :: rest) a (wr.alloc (.cells cs e)) := by
  obtain ⟨i0, hi, hz0, hz1, hz2⟩ := info_parts hinfo
  refine wpList_append_lies _ hgd s x t ho base e i0 z size bytes ht hi hz0 hz1 hz2 hzs hsz v n xs hs (hown.alloc _) ⟨wr.heap.size, 0, none⟩ m c cs.toList hx (by simpa using hl)
    (World.news_of_block (heap_alloc_new wr _)) h1 hm0 (by unfold maxLen; omega) (Nat.le_trans (Nat.mul_le_mul hm hb) (by decide)) (by simp; omega) _ rfl
    (fun g cap w' h1 h2 h3 _ => h g cap w' h1 (grown_after h2) (h3.imp id (fun e => by rw [e]; simp)))

def VS (s : ByteArray) : Prop := s.size ≤ maxLen
def litS (s : ByteArray) : Lit := .string s.data.toList
theorem litS_inj : ∀ x y : ByteArray, VS x → VS y → litS x = litS y → x = y := fun x y _ _ h => by
  injection h with h
  exact ByteArray.ext (Array.toList_inj.1 h)
theorem litS_key : ∀ x : ByteArray, VS x → WideAt.IsKeyLit (litS x) := fun _ _ => trivial
theorem law9 : Keyed Tryd.prog 9 := string_keyed Tryd.underlying9
theorem zero3 (w : World) : (zeroValue 3).run Tryd.prog w = .ok (.int .i64 0) w := by kernel_rfl
theorem infoString : (Tryd.prog.info? 9).map (fun i => (i.zero, i.size, i.bytes)) = some (some (.string ⟨#[]⟩), 1, 16) := by kernel_rfl

theorem one_str (x : ByteArray) : ∀ u ∈ (#[Value.string x] : Array Value).toList, u.oneCell' = true := by
  intro u hu; simp at hu; subst hu; rfl
theorem idx_of {X : DataW Unit} {a b : Int} (h1 : X = .lit (.int .i64 a)) (h2 : X = .lit (.int .i64 b)) : a = b := by
  have := h1.symm.trans h2
  injection this with this
  injection this

/-- A dictionary of texts in memory: its struct in block b, its map in block m, its keys in the slice v. -/
structure DictS (w : World) (B b m : Nat) (v : Value) (ks : List ByteArray) (D : DataW Unit) : Prop where
  blk : w.heap[b]? = some (.cells #[.map (some m), v] 105 (0, 0))
  map : w.ownsMap Tryd.prog 9 (plainElem Tryd.prog 3) m ks.length D
  ids : IdsOf VS litS D ks
  row : w.ownsRow B 9 1 v ks.length (ks.map .string)
  lob : B ≤ b
  lom : B ≤ m

section
variable {w : World} {B b m : Nat} {v : Value} {ks : List ByteArray} {D : DataW Unit}
theorem DictS.c0 (h : DictS w B b m v ks D) : w.cell? ⟨b, 0, none⟩ = some (.map (some m)) := Lib.cell_of_heap h.blk 0
theorem DictS.c1 (h : DictS w B b m v ks D) : w.cell? ⟨b, 1, none⟩ = some v := Lib.cell_of_heap h.blk 1
theorem DictS.f1 (h : DictS w B b m v ks D) : w.frozen? ⟨b, 1, none⟩ = false := Lib.frozen_of_heap h.blk 1
theorem DictS.form (h : DictS w B b m v ks D) : ∃ A cp, v = .slice A ks.length cp := by
  rcases h.row.2 with ⟨rfl, h0⟩ | ⟨g, cp, cur, rfl, _⟩
  · exact ⟨none, 0, by rw [h0]⟩
  · exact ⟨_, cp, rfl⟩
end

set_option maxRecDepth 100000 in
set_option maxHeartbeats 400000 in
theorem newS_any (w : World) : Calls Tryd.prog 10 #[] w fun e w' => e = .returned (.pointer (some ⟨w.heap.size + 1, 0, none⟩)) ∧ DictS w' w.heap.size (w.heap.size + 1) w.heap.size (.slice none 0 0) [] (.map []) ∧ Below w.heap.size w w' := by
  have hmm := @run_makeMap Tryd.prog
  go_enter Tryd.func10, Tryd.ntmps10
  go_wp2
  go_ret
  refine ⟨by simp, ⟨?_, ?_, ids_empty, World.ownsRow_nil _ _ _ _, by omega, by omega⟩, ((Below.refl _ _).alloc (Nat.le_refl _) _).alloc (by simp) _⟩
  · have := heap_alloc_new (w.alloc (.map #[] 0)) (.cells #[.map (some w.heap.size), .slice none 0 0] 105)
    simpa using this
  · exact (World.ownsMap_made w _ _ _).alloc _

theorem newS_size (w : World) : Calls Tryd.prog 10 #[] w fun e w' => e = .returned (.pointer (some ⟨w.heap.size + 1, 0, none⟩)) ∧ DictS w' w.heap.size (w.heap.size + 1) w.heap.size (.slice none 0 0) [] (.map []) ∧ Below w.heap.size w w' ∧ w'.heap.size = w.heap.size + 2 := by
  have hmm := @run_makeMap Tryd.prog
  go_enter Tryd.func10, Tryd.ntmps10
  go_wp2
  go_ret
  refine ⟨by simp, ⟨?_, ?_, ids_empty, World.ownsRow_nil _ _ _ _, by omega, by omega⟩, ((Below.refl _ _).alloc (Nat.le_refl _) _).alloc (by simp) _, by simp⟩
  · have := heap_alloc_new (w.alloc (.map #[] 0)) (.cells #[.map (some w.heap.size), .slice none 0 0] 105)
    simpa using this
  · exact (World.ownsMap_made w _ _ _).alloc _

set_option maxRecDepth 100000 in
set_option maxHeartbeats 400000 in
theorem findS_yes {w : World} {B b m : Nat} {v : Value} {ks : List ByteArray} {D : DataW Unit} (h : DictS w B b m v ks D) (k : ByteArray) (hk : VS k) (hin : k ∈ ks) :
    Calls Tryd.prog 22 #[.pointer (some ⟨b, 0, none⟩), .string k] w fun e w' => e = .returned (.tuple #[.int .i64 ((place ks k : Nat) : Int), .bool true]) ∧ w' = w := by
  have c0 := h.c0
  have hkey := keyOf_string_mk Tryd.underlying9 hk
  obtain ⟨h1, h2⟩ := h.ids.2 k hk
  have HH := Lib.hid (show Maps.has D (.string k.data.toList) = true by rw [show (Lit.string k.data.toList) = litS k from rfl, h1]; simp [hin])
  have HA := Lib.hid (h2 hin)
  clear h1 h2
  go_enter Tryd.func22, Tryd.ntmps22
  go_wp2_with (at_lookup; refine wpList_lookup_own_ok_int _ rfl _ _ 103 rfl 9 3 .i64 law9 Tryd.underlying103 Tryd.underlying3 (zero3 _) m _ D rfl h.map _ _ rfl hkey ?_; intro c hat hwc; obtain rfl := idx_of hat HA.out; rw [HH.out]; clear hat hwc)
  go_ret2
  exact ⟨rfl, rfl⟩

set_option maxRecDepth 100000 in
set_option maxHeartbeats 400000 in
theorem findS_no {w : World} {B b m : Nat} {v : Value} {ks : List ByteArray} {D : DataW Unit} (h : DictS w B b m v ks D) (k : ByteArray) (hk : VS k) (hout : k ∉ ks) :
    Calls Tryd.prog 22 #[.pointer (some ⟨b, 0, none⟩), .string k] w fun e w' => e = .returned (.tuple #[.int .i64 0, .bool false]) ∧ w' = w := by
  have c0 := h.c0
  have hkey := keyOf_string_mk Tryd.underlying9 hk
  obtain ⟨h1, _⟩ := h.ids.2 k hk
  have HH := Lib.hid (show Maps.has D (.string k.data.toList) = false by rw [show (Lit.string k.data.toList) = litS k from rfl, h1]; simp [hout])
  clear h1
  have HA := Lib.hid (atKey_of_not_has HH.out (.lit (.int .i64 0)))
  go_enter Tryd.func22, Tryd.ntmps22
  go_wp2_with (at_lookup; refine wpList_lookup_own_ok_int _ rfl _ _ 103 rfl 9 3 .i64 law9 Tryd.underlying103 Tryd.underlying3 (zero3 _) m _ D rfl h.map _ _ rfl hkey ?_; intro c hat hwc; obtain rfl := idx_of hat HA.out; rw [HH.out]; clear hat hwc)
  go_ret2
  exact ⟨rfl, rfl⟩

set_option maxRecDepth 100000 in
set_option maxHeartbeats 400000 in
theorem idS_old {w : World} {B b m : Nat} {v : Value} {ks : List ByteArray} {D : DataW Unit} (h : DictS w B b m v ks D) (k : ByteArray) (hk : VS k) (hin : k ∈ ks) :
    Calls Tryd.prog 13 #[.pointer (some ⟨b, 0, none⟩), .string k] w fun e w' => e = .returned (.int .i64 ((place ks k : Nat) : Int)) ∧ w' = w := by
  have c0 := h.c0
  have hkey := keyOf_string_mk Tryd.underlying9 hk
  obtain ⟨h1, h2⟩ := h.ids.2 k hk
  have HH := Lib.hid (show Maps.has D (.string k.data.toList) = true by rw [show (Lit.string k.data.toList) = litS k from rfl, h1]; simp [hin])
  have HA := Lib.hid (h2 hin)
  clear h1 h2
  go_enter Tryd.func13, Tryd.ntmps13
  go_wp2_with (at_lookup; refine wpList_lookup_own_ok_int _ rfl _ _ 103 rfl 9 3 .i64 law9 Tryd.underlying103 Tryd.underlying3 (zero3 _) m _ D rfl h.map _ _ rfl hkey ?_; intro c hat hwc; obtain rfl := idx_of hat HA.out; rw [HH.out]; clear hat hwc)
  go_ret
  exact ⟨rfl, rfl⟩

/-- What may turn where a dictionary takes a key more. -/
def SB (b m : Nat) (v : Value) : Nat → Prop := fun i => i = b ∨ i = m ∨ some i = v.ownBlock

set_option maxRecDepth 100000 in
set_option maxHeartbeats 400000 in
theorem lenS_any {w : World} {B b m : Nat} {v : Value} {ks : List ByteArray} {D : DataW Unit} (h : DictS w B b m v ks D) : Calls Tryd.prog 19 #[.pointer (some ⟨b, 0, none⟩)] w fun e w' => e = .returned (.int .i64 ((ks.length : Nat) : Int)) ∧ w' = w := by
  obtain ⟨A, cp, rfl⟩ := h.form
  have c1 := h.c1
  go_enter Tryd.func19, Tryd.ntmps19
  go_wp2
  go_ret
  exact ⟨rfl, rfl⟩

set_option maxRecDepth 100000 in
set_option maxHeartbeats 400000 in
theorem idS_new {w : World} {B b m : Nat} {v : Value} {ks : List ByteArray} {D : DataW Unit} (h : DictS w B b m v ks D) (k : ByteArray) (hk : VS k) (hout : k ∉ ks) (hn : ks.length ≤ 100000) :
    Calls Tryd.prog 13 #[.pointer (some ⟨b, 0, none⟩), .string k] w fun e w' => e = .returned (.int .i64 ((ks.length : Nat) : Int)) ∧
      (∃ v', DictS w' B b m v' (ks ++ [k]) (D.put (litS k) (.lit (.int .i64 ((ks.length : Nat) : Int)))) ∧ (v'.ownBlock = v.ownBlock ∨ ∀ g, v'.ownBlock = some g → w.heap.size ≤ g)) ∧ Turn (SB b m v) w w' := by
  have c0 := h.c0
  have hkey := keyOf_string_mk Tryd.underlying9 hk
  obtain ⟨h1, _⟩ := h.ids.2 k hk
  have HH := Lib.hid (show Maps.has D (.string k.data.toList) = false by rw [show (Lit.string k.data.toList) = litS k from rfl, h1]; simp [hout])
  clear h1
  obtain ⟨A, cp, rfl⟩ := h.form
  have c1 := h.c1
  obtain ⟨n, HN⟩ := name_it ks.length
  have hmap := h.map
  have hrow := h.row
  have hblk := h.blk
  have hbm : b ≠ m := by
    rintro rfl
    obtain ⟨es, clock, hb, _⟩ := hmap
    rw [hblk] at hb
    cases hb
  have hbr : (Value.slice A ks.length cp).ownBlock ≠ some b := by
    intro e
    rcases hrow.2 with ⟨h0, _⟩ | ⟨g, cap, cur, h0, _, hg, _⟩
    · rw [h0] at e; cases e
    · rw [h0] at e
      injection e with e
      subst e
      rw [hblk] at hg
      injection hg with hg
      injection hg with _ hg
      exact absurd hg (by decide)
  have hmr : (Value.slice A ks.length cp).ownBlock ≠ some m := by
    intro e
    rcases hrow.2 with ⟨h0, _⟩ | ⟨g, cap, cur, h0, _, hg, _⟩
    · rw [h0] at e; cases e
    · rw [h0] at e
      injection e with e
      subst e
      obtain ⟨es, clock, hb, _⟩ := hmap
      rw [hb] at hg
      cases hg
  rw [HN.out] at hn hmap hrow hblk c1 hbr hmr ⊢
  go_enter Tryd.func13, Tryd.ntmps13
  have hlt : b < w.heap.size := by
    rcases Nat.lt_or_ge b w.heap.size with h' | h'
    · exact h'
    · rw [Array.getElem?_eq_none h'] at hblk; cases hblk
  have hlm := hmap.lt
  have hB : B ≤ w.heap.size := Nat.le_trans h.lob (Nat.le_of_lt hlt)
  have HMR := Lib.hid (show (Value.slice A n cp).ownBlock = none ∨ (Value.slice A n cp).ownBlock ≠ some m from .inr hmr)
  have HBR := Lib.hid (fun e : some b = (Value.slice A n cp).ownBlock => hbr e.symm)
  have HBM := Lib.hid (show some b ≠ some m from fun e => hbm (by injection e))
  have HROW := Lib.hid hrow
  have HBLK := Lib.hid hblk
  clear hbr hmr hbm hrow hblk
  go_wp2_with (first
    | (at_lookup; refine wpList_lookup_own_ok_int _ rfl _ _ 103 rfl 9 3 .i64 law9 Tryd.underlying103 Tryd.underlying3 (zero3 _) m _ D rfl hmap _ _ rfl hkey ?_; intro c hat hwc; rw [HH.out]; clear hat hwc)
    | (at_mapUpdate; refine wpList_mapUpdate_in _ rfl _ _ _ 103 rfl 9 3 law9 Tryd.underlying103 _ m n D rfl hmap (by unfold maxLen; omega) _ _ _ rfl rfl hkey _ [] (plainElem_int Tryd.underlying3 (WalkArith.wf_i64 (by omega))) ?_; intro w1 hown1 hturn1; have HG1 := Lib.hid hturn1.grown; have d1 : w1.cell? ⟨b, 1, none⟩ = some (.slice A n cp) := (World.cell?_of_block (HG1.out.block b hlt HBM.out)).trans c1; have HM1 := Lib.hid hown1; have hs1 : w.heap.size ≤ w1.heap.size := HG1.out.size; have HR1 := Lib.hid (HROW.out.kept HG1.out HMR.out); clear hown1 hturn1)
    | (at_builtin; refine app_new rfl _ _ 22 rfl B 9 (.string ⟨#[]⟩) 1 16 Tryd.underlying22 infoString rfl (by decide) _ _ _ rfl HR1.out (by omega) #[.string k] 1 1 rfl rfl (one_str _) (by omega) (by omega) (by decide) ?_; intro g4 cp4 w4 ho4 hg4 hl4; have HB4 := Lib.hid ((hg4.block b (by omega) HBR.out).trans ((HG1.out.block b hlt HBM.out).trans HBLK.out)); have d4 : w4.cell? ⟨b, 1, none⟩ = some (.slice A n cp) := Lib.cell_of_heap HB4.out 1; have f4 : w4.frozen? ⟨b, 1, none⟩ = false := Lib.frozen_of_heap HB4.out 1; have HO4 := Lib.hid ho4; have HG4 := Lib.hid (show w1.grownBy w4 (Value.slice A n cp).ownBlock from hg4); have HL4 := Lib.hid (show (Value.slice A n cp).ownBlock = some g4 ∨ w1.heap.size ≤ g4 from hl4); clear ho4 hg4 hl4))
  go_ret
  have hg14 := HG4.out.size
  refine ⟨rfl, ⟨.slice (some ⟨g4, 0, none⟩) (n + 1) cp4, ⟨?_, ?_, ?_, ?_, h.lob, h.lom⟩, ?_⟩, ?_⟩
  · exact heap_setCell_same w4 b 1 _ 105 _ HB4.out
  · rw [List.length_append, HN.out]
    exact (HM1.out.kept HG4.out (fun e => by rcases HMR.out with h0 | h0; rw [h0] at e; cases e; exact h0 e.symm)).setCell (fun e => HBM.out (by rw [e])) _
  · have := ids_put litS_inj litS_key h.ids hk hout
    rw [HN.out] at this
    exact this
  · rw [List.length_append, HN.out, List.map_append]
    refine ownsRow_setCell_other HO4.out (a := ⟨b, 1, none⟩) (fun e => ?_) _
    injection e with e
    have e : g4 = b := e
    rcases HL4.out with h0 | h0
    · exact HBR.out (by rw [← e]; exact h0.symm)
    · omega
  · rcases HL4.out with h0 | h0
    · exact .inl h0.symm
    · refine .inr fun g hg => ?_
      injection hg with hg
      have hg : g4 = g := hg
      omega
  · have h1 : Turn (SB b m (.slice A n cp)) w w1 := (Turn.of_grown HG1.out).mono (fun i _ hi => .inr (.inl (by injection hi)))
    have h2 : Turn (SB b m (.slice A n cp)) w1 w4 := (Turn.of_grown HG4.out).mono (fun i _ hi => .inr (.inr hi))
    exact (h1.trans h2).setCell (p := ⟨b, 1, none⟩) (.inr (.inl rfl)) _

end Go.Proofs.YtdhnmgndekncpaaDoor
