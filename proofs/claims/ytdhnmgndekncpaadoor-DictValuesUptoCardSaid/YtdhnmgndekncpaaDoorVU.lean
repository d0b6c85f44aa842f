/- The law DictValues: its walk. -/
import Derived.Test.YtdhnmgndekncpaaDoorVT
namespace Go.Proofs.YtdhnmgndekncpaaDoor
open Go Go.RowKit Go.Maps Go.WideMaps

structure Boxed (p : Prop) : Prop where
  out : p
section
variable {P : Program} {ops : Array Oper} {w : World} {Q : Act → Prop} {a : Act} {o : Oper} {rest : List Oper}
theorem wpStill_want (hw : Region.wanted o (yielded ops a.tmps) = true) (h : ∀ K : Act → Prop, Shut (∀ a, wpStill P ops w Q rest a → K a) → o.still P a w K) : wpStill P ops w Q (o :: rest) a :=
  wpStill_step fun K hK => by rw [if_pos hw]; exact h K hK
theorem wpStill_skip (hw : Region.wanted o (yielded ops a.tmps) = false) (h : ∀ K : Act → Prop, Shut (∀ a, wpStill P ops w Q rest a → K a) → K (a.put o.dst undef)) : wpStill P ops w Q (o :: rest) a :=
  wpStill_step fun K hK => by rw [if_neg (by rw [hw]; exact Bool.false_ne_true)]; exact h K hK
end
section
variable {P : Program} {md : Region.Mode} {ops : Array Oper} {Q : Exit → Act → World → Prop} {S : World → Prop} {fuel : Nat} {listed : Array Bool} {a : Act} {w : World}
/-- Operation number i of a region, as it is run. -/
def runsTo (P : Program) (ops : Array Oper) (i : Nat) (a : Act) (w : World) (v : Value) : Prop :=
  match ops[i]? with
  | some o => (execOp a.eval o).run P w = .ok (.value v) w
  | none => False
def wpAt (P : Program) (ops : Array Oper) (i : Nat) (a : Act) (w : World) (K : Act → World → Prop) (Q : Exit → Act → World → Prop) : Prop :=
  match ops[i]? with
  | some o => Oper.wp P o a w K Q
  | none => False
def wantedNo (ops : Array Oper) (i : Nat) (a : Act) : Option Bool := ops[i]?.map fun o => Region.wanted o (yielded ops a.tmps)
theorem take_skip (i d : Nat) (hd : ops[i]?.map (·.dst) = some (some d)) (hw : wantedNo ops i a = some false) (hs : Region.noSelect ops = true) (hf : Region.free md ops listed i = true) (hr : (Region.ready md ops listed).contains i = true)
    (hQ : ∀ c a w, Q (.panic c) (a.put (some d) undef) w → Q (.panic c) a w) (hS : S w)
    (h : S w → Boxed (wpAnyH P md ops Q S fuel (listed.setIfInBounds i true) (a.put (some d) undef) w)) : Boxed (wpAnyH P md ops Q S (fuel + 1) listed a w) := by
  unfold wantedNo at hw
  cases ho : ops[i]? with
  | none => rw [ho] at hd; cases hd
  | some o =>
    rw [ho] at hd hw
    simp only [Option.map_some, Option.some.injEq] at hd hw
    exact ⟨wpAnyH_take ho hs hf hr (fun c a w h => hQ c a w (by rw [← hd]; exact h)) (.inr ⟨hw, rfl⟩) hS (by rw [hd]; exact (h hS).out)⟩
theorem take_want (i d : Nat) (v : Value) (hd : ops[i]?.map (·.dst) = some (some d)) (hw : wantedNo ops i a = some true) (hs : Region.noSelect ops = true) (hf : Region.free md ops listed i = true) (hr : (Region.ready md ops listed).contains i = true)
    (hQ : ∀ c a w, Q (.panic c) (a.put (some d) v) w → Q (.panic c) a w) (hS : S w) (hv : ∀ w, S w → runsTo P ops i a w v)
    (h : S w → Boxed (wpAnyH P md ops Q S fuel (listed.setIfInBounds i true) (a.put (some d) v) w)) : Boxed (wpAnyH P md ops Q S (fuel + 1) listed a w) := by
  unfold wantedNo at hw
  cases ho : ops[i]? with
  | none => rw [ho] at hd; cases hd
  | some o =>
    rw [ho] at hd hw
    simp only [Option.map_some, Option.some.injEq] at hd hw
    exact ⟨wpAnyH_take ho hs hf hr (fun c a w h => hQ c a w (by rw [← hd]; exact h)) (.inl ⟨hw, fun w hw => by have := hv w hw; unfold runsTo at this; rw [ho] at this; exact this⟩) hS (by rw [hd]; exact (h hS).out)⟩
theorem take_call (i : Nat) (hr : Region.ready md ops listed = [i]) (hw : wantedNo ops i a = some true)
    (h : ∀ K' : Act → World → Prop, Shut (∀ a w, S w → (S w → Boxed (wpAnyH P md ops Q S fuel (listed.setIfInBounds i true) a w)) → K' a w) → wpAt P ops i a w K' Q) : Boxed (wpAnyH P md ops Q S (fuel + 1) listed a w) := by
  unfold wantedNo at hw
  cases ho : ops[i]? with
  | none => rw [ho] at hw; cases hw
  | some o =>
    rw [ho] at hw
    simp only [Option.map_some, Option.some.injEq] at hw
    refine ⟨wpAnyH_ready hr (by simp) (AllReadyH.cons ho (fun K hK => ?_) AllReadyH.nil)⟩
    rw [if_pos hw]
    have := h K (fun a w hS hB => hK.out a w hS (fun hS => (hB hS).out))
    unfold wpAt at this
    rw [ho] at this
    exact this
end
theorem stB_want {P : Program} {ops : Array Oper} {w : World} {Q : Act → Prop} {a : Act} {o : Oper} {rest : List Oper} {v : Value} (hw : Region.wanted o (yielded ops a.tmps) = true) (hv : (execOp a.eval o).run P w = .ok (.value v) w) (h : Boxed (wpStill P ops w Q rest (a.put o.dst v))) : Boxed (wpStill P ops w Q (o :: rest) a) :=
  ⟨wpStill_want hw fun K hK => by unfold Oper.still; rw [hv]; exact ⟨rfl, hK.out _ h.out⟩⟩
theorem stB_skip {P : Program} {ops : Array Oper} {w : World} {Q : Act → Prop} {a : Act} {o : Oper} {rest : List Oper} (hw : Region.wanted o (yielded ops a.tmps) = false) (h : Boxed (wpStill P ops w Q rest (a.put o.dst undef))) : Boxed (wpStill P ops w Q (o :: rest) a) :=
  ⟨wpStill_skip hw fun _ hK => hK.out _ h.out⟩
theorem six_zero {w : World} {h : Nat} (hb : w.heap[h]? = some (.cells #[.int .i64 0, .bool false, .int .i64 0, .string ⟨#[]⟩, .string ⟨#[]⟩, .slice none 0 0] 84 (0, 0))) :
    w.cell? ⟨h, 0, none⟩ = some (.int .i64 0) ∧ w.cell? ⟨h, 1, none⟩ = some (.bool false) ∧ w.cell? ⟨h, 2, none⟩ = some (.int .i64 0) ∧ w.cell? ⟨h, 3, none⟩ = some (.string ⟨#[]⟩) ∧ w.cell? ⟨h, 4, none⟩ = some (.string ⟨#[]⟩) ∧ w.cell? ⟨h, 5, none⟩ = some (.slice none 0 0) :=
  ⟨Lib.cell_of_heap hb 0, Lib.cell_of_heap hb 1, Lib.cell_of_heap hb 2, Lib.cell_of_heap hb 3, Lib.cell_of_heap hb 4, Lib.cell_of_heap hb 5⟩
set_option maxRecDepth 100000 in
set_option maxHeartbeats 8000000 in
theorem values_any (A : Option Addr) (n cap : Nat) (A2 : Option Addr) (n2 cap2 : Nat) (l : List Val) (ys : List Int) (w : World) (hr : LRd w (fun g => g < w.heap.size) l A n) (hr2 : Reads w w.heap.size 1 A2 n2 (ints ys)) (h64 : i64L l) (hsz : sizeL l ≤ 1000000000) (hg : GlobB w) :
    Calls Tryd.prog 7 #[.agg #[.slice A n cap, .slice A2 n2 cap2]] w fun e w' => e = .returned (.bool true) ∧ Below w.heap.size w w' := by
  have HR := Lib.hid hr
  have HR2 := Lib.hid hr2
  have H64 := Lib.hid h64
  have HG := Lib.hid hg
  have hnl := Lib.hid hr.1
  clear hr hr2 h64 hg
  obtain ⟨z, HZ⟩ := name_it w.heap.size
  obtain ⟨w0, Hw0⟩ := name_itV (w.alloc (.cells #[.slice A n cap, .slice A2 n2 cap2] 79))
  have hb0 := Lib.hid (show Below w.heap.size w w0 from by rw [← Hw0.out]; exact (Below.refl _ _).alloc (Nat.le_refl _) _)
  have hbox0 := Lib.hid (show w0.heap[z]? = some (.cells #[.slice A n cap, .slice A2 n2 cap2] 79 (0, 0)) from by rw [← Hw0.out, ← HZ.out]; exact heap_alloc_new w _)
  have hs0 := Lib.hid (show w0.heap.size = z + 1 from by rw [← Hw0.out, ← HZ.out]; simp)
  have HSZ := Lib.hid (size_any (sizeL l + 1) l (by omega) (by omega) (fun g => g < w.heap.size) A n cap w0 (HR.out.under hb0.out (fun g hg => hg)))
  obtain ⟨sz, Hsz⟩ := name_itV (sizeL l)
  rw [Hsz.out] at HSZ
  have c0 : w0.cell? ⟨z, 0, none⟩ = some (.slice A n cap) := Lib.cell_of_heap hbox0.out 0
  go_enter Tryd.func7, Tryd.ntmps7
  go_upto_region 1 with fail
  rw [Hw0.out, HZ.out]
  go_wp2_with fail
  refine HSZ.out.mono ?_
  rintro e w1 ⟨rfl, q, hw1⟩
  have hb1 := Lib.hid (show Below w.heap.size w w1 from by rw [hw1]; exact below_drewN hb0.out q)
  have hbox1 := Lib.hid (show w1.heap[z]? = some (.cells #[.slice A n cap, .slice A2 n2 cap2] 79 (0, 0)) from by rw [hw1]; exact hbox0.out)
  have hs1 := Lib.hid (show w1.heap.size = z + 1 from by rw [hw1]; exact hs0.out)
  have hrl1 := Lib.hid (show LRd w1 (fun g => g < z) l A n from by rw [← HZ.out]; exact HR.out.under hb1.out (fun g hg => hg))
  clear hw1 c0 hb0 hbox0
  by_cases hbig : 2000 < sz
  · have t1 : (2000 : Int) < (sz : Int) := by omega
    go_wp2_with fail
    refine (wakes_any w1).mono ?_
    rintro e w2 ⟨rfl, hb2⟩
    have HB2 := Lib.hid (hb1.out.trans (hb2.mono hb1.out.size))
    clear hb2
    go_wp2
    go_ret
    exact ⟨rfl, HB2.out⟩
  · have t1 : ¬ (2000 : Int) < (sz : Int) := by omega
    have hmemS : ∀ x, x ∈ l → sizeV x ≤ 2000 := fun x hx => by have h1 := sizeV_mem hx; have := Hsz.out; omega
    have HMEM := Lib.hid hmemS
    clear hmemS hsz
    go_wp2_with fail
    refine (newV_any w1).mono ?_
    rintro e w2 ⟨rfl, hd2, hb2, hs2⟩
    rw [hs1.out] at hd2 hb2 hs2 ⊢
    have HD2 := Lib.hid hd2
    have HRow2 := Lib.hid (show LawR w z #[.slice A n cap, .slice A2 n2 cap2] [] (.slice none 0 0) w2 from by
      have h1 := hb1.out
      rw [HZ.out] at h1
      exact ⟨h1.trans (hb2.mono (by omega)), (hb2.block z (by omega)).trans hbox1.out, ⟨fun _ => #[], World.ownsRow_nil _ _ _ _, fun i hi => absurd hi (Nat.not_lt_zero _), fun i x hx => by simp at hx⟩, fun x hx => by simp at hx, List.nodup_nil⟩)
    have hrl2 := Lib.hid (show LRd w2 (fun g => g < z) l A n from hrl1.out.under hb2 (fun g hg => by omega))
    obtain ⟨p, Hp⟩ := name_itV (z + 1 + 2)
    obtain ⟨b, Hb⟩ := name_itV (z + 1 + 1)
    obtain ⟨m, Hm⟩ := name_itV (z + 1)
    have hpbm := Lib.hid (show z < p ∧ z < b ∧ z < m ∧ ∀ r, ¬ SB b m r p ∨ r.ownBlock = some p from by
      have h1 := Hp.out
      have h2 := Hb.out
      have h3 := Hm.out
      refine ⟨by omega, by omega, by omega, fun r => ?_⟩
      by_cases e : some p = r.ownBlock
      · exact .inr e.symm
      · refine .inl (fun hs => ?_)
        rcases hs with hs | hs | hs
        · omega
        · omega
        · exact e hs)
    rw [Hp.out, Hb.out, Hm.out] at HD2
    rw [Hp.out]
    rw [← Hm.out] at HD2
    have HD2 := Lib.hid (show DictV w2 (z + 1) p b m (.slice none 0 0) [] (.map []) from by rw [← Hm.out]; exact HD2.out)
    clear hd2 hb2 hs2 hb1 hbox1 hs1 t1 hbig HSZ hrl1
    obtain ⟨box, Hbox⟩ := name_itV (#[.slice A n cap, .slice A2 n2 cap2] : Array Value)
    rw [Hbox.out] at HRow2
    go_wp2_with fail
    go_loopw [4, 5] (fun s4 s5 wr => ∃ (k : Nat) (all : List Val) (r : Value) (D : DataW Unit), s5 = .int .i64 (k : Nat) ∧ Hid (LoopV w z p b m n box k all s4 r D wr)) (fun _ s5 _ => n - (intOf s5).toNat)
    case atStart => exact ⟨0, [], _, _, rfl, Lib.hid ⟨Nat.zero_le _, Nat.zero_le _, Nat.le_refl _, HRow2.out, HD2.out⟩⟩
    case round =>
      obtain ⟨k, all, r, D, rfl, hk⟩ := hrel
      have hkn := hk.out.kn
      have hk60 := hk.out.k60
      have hal := hk.out.len
      have hbx : wr.heap[z]? = some (.cells #[.slice A n cap, .slice A2 n2 cap2] 79 (0, 0)) := by rw [Hbox.out]; exact hk.out.law.boxed
      have HBX := Lib.hid hbx
      have c0 : wr.cell? ⟨z, 0, none⟩ = some (.slice A n cap) := Lib.cell_of_heap hbx 0
      clear hbx
      go_upto_region 8 with fail
      go_cut [32] (fun s32 wx => s32 = .bool (decide (k < n ∧ k < 60)) ∧ wx = wr)
      case first =>
        by_cases h1 : k < n
        · by_cases h2 : k < 60
          · go_wp2_with fail
            go_meet
            exact ⟨by simp [h1]; omega, rfl⟩
          · go_wp2_with fail
            go_meet
            exact ⟨by simp [h1]; omega, rfl⟩
        · go_wp2_with fail
          go_meet
          exact ⟨by simp [h1], rfl⟩
      case rest =>
        obtain ⟨h32, rfl⟩ := hcut
        by_cases hlt : k < n ∧ k < 60
        · have t1 : decide (k < n ∧ k < 60) = true := decide_eq_true hlt
          rw [t1] at h32
          subst h32
          clear t1
          obtain ⟨hlt, h60⟩ := hlt
          go_upto_block 1 with fail
          go_cut [4] (fun s4 wx => Hid (∃ (all : List Val) (r : Value) (D : DataW Unit), LoopV w z p b m n box (k + 1) all s4 r D wx))
          case first =>
            have hrlw := Lib.hid (hrl2.out.keep (w' := wc) (fun q hq => by
              have h1 := HRow2.out.below.cell hq
              have h2 := hk.out.law.below.cell hq
              rw [h1, h2]))
            obtain ⟨x, hx⟩ : ∃ x, l[k]? = some x := ⟨l[k]'(by rw [← hnl.out]; exact hlt), List.getElem?_eq_getElem _⟩
            obtain ⟨ad, s, rfl, hFa, ⟨Bx, cx, rfl, hcx, hlx⟩, hvx, d0, d1, d2, d3, d4, d5⟩ := hrlw.out.cellsAt hx
            have hxm := List.mem_of_getElem? hx
            have hsx := HMEM.out x hxm
            have h64x := i64_mem H64.out hxm
            have hzl : z < wc.heap.size := (Array.getElem?_eq_some_iff.1 hk.out.law.boxed).1
            have hcp := Lib.hid (copyV_any x (by omega) (fun g => g < z) _ wc (fun g hg => by omega) hvx)
            unfold cellsV at hcp
            have q1 : (0 : Int) ≤ k := by omega
            have q2 : (k : Int) < n := by omega
            have HVX := Lib.hid hvx
            have hadz := Lib.hid (show (ad.add (k * 6)).block < z from by rw [block_of_add]; exact hFa)
            obtain ⟨Aa, ca, hva⟩ := hk.out.law.form
            obtain ⟨la, HLA⟩ := name_itV all.length
            rw [HLA.out] at hva hal
            subst hva
            clear hx hxm hlx hvx hFa
            obtain ⟨lx, HLX⟩ := name_itV x.list.length
            rw [HLX.out] at hcp d5
            go_wp2_with fail
            refine hcp.out.mono ?_
            rintro e w3 ⟨s3, rfl, hb3, ho3⟩
            obtain ⟨A3, c3, rfl⟩ := ho3.form
            unfold cellsV
            rw [HLX.out]
            obtain ⟨hb, Hhb⟩ := name_itV w3.heap.size
            obtain ⟨w4, Hw4⟩ := name_itV (w3.alloc (.cells #[.int .i64 x.kind, .bool x.truth, .int .i64 x.num, .string x.text, .string x.extra, .slice A3 lx c3] 84))
            have hb4 := Lib.hid (show Below w3.heap.size w3 w4 from by rw [← Hw4.out]; exact (Below.refl _ _).alloc (Nat.le_refl _) _)
            have hbb4 := Lib.hid (show w4.heap[hb]? = some (.cells #[.int .i64 x.kind, .bool x.truth, .int .i64 x.num, .string x.text, .string x.extra, .slice A3 lx c3] 84 (0, 0)) from by rw [← Hw4.out, ← Hhb.out]; exact heap_alloc_new w3 _)
            have hs3 : wc.heap.size ≤ w3.heap.size := hb3.size
            have hs4 : w3.heap.size ≤ w4.heap.size := hb4.out.size
            have hB4 := Lib.hid (hb3.trans (hb4.out.mono hs3))
            have ho4 := Lib.hid (ho3.turn (Turn.of_below hb4.out) (fun b hb h => by omega))
            have hK4 := Lib.hid (hk.out.on hB4.out)
            have hlt4 := Lib.hid hk.out.dict.dict.lt
            have hpb := hpbm.out
            have hpl := Lib.hid (show p < wc.heap.size from (Array.getElem?_eq_some_iff.1 hk.out.dict.blk).1)
            have hap := Lib.hid (show ¬ SB b m r p from by
              rcases hpb.2.2.2 r with h1 | h1
              · exact h1
              · exact absurd h1 (own_ne hk.out.dict.dict.row hk.out.dict.blk (by decide)))
            have hv4 := Lib.hid (show VOwn w4 (fun b => wc.heap.size ≤ b ∧ b < w3.heap.size) x (.agg #[.int .i64 x.kind, .bool x.truth, .int .i64 x.num, .string x.text, .string x.extra, .slice A3 lx c3]) from by
              rw [← HLX.out]
              exact VOwn.of_list (v := x) ho4.out)
            have hgw := Lib.hid (show GlobB w4 from glob_under HG.out (by rw [HZ.out]; exact hK4.out.law.below))
            have hid := Lib.hid (valId_any x (by omega) _ _ hK4.out.dict hap.out (by rw [List.length_map, HLA.out]; omega) (fun g hg => by have := hg.2; omega) hv4.out.rd hgw.out)
            have hkeep4 := Lib.hid (show ∀ q : Addr, q.block < z → w4.cell? q = wc.cell? q from fun q hq => hB4.out.cell (by omega))
            have e0 : w4.cell? ⟨hb, 0, none⟩ = some (.int .i64 x.kind) := Lib.cell_of_heap hbb4.out 0
            have e1 : w4.cell? ⟨hb, 1, none⟩ = some (.bool x.truth) := Lib.cell_of_heap hbb4.out 1
            have e2 : w4.cell? ⟨hb, 2, none⟩ = some (.int .i64 x.num) := Lib.cell_of_heap hbb4.out 2
            have e3 : w4.cell? ⟨hb, 3, none⟩ = some (.string x.text) := Lib.cell_of_heap hbb4.out 3
            have e4 : w4.cell? ⟨hb, 4, none⟩ = some (.string x.extra) := Lib.cell_of_heap hbb4.out 4
            have e5 : w4.cell? ⟨hb, 5, none⟩ = some (.slice A3 lx c3) := Lib.cell_of_heap hbb4.out 5
            have HD0 := Lib.hid d0
            have HD1 := Lib.hid d1
            have HD2' := Lib.hid d2
            have HD3 := Lib.hid d3
            have HD4 := Lib.hid d4
            have HD5 := Lib.hid d5
            clear hb3 ho3 d0 d1 d2 d3 d4 d5 hpb c0
            go_upto_region 11 with fail
            rw [Hw4.out, Hhb.out]
            go_wp2_with fail
            refine hid.out.mono ?_
            rintro e w5 ⟨he, r5, D5, hd5, ht5, hr5⟩
            have hhb : wc.heap.size ≤ hb := by have := Hhb.out; omega
            have hhb4 : hb < w4.heap.size := (Array.getElem?_eq_some_iff.1 hbb4.out).1
            have hSB : ∀ g, SB b m r g → z < g ∧ g < wc.heap.size := fun g hg => by
              rcases hg with e | e | e
              · rw [e]; exact ⟨hpbm.out.2.1, hlt4.out.1⟩
              · rw [e]; exact ⟨hpbm.out.2.2.1, hlt4.out.2.1⟩
              · have := hlt4.out.2.2 g e.symm; exact ⟨by omega, this.2⟩
            have HSB := Lib.hid hSB
            have HT5 := Lib.hid ht5
            have HDV5 := Lib.hid hd5
            have HR5 := Lib.hid hr5
            have hbb5 := Lib.hid ((ht5.block hb hhb4 (fun h => by have := hSB hb h; omega)).trans hbb4.out)
            have hL5 := Lib.hid (hK4.out.law.turn ht5 (fun q hq h => by have := hSB q h; omega) (fun g hg h => (hK4.out.law.apart hK4.out.dict g hg).1 h))
            have hv5 := Lib.hid (hv4.out.turn ht5 (fun q hq h => by have := hSB q h; omega))
            have hkeep5 := Lib.hid (show ∀ q : Addr, q.block < z → w5.cell? q = wc.cell? q from fun q hq => (World.cell?_of_block (ht5.block q.block (by omega) (fun h => by have := hSB _ h; omega))).trans (hkeep4.out q hq))
            have hov := Lib.hid (overV_any x (by omega) (fun b => wc.heap.size ≤ b ∧ b < w3.heap.size) _ w5 (fun g hg => by have := hg.2; have := ht5.size; omega) hv5.out)
            clear e0 e1 e2 e3 e4 e5 hd5 ht5 hr5 hSB
            have e0 : w5.cell? ⟨hb, 0, none⟩ = some (.int .i64 x.kind) := Lib.cell_of_heap hbb5.out 0
            have e1 : w5.cell? ⟨hb, 1, none⟩ = some (.bool x.truth) := Lib.cell_of_heap hbb5.out 1
            have e2 : w5.cell? ⟨hb, 2, none⟩ = some (.int .i64 x.num) := Lib.cell_of_heap hbb5.out 2
            have e3 : w5.cell? ⟨hb, 3, none⟩ = some (.string x.text) := Lib.cell_of_heap hbb5.out 3
            have e4 : w5.cell? ⟨hb, 4, none⟩ = some (.string x.extra) := Lib.cell_of_heap hbb5.out 4
            have e5 : w5.cell? ⟨hb, 5, none⟩ = some (.slice A3 lx c3) := Lib.cell_of_heap hbb5.out 5
            cases hmv : mayV x 0 with
            | false =>
              rw [hmv] at he
              obtain rfl : e = .returned (.tuple #[.int .i64 0, .int .i64 1]) := he
              have HMV := Lib.hid hmv
              clear hmv
              go_wp2_with fail
              refine hov.out.mono ?_
              rintro e w6 ⟨rfl, ht6⟩
              have hL6 := Lib.hid (hL5.out.turn ht6 (fun q hq h => by have := h.1; omega) (fun g hg h => by have h1 := (hk.out.law.own_lt g hg).2; have := h.1; omega))
              have hDV6 := Lib.hid (HDV5.out.turn ht6 (fun h => by have := h.1; have := hpl.out; omega) (fun h => by have := h.1; have := hlt4.out.1; omega) (fun h => by have := h.1; have := hlt4.out.2.1; omega) (fun g hg h => by
                have h1 := h.1
                have h2 := h.2
                rcases HR5.out with e | e
                · have := (hlt4.out.2.2 g (by rw [← e]; exact hg)).2; omega
                · have := e g hg; omega))
              have hkeep6 := Lib.hid (show ∀ q : Addr, q.block < z → w6.cell? q = wc.cell? q from fun q hq => (World.cell?_of_block (ht6.block q.block (by have := HT5.out.size; omega) (fun h => by have := h.1; omega))).trans (hkeep5.out q hq))
              have hsz6 : wc.heap.size ≤ w6.heap.size := by have := ht6.size; have := HT5.out.size; omega
              have hmy := Lib.hid (refMay_any x (by omega) (fun g => g < z) _ w6 (fun g hg => by omega) (HVX.out.keep (w' := w6) (fun q hq => hkeep6.out q hq)))
              unfold cellsV at hmy
              rw [HLX.out, HMV.out] at hmy
              have hbx6 : w6.heap[z]? = some (.cells #[.slice (some ad) n cap, .slice A2 n2 cap2] 79 (0, 0)) := by rw [Hbox.out]; exact hL6.out.boxed
              have c0 : w6.cell? ⟨z, 0, none⟩ = some (.slice (some ad) n cap) := Lib.cell_of_heap hbx6 0
              have d0 := (hkeep6.out _ hadz.out).trans HD0.out
              have d1 := (hkeep6.out ⟨(ad.add (k * 6)).block, (ad.add (k * 6)).off + 1, none⟩ hadz.out).trans HD1.out
              have d2 := (hkeep6.out ⟨(ad.add (k * 6)).block, (ad.add (k * 6)).off + 2, none⟩ hadz.out).trans HD2'.out
              have d3 := (hkeep6.out ⟨(ad.add (k * 6)).block, (ad.add (k * 6)).off + 3, none⟩ hadz.out).trans HD3.out
              have d4 := (hkeep6.out ⟨(ad.add (k * 6)).block, (ad.add (k * 6)).off + 4, none⟩ hadz.out).trans HD4.out
              have d5 := (hkeep6.out ⟨(ad.add (k * 6)).block, (ad.add (k * 6)).off + 5, none⟩ hadz.out).trans HD5.out
              clear e0 e1 e2 e3 e4 e5 ht6 hbx6
              go_wp2_with fail
              refine hmy.out.mono ?_
              rintro e w7 ⟨rfl, hb7⟩
              have hL7 := Lib.hid (hL6.out.on hb7)
              have hDV7 := Lib.hid (hDV6.out.on hb7)
              have hkeep7 := Lib.hid (show ∀ q : Addr, q.block < z → w7.cell? q = wc.cell? q from fun q hq => (hb7.cell (by omega)).trans (hkeep6.out q hq))
              clear c0 d0 d1 d2 d3 d4 d5 hb7
              have p0 : w7.cell? ⟨p, 0, none⟩ = some (.pointer (some ⟨b, 0, none⟩)) := Lib.cell_of_heap hDV7.out.blk 0
              have hln := Lib.hid (lenS_any hDV7.out.dict)
              rw [HMV.out, if_neg (by decide), List.length_map, HLA.out] at hln
              have hD8 := Lib.hid (show DictV w7 (z + 1) p b m r5 (all.map keyV) D5 from by have := hDV7.out; rw [HMV.out] at this; exact this)
              go_wp2_with fail
              refine hln.out.mono ?_
              rintro e w8 ⟨rfl, rfl⟩
              go_wp2_with fail
              go_meet
              exact Lib.hid ⟨all, r5, D5, by omega, by omega, by rw [HLA.out]; omega, hL7.out, hD8.out⟩
            | true =>
              rw [hmv] at he
              obtain ⟨pl, HPL⟩ := name_itV (place (ksV (all.map keyV) x) (keyV x))
              rw [HPL.out] at he
              obtain rfl : e = .returned (.tuple #[.int .i64 (pl : Int), .int .i64 0]) := he
              have HMV := Lib.hid hmv
              clear hmv
              go_wp2_with fail
              refine hov.out.mono ?_
              rintro e w6 ⟨rfl, ht6⟩
              have hL6 := Lib.hid (hL5.out.turn ht6 (fun q hq h => by have := h.1; omega) (fun g hg h => by have h1 := (hk.out.law.own_lt g hg).2; have := h.1; omega))
              have hDV6 := Lib.hid (HDV5.out.turn ht6 (fun h => by have := h.1; have := hpl.out; omega) (fun h => by have := h.1; have := hlt4.out.1; omega) (fun h => by have := h.1; have := hlt4.out.2.1; omega) (fun g hg h => by
                have h1 := h.1
                have h2 := h.2
                rcases HR5.out with e | e
                · have := (hlt4.out.2.2 g (by rw [← e]; exact hg)).2; omega
                · have := e g hg; omega))
              have hkeep6 := Lib.hid (show ∀ q : Addr, q.block < z → w6.cell? q = wc.cell? q from fun q hq => (World.cell?_of_block (ht6.block q.block (by have := HT5.out.size; omega) (fun h => by have := h.1; omega))).trans (hkeep5.out q hq))
              have hsz6 : wc.heap.size ≤ w6.heap.size := by have := ht6.size; have := HT5.out.size; omega
              have hmy := Lib.hid (refMay_any x (by omega) (fun g => g < z) _ w6 (fun g hg => by omega) (HVX.out.keep (w' := w6) (fun q hq => hkeep6.out q hq)))
              unfold cellsV at hmy
              rw [HLX.out, HMV.out] at hmy
              have hbx6 : w6.heap[z]? = some (.cells #[.slice (some ad) n cap, .slice A2 n2 cap2] 79 (0, 0)) := by rw [Hbox.out]; exact hL6.out.boxed
              have c0 : w6.cell? ⟨z, 0, none⟩ = some (.slice (some ad) n cap) := Lib.cell_of_heap hbx6 0
              have d0 := (hkeep6.out _ hadz.out).trans HD0.out
              have d1 := (hkeep6.out ⟨(ad.add (k * 6)).block, (ad.add (k * 6)).off + 1, none⟩ hadz.out).trans HD1.out
              have d2 := (hkeep6.out ⟨(ad.add (k * 6)).block, (ad.add (k * 6)).off + 2, none⟩ hadz.out).trans HD2'.out
              have d3 := (hkeep6.out ⟨(ad.add (k * 6)).block, (ad.add (k * 6)).off + 3, none⟩ hadz.out).trans HD3.out
              have d4 := (hkeep6.out ⟨(ad.add (k * 6)).block, (ad.add (k * 6)).off + 4, none⟩ hadz.out).trans HD4.out
              have d5 := (hkeep6.out ⟨(ad.add (k * 6)).block, (ad.add (k * 6)).off + 5, none⟩ hadz.out).trans HD5.out
              clear e0 e1 e2 e3 e4 e5 ht6 hbx6
              go_wp2_with fail
              refine hmy.out.mono ?_
              rintro e w7 ⟨rfl, hb7⟩
              have hL7 := Lib.hid (hL6.out.on hb7)
              have hDV7 := Lib.hid (hDV6.out.on hb7)
              have hkeep7 := Lib.hid (show ∀ q : Addr, q.block < z → w7.cell? q = wc.cell? q from fun q hq => (hb7.cell (by omega)).trans (hkeep6.out q hq))
              clear c0 d0 d1 d2 d3 d4 d5 hb7
              have p0 : w7.cell? ⟨p, 0, none⟩ = some (.pointer (some ⟨b, 0, none⟩)) := Lib.cell_of_heap hDV7.out.blk 0
              have hD8 := Lib.hid (show DictV w7 (z + 1) p b m r5 (ksV (all.map keyV) x) D5 from by have := hDV7.out; rw [HMV.out] at this; exact this)
              go_wp2_with fail
              go_loopw [9, 10] (fun s9 s10 wr => ∃ (j : Nat) (q : Int), s9 = .int .i64 q ∧ s10 = .int .i64 (j : Nat) ∧ j ≤ la ∧ Hid (FindIs all x j q) ∧ Hid (Below w7.heap.size w7 wr)) (fun _ s10 _ => la - (intOf s10).toNat)
              case atStart => exact ⟨0, -1, rfl, rfl, Nat.zero_le _, Lib.hid (.inl ⟨rfl, by simp⟩), Lib.hid (Below.refl _ _)⟩
              case round =>
                obtain ⟨j, q, rfl, rfl, hj, hfind, hBr⟩ := hrel
                have hLr := Lib.hid (hL7.out.on hBr.out)
                have hDr := Lib.hid (hD8.out.on hBr.out)
                have hsz7 : z < w7.heap.size := (Array.getElem?_eq_some_iff.1 hL7.out.boxed).1
                have hszr : w7.heap.size ≤ wr.heap.size := hBr.out.size
                have hkeepr := Lib.hid (show ∀ q : Addr, q.block < z → wr.cell? q = wc.cell? q from fun q hq => (hBr.out.cell (by omega)).trans (hkeep7.out q hq))
                have hbxr : wr.heap[z]? = some (.cells #[.slice (some ad) n cap, .slice A2 n2 cap2] 79 (0, 0)) := by rw [Hbox.out]; exact hLr.out.boxed
                have c0 : wr.cell? ⟨z, 0, none⟩ = some (.slice (some ad) n cap) := Lib.cell_of_heap hbxr 0
                have d0 := (hkeepr.out _ hadz.out).trans HD0.out
                have d1 := (hkeepr.out ⟨(ad.add (k * 6)).block, (ad.add (k * 6)).off + 1, none⟩ hadz.out).trans HD1.out
                have d2 := (hkeepr.out ⟨(ad.add (k * 6)).block, (ad.add (k * 6)).off + 2, none⟩ hadz.out).trans HD2'.out
                have d3 := (hkeepr.out ⟨(ad.add (k * 6)).block, (ad.add (k * 6)).off + 3, none⟩ hadz.out).trans HD3.out
                have d4 := (hkeepr.out ⟨(ad.add (k * 6)).block, (ad.add (k * 6)).off + 4, none⟩ hadz.out).trans HD4.out
                have d5 := (hkeepr.out ⟨(ad.add (k * 6)).block, (ad.add (k * 6)).off + 5, none⟩ hadz.out).trans HD5.out
                clear hbxr
                obtain ⟨cs, hrow, h6, hxs⟩ := hLr.out.row
                rw [HLA.out] at hrow h6
                have HROW := Lib.hid hrow
                have H6 := Lib.hid h6
                have HXS := Lib.hid hxs
                clear hrow h6 hxs
                have HVXr := Lib.hid (HVX.out.keep (w' := wr) (fun q hq => hkeepr.out q hq))
                by_cases hjl : j < la
                · obtain ⟨y, hy⟩ : ∃ y, all[j]? = some y := ⟨all[j]'(by rw [HLA.out]; exact hjl), List.getElem?_eq_getElem _⟩
                  have hyv := HXS.out j y hy
                  obtain ⟨Ay, cy, hcsy, _, _⟩ := hyv.inv
                  injection hcsy with hcsy
                  obtain ⟨g, rfl⟩ : ∃ g, Aa = some ⟨g, 0, none⟩ := by
                    rcases HROW.out.2 with ⟨h0, h1⟩ | ⟨g, cp, cur, h0, _⟩
                    · injection h0 with _ h2; omega
                    · injection h0 with h2; exact ⟨g, h2⟩
                  obtain ⟨ada, Hada⟩ := name_itV (⟨g, 0, none⟩ : Addr)
                  obtain ⟨O, HO⟩ := name_itV (j * 6)
                  have hadd : ada.add (j * 6) = ⟨g, O, none⟩ := by rw [← Hada.out, ← HO.out, add_zero_at]
                  have hcell : ∀ i, i < 6 → wr.cell? ⟨g, O + i, none⟩ = (cellsV y (.slice Ay y.list.length cy))[i]? := fun i hi => by
                    have h2 := HROW.out.cellAt (j * 6 + i) (by omega)
                    rw [flatV_at H6.out hjl hi, hcsy, HO.out] at h2
                    exact h2
                  have k0 : wr.cell? ⟨g, O, none⟩ = some (.int .i64 y.kind) := hcell 0 (by omega)
                  have k1 : wr.cell? ⟨g, O + 1, none⟩ = some (.bool y.truth) := hcell 1 (by omega)
                  have k2 : wr.cell? ⟨g, O + 2, none⟩ = some (.int .i64 y.num) := hcell 2 (by omega)
                  have k3 : wr.cell? ⟨g, O + 3, none⟩ = some (.string y.text) := hcell 3 (by omega)
                  have k4 : wr.cell? ⟨g, O + 4, none⟩ = some (.string y.extra) := hcell 4 (by omega)
                  have k5 : wr.cell? ⟨g, O + 5, none⟩ = some (.slice Ay y.list.length cy) := hcell 5 (by omega)
                  have hsy := (hLr.out.good y (List.mem_of_getElem? hy)).2.2
                  rw [hcsy] at hyv
                  have hsame := Lib.hid (sameV_any y x (by omega) (fun g => g < z) (fun g => g < z) _ _ wr.drew (fun g hg => by show g < wr.heap.size; omega) (fun g hg => by show g < wr.heap.size; omega) (hyv.keep (w' := wr.drew) (fun _ _ => rfl)) (HVXr.out.keep (w' := wr.drew) (fun _ _ => rfl)))
                  unfold cellsV at hsame
                  obtain ⟨ly, HLY⟩ := name_itV y.list.length
                  rw [HLY.out] at k5 hsame
                  rw [HLX.out] at hsame
                  have HY := Lib.hid hy
                  have r1 : (0 : Int) ≤ j := by omega
                  have r2 : (j : Int) < la := by omega
                  have w1 : IntKind.i64.wrap ((j : Int) + 1) = (j : Int) + 1 := IntWalk.i64_in _ (by omega)
                  clear hy hyv hcsy hcell hsy
                  rw [Hada.out]
                  by_cases hyx : y = x
                  · have hs := sameB_refl x
                    subst hyx
                    rw [hs] at hsame
                    clear hs
                    go_wp2_with fail
                    go_still_tail 9, (by kernel_rfl)
                    change wpList _ _ _ _ _ (World.drew _)
                    go_wp2_with fail
                    refine hsame.out.mono ?_
                    rintro e w9 ⟨rfl, hb9⟩
                    have HB9 := Lib.hid (hBr.out.drew.trans (hb9.mono hszr))
                    clear hb9
                    go_wp2_with fail
                    go_roundw
                    case rel => exact ⟨j + 1, j, rfl, by go_num, by omega, Lib.hid (find_here HY.out), HB9⟩
                    case measure => simp [intOf]; omega
                  · have hs := sameB_no hyx
                    rw [hs] at hsame
                    have hfm := Lib.hid (find_more hfind.out HY.out hyx)
                    clear hs hyx
                    go_wp2_with fail
                    go_still_tail 9, (by kernel_rfl)
                    change wpList _ _ _ _ _ (World.drew _)
                    go_wp2_with fail
                    refine hsame.out.mono ?_
                    rintro e w9 ⟨rfl, hb9⟩
                    have HB9 := Lib.hid (hBr.out.drew.trans (hb9.mono hszr))
                    clear hb9
                    go_wp2_with fail
                    go_roundw
                    case rel => exact ⟨j + 1, q, rfl, by go_num, by omega, hfm, HB9⟩
                    case measure => simp [intOf]; omega
                · have hje : j = la := by omega
                  have htk : all.take j = all := List.take_of_length_le (by rw [HLA.out]; omega)
                  rcases hfind.out with ⟨rfl, hnot⟩ | ⟨mm, rfl, hmj, hmx⟩
                  · rw [htk] at hnot
                    have hmt : mayV x 0 = true := HMV.out
                    obtain ⟨hp1, hk1⟩ := place_out hLr.out.good hmt h64x hnot
                    rw [HPL.out, HLA.out] at hp1
                    rw [hk1] at hDr
                    have HNOT := Lib.hid hnot
                    have HMT := Lib.hid hmt
                    subst hp1
                    clear hje htk hnot hmt hk1 hfind HPL
                    have hap5 := Lib.hid (hLr.out.apart hDr.out)
                    have hbase : z + 1 ≤ wr.heap.size := by omega
                    obtain ⟨kk, Hkk⟩ := name_itV (Value.slice Aa pl ca).ownBlock
                    go_wp2_with (at_builtin; refine app_new rfl _ _ 77 rfl (z + 1) 84 (.agg #[.int .i64 0, .bool false, .int .i64 0, .string ⟨#[]⟩, .string ⟨#[]⟩, .slice none 0 0]) 6 80 Tryd.underlying77 infoVal rfl (by decide) _ _ _ rfl HROW.out hbase _ 1 1 rfl rfl (one_val x Bx lx cx) (by omega) (by omega) (by decide) ?_; intro g9 cp9 w9 ho9 hg9 hl9; have HO9 := Lib.hid ho9; have HG9 := Lib.hid (show wr.grownBy w9 (Value.slice Aa pl ca).ownBlock from hg9); have hDV9 := Lib.hid (hDr.out.turn (Turn.of_grown HG9.out) (fun h => (hap5.out p h.symm).2 rfl) (fun h => (hap5.out b h.symm).1 (.inl rfl)) (fun h => (hap5.out m h.symm).1 (.inr (.inl rfl))) (fun g hg h => (hap5.out g h.symm).1 (.inr (.inr hg.symm)))); have hln9 := Lib.hid (lenS_any hDV9.out.dict); have hp9 : w9.cell? ⟨p, 0, none⟩ = some (.pointer (some ⟨b, 0, none⟩)) := Lib.cell_of_heap hDV9.out.blk 0; clear ho9 hg9 hl9)
                    rw [List.length_map, List.length_append, HLA.out] at hln9
                    rw [show [x].length = 1 from rfl] at hln9
                    refine hln9.out.mono ?_
                    rintro e w10 ⟨rfl, rfl⟩
                    go_wp2_with fail
                    go_meet
                    have hg9 := HG9.out
                    have hown9 : ∀ b, some b = (Value.slice Aa pl ca).ownBlock → z + 1 ≤ b := fun b hb => (hLr.out.own_lt b hb.symm).1
                    have hbz9 : ∀ b, b ≤ z → w10.heap[b]? = wr.heap[b]? := fun b hb => hg9.block b (by omega) (fun e => by have := hown9 b e; omega)
                    refine Lib.hid ⟨all ++ [x], r5, D5, by omega, by omega, by rw [List.length_append, HLA.out]; show pl + 1 ≤ k + 1; omega, ⟨?_, ?_, ?_, ?_, ?_⟩, hDV9.out⟩
                    · exact hLr.out.below.trans ((Turn.of_grown hg9).below (B := z) (fun i _ hi => by have := hown9 i hi; omega) (by omega))
                    · exact (hbz9 z (Nat.le_refl _)).trans hLr.out.boxed
                    · have hcs : ∀ i, i < pl → (fun i => if i < pl then cs i else cellsV x (.slice Bx lx cx)) i = cs i := fun i hi => if_pos hi
                      refine ⟨fun i => if i < pl then cs i else cellsV x (.slice Bx lx cx), ?_, ?_, ?_⟩
                      · rw [List.length_append, HLA.out]
                        show w10.ownsRow (z + 1) _ 6 _ (pl + 1) (flatV _ (pl + 1))
                        rw [flatV_succ, flatV_congr hcs, if_neg (Nat.lt_irrefl _)]
                        exact HO9.out
                      · intro i hi
                        rw [List.length_append, HLA.out] at hi
                        have hi : i < pl + 1 := hi
                        by_cases hil : i < pl
                        · simp only [if_pos hil]; exact H6.out i hil
                        · simp only [if_neg hil]; rfl
                      · intro i y hy
                        by_cases hil : i < pl
                        · simp only [if_pos hil]
                          rw [List.getElem?_append_left (by rw [HLA.out]; exact hil)] at hy
                          exact (HXS.out i y hy).keep (fun q hq => World.cell?_of_block (hbz9 _ (by omega)))
                        · simp only [if_neg hil]
                          rw [List.getElem?_append_right (by rw [HLA.out]; omega)] at hy
                          have hy0 : y = x := by
                            have := List.mem_of_getElem? hy
                            exact List.mem_singleton.1 this
                          subst hy0
                          have := HVXr.out.keep (w' := w10) (fun q hq => World.cell?_of_block (hbz9 _ (by omega)))
                          rw [HLX.out] at this
                          exact this
                    · intro y hy
                      rcases List.mem_append.1 hy with hy | hy
                      · exact hLr.out.good y hy
                      · rw [List.mem_singleton.1 hy]; exact ⟨HMT.out, h64x, by omega⟩
                    · exact List.pairwise_append.2 ⟨hLr.out.nodup, List.pairwise_singleton _ _, fun a ha b hb e => HNOT.out (by rw [← List.mem_singleton.1 hb, ← e]; exact ha)⟩
                  · obtain ⟨hp1, hk1⟩ := place_map hLr.out.nodup hLr.out.good hmx
                    rw [HPL.out] at hp1
                    rw [hk1] at hDr
                    subst hp1
                    have hln := Lib.hid (lenS_any hDr.out.dict)
                    rw [List.length_map, HLA.out] at hln
                    have hpr : wr.cell? ⟨p, 0, none⟩ = some (.pointer (some ⟨b, 0, none⟩)) := Lib.cell_of_heap hDr.out.blk 0
                    have hp0 : ¬ (pl : Int) < 0 := by omega
                    clear hje htk hk1 hfind HPL hmx hmj
                    go_wp2_with fail
                    refine hln.out.mono ?_
                    rintro e w10 ⟨rfl, rfl⟩
                    go_wp2_with fail
                    go_meet
                    exact Lib.hid ⟨all, r5, D5, by omega, by omega, by rw [HLA.out]; omega, hLr.out, hDr.out⟩
          case rest =>
            have HN := Lib.hid hcut.out
            clear hcut
            have w1 : IntKind.i64.wrap ((k : Int) + 1) = (k : Int) + 1 := IntWalk.i64_in _ (by omega)
            go_wp2_with fail
            go_roundw
            case rel =>
              obtain ⟨all2, r2, D2, h2⟩ := HN.out
              exact ⟨k + 1, all2, r2, D2, by go_num, Lib.hid h2⟩
            case measure => simp [intOf]; omega
        · have t1 : decide (k < n ∧ k < 60) = false := decide_eq_false hlt
          rw [t1] at h32
          subst h32
          clear t1 c0 hlt
          obtain ⟨Aa, ca, hva⟩ := hk.out.law.form
          obtain ⟨la, HLA⟩ := name_itV all.length
          rw [HLA.out] at hva hal
          subst hva
          have hzl : z < wc.heap.size := (Array.getElem?_eq_some_iff.1 hk.out.law.boxed).1
          go_wp2_with fail
          go_loopw [11] (fun s11 wr => ∃ i : Nat, s11 = .int .i64 (i : Nat) ∧ i ≤ n2 ∧ Hid (Below wc.heap.size wc wr)) (fun s11 _ => n2 - (intOf s11).toNat)
          case atStart => exact ⟨0, rfl, Nat.zero_le _, Lib.hid (Below.refl _ _)⟩
          case round =>
            obtain ⟨i, rfl, hi, hBi⟩ := hrel
            have hbxi : wr.heap[z]? = some (.cells #[.slice A n cap, .slice A2 n2 cap2] 79 (0, 0)) := (hBi.out.block z hzl).trans HBX.out
            have c1 : wr.cell? ⟨z, 1, none⟩ = some (.slice A2 n2 cap2) := Lib.cell_of_heap hbxi 1
            clear hbxi
            go_upto_region 28 with fail
            go_cut [126] (fun s126 wx => s126 = .bool (decide (i < n2 ∧ i < 30)) ∧ wx = wr)
            case first =>
              by_cases h1 : i < n2
              · by_cases h2 : i < 30
                · go_wp2_with fail
                  go_meet
                  exact ⟨by simp [h1]; omega, rfl⟩
                · go_wp2_with fail
                  go_meet
                  exact ⟨by simp [h1]; omega, rfl⟩
              · go_wp2_with fail
                go_meet
                exact ⟨by simp [h1], rfl⟩
            case rest =>
              obtain ⟨h126, hwr⟩ := hcut
              rename World => w8
              subst hwr
              by_cases hlt : i < n2 ∧ i < 30
              · have t1 : decide (i < n2 ∧ i < 30) = true := decide_eq_true hlt
                rw [t1] at h126
                subst h126
                clear t1 c1
                obtain ⟨hlt, h30⟩ := hlt
                obtain ⟨ad2, y, rfl, hys, hcy⟩ := reads_int (k := i) HR2.out hlt
                have hadl : (ad2.add i).block < w.heap.size := by
                  have := World.block_lt_of_cell? _ _ hcy
                  exact this
                have HCY := Lib.hid (show ∀ W : World, Below wc.heap.size wc W → W.cell? (ad2.add i) = some (.int .i64 y) from fun W hW => by
                  rw [HZ.out] at hadl
                  have h2 := hk.out.law.below.cell hadl
                  have h3 := hW.cell (p := ad2.add i) (by omega)
                  rw [h3, h2]; exact hcy)
                clear hcy hadl
                go_wp2_with fail
                go_loopw [12] (fun s12 wx => ∃ t : Nat, s12 = .int .i64 (t : Nat) ∧ t ≤ 2 ∧ Hid (Below wc.heap.size wc wx)) (fun s12 _ => 2 - (intOf s12).toNat)
                case atStart => exact ⟨0, rfl, Nat.zero_le _, hBi⟩
                case round =>
                  rename World => wx
                  obtain ⟨t, rfl, ht, hBx⟩ := hrel
                  have hKx := Lib.hid (hk.out.on hBx.out)
                  have hszx : wc.heap.size ≤ wx.heap.size := hBx.out.size
                  have hbxx := Lib.hid (show wx.heap[z]? = some (.cells #[.slice A n cap, .slice (some ad2) n2 cap2] 79 (0, 0)) from (hBx.out.block z hzl).trans HBX.out)
                  have c1 : wx.cell? ⟨z, 1, none⟩ = some (.slice (some ad2) n2 cap2) := Lib.cell_of_heap hbxx.out 1
                  have cy := HCY.out wx hBx.out
                  have q1 : (0 : Int) ≤ i := by omega
                  have q2 : (i : Int) < n2 := by omega
                  have w1 : IntKind.i64.wrap ((t : Int) + 1) = (t : Int) + 1 := IntWalk.i64_in _ (by omega)
                  by_cases htl : t < 2
                  · go_upto_block 7 with fail
                    go_cut [] (fun wy => Hid (Below wx.heap.size wx wy))
                    case first =>
                      by_cases hyr : 0 ≤ y ∧ y < la
                      · obtain ⟨yn, rfl⟩ : ∃ yn : Nat, y = (yn : Int) := ⟨y.toNat, (Int.toNat_of_nonneg hyr.1).symm⟩
                        have hyl : yn < la := by omega
                        obtain ⟨v, hv⟩ : ∃ v, all[yn]? = some v := ⟨all[yn]'(by rw [HLA.out]; exact hyl), List.getElem?_eq_getElem _⟩
                        have hgv := hKx.out.law.good v (List.mem_of_getElem? hv)
                        have hsv := hgv.2.2
                        have hkl : yn < (all.map keyV).length := by rw [List.length_map, HLA.out]; exact hyl
                        have hkv : (all.map keyV)[yn]'hkl = keyV v := by
                          rw [List.getElem_map]
                          congr 1
                          have h2 := List.getElem?_eq_getElem (l := all) (i := yn) (by rw [HLA.out]; exact hyl)
                          rw [hv] at h2
                          injection h2 with h2
                          exact h2.symm
                        have hyes := Lib.hid (valYes_any v (by omega) hgv.1 hgv.2.1 hKx.out.dict yn hkl hkv (by rw [List.length_map, HLA.out]; omega) (glob_under HG.out (by rw [HZ.out]; exact hKx.out.law.below)))
                        have HGV := Lib.hid hgv
                        have HV := Lib.hid hv
                        clear hkv hgv hv
                        go_wp2_with fail
                        refine hyes.out.mono ?_
                        rintro e w9 ⟨sv, rfl, hb9, hown9⟩
                        obtain ⟨Av, cv, rfl⟩ := hown9.form
                        have hszw9 : wx.heap.size ≤ w9.heap.size := hb9.size
                        obtain ⟨hb, Hhb⟩ := name_itV w9.heap.size
                        obtain ⟨vk, Hvk⟩ := name_itV v.kind
                        obtain ⟨vt, Hvt⟩ := name_itV v.truth
                        obtain ⟨vn, Hvn⟩ := name_itV v.num
                        obtain ⟨vs, Hvs⟩ := name_itV v.text
                        obtain ⟨ve, Hve⟩ := name_itV v.extra
                        obtain ⟨lv, Hlv⟩ := name_itV v.list.length
                        unfold cellsV
                        rw [Hvk.out, Hvt.out, Hvn.out, Hvs.out, Hve.out, Hlv.out]
                        obtain ⟨w10, Hw10⟩ := name_itV (w9.alloc (.cells #[.int .i64 vk, .bool vt, .int .i64 vn, .string vs, .string ve, .slice Av lv cv] 84))
                        have hb10 := Lib.hid (show Below w9.heap.size w9 w10 from by rw [← Hw10.out]; exact (Below.refl _ _).alloc (Nat.le_refl _) _)
                        have hbb10 := Lib.hid (show w10.heap[hb]? = some (.cells #[.int .i64 vk, .bool vt, .int .i64 vn, .string vs, .string ve, .slice Av lv cv] 84 (0, 0)) from by rw [← Hw10.out, ← Hhb.out]; exact heap_alloc_new w9 _)
                        have hB10 := Lib.hid (hb9.trans (hb10.out.mono hb9.size))
                        have c1 : w10.cell? ⟨z, 1, none⟩ = some (.slice (some ad2) n2 cap2) := Lib.cell_of_heap ((hB10.out.block z (by omega)).trans hbxx.out) 1
                        have cy := HCY.out w10 (hBx.out.trans (hB10.out.mono hszx))
                        have hsz10 : w9.heap.size ≤ w10.heap.size := hb10.out.size
                        have hbz10 : hb < w10.heap.size := (Array.getElem?_eq_some_iff.1 hbb10.out).1
                        have hown10 := Lib.hid (show LOwn w10 (fun zz => wx.heap.size ≤ zz ∧ zz < w9.heap.size) v.list (.slice Av v.list.length cv) from LOwn.turn hown9 (Turn.of_below hb10.out) (fun b hb h => by omega))
                        have hL10 := Lib.hid (hKx.out.law.on hB10.out)
                        obtain ⟨cs, hrow, h6, hxs⟩ := hL10.out.row
                        rw [HLA.out] at hrow h6
                        have HROW := Lib.hid hrow
                        have H6 := Lib.hid h6
                        have hyv := hxs yn v HV.out
                        clear hrow h6 hxs
                        obtain ⟨Ay, cy', hcsy, _, _⟩ := hyv.inv
                        injection hcsy with hcsy
                        obtain ⟨g, rfl⟩ : ∃ g, Aa = some ⟨g, 0, none⟩ := by
                          rcases HROW.out.2 with ⟨h0, h1⟩ | ⟨g, cp, cur, h0, _⟩
                          · injection h0 with _ h2; omega
                          · injection h0 with h2; exact ⟨g, h2⟩
                        obtain ⟨ada, Hada⟩ := name_itV (⟨g, 0, none⟩ : Addr)
                        obtain ⟨O, HO⟩ := name_itV (yn * 6)
                        have hadd : ada.add (yn * 6) = ⟨g, O, none⟩ := by rw [← Hada.out, ← HO.out, add_zero_at]
                        have hcell : ∀ i, i < 6 → w10.cell? ⟨g, O + i, none⟩ = (cellsV v (.slice Ay v.list.length cy'))[i]? := fun i hi => by
                          have h2 := HROW.out.cellAt (yn * 6 + i) (by omega)
                          rw [flatV_at H6.out hyl hi, hcsy, HO.out] at h2
                          exact h2
                        unfold cellsV at hcell
                        rw [Hvk.out, Hvt.out, Hvn.out, Hvs.out, Hve.out, Hlv.out] at hcell
                        have k0 : w10.cell? ⟨g, O, none⟩ = some (.int .i64 vk) := hcell 0 (by omega)
                        have k1 : w10.cell? ⟨g, O + 1, none⟩ = some (.bool vt) := hcell 1 (by omega)
                        have k2 : w10.cell? ⟨g, O + 2, none⟩ = some (.int .i64 vn) := hcell 2 (by omega)
                        have k3 : w10.cell? ⟨g, O + 3, none⟩ = some (.string vs) := hcell 3 (by omega)
                        have k4 : w10.cell? ⟨g, O + 4, none⟩ = some (.string ve) := hcell 4 (by omega)
                        have k5 : w10.cell? ⟨g, O + 5, none⟩ = some (.slice Ay lv cy') := hcell 5 (by omega)
                        rw [hcsy] at hyv
                        have hsame := Lib.hid (sameV_any v v (by omega) (fun g => wx.heap.size ≤ g ∧ g < w9.heap.size) (fun g => g < z) _ _ w10.drew (fun g hg => by show g < w10.heap.size; omega) (fun g hg => by show g < w10.heap.size; omega) ((VOwn.of_list hown10.out).rd.keep (w' := w10.drew) (fun _ _ => rfl)) (hyv.keep (w' := w10.drew) (fun _ _ => rfl)))
                        rw [sameB_refl] at hsame
                        unfold cellsV at hsame
                        rw [Hvk.out, Hvt.out, Hvn.out, Hvs.out, Hve.out, Hlv.out] at hsame
                        have e0 : w10.cell? ⟨hb, 0, none⟩ = some (.int .i64 vk) := Lib.cell_of_heap hbb10.out 0
                        have e1 : w10.cell? ⟨hb, 1, none⟩ = some (.bool vt) := Lib.cell_of_heap hbb10.out 1
                        have e2 : w10.cell? ⟨hb, 2, none⟩ = some (.int .i64 vn) := Lib.cell_of_heap hbb10.out 2
                        have e3 : w10.cell? ⟨hb, 3, none⟩ = some (.string vs) := Lib.cell_of_heap hbb10.out 3
                        have e4 : w10.cell? ⟨hb, 4, none⟩ = some (.string ve) := Lib.cell_of_heap hbb10.out 4
                        have e5 : w10.cell? ⟨hb, 5, none⟩ = some (.slice Av lv cv) := Lib.cell_of_heap hbb10.out 5
                        have r1 : (0 : Int) ≤ yn := by omega
                        have r2 : (yn : Int) < la := by omega
                        have r3 : decide ((yn : Int) < (la : Int)) = true := decide_eq_true r2
                        clear hyv hcsy hcell hb9 hown9
                        go_upto_region 34 with fail
                        rw [Hw10.out, Hhb.out]
                        go_upto_region 35 with fail
                        rw [Hada.out]
                        refine wp_region_held_drew (S := fun W' => W'.cell? ⟨z, 1, none⟩ = some (.slice (some ad2) n2 cap2) ∧ W'.cell? (ad2.add i) = some (.int .i64 (yn : Int)) ∧ W'.cell? ⟨hb, 0, none⟩ = some (.int .i64 vk) ∧ W'.cell? ⟨hb, 1, none⟩ = some (.bool vt) ∧ W'.cell? ⟨hb, 2, none⟩ = some (.int .i64 vn) ∧ W'.cell? ⟨hb, 3, none⟩ = some (.string vs) ∧ W'.cell? ⟨hb, 4, none⟩ = some (.string ve) ∧ W'.cell? ⟨hb, 5, none⟩ = some (.slice Av lv cv) ∧ W'.cell? ⟨g, O, none⟩ = some (.int .i64 vk) ∧ W'.cell? ⟨g, O + 1, none⟩ = some (.bool vt) ∧ W'.cell? ⟨g, O + 2, none⟩ = some (.int .i64 vn) ∧ W'.cell? ⟨g, O + 3, none⟩ = some (.string vs) ∧ W'.cell? ⟨g, O + 4, none⟩ = some (.string ve) ∧ W'.cell? ⟨g, O + 5, none⟩ = some (.slice Ay lv cy')) (by kernel_rfl) ⟨c1, cy, e0, e1, e2, e3, e4, e5, k0, k1, k2, k3, k4, k5⟩ (fun hHeld => ?_)
                        refine Boxed.out ?_
                        refine take_want 0 159 ?_ (by kernel_rfl) (by rfl) (by kernel_rfl) (by kernel_rfl) (by kernel_rfl) (fun _ _ _ h => h) hHeld (fun w hSw => ?_) (fun hHeld => ?_)
                        rotate_left
                        · unfold runsTo
                          try dsimp only at hSw
                          go_simp
                          first | done | with_reducible rfl
                        simp only [Act.put, List.setIfInBounds_toArray, List.set_cons_zero, List.set_cons_succ]
                        refine take_want 1 160 ?_ (by kernel_rfl) (by rfl) (by kernel_rfl) (by kernel_rfl) (by kernel_rfl) (fun _ _ _ h => h) hHeld (fun w hSw => ?_) (fun hHeld => ?_)
                        rotate_left
                        · unfold runsTo
                          try dsimp only at hSw
                          go_simp
                          first | done | with_reducible rfl
                        simp only [Act.put, List.setIfInBounds_toArray, List.set_cons_zero, List.set_cons_succ]
                        refine take_want 2 161 ?_ (by kernel_rfl) (by rfl) (by kernel_rfl) (by kernel_rfl) (by kernel_rfl) (fun _ _ _ h => h) hHeld (fun w hSw => ?_) (fun hHeld => ?_)
                        rotate_left
                        · unfold runsTo
                          try dsimp only at hSw
                          go_simp
                          first | done | with_reducible rfl
                        simp only [Act.put, List.setIfInBounds_toArray, List.set_cons_zero, List.set_cons_succ]
                        refine take_want 3 162 ?_ (by kernel_rfl) (by rfl) (by kernel_rfl) (by kernel_rfl) (by kernel_rfl) (fun _ _ _ h => h) hHeld (fun w hSw => ?_) (fun hHeld => ?_)
                        rotate_left
                        · unfold runsTo
                          try dsimp only at hSw
                          go_simp
                          first | done | with_reducible rfl
                        simp only [Act.put, List.setIfInBounds_toArray, List.set_cons_zero, List.set_cons_succ]
                        refine take_want 4 163 ?_ (by kernel_rfl) (by rfl) (by kernel_rfl) (by kernel_rfl) (by kernel_rfl) (fun _ _ _ h => h) hHeld (fun w hSw => ?_) (fun hHeld => ?_)
                        rotate_left
                        · unfold runsTo
                          try dsimp only at hSw
                          go_simp
                          first | done | with_reducible rfl
                        simp only [Act.put, List.setIfInBounds_toArray, List.set_cons_zero, List.set_cons_succ]
                        refine take_want 5 164 ?_ (by kernel_rfl) (by rfl) (by kernel_rfl) (by kernel_rfl) (by kernel_rfl) (fun _ _ _ h => h) hHeld (fun w hSw => ?_) (fun hHeld => ?_)
                        rotate_left
                        · unfold runsTo
                          try dsimp only at hSw
                          go_simp
                          first | done | with_reducible rfl
                        simp only [Act.put, List.setIfInBounds_toArray, List.set_cons_zero, List.set_cons_succ]
                        refine take_want 6 165 ?_ (by kernel_rfl) (by rfl) (by kernel_rfl) (by kernel_rfl) (by kernel_rfl) (fun _ _ _ h => h) hHeld (fun w hSw => ?_) (fun hHeld => ?_)
                        rotate_left
                        · unfold runsTo
                          try dsimp only at hSw
                          go_simp
                          first | done | with_reducible rfl
                        simp only [Act.put, List.setIfInBounds_toArray, List.set_cons_zero, List.set_cons_succ]
                        refine take_want 7 166 ?_ (by kernel_rfl) (by rfl) (by kernel_rfl) (by kernel_rfl) (by kernel_rfl) (fun _ _ _ h => h) hHeld (fun w hSw => ?_) (fun hHeld => ?_)
                        rotate_left
                        · unfold runsTo
                          try dsimp only at hSw
                          go_simp
                          first | done | with_reducible rfl
                        simp only [Act.put, List.setIfInBounds_toArray, List.set_cons_zero, List.set_cons_succ]
                        refine take_want 8 167 ?_ (by kernel_rfl) (by rfl) (by kernel_rfl) (by kernel_rfl) (by kernel_rfl) (fun _ _ _ h => h) hHeld (fun w hSw => ?_) (fun hHeld => ?_)
                        rotate_left
                        · unfold runsTo
                          try dsimp only at hSw
                          go_simp
                          first | done | with_reducible rfl
                        simp only [Act.put, List.setIfInBounds_toArray, List.set_cons_zero, List.set_cons_succ]
                        refine take_want 9 168 ?_ (by kernel_rfl) (by rfl) (by kernel_rfl) (by kernel_rfl) (by kernel_rfl) (fun _ _ _ h => h) hHeld (fun w hSw => ?_) (fun hHeld => ?_)
                        rotate_left
                        · unfold runsTo
                          try dsimp only at hSw
                          go_simp
                          first | done | with_reducible rfl
                        simp only [Act.put, List.setIfInBounds_toArray, List.set_cons_zero, List.set_cons_succ]
                        refine take_want 10 169 ?_ (by kernel_rfl) (by rfl) (by kernel_rfl) (by kernel_rfl) (by kernel_rfl) (fun _ _ _ h => h) hHeld (fun w hSw => ?_) (fun hHeld => ?_)
                        rotate_left
                        · unfold runsTo
                          try dsimp only at hSw
                          go_simp
                          first | done | with_reducible rfl
                        simp only [Act.put, List.setIfInBounds_toArray, List.set_cons_zero, List.set_cons_succ]
                        refine take_want 11 170 ?_ (by kernel_rfl) (by rfl) (by kernel_rfl) (by kernel_rfl) (by kernel_rfl) (fun _ _ _ h => h) hHeld (fun w hSw => ?_) (fun hHeld => ?_)
                        rotate_left
                        · unfold runsTo
                          try dsimp only at hSw
                          go_simp
                          first | done | with_reducible rfl
                        simp only [Act.put, List.setIfInBounds_toArray, List.set_cons_zero, List.set_cons_succ]
                        refine take_want 12 171 ?_ (by kernel_rfl) (by rfl) (by kernel_rfl) (by kernel_rfl) (by kernel_rfl) (fun _ _ _ h => h) hHeld (fun w hSw => ?_) (fun hHeld => ?_)
                        rotate_left
                        · unfold runsTo
                          try dsimp only at hSw
                          go_simp
                          first | done | with_reducible rfl
                        simp only [Act.put, List.setIfInBounds_toArray, List.set_cons_zero, List.set_cons_succ]
                        refine take_want 13 172 ?_ (by kernel_rfl) (by rfl) (by kernel_rfl) (by kernel_rfl) (by kernel_rfl) (fun _ _ _ h => h) hHeld (fun w hSw => ?_) (fun hHeld => ?_)
                        rotate_left
                        · unfold runsTo
                          try dsimp only at hSw
                          go_simp
                          first | done | with_reducible rfl
                        simp only [Act.put, List.setIfInBounds_toArray, List.set_cons_zero, List.set_cons_succ]
                        refine take_want 14 173 ?_ (by kernel_rfl) (by rfl) (by kernel_rfl) (by kernel_rfl) (by kernel_rfl) (fun _ _ _ h => h) hHeld (fun w hSw => ?_) (fun hHeld => ?_)
                        rotate_left
                        · unfold runsTo
                          try dsimp only at hSw
                          go_simp
                          first | done | with_reducible rfl
                        simp only [Act.put, List.setIfInBounds_toArray, List.set_cons_zero, List.set_cons_succ]
                        refine take_call 15 (by kernel_rfl) (by rfl) (fun K hK => ?_)
                        unfold wpAt
                        go_simp
                        go_at_call 50
                        with_reducible refine hsame.out.mono ?_
                        rintro e w11 ⟨rfl, hb11⟩
                        have HB11 := Lib.hid (show Below w10.heap.size w10 w11 from ⟨hb11.os, hb11.tape, hb11.output, hb11.size, hb11.block⟩)
                        have hkp : ∀ {q : Addr} {u : Value}, w10.cell? q = some u → w11.cell? q = some u := fun hq => (HB11.out.cell (World.block_lt_of_cell? _ _ hq)).trans hq
                        have hS11 := And.intro (hkp c1) (And.intro (hkp cy) (And.intro (hkp e0) (And.intro (hkp e1) (And.intro (hkp e2) (And.intro (hkp e3) (And.intro (hkp e4) (And.intro (hkp e5) (And.intro (hkp k0) (And.intro (hkp k1) (And.intro (hkp k2) (And.intro (hkp k3) (And.intro (hkp k4) (hkp k5)))))))))))))
                        go_wp2_with fail
                        refine hK.out _ _ hS11 (fun hHeld => ?_)
                        clear hK K hkp hS11
                        refine take_want 16 175 ?_ (by kernel_rfl) (by rfl) (by kernel_rfl) (by kernel_rfl) (by kernel_rfl) (fun _ _ _ h => h) hHeld (fun w hSw => ?_) (fun hHeld => ?_)
                        rotate_left
                        · unfold runsTo
                          try dsimp only at hSw
                          go_simp
                          first | done | with_reducible rfl
                        simp only [Act.put, List.setIfInBounds_toArray, List.set_cons_zero, List.set_cons_succ]
                        refine take_want 17 176 ?_ (by kernel_rfl) (by rfl) (by kernel_rfl) (by kernel_rfl) (by kernel_rfl) (fun _ _ _ h => h) hHeld (fun w hSw => ?_) (fun hHeld => ?_)
                        rotate_left
                        · unfold runsTo
                          try dsimp only at hSw
                          go_simp
                          first | done | with_reducible rfl
                        simp only [Act.put, List.setIfInBounds_toArray, List.set_cons_zero, List.set_cons_succ]
                        refine take_want 18 177 ?_ (by kernel_rfl) (by rfl) (by kernel_rfl) (by kernel_rfl) (by kernel_rfl) (fun _ _ _ h => h) hHeld (fun w hSw => ?_) (fun hHeld => ?_)
                        rotate_left
                        · unfold runsTo
                          try dsimp only at hSw
                          go_simp
                          first | done | with_reducible rfl
                        simp only [Act.put, List.setIfInBounds_toArray, List.set_cons_zero, List.set_cons_succ]
                        refine take_want 19 178 ?_ (by kernel_rfl) (by rfl) (by kernel_rfl) (by kernel_rfl) (by kernel_rfl) (fun _ _ _ h => h) hHeld (fun w hSw => ?_) (fun hHeld => ?_)
                        rotate_left
                        · unfold runsTo
                          try dsimp only at hSw
                          go_simp
                          first | done | with_reducible rfl
                        simp only [Act.put, List.setIfInBounds_toArray, List.set_cons_zero, List.set_cons_succ]
                        refine take_want 20 179 ?_ (by kernel_rfl) (by rfl) (by kernel_rfl) (by kernel_rfl) (by kernel_rfl) (fun _ _ _ h => h) hHeld (fun w hSw => ?_) (fun hHeld => ?_)
                        rotate_left
                        · unfold runsTo
                          try dsimp only at hSw
                          go_simp
                          first | done | with_reducible rfl
                        simp only [Act.put, List.setIfInBounds_toArray, List.set_cons_zero, List.set_cons_succ]
                        refine take_want 21 180 ?_ (by kernel_rfl) (by rfl) (by kernel_rfl) (by kernel_rfl) (by kernel_rfl) (fun _ _ _ h => h) hHeld (fun w hSw => ?_) (fun hHeld => ?_)
                        rotate_left
                        · unfold runsTo
                          try dsimp only at hSw
                          go_simp
                          first | done | with_reducible rfl
                        simp only [Act.put, List.setIfInBounds_toArray, List.set_cons_zero, List.set_cons_succ]
                        refine take_want 22 181 ?_ (by kernel_rfl) (by rfl) (by kernel_rfl) (by kernel_rfl) (by kernel_rfl) (fun _ _ _ h => h) hHeld (fun w hSw => ?_) (fun hHeld => ?_)
                        rotate_left
                        · unfold runsTo
                          try dsimp only at hSw
                          go_simp
                          first | done | with_reducible rfl
                        simp only [Act.put, List.setIfInBounds_toArray, List.set_cons_zero, List.set_cons_succ]
                        refine take_skip 23 182 (by kernel_rfl) (by rfl) (by kernel_rfl) (by kernel_rfl) (by kernel_rfl) (fun _ _ _ h => h) hHeld (fun hHeld => ?_)
                        simp only [Act.put, List.setIfInBounds_toArray, List.set_cons_zero, List.set_cons_succ]
                        refine take_skip 24 183 (by kernel_rfl) (by rfl) (by kernel_rfl) (by kernel_rfl) (by kernel_rfl) (fun _ _ _ h => h) hHeld (fun hHeld => ?_)
                        simp only [Act.put, List.setIfInBounds_toArray, List.set_cons_zero, List.set_cons_succ]
                        refine take_skip 25 184 (by kernel_rfl) (by rfl) (by kernel_rfl) (by kernel_rfl) (by kernel_rfl) (fun _ _ _ h => h) hHeld (fun hHeld => ?_)
                        simp only [Act.put, List.setIfInBounds_toArray, List.set_cons_zero, List.set_cons_succ]
                        refine take_skip 26 185 (by kernel_rfl) (by rfl) (by kernel_rfl) (by kernel_rfl) (by kernel_rfl) (fun _ _ _ h => h) hHeld (fun hHeld => ?_)
                        simp only [Act.put, List.setIfInBounds_toArray, List.set_cons_zero, List.set_cons_succ]
                        refine take_want 27 186 ?_ (by kernel_rfl) (by rfl) (by kernel_rfl) (by kernel_rfl) (by kernel_rfl) (fun _ _ _ h => h) hHeld (fun w hSw => ?_) (fun hHeld => ?_)
                        rotate_left
                        · unfold runsTo
                          try dsimp only at hSw
                          go_simp
                          first | done | with_reducible rfl
                        simp only [Act.put, List.setIfInBounds_toArray, List.set_cons_zero, List.set_cons_succ]
                        refine take_want 28 187 ?_ (by kernel_rfl) (by rfl) (by kernel_rfl) (by kernel_rfl) (by kernel_rfl) (fun _ _ _ h => h) hHeld (fun w hSw => ?_) (fun hHeld => ?_)
                        rotate_left
                        · unfold runsTo
                          try dsimp only at hSw
                          go_simp
                          first | done | with_reducible rfl
                        simp only [Act.put, List.setIfInBounds_toArray, List.set_cons_zero, List.set_cons_succ]
                        refine ⟨wpAnyH_done (by kernel_rfl) ?_ _⟩
                        have hbb11 := Lib.hid ((hb11.block hb hbz10).trans hbb10.out)
                        have f0 : w11.cell? ⟨hb, 0, none⟩ = some (.int .i64 vk) := Lib.cell_of_heap hbb11.out 0
                        have f1 : w11.cell? ⟨hb, 1, none⟩ = some (.bool vt) := Lib.cell_of_heap hbb11.out 1
                        have f2 : w11.cell? ⟨hb, 2, none⟩ = some (.int .i64 vn) := Lib.cell_of_heap hbb11.out 2
                        have f3 : w11.cell? ⟨hb, 3, none⟩ = some (.string vs) := Lib.cell_of_heap hbb11.out 3
                        have f4 : w11.cell? ⟨hb, 4, none⟩ = some (.string ve) := Lib.cell_of_heap hbb11.out 4
                        have f5 : w11.cell? ⟨hb, 5, none⟩ = some (.slice Av lv cv) := Lib.cell_of_heap hbb11.out 5
                        clear hb11
                        have hb11 := Lib.hid (hB10.out.trans (HB11.out.mono (by have := hB10.out.size; omega)))
                        have hover := Lib.hid (overV_any v (by omega) (fun zz => wx.heap.size ≤ zz ∧ zz < w9.heap.size) _ w11 (fun g hg => by have := HB11.out.size; omega) (VOwn.of_list (LOwn.turn hown10.out (Turn.of_below HB11.out) (fun b hb h => by omega))))
                        unfold cellsV at hover
                        rw [Hvk.out, Hvt.out, Hvn.out, Hvs.out, Hve.out, Hlv.out] at hover
                        clear e0 e1 e2 e3 e4 e5 c1 cy k0 k1 k2 k3 k4 k5
                        go_wp2_with fail
                        refine hover.out.mono ?_
                        rintro e w12 ⟨rfl, hT⟩
                        have HB12 := Lib.hid (hb11.out.trans (hT.below (B := wx.heap.size) (fun _ _ h => h.1) hb11.out.size))
                        clear hT
                        go_wp2_with fail
                        have hA := Hada.out
                        subst hA
                        go_meet
                        exact HB12
                      · have hno := Lib.hid (valNo_any hKx.out.dict y (by rw [List.length_map, HLA.out]; omega))
                        go_wp2_with fail
                        refine hno.out.mono ?_
                        rintro e w9 ⟨rfl, hb9⟩
                        obtain ⟨hb, Hhb⟩ := name_itV w9.heap.size
                        obtain ⟨w10, Hw10⟩ := name_itV (w9.alloc (.cells #[.int .i64 0, .bool false, .int .i64 0, .string ⟨#[]⟩, .string ⟨#[]⟩, .slice none 0 0] 84))
                        have hb10 := Lib.hid (show Below w9.heap.size w9 w10 from by rw [← Hw10.out]; exact (Below.refl _ _).alloc (Nat.le_refl _) _)
                        have hbb10 := Lib.hid (show w10.heap[hb]? = some (.cells #[.int .i64 0, .bool false, .int .i64 0, .string ⟨#[]⟩, .string ⟨#[]⟩, .slice none 0 0] 84 (0, 0)) from by rw [← Hw10.out, ← Hhb.out]; exact heap_alloc_new w9 _)
                        have hB10 := Lib.hid (hb9.trans (hb10.out.mono hb9.size))
                        have c1 : w10.cell? ⟨z, 1, none⟩ = some (.slice (some ad2) n2 cap2) := Lib.cell_of_heap ((hB10.out.block z (by omega)).trans hbxx.out) 1
                        have cy := HCY.out w10 (hBx.out.trans (hB10.out.mono hszx))
                        have hsz10 : w9.heap.size ≤ w10.heap.size := hb10.out.size
                        have hbz10 : hb < w10.heap.size := (Array.getElem?_eq_some_iff.1 hbb10.out).1
                        have hsame := Lib.hid (sameV_any (.mk 0 false 0 ⟨#[]⟩ ⟨#[]⟩ []) (.mk 0 false 0 ⟨#[]⟩ ⟨#[]⟩ []) (by decide) (fun g => g < hb) (fun g => g < hb) _ _ w10.drew (fun g hg => by show g < w10.heap.size; omega) (fun g hg => by show g < w10.heap.size; omega) (VRd.of_list (v := .mk 0 false 0 ⟨#[]⟩ ⟨#[]⟩ []) (A := none) (cap := 0) (Nat.le_refl _) (LRd.nil 0 rfl)) (VRd.of_list (v := .mk 0 false 0 ⟨#[]⟩ ⟨#[]⟩ []) (A := none) (cap := 0) (Nat.le_refl _) (LRd.nil 0 rfl)))
                        rw [sameB_refl] at hsame
                        simp only [cellsV, Val.kind, Val.truth, Val.num, Val.text, Val.extra, Val.list, List.length_nil] at hsame
                        have e0 : w10.cell? ⟨hb, 0, none⟩ = some (.int .i64 0) := Lib.cell_of_heap hbb10.out 0
                        have e1 : w10.cell? ⟨hb, 1, none⟩ = some (.bool false) := Lib.cell_of_heap hbb10.out 1
                        have e2 : w10.cell? ⟨hb, 2, none⟩ = some (.int .i64 0) := Lib.cell_of_heap hbb10.out 2
                        have e3 : w10.cell? ⟨hb, 3, none⟩ = some (.string ⟨#[]⟩) := Lib.cell_of_heap hbb10.out 3
                        have e4 : w10.cell? ⟨hb, 4, none⟩ = some (.string ⟨#[]⟩) := Lib.cell_of_heap hbb10.out 4
                        have e5 : w10.cell? ⟨hb, 5, none⟩ = some (.slice none 0 0) := Lib.cell_of_heap hbb10.out 5
                        go_upto_region 34 with fail
                        rw [Hw10.out, Hhb.out]
                        clear hb9
                        by_cases h0 : 0 ≤ y
                        · have h1 : decide (y < (la : Int)) = false := decide_eq_false (fun h => hyr ⟨h0, h⟩)
                          go_upto_region 35 with fail
                          refine wp_region_still_tail 25 (by kernel_rfl) (by kernel_rfl) ?_
                          simp only [List.take_succ_cons, List.take_zero, List.drop_succ_cons, List.drop_zero]
                          refine Boxed.out ?_
                          iterate 6 (refine stB_want (v := ?_) (by rfl) ?_ ?_; rotate_left; (go_simp; first | done | with_reducible rfl); simp only [Act.put, List.setIfInBounds_toArray, List.set_cons_zero, List.set_cons_succ])
                          iterate 11 (refine stB_skip (by rfl) ?_; simp only [Act.put, List.setIfInBounds_toArray, List.set_cons_zero, List.set_cons_succ])
                          iterate 8 (refine stB_want (v := ?_) (by rfl) ?_ ?_; rotate_left; (go_simp; first | done | with_reducible rfl); simp only [Act.put, List.setIfInBounds_toArray, List.set_cons_zero, List.set_cons_succ])
                          refine ⟨wpStill_nil ?_⟩
                          change wpList _ _ _ _ _ (World.drew _)
                          go_wp2_with fail
                          refine hsame.out.mono ?_
                          rintro e w11 ⟨rfl, hb11⟩
                          have HB11 := Lib.hid hb11
                          have hbb11 := Lib.hid ((hb11.block hb hbz10).trans hbb10.out)
                          obtain ⟨f0, f1, f2, f3, f4, f5⟩ := six_zero hbb11.out
                          clear hb11
                          have hb11 := Lib.hid (hB10.out.trans ((⟨HB11.out.os, HB11.out.tape, HB11.out.output, HB11.out.size, HB11.out.block⟩ : Below w10.heap.size w10 w11).mono (by have := hB10.out.size; omega)))
                          have hover := Lib.hid (overV_any (.mk 0 false 0 ⟨#[]⟩ ⟨#[]⟩ []) (by decide) (fun _ => False) _ w11 (fun g hg => hg.elim) (VOwn.of_list (v := .mk 0 false 0 ⟨#[]⟩ ⟨#[]⟩ []) (LOwn.nil _ _)))
                          simp only [cellsV, Val.kind, Val.truth, Val.num, Val.text, Val.extra] at hover
                          clear e0 e1 e2 e3 e4 e5 c1 cy
                          go_wp2_with fail
                          refine hover.out.mono ?_
                          rintro e w12 ⟨rfl, hT⟩
                          have HB12 := Lib.hid (hb11.out.trans (hT.below (B := wx.heap.size) (fun _ _ h => h.elim) hb11.out.size))
                          clear hT
                          go_wp2_with fail
                          go_meet
                          exact HB12
                        · go_upto_region 35 with fail
                          refine wp_region_still_tail 25 (by kernel_rfl) (by kernel_rfl) ?_
                          simp only [List.take_succ_cons, List.take_zero, List.drop_succ_cons, List.drop_zero]
                          refine Boxed.out ?_
                          iterate 6 (refine stB_want (v := ?_) (by rfl) ?_ ?_; rotate_left; (go_simp; first | done | with_reducible rfl); simp only [Act.put, List.setIfInBounds_toArray, List.set_cons_zero, List.set_cons_succ])
                          iterate 11 (refine stB_skip (by rfl) ?_; simp only [Act.put, List.setIfInBounds_toArray, List.set_cons_zero, List.set_cons_succ])
                          iterate 8 (refine stB_want (v := ?_) (by rfl) ?_ ?_; rotate_left; (go_simp; first | done | with_reducible rfl); simp only [Act.put, List.setIfInBounds_toArray, List.set_cons_zero, List.set_cons_succ])
                          refine ⟨wpStill_nil ?_⟩
                          change wpList _ _ _ _ _ (World.drew _)
                          go_wp2_with fail
                          refine hsame.out.mono ?_
                          rintro e w11 ⟨rfl, hb11⟩
                          have HB11 := Lib.hid hb11
                          have hbb11 := Lib.hid ((hb11.block hb hbz10).trans hbb10.out)
                          obtain ⟨f0, f1, f2, f3, f4, f5⟩ := six_zero hbb11.out
                          clear hb11
                          have hb11 := Lib.hid (hB10.out.trans ((⟨HB11.out.os, HB11.out.tape, HB11.out.output, HB11.out.size, HB11.out.block⟩ : Below w10.heap.size w10 w11).mono (by have := hB10.out.size; omega)))
                          have hover := Lib.hid (overV_any (.mk 0 false 0 ⟨#[]⟩ ⟨#[]⟩ []) (by decide) (fun _ => False) _ w11 (fun g hg => hg.elim) (VOwn.of_list (v := .mk 0 false 0 ⟨#[]⟩ ⟨#[]⟩ []) (LOwn.nil _ _)))
                          simp only [cellsV, Val.kind, Val.truth, Val.num, Val.text, Val.extra] at hover
                          clear e0 e1 e2 e3 e4 e5 c1 cy
                          go_wp2_with fail
                          refine hover.out.mono ?_
                          rintro e w12 ⟨rfl, hT⟩
                          have HB12 := Lib.hid (hb11.out.trans (hT.below (B := wx.heap.size) (fun _ _ h => h.elim) hb11.out.size))
                          clear hT
                          go_wp2_with fail
                          go_meet
                          exact HB12
                    case rest =>
                      have HN := Lib.hid (hBx.out.trans (hcut.out.mono hszx))
                      clear hcut c1 cy
                      go_wp2_with fail
                      go_roundw
                      case rel => exact ⟨t + 1, by go_num, by omega, HN⟩
                      case measure => simp [intOf]; omega
                  · have w2 : IntKind.i64.wrap ((i : Int) + 1) = (i : Int) + 1 := IntWalk.i64_in _ (by omega)
                    go_wp2_with fail
                    go_roundw
                    case rel => exact ⟨i + 1, by go_num, by omega, hBx⟩
                    case measure => simp [intOf]; omega
              · have t1 : decide (i < n2 ∧ i < 30) = false := decide_eq_false hlt
                rw [t1] at h126
                subst h126
                clear t1 c1 hlt
                have HBA := Lib.hid (hk.out.law.below.trans (hBi.out.mono (by omega)))
                go_wp2_with fail
                refine (wakes_any _).mono ?_
                rintro e w9 ⟨rfl, hb9⟩
                have HB9 := Lib.hid (HBA.out.trans (hb9.mono (by have := HBA.out.size; have := HZ.out; omega)))
                clear hb9
                go_wp2
                go_ret
                exact ⟨rfl, by rw [HZ.out]; exact HB9.out⟩
end Go.Proofs.YtdhnmgndekncpaaDoor
