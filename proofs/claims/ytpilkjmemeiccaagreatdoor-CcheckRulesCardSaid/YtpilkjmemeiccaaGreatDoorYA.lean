/- maps.Clone, slices.Sorted, and the evaluator with them. -/
import Derived.Shelf.SlIter.Nil
import Derived.Shelf.SortM.Plain
import Derived.Shelf.SortM.SortNone
import Derived.Test.YtpilkjmemeiccaaGreatDoorProg
import Derived.Test.YtpilkjmemeiccaaGreatDoorXL
import Derived.Laws.Externs
import Derived.MapKept
import Derived.Maps.Own
import Derived.StringKeys
set_option linter.unusedSimpArgs false
set_option linter.unusedVariables false
/-
  DERIVED: THE SHELF's CONTRACTS AT THIS DUMP, IN PLAIN WORDS (tools/lay-plain.mjs out of 'TryzShelf.lean', which tools/lay-shelf.mjs wrote): THE SAME DECLARATIONS UNDER THE SAME NAMES: 'import', 'namespace', 'open', 'def', 'theorem' AND NOTHING ELSE: no command of the shelf's: FOR A HAND-IN. Each laying: the table of numbers ('.._ren') and one theorem, a field a fact of the dump's own or the kernel's comparison; each contract: ONE APPLICATION.
-/
namespace Go.Proofs
open Go.Shelf
def Tryz.keys125_ren : Go.Shelf.Ren := ⟨fun | 7 => 125 | 10 => 152 | n => n, fun | 23 => 124 | 26 => 9 | 3 => 3 | 28 => 215 | 0 => 0 | 27 => 214 | 33 => 100 | 4 => 4 | n => n, fun | n => n⟩
theorem Tryz.keys125 : Go.Proofs.SlLaysZ.n7 Tryz.prog Tryz.keys125_ren := {
  mixed := by kernel_rfl
  f7 := ⟨Tryz.f125.name, by decide, Tryz.func125.trans (congrArg some (by kernel_rfl))⟩
  f10 := ⟨Tryz.f152.name, by decide, Tryz.func152.trans (congrArg some (by kernel_rfl))⟩
  t0 := Tryz.underlying0
  a0 := Tryz.isAgg0
  z0 := Tryz.sizeOf0
  v0 := Tryz.zeroValue0
  t4 := Tryz.underlying4
  a4 := Tryz.isAgg4
  z4 := Tryz.sizeOf4
  v4 := Tryz.zeroValue4
  t23 := Tryz.underlying124
  a23 := Tryz.isAgg124
  z23 := Tryz.sizeOf124
  v23 := Tryz.zeroValue124
  t26 := Tryz.underlying9
  a26 := Tryz.isAgg9
  z26 := Tryz.sizeOf9
  v26 := Tryz.zeroValue9
  t27 := Tryz.underlying214
  a27 := Tryz.isAgg214
  z27 := Tryz.sizeOf214
  v27 := Tryz.zeroValue214
  t28 := Tryz.underlying215
  a28 := Tryz.isAgg215
  z28 := Tryz.sizeOf215
  v28 := Tryz.zeroValue215
  t33 := Tryz.underlying100
  a33 := Tryz.isAgg100
  z33 := Tryz.sizeOf100
  v33 := Tryz.zeroValue100 }
def Tryz.sorted124_ren : Go.Shelf.Ren := ⟨fun | 6 => 124 | 8 => 150 | 9 => 151 | 11 => 166 | 13 => 168 | 12 => 167 | 23 => 194 | 24 => 162 | 14 => 185 | 15 => 186 | 16 => 187 | 17 => 188 | 18 => 189 | 19 => 190 | 20 => 191 | 21 => 192 | 22 => 193 | 25 => 210 | 26 => 211 | 27 => 212 | 28 => 213 | 29 => 214 | 30 => 215 | 31 => 228 | n => n, fun | 26 => 9 | 28 => 215 | 24 => 22 | 0 => 0 | 3 => 3 | 37 => 250 | 48 => 247 | 50 => 234 | 4 => 4 | 40 => 269 | 39 => 268 | 45 => 127 | 5 => 5 | 9 => 9 | 51 => 290 | 55 => 294 | 57 => 310 | 58 => 311 | 33 => 100 | n => n, fun | n => n⟩
theorem Tryz.sorted124 : Go.Proofs.SlLaysZ.n6 Tryz.prog Tryz.sorted124_ren := {
  mixed := by kernel_rfl
  f6 := ⟨Tryz.f124.name, by decide, Tryz.func124.trans (congrArg some (by kernel_rfl))⟩
  f8 := ⟨Tryz.f150.name, by decide, Tryz.func150.trans (congrArg some (by kernel_rfl))⟩
  f11 := ⟨Tryz.f166.name, by decide, Tryz.func166.trans (congrArg some (by kernel_rfl))⟩
  t0 := Tryz.underlying0
  a0 := Tryz.isAgg0
  z0 := Tryz.sizeOf0
  v0 := Tryz.zeroValue0
  t24 := Tryz.underlying22
  a24 := Tryz.isAgg22
  z24 := Tryz.sizeOf22
  v24 := Tryz.zeroValue22
  t26 := Tryz.underlying9
  a26 := Tryz.isAgg9
  z26 := Tryz.sizeOf9
  v26 := Tryz.zeroValue9
  t28 := Tryz.underlying215
  a28 := Tryz.isAgg215
  z28 := Tryz.sizeOf215
  v28 := Tryz.zeroValue215
  i26 := by kernel_rfl }
def Tryz.sort151_ren : Go.Shelf.Ren := ⟨fun | 6 => 151 | 8 => 168 | 9 => 167 | 19 => 194 | 20 => 162 | 21 => 185 | 22 => 186 | 23 => 187 | 24 => 188 | 25 => 189 | 26 => 190 | 27 => 191 | 28 => 192 | 29 => 193 | 36 => 210 | 31 => 211 | 32 => 212 | 37 => 213 | 38 => 214 | 39 => 215 | 41 => 228 | n => n, fun | 27 => 22 | 29 => 9 | 3 => 3 | 32 => 250 | 26 => 22 | 0 => 0 | 44 => 247 | 46 => 234 | 4 => 4 | 36 => 269 | 35 => 268 | 41 => 127 | 5 => 5 | 9 => 9 | 53 => 290 | 57 => 294 | 63 => 310 | 64 => 311 | n => n, fun | n => n⟩
theorem Tryz.sort151 : Go.Proofs.SlLaysM.n6 Tryz.prog Tryz.sort151_ren := {
  mixed := by kernel_rfl
  f6 := ⟨Tryz.f151.name, by decide, Tryz.func151.trans (congrArg some (by kernel_rfl))⟩
  f8 := Tryz.func168.trans (congrArg some (by kernel_rfl))
  f9 := ⟨Tryz.f167.name, by decide, Tryz.func167.trans (congrArg some (by kernel_rfl))⟩
  f19 := Tryz.func194.trans (congrArg some (by kernel_rfl))
  f20 := Tryz.func162.trans (congrArg some (by kernel_rfl))
  f21 := ⟨Tryz.f185.name, by decide, Tryz.func185.trans (congrArg some (by kernel_rfl))⟩
  f22 := ⟨Tryz.f186.name, by decide, Tryz.func186.trans (congrArg some (by kernel_rfl))⟩
  f23 := ⟨Tryz.f187.name, by decide, Tryz.func187.trans (congrArg some (by kernel_rfl))⟩
  f24 := ⟨Tryz.f188.name, by decide, Tryz.func188.trans (congrArg some (by kernel_rfl))⟩
  f25 := ⟨Tryz.f189.name, by decide, Tryz.func189.trans (congrArg some (by kernel_rfl))⟩
  f26 := ⟨Tryz.f190.name, by decide, Tryz.func190.trans (congrArg some (by kernel_rfl))⟩
  f27 := ⟨Tryz.f191.name, by decide, Tryz.func191.trans (congrArg some (by kernel_rfl))⟩
  f28 := ⟨Tryz.f192.name, by decide, Tryz.func192.trans (congrArg some (by kernel_rfl))⟩
  f29 := ⟨Tryz.f193.name, by decide, Tryz.func193.trans (congrArg some (by kernel_rfl))⟩
  f31 := Tryz.func211.trans (congrArg some (by kernel_rfl))
  f32 := Tryz.func212.trans (congrArg some (by kernel_rfl))
  f36 := ⟨Tryz.f210.name, by decide, Tryz.func210.trans (congrArg some (by kernel_rfl))⟩
  f37 := ⟨Tryz.f213.name, by decide, Tryz.func213.trans (congrArg some (by kernel_rfl))⟩
  f38 := ⟨Tryz.f214.name, by decide, Tryz.func214.trans (congrArg some (by kernel_rfl))⟩
  f39 := ⟨Tryz.f215.name, by decide, Tryz.func215.trans (congrArg some (by kernel_rfl))⟩
  f41 := ⟨Tryz.f228.name, by decide, Tryz.func228.trans (congrArg some (by kernel_rfl))⟩
  t0 := Tryz.underlying0
  a0 := Tryz.isAgg0
  z0 := Tryz.sizeOf0
  v0 := Tryz.zeroValue0
  t3 := Tryz.underlying3
  a3 := Tryz.isAgg3
  z3 := Tryz.sizeOf3
  v3 := Tryz.zeroValue3
  t4 := Tryz.underlying4
  a4 := Tryz.isAgg4
  z4 := Tryz.sizeOf4
  v4 := Tryz.zeroValue4
  t5 := Tryz.underlying5
  a5 := Tryz.isAgg5
  z5 := Tryz.sizeOf5
  v5 := Tryz.zeroValue5
  t9 := Tryz.underlying9
  a9 := Tryz.isAgg9
  z9 := Tryz.sizeOf9
  v9 := Tryz.zeroValue9
  t26 := Tryz.underlying22
  a26 := Tryz.isAgg22
  z26 := Tryz.sizeOf22
  v26 := Tryz.zeroValue22
  t27 := Tryz.underlying22
  a27 := Tryz.isAgg22
  z27 := Tryz.sizeOf22
  v27 := Tryz.zeroValue22
  t29 := Tryz.underlying9
  a29 := Tryz.isAgg9
  z29 := Tryz.sizeOf9
  v29 := Tryz.zeroValue9
  t32 := Tryz.underlying250
  a32 := Tryz.isAgg250
  z32 := Tryz.sizeOf250
  v32 := Tryz.zeroValue250
  t35 := Tryz.underlying268
  a35 := Tryz.isAgg268
  z35 := Tryz.sizeOf268
  v35 := Tryz.zeroValue268
  t36 := Tryz.underlying269
  a36 := Tryz.isAgg269
  z36 := Tryz.sizeOf269
  v36 := Tryz.zeroValue269
  t41 := Tryz.underlying127
  a41 := Tryz.isAgg127
  z41 := Tryz.sizeOf127
  v41 := Tryz.zeroValue127
  t44 := Tryz.underlying247
  a44 := Tryz.isAgg247
  z44 := Tryz.sizeOf247
  v44 := Tryz.zeroValue247
  t46 := Tryz.underlying234
  a46 := Tryz.isAgg234
  z46 := Tryz.sizeOf234
  v46 := Tryz.zeroValue234
  t53 := Tryz.underlying290
  a53 := Tryz.isAgg290
  z53 := Tryz.sizeOf290
  v53 := Tryz.zeroValue290
  t57 := Tryz.underlying294
  a57 := Tryz.isAgg294
  z57 := Tryz.sizeOf294
  v57 := Tryz.zeroValue294
  t63 := Tryz.underlying310
  a63 := Tryz.isAgg310
  z63 := Tryz.sizeOf310
  v63 := Tryz.zeroValue310
  t64 := Tryz.underlying311
  a64 := Tryz.isAgg311
  z64 := Tryz.sizeOf311
  v64 := Tryz.zeroValue311 }
end Go.Proofs
/- maps.Clone, as the evaluator takes it. -/
namespace Go.Proofs.YtpilkjmemeiccaaGreatDoor
set_option maxRecDepth 100000
open Go Go.RowKit Go.Proofs.Ev

noncomputable section
def cloneE (args : List Go.Proofs.Ev.V) (h : T AObj) (nx : Nat) : R (Go.Proofs.Ev.V × T AObj × Nat) :=
  match args with
  | [.m0] => some (.m0, h, nx)
  | [.m r] => (match h.get r with | some (.map es) => some (.m nx, h.set nx (.map es), Nat.succ nx) | _ => none)
  | _ => none
end
theorem map_eq_nil {P : Program} (w : World) (d : Nat) (t k e : TypeId) (p : Option Nat) (h : P.underlying t = some (.map k e)) : (Op.equalIn (d + 1) t (.map p) (.map none)).run P w = .ok p.isNone w := by
  cases p <;> simp [Op.equalIn, run_underlying h]
theorem map_is_nil {P : Program} (w : World) (t k e : TypeId) (p : Option Nat) (h : P.underlying t = some (.map k e)) : (binOp .eql t (.map p) (.map none)).run P w = .ok (.bool p.isNone) w := by
  simp only [binOp]
  simp [show Op.equal t (.map p) (.map none) = Op.equalIn (9999 + 1) t (.map p) (.map none) from rfl, map_eq_nil w 9999 t k e p h]
theorem map_assert {P : Program} (w : World) (t xT k e : TypeId) (v : Value) (h : P.underlying t = some (.map k e)) : (Instr.typeAssert (.iface t v) xT t false).run P w = .ok v w := by
  simp [Instr.typeAssert, run_underlying h, go_sem, Result.andThen]
theorem map_clone {P : Program} (w : World) {r : Nat} {es : Array MapEntry} {clock : Nat} (t : TypeId) (hb : w.heap[r]? = some (.map es clock)) :
    (Extern.MapsClone.clone #[.iface t (.map (some r))]).run P w = .ok (.iface t (.map (some w.heap.size))) (w.alloc (.map es clock)) := by
  have e : Extern.MapsClone.clone #[.iface t (.map (some r))] = (getObj r >>= fun o => match o with
      | .map entries clock => (newObj (.map entries clock) >>= fun n => pure (.iface t (.map (some n))))
      | _ => stuck "maps.clone: a map expected") := rfl
  rw [e]
  simp [MapKept.run_getObj_map hb, Result.andThen, go_sem]
set_option maxHeartbeats 2000000 in
theorem clone_any (b : Nat) (es : Array MapEntry) (clock : Nat) (w : World) (hb : w.heap[b]? = some (.map es clock)) :
    Calls Tryz.prog 55 #[.map (some b)] w fun e w' => e = .returned (.map (some w.heap.size)) ∧ w' = w.alloc (.map es clock) := by
  have hq := fun w => map_is_nil w 124 _ _ (some b) Tryz.underlying124
  go_enter Tryz.func55, Tryz.ntmps55
  go_wp2
  rw [run_callFunc_extern Tryz.func88 (by kernel_rfl) (by kernel_rfl) (by kernel_rfl) (e := Extern.MapsClone.clone) (by kernel_rfl), map_clone w 124 hb]
  simp only [Result.andThen]
  rw [Oper.upon_value]
  go_wp2
  rw [map_assert _ 124 20 _ _ _ Tryz.underlying124]
  simp only [Result.andThen]
  rw [Oper.upon_value]
  go_wp2
  go_ret
  exact ⟨rfl, rfl⟩
set_option maxHeartbeats 2000000 in
theorem clone_nil (w : World) : Calls Tryz.prog 55 #[.map none] w fun e w' => e = .returned (.map none) ∧ w' = w := by
  have hq := fun w => map_is_nil w 124 _ _ none Tryz.underlying124
  go_enter Tryz.func55, Tryz.ntmps55
  go_wp2
  go_ret
  exact ⟨rfl, rfl⟩
theorem clone_ext (w0 : Base) {args : List Go.Proofs.Ev.V} {h : T AObj} {nx : Nat} {r : Go.Proofs.Ev.V × T AObj × Nat} (he : cloneE args h nx = some r) : GoodJ Tryz.prog w0 (.call 55 args h nx) (.got r.1 r.2.1 r.2.2) := by
  intro ρ xs w I hv
  unfold cloneE at he
  split at he
  · injection he with he
    subst he
    obtain ⟨x, hx, hvx⟩ := hv.li1
    obtain rfl : xs = #[x] := Array.toList_inj.1 hx
    cases hvx
    refine Calls.mono (clone_nil w) fun e w' hq => ?_
    obtain ⟨rfl, rfl⟩ := hq
    exact ⟨ρ, _, _, _, rfl, Rho.le_refl ρ, I, .m0⟩
  · rename_i b
    obtain ⟨x, hx, hvx⟩ := hv.li1
    obtain rfl : xs = #[x] := Array.toList_inj.1 hx
    cases hvx with
    | m _ cb sz hr =>
    cases hg : h.get b with
    | none => simp only [hg, reduceCtorEq] at he
    | some ob =>
      simp only [hg] at he
      cases ob with
      | row c n => simp only [reduceCtorEq] at he
      | map es =>
        injection he with he
        subst he
        obtain ⟨ents, ck, e1, e2, e3, e4, e5⟩ := I.obj b _ cb sz hg hr
        refine Calls.mono (clone_any cb ents ck w e1) fun e w' hq => ?_
        obtain ⟨rfl, rfl⟩ := hq
        have hle : ρ.le (ρ.put nx (w.heap.size, 0)) := le_put' I _
        refine ⟨ρ.put nx (w.heap.size, 0), _, _, _, rfl, hle, ?_, .m _ _ _ (by unfold Rho.put; rw [if_pos rfl])⟩
        exact I.push (by simp) (fun k hk => (MapKept.heap_alloc w _).2 k hk) rfl rfl rfl ⟨ents, ck, (MapKept.heap_alloc w _).1, e2.mono hle, e3.mono hle, e4, e5⟩
  · cases he
end Go.Proofs.YtpilkjmemeiccaaGreatDoor
/- slices.Sorted of maps.Keys of a map of one key, as the evaluator takes it. -/
namespace Go.Proofs.YtpilkjmemeiccaaGreatDoor
set_option maxRecDepth 100000
open Go Go.RowKit Go.Maps Go.Sort Go.Shelf Go.WideMaps Go.WideElems Go.Proofs.Ev

noncomputable section
def sortedE (args : List Go.Proofs.Ev.V) (h : T AObj) (nx : Nat) : R (Go.Proofs.Ev.V × T AObj × Nat) :=
  match args with
  | [.f (.func 152) [] [.p b 0]] => (match h.get b with
    | some (.row c 1) => (match c.get 0 with
      | some (.m r) => (match h.get r with | some (.map [(.s l n, _)]) => gd (Nat.ble l 1000000) (some (.l nx 0 1 1, h.set nx (mkRow [.s l n]), Nat.succ nx)) | _ => none)
      | _ => none)
    | _ => none)
  | _ => none
end
theorem sorts_in (m : Nat) : AnyZ.SortsIn Tryz.prog Tryz.sorted124_ren Fence.wide m :=
  ⟨fun blk off cap ss W hH hblk hsz => callsIn_wide.2 (AnyM.slices_Sort_string Tryz.sort151 blk off cap ss W hH hblk hsz),
   fun p cap W => callsIn_wide.2 (AnyM.slices_Sort_string_none Tryz.sort151 p cap W)⟩
theorem own_one {w : World} {b ck : Nat} {es : Array MapEntry} {x : MapEntry} {s : ByteArray} (hb : w.heap[b]? = some (.map es ck)) (hes : es.toList = [x]) (hk : x.key = .string s) (hs : s.size ≤ maxLen) (hx : x.born < ck) :
    w.ownsMap (H := Unit) Tryz.prog 9 (fun _ => some (.nil, [])) b 1 (.map [(.string s.data.toList, .nil)]) := by
  have hsz : es.size = 1 := by rw [← Array.length_toList, hes]; rfl
  have hrd : Go.WideElems.rd (H := Unit) Tryz.prog 9 (fun _ => some (.nil, [])) x = some (.string s.data.toList, .nil) := by
    unfold Go.WideElems.rd
    rw [hk, keyOf_string_mk Tryz.underlying9 hs]
    rfl
  refine ⟨es, ck, hb, ⟨by rw [hsz]; decide, ⟨by rw [hes]; simpa using hx, by rw [hes]; simp, by rw [hes]; simp⟩, fun y hy => ?_⟩, by rw [hsz]; exact Nat.le_refl _, ?_⟩
  · rw [hes] at hy
    simp only [List.mem_cons, List.not_mem_nil, or_false] at hy
    subst hy
    exact ⟨_, hrd⟩
  · rw [hes]
    show _ = DataW.map (DataW.insert (Go.WideElems.rg Tryz.prog 9 (fun _ => some (.nil, [])) x) [])
    unfold Go.WideElems.rg
    rw [hrd]
    rfl
set_option maxHeartbeats 1000000 in
theorem sorted_any {w : World} {g b ck : Nat} {es : Array MapEntry} {x : MapEntry} {s : ByteArray} (hg : w.cell? ⟨g, 0, none⟩ = some (.map (some b))) (hgl : g < w.heap.size) (hb : w.heap[b]? = some (.map es ck)) (hes : es.toList = [x]) (hk : x.key = .string s) (hs : s.size ≤ maxLen) (hx : x.born < ck) :
    Calls Tryz.prog 124 #[.func (.func 152) #[] #[.pointer (some ⟨g, 0, none⟩)]] w fun e w' => ∃ v, e = .returned v ∧ w'.ownsRow w.heap.size 9 1 v 1 [.string s] ∧ Below w.heap.size w w' := by
  have hown := own_one hb hes hk hs hx
  have hseq : SeqGives Fence.wide 2 Tryz.prog 152 #[.pointer (some ⟨g, 0, none⟩)] encStr (fun ss => ss.Perm (strKeys (H := Unit) (.map [(.string s.data.toList, .nil)]))) (Maps.size (H := Unit) (.map [(.string s.data.toList, .nil)])) w :=
    AnyZ.keys_gives (ρ := Tryz.keys125_ren) { Tryz.keys125 with } Fence.wide _ trivial rfl (by omega) g b 1 _ w hgl hg hown
  have h := AnyZ.sorted_in Tryz.sorted124 Fence.wide 5 trivial trivial trivial trivial rfl (by omega) (sorts_in _) (enters_of Tryz.func151 (by kernel_rfl) rfl) 152 #[.pointer (some ⟨g, 0, none⟩)] trivial (enters_of Tryz.func152 (by kernel_rfl) rfl) _ _ (show (1 : Nat) ≤ maxLen by decide) (show (1 : Nat) * 16 ≤ 140737488355328 by decide) _ hseq
  refine Calls.mono (callsIn_wide.1 h) fun e w' he => ?_
  obtain ⟨v, ss, rfl, hp, hrow, _, hbl⟩ := he
  have hp : ss.Perm [s.data.toList] := hp
  obtain rfl := List.perm_singleton.1 hp
  refine ⟨v, rfl, ?_, hbl⟩
  have e1 : (([s.data.toList] : List (List UInt8)).mergeSort (fun x y => decide (x ≤ y))).map encStr = [.string s] := by
    rw [List.mergeSort_singleton]
    rfl
  rw [e1] at hrow
  exact hrow
theorem sorted_ext (w0 : Base) {args : List Go.Proofs.Ev.V} {h : T AObj} {nx : Nat} {r : Go.Proofs.Ev.V × T AObj × Nat} (he : sortedE args h nx = some r) : GoodJ Tryz.prog w0 (.call 124 args h nx) (.got r.1 r.2.1 r.2.2) := by
  intro ρ xs w I hv
  unfold sortedE at he
  split at he
  · rename_i b
    split at he
    · rename_i c hgb
      split at he
      · rename_i r' hc
        split at he
        · rename_i l n v hgr
          obtain ⟨h1, he⟩ := gd_some.1 he
          injection he with he
          subst he
          have h1 := ble_true.1 h1
          obtain ⟨x, hx, hvx⟩ := hv.li1
          obtain rfl : xs = #[x] := Array.toList_inj.1 hx
          cases hvx with
          | f _ _ _ a' c' ha hcc =>
          obtain rfl : a' = #[] := by
            cases a' with
            | mk l => cases l with
              | nil => rfl
              | cons y ys => cases ha
          obtain ⟨p, hp, hvp⟩ := hcc.li1
          obtain rfl : c' = #[p] := Array.toList_inj.1 hp
          obtain ⟨cb, sz, hr, rfl⟩ := hvp.p_inv
          obtain ⟨cur, el, e1, e2, e3, e4⟩ := I.obj b _ cb sz hgb hr
          obtain ⟨u, q1, q2⟩ := e4 0 _ (by omega) hc
          cases q2 with
          | m _ mb msz hr' =>
          obtain ⟨ents, ck, m1, m2, m3, m4, m5⟩ := I.obj r' _ mb msz hgr hr'
          have hlen := m2.length
          have hents : ∃ x, ents.toList = [x] := by
            have : ents.toList.length = 1 := by simpa using hlen.symm
            match hL : ents.toList, this with
            | [x], _ => exact ⟨x, rfl⟩
          obtain ⟨x, hents⟩ := hents
          rw [hents] at m2 m5
          obtain ⟨y, hy, hvy⟩ := VRs.li1 (v := .s l n) (xs := [x.key]) m2
          have hy : x.key = y := by injection hy
          obtain ⟨s, rfl, rfl, rfl⟩ := hvy.str_inv
          have hcell : w.cell? ⟨cb, 0, none⟩ = some (.map (some mb)) := by
            simp only [World.cell?, e1]
            exact q1
          have hgl : cb < w.heap.size := (Array.getElem?_eq_some_iff.1 e1).1
          refine Calls.mono (sorted_any hcell hgl m1 hents hy (Nat.le_trans h1 (by decide)) (m5 _ (by simp))) fun e w' hq => ?_
          obtain ⟨v, rfl, ho, hb⟩ := hq
          obtain ⟨cc, i1, i2⟩ := adopt_row I hb (n := 0) ho (vs := [.s s.size (encL s.data.toList)]) (.cons _ _ _ _ (.s _ _ _ rfl rfl) .nil)
          exact ⟨ρ.put nx cc, _, _, _, rfl, le_put' I cc, i1, i2⟩
        · cases he
      · cases he
    · cases he
  · cases he
end Go.Proofs.YtpilkjmemeiccaaGreatDoor
/- The evaluator at this seat with what ccheck wants besides. -/
namespace Go.Proofs.YtpilkjmemeiccaaGreatDoor
set_option maxRecDepth 100000
open Go Go.Proofs.Ev
noncomputable section
def ext2 (f : Nat) : Option (List Go.Proofs.Ev.V → T AObj → Nat → R (Go.Proofs.Ev.V × T AObj × Nat)) :=
  match f with
  | 55 => some cloneE
  | 124 => some sortedE
  | f => ext f
def cfg2 : Cfg := ⟨Tryz.prog, ext2⟩
end
theorem ext2_ok (w0 : Base) (f : FuncId) (e : List Go.Proofs.Ev.V → T AObj → Nat → R (Go.Proofs.Ev.V × T AObj × Nat)) (h : ext2 f = some e) (args : List Go.Proofs.Ev.V) (hp : T AObj) (nx : Nat) (r : Go.Proofs.Ev.V × T AObj × Nat) (hr : e args hp nx = some r) : GoodJ Tryz.prog w0 (.call f args hp nx) (.got r.1 r.2.1 r.2.2) := by
  unfold ext2 at h
  split at h
  · injection h with h; subst h; exact clone_ext w0 hr
  · injection h with h; subst h; exact sorted_ext w0 hr
  · exact ext_ok w0 f e h args hp nx r hr
theorem good2 (n : Nat) (w0 : Base) : Go.Proofs.Ev.Good Tryz.prog w0 (ev cfg2 n) := ev_sound (c := cfg2) named mixed rfl (fun w0 f e h args hp nx r hr => ext2_ok w0 f e h args hp nx r hr) n w0
end Go.Proofs.YtpilkjmemeiccaaGreatDoor
