/- The evaluator at this seat; ParseInt, FormatInt, Join. -/
import Derived.Test.YtngdilbfhpcfgaaGreatDoorEA
import Derived.Test.YtngdilbfhpcfgaaGreatDoorXI
import Derived.Test.YtngdilbfhpcfgaaGreatDoorProg
import Derived.Shelf.Strconv.ParseIntPublic10
import Derived.Shelf.Strconv.Itoa4
import Derived.Shelf.Strings.OnBuilder
import Derived.Test.YtngdilbfhpcfgaaGreatDoorEF
set_option linter.unusedSimpArgs false
set_option linter.unusedVariables false
/- What the evaluator takes sparse's levels to tell. -/
namespace Go.Proofs.YtngdilbfhpcfgaaGreatDoor
open Go.Proofs.Ev
noncomputable section
def levelVS (k : Nat) : Go.Proofs.Ev.V :=
  match k with
  | 5 => lvl 5 1 33
  | 6 => lvl 1 2 9766
  | 7 => lvl 0 2 31868
  | 9 => lvl 2 1 61
  | 10 => lvl 2 2 8509
  | 11 => lvl 2 1 60
  | 12 => lvl 2 2 15421
  | 13 => lvl 2 1 62
  | 14 => lvl 2 2 15933
  | 17 => lvl 3 1 43
  | 18 => lvl 3 1 45
  | 19 => lvl 4 1 42
  | 20 => lvl 4 1 47
  | 22 => lvl 5 1 45
  | _ => lvl 6 0 0
def levelsES (args : List Go.Proofs.Ev.V) (h : T AObj) (nx : Nat) : R (Go.Proofs.Ev.V × T AObj × Nat) :=
  match args with
  | [.g (.i .i64 z :: _)] => gd (Nat.ble off z) (some (levelVS (Nat.sub z off), h, nx))
  | _ => none
end
end Go.Proofs.YtngdilbfhpcfgaaGreatDoor
/- The evaluator at this seat: what it does not run itself. -/
namespace Go.Proofs.YtngdilbfhpcfgaaGreatDoor
open Go Go.Proofs.Ev
noncomputable section
def ext (f : Nat) : Option (List V → T AObj → Nat → R (V × T AObj × Nat)) :=
  match f with
  | 24 => some longE
  | 52 => some joinE
  | 107 => some fmtE
  | 163 => some levelsES
  | 158 => some parseE
  | _ => none
def cfg : Cfg := ⟨Tryz.prog, ext⟩
end
end Go.Proofs.YtngdilbfhpcfgaaGreatDoor
/-
  DERIVED: THE SHELF's CONTRACTS AT THIS DUMP, IN PLAIN WORDS (tools/lay-plain.mjs out of 'TryzShelf.lean', which tools/lay-shelf.mjs wrote): THE SAME DECLARATIONS UNDER THE SAME NAMES: 'import', 'namespace', 'open', 'def', 'theorem' AND NOTHING ELSE: no command of the shelf's: FOR A HAND-IN. Each laying: the table of numbers ('.._ren') and one theorem, a field a fact of the dump's own or the kernel's comparison; each contract: ONE APPLICATION.
-/
namespace Go.Proofs
open Go.Shelf
def Tryz.lays174_ren : Go.Shelf.Ren := ⟨fun | 174 => 158 | 247 => 209 | 245 => 210 | 287 => 246 | 279 => 247 | 280 => 248 | 281 => 249 | 282 => 250 | 321 => 273 | 322 => 274 | 316 => 275 | 171 => 117 | 205 => 276 | 243 => 175 | 246 => 165 | 283 => 213 | 284 => 214 | 285 => 215 | 286 => 216 | 129 => 230 | 317 => 256 | 318 => 257 | 319 => 258 | 320 => 259 | 337 => 279 | 338 => 280 | n => n, fun | 9 => 9 | 3 => 3 | 2 => 2 | 75 => 202 | 85 => 248 | 4 => 4 | 167 => 334 | 5 => 5 | 53 => 303 | 175 => 335 | 46 => 269 | 168 => 337 | 37 => 198 | 0 => 0 | 210 => 362 | 21 => 21 | 127 => 259 | 145 => 378 | 143 => 376 | 171 => 302 | 173 => 306 | 212 => 344 | 51 => 320 | 20 => 20 | 213 => 345 | 232 => 379 | 233 => 380 | 80 => 121 | n => n, fun | 15 => 2 | 16 => 3 | 17 => 0 | 18 => 4 | 19 => 5 | n => n⟩
theorem Tryz.lays174 : Go.Proofs.LaysC.n174 Tryz.prog Tryz.lays174_ren := {
  mixed := by kernel_rfl
  f129 := Tryz.func230.trans (congrArg some (by kernel_rfl))
  f171 := Tryz.func117.trans (congrArg some (by kernel_rfl))
  f174 := Tryz.func158.trans (congrArg some (by kernel_rfl))
  f205 := Tryz.func276.trans (congrArg some (by kernel_rfl))
  f243 := Tryz.func175.trans (congrArg some (by kernel_rfl))
  f245 := Tryz.func210.trans (congrArg some (by kernel_rfl))
  f246 := Tryz.func165.trans (congrArg some (by kernel_rfl))
  f247 := Tryz.func209.trans (congrArg some (by kernel_rfl))
  f279 := Tryz.func247.trans (congrArg some (by kernel_rfl))
  f280 := Tryz.func248.trans (congrArg some (by kernel_rfl))
  f281 := Tryz.func249.trans (congrArg some (by kernel_rfl))
  f282 := Tryz.func250.trans (congrArg some (by kernel_rfl))
  f283 := Tryz.func213.trans (congrArg some (by kernel_rfl))
  f284 := Tryz.func214.trans (congrArg some (by kernel_rfl))
  f285 := Tryz.func215.trans (congrArg some (by kernel_rfl))
  f286 := Tryz.func216.trans (congrArg some (by kernel_rfl))
  f287 := Tryz.func246.trans (congrArg some (by kernel_rfl))
  f316 := Tryz.func275.trans (congrArg some (by kernel_rfl))
  f317 := Tryz.func256.trans (congrArg some (by kernel_rfl))
  f318 := Tryz.func257.trans (congrArg some (by kernel_rfl))
  f319 := Tryz.func258.trans (congrArg some (by kernel_rfl))
  f320 := Tryz.func259.trans (congrArg some (by kernel_rfl))
  f321 := Tryz.func273.trans (congrArg some (by kernel_rfl))
  f322 := Tryz.func274.trans (congrArg some (by kernel_rfl))
  f337 := Tryz.func279.trans (congrArg some (by kernel_rfl))
  f338 := Tryz.func280.trans (congrArg some (by kernel_rfl))
  t0 := Tryz.underlying0
  a0 := Tryz.isAgg0
  z0 := Tryz.sizeOf0
  v0 := Tryz.zeroValue0
  t2 := Tryz.underlying2
  a2 := Tryz.isAgg2
  z2 := Tryz.sizeOf2
  v2 := Tryz.zeroValue2
  t3 := Tryz.underlying3
  a3 := Tryz.isAgg3
  z3 := Tryz.sizeOf3
  v3 := Tryz.zeroValue3
  t4 := Tryz.underlying4
  a4 := Tryz.isAgg4
  z4 := Tryz.sizeOf4
  v4 := Tryz.zeroValue4
  t5 := Tryz.underlying5
  a5 := Tryz.isAgg5
  z5 := Tryz.sizeOf5
  v5 := Tryz.zeroValue5
  t9 := Tryz.underlying9
  a9 := Tryz.isAgg9
  z9 := Tryz.sizeOf9
  v9 := Tryz.zeroValue9
  t20 := Tryz.underlying20
  a20 := Tryz.isAgg20
  z20 := Tryz.sizeOf20
  v20 := Tryz.zeroValue20
  t21 := Tryz.underlying21
  a21 := Tryz.isAgg21
  z21 := Tryz.sizeOf21
  v21 := Tryz.zeroValue21
  t37 := Tryz.underlying198
  a37 := Tryz.isAgg198
  z37 := Tryz.sizeOf198
  v37 := Tryz.zeroValue198
  t46 := Tryz.underlying269
  a46 := Tryz.isAgg269
  z46 := Tryz.sizeOf269
  v46 := Tryz.zeroValue269
  t51 := Tryz.underlying320
  a51 := Tryz.isAgg320
  z51 := Tryz.sizeOf320
  v51 := Tryz.zeroValue320
  t53 := Tryz.underlying303
  a53 := Tryz.isAgg303
  z53 := Tryz.sizeOf303
  v53 := Tryz.zeroValue303
  t75 := Tryz.underlying202
  a75 := Tryz.isAgg202
  z75 := Tryz.sizeOf202
  v75 := Tryz.zeroValue202
  t85 := Tryz.underlying248
  a85 := Tryz.isAgg248
  z85 := Tryz.sizeOf248
  v85 := Tryz.zeroValue248
  t127 := Tryz.underlying259
  a127 := Tryz.isAgg259
  z127 := Tryz.sizeOf259
  v127 := Tryz.zeroValue259
  t143 := Tryz.underlying376
  a143 := Tryz.isAgg376
  z143 := Tryz.sizeOf376
  v143 := Tryz.zeroValue376
  t145 := Tryz.underlying378
  a145 := Tryz.isAgg378
  z145 := Tryz.sizeOf378
  v145 := Tryz.zeroValue378
  t167 := Tryz.underlying334
  a167 := Tryz.isAgg334
  z167 := Tryz.sizeOf334
  v167 := Tryz.zeroValue334
  t168 := Tryz.underlying337
  a168 := Tryz.isAgg337
  z168 := Tryz.sizeOf337
  v168 := Tryz.zeroValue337
  t171 := Tryz.underlying302
  a171 := Tryz.isAgg302
  z171 := Tryz.sizeOf302
  v171 := Tryz.zeroValue302
  t173 := Tryz.underlying306
  a173 := Tryz.isAgg306
  z173 := Tryz.sizeOf306
  v173 := Tryz.zeroValue306
  t175 := Tryz.underlying335
  a175 := Tryz.isAgg335
  z175 := Tryz.sizeOf335
  v175 := Tryz.zeroValue335
  t210 := Tryz.underlying362
  a210 := Tryz.isAgg362
  z210 := Tryz.sizeOf362
  v210 := Tryz.zeroValue362
  t212 := Tryz.underlying344
  a212 := Tryz.isAgg344
  z212 := Tryz.sizeOf344
  v212 := Tryz.zeroValue344
  t213 := Tryz.underlying345
  a213 := Tryz.isAgg345
  z213 := Tryz.sizeOf345
  t232 := Tryz.underlying379
  a232 := Tryz.isAgg379
  z232 := Tryz.sizeOf379
  v232 := Tryz.zeroValue379
  t233 := Tryz.underlying380
  a233 := Tryz.isAgg380
  z233 := Tryz.sizeOf380
  v233 := Tryz.zeroValue380
  g15 := by kernel_rfl
  g16 := by kernel_rfl
  g17 := by kernel_rfl
  g18 := by kernel_rfl
  g19 := by kernel_rfl
  t80 := Tryz.underlying121
  a80 := Tryz.isAgg121
  z80 := Tryz.sizeOf121
  v80 := Tryz.zeroValue121
  i0 := by kernel_rfl
  i2 := by kernel_rfl
  i3 := by kernel_rfl
  i4 := by kernel_rfl
  i5 := by kernel_rfl
  i9 := by kernel_rfl
  i20 := by kernel_rfl
  i21 := by kernel_rfl
  i37 := by kernel_rfl
  i46 := by kernel_rfl
  i51 := by kernel_rfl
  i53 := by kernel_rfl
  i75 := by kernel_rfl
  i80 := by kernel_rfl
  i85 := by kernel_rfl
  i127 := by kernel_rfl
  i143 := by kernel_rfl
  i145 := by kernel_rfl
  i167 := by kernel_rfl
  i168 := by kernel_rfl
  i171 := by kernel_rfl
  i173 := by kernel_rfl
  i175 := by kernel_rfl
  i210 := by kernel_rfl
  i212 := by kernel_rfl
  i232 := by kernel_rfl
  i233 := by kernel_rfl
  m15 := by kernel_rfl
  m16 := by kernel_rfl
  m17 := by kernel_rfl
  m18 := by kernel_rfl
  m19 := by kernel_rfl
  c0 := by kernel_rfl
  c2 := by kernel_rfl
  c3 := by kernel_rfl
  c4 := by kernel_rfl
  c5 := by kernel_rfl
  c9 := by kernel_rfl
  c20 := by kernel_rfl
  c21 := by kernel_rfl
  c37 := by kernel_rfl
  c46 := by kernel_rfl
  c51 := by kernel_rfl
  c53 := by kernel_rfl
  c75 := by kernel_rfl
  c80 := by kernel_rfl
  c85 := by kernel_rfl
  c127 := by kernel_rfl
  c143 := by kernel_rfl
  c145 := by kernel_rfl
  c167 := by kernel_rfl
  c168 := by kernel_rfl
  c171 := by kernel_rfl
  c173 := by kernel_rfl
  c175 := by kernel_rfl
  c210 := by kernel_rfl
  c212 := by kernel_rfl
  c213 := by kernel_rfl
  c232 := by kernel_rfl
  c233 := by kernel_rfl }
def Tryz.lays173_ren : Go.Shelf.Ren := ⟨fun | 173 => 107 | 246 => 165 | 283 => 213 | 284 => 214 | 285 => 215 | 286 => 216 | 129 => 230 | 317 => 256 | 318 => 257 | 319 => 258 | 320 => 259 | 337 => 279 | 338 => 280 | n => n, fun | 2 => 2 | 3 => 3 | 9 => 9 | 4 => 4 | 171 => 302 | 0 => 0 | 53 => 303 | 37 => 198 | 5 => 5 | 173 => 306 | 212 => 344 | 51 => 320 | 20 => 20 | 213 => 345 | 46 => 269 | 232 => 379 | 233 => 380 | n => n, fun | 17 => 0 | 18 => 4 | 19 => 5 | n => n⟩
theorem Tryz.lays173 : Go.Proofs.Lays.n173 Tryz.prog Tryz.lays173_ren := {
  mixed := by kernel_rfl
  f129 := Tryz.func230.trans (congrArg some (by kernel_rfl))
  f173 := Tryz.func107.trans (congrArg some (by kernel_rfl))
  f246 := Tryz.func165.trans (congrArg some (by kernel_rfl))
  f283 := Tryz.func213.trans (congrArg some (by kernel_rfl))
  f284 := Tryz.func214.trans (congrArg some (by kernel_rfl))
  f285 := Tryz.func215.trans (congrArg some (by kernel_rfl))
  f286 := Tryz.func216.trans (congrArg some (by kernel_rfl))
  f317 := Tryz.func256.trans (congrArg some (by kernel_rfl))
  f318 := Tryz.func257.trans (congrArg some (by kernel_rfl))
  f319 := Tryz.func258.trans (congrArg some (by kernel_rfl))
  f320 := Tryz.func259.trans (congrArg some (by kernel_rfl))
  f337 := Tryz.func279.trans (congrArg some (by kernel_rfl))
  f338 := Tryz.func280.trans (congrArg some (by kernel_rfl))
  t0 := Tryz.underlying0
  a0 := Tryz.isAgg0
  z0 := Tryz.sizeOf0
  v0 := Tryz.zeroValue0
  t2 := Tryz.underlying2
  a2 := Tryz.isAgg2
  z2 := Tryz.sizeOf2
  v2 := Tryz.zeroValue2
  t3 := Tryz.underlying3
  a3 := Tryz.isAgg3
  z3 := Tryz.sizeOf3
  v3 := Tryz.zeroValue3
  t4 := Tryz.underlying4
  a4 := Tryz.isAgg4
  z4 := Tryz.sizeOf4
  v4 := Tryz.zeroValue4
  t5 := Tryz.underlying5
  a5 := Tryz.isAgg5
  z5 := Tryz.sizeOf5
  v5 := Tryz.zeroValue5
  t9 := Tryz.underlying9
  a9 := Tryz.isAgg9
  z9 := Tryz.sizeOf9
  v9 := Tryz.zeroValue9
  t20 := Tryz.underlying20
  a20 := Tryz.isAgg20
  z20 := Tryz.sizeOf20
  v20 := Tryz.zeroValue20
  t37 := Tryz.underlying198
  a37 := Tryz.isAgg198
  z37 := Tryz.sizeOf198
  v37 := Tryz.zeroValue198
  t46 := Tryz.underlying269
  a46 := Tryz.isAgg269
  z46 := Tryz.sizeOf269
  v46 := Tryz.zeroValue269
  t51 := Tryz.underlying320
  a51 := Tryz.isAgg320
  z51 := Tryz.sizeOf320
  v51 := Tryz.zeroValue320
  t53 := Tryz.underlying303
  a53 := Tryz.isAgg303
  z53 := Tryz.sizeOf303
  v53 := Tryz.zeroValue303
  t171 := Tryz.underlying302
  a171 := Tryz.isAgg302
  z171 := Tryz.sizeOf302
  v171 := Tryz.zeroValue302
  t173 := Tryz.underlying306
  a173 := Tryz.isAgg306
  z173 := Tryz.sizeOf306
  v173 := Tryz.zeroValue306
  t212 := Tryz.underlying344
  a212 := Tryz.isAgg344
  z212 := Tryz.sizeOf344
  v212 := Tryz.zeroValue344
  t213 := Tryz.underlying345
  a213 := Tryz.isAgg345
  z213 := Tryz.sizeOf345
  t232 := Tryz.underlying379
  a232 := Tryz.isAgg379
  z232 := Tryz.sizeOf379
  v232 := Tryz.zeroValue379
  t233 := Tryz.underlying380
  a233 := Tryz.isAgg380
  z233 := Tryz.sizeOf380
  v233 := Tryz.zeroValue380
  g17 := by kernel_rfl
  g18 := by kernel_rfl
  g19 := by kernel_rfl }
def Tryz.lays156_ren : Go.Shelf.Ren := ⟨fun | 156 => 52 | 165 => 108 | 166 => 109 | 169 => 110 | 240 => 166 | 241 => 167 | 276 => 217 | 277 => 218 | n => n, fun | 31 => 22 | 9 => 9 | 3 => 3 | 4 => 4 | 0 => 0 | 20 => 20 | 72 => 200 | 76 => 203 | 70 => 197 | 37 => 198 | 75 => 202 | 127 => 259 | 164 => 308 | 5 => 5 | 80 => 121 | n => n, fun | n => n⟩
theorem Tryz.lays156 : Go.Proofs.Lays.n156 Tryz.prog Tryz.lays156_ren := {
  mixed := by kernel_rfl
  f156 := Tryz.func52.trans (congrArg some (by kernel_rfl))
  f165 := Tryz.func108.trans (congrArg some (by kernel_rfl))
  f166 := Tryz.func109.trans (congrArg some (by kernel_rfl))
  f169 := Tryz.func110.trans (congrArg some (by kernel_rfl))
  f240 := Tryz.func166.trans (congrArg some (by kernel_rfl))
  f241 := Tryz.func167.trans (congrArg some (by kernel_rfl))
  f276 := Tryz.func217.trans (congrArg some (by kernel_rfl))
  f277 := Tryz.func218.trans (congrArg some (by kernel_rfl))
  t0 := Tryz.underlying0
  a0 := Tryz.isAgg0
  z0 := Tryz.sizeOf0
  v0 := Tryz.zeroValue0
  t3 := Tryz.underlying3
  a3 := Tryz.isAgg3
  z3 := Tryz.sizeOf3
  v3 := Tryz.zeroValue3
  t4 := Tryz.underlying4
  a4 := Tryz.isAgg4
  z4 := Tryz.sizeOf4
  v4 := Tryz.zeroValue4
  t9 := Tryz.underlying9
  a9 := Tryz.isAgg9
  z9 := Tryz.sizeOf9
  v9 := Tryz.zeroValue9
  t20 := Tryz.underlying20
  a20 := Tryz.isAgg20
  z20 := Tryz.sizeOf20
  v20 := Tryz.zeroValue20
  t31 := Tryz.underlying22
  a31 := Tryz.isAgg22
  z31 := Tryz.sizeOf22
  v31 := Tryz.zeroValue22
  t37 := Tryz.underlying198
  a37 := Tryz.isAgg198
  z37 := Tryz.sizeOf198
  v37 := Tryz.zeroValue198
  t70 := Tryz.underlying197
  a70 := Tryz.isAgg197
  z70 := Tryz.sizeOf197
  v70 := Tryz.zeroValue197
  t72 := Tryz.underlying200
  a72 := Tryz.isAgg200
  z72 := Tryz.sizeOf200
  v72 := Tryz.zeroValue200
  t75 := Tryz.underlying202
  a75 := Tryz.isAgg202
  z75 := Tryz.sizeOf202
  v75 := Tryz.zeroValue202
  t76 := Tryz.underlying203
  a76 := Tryz.isAgg203
  z76 := Tryz.sizeOf203
  v76 := Tryz.zeroValue203
  t127 := Tryz.underlying259
  a127 := Tryz.isAgg259
  z127 := Tryz.sizeOf259
  v127 := Tryz.zeroValue259
  t164 := Tryz.underlying308
  a164 := Tryz.isAgg308
  z164 := Tryz.sizeOf308
  v164 := Tryz.zeroValue308 }
end Go.Proofs
/- ParseInt, FormatInt, Join, as the evaluator takes them. -/
namespace Go.Proofs.YtngdilbfhpcfgaaGreatDoor
set_option maxRecDepth 100000
open Go.RowKit Go.Shelf Go.Proofs.Ev

theorem parse_ext (w0 : Base) {args : List V} {h : T AObj} {nx : Nat} {r : V × T AObj × Nat} (he : parseE args h nx = some r) : GoodJ Tryz.prog w0 (.call 158 args h nx) (.got r.1 r.2.1 r.2.2) := by
  intro ρ xs w I hv
  unfold parseE at he
  split at he
  · rename_i l n b z
    obtain ⟨h1, he⟩ := gd_some.1 he
    obtain ⟨h2, he⟩ := gd_some.1 he
    obtain ⟨h3, he⟩ := gd_some.1 he
    obtain ⟨h4, he⟩ := gd_some.1 he
    obtain ⟨u, h5, he⟩ := bd_some.1 he
    obtain ⟨h6, he⟩ := gd_some.1 he
    injection he with he
    subst he
    have h1 : b = 10 + off := beq_true.1 h1
    have h2 : z = 64 + off := beq_true.1 h2
    have h3 := ble_true.1 h3
    have h4 := ble_true.1 h4
    have h6 := ble_true.1 h6
    subst h1; subst h2
    obtain ⟨x, y, y', hx, hvx, hvy, hvz⟩ := hv.li3
    obtain rfl : xs = #[x, y, y'] := Array.toList_inj.1 hx
    obtain ⟨s, rfl, rfl, rfl⟩ := hvx.str_inv
    have e1 := hvy.int_inv
    have e2 := hvz.int_inv
    have q1 : (((10 + off : Nat) : Int) - 9223372036854775808) = 10 := by have : off = 9223372036854775808 := rfl; omega
    have q2 : (((64 + off : Nat) : Int) - 9223372036854775808) = 64 := by have : off = 9223372036854775808 := rfl; omega
    rw [q1] at e1
    rw [q2] at e2
    subst e1; subst e2
    rw [bytesU_of rfl rfl] at h5
    have hne : s.data.toList ≠ [] := fun q => by
      have : s.size = 0 := by show s.data.size = 0; rw [← Array.length_toList, q]; rfl
      omega
    refine Calls.mono (Any.strconv_ParseInt_10_at64_ok Tryz.lays174 s (by omega) (u : Int) (decN_int h5 hne h6) w) fun e w' hq => ?_
    obtain ⟨rfl, hw⟩ := hq
    have hb : Below w.heap.size w w' := by
      rcases hw with rfl | ⟨t, rfl⟩
      · exact Below.refl _ _
      · exact Lib.bytesWorld_below _ _ _
    exact ⟨ρ, _, _, _, rfl, Rho.le_refl ρ, I.below hb, .t _ _ (.cons _ _ _ _ (VR.nat ρ _ _ _ rfl) (.cons _ _ _ _ .x0 .nil))⟩
  · cases he
theorem fmt_ext (w0 : Base) {args : List V} {h : T AObj} {nx : Nat} {r : V × T AObj × Nat} (he : fmtE args h nx = some r) : GoodJ Tryz.prog w0 (.call 107 args h nx) (.got r.1 r.2.1 r.2.2) := by
  intro ρ xs w I hv
  unfold fmtE at he
  split at he
  · rename_i z b
    obtain ⟨h1, he⟩ := gd_some.1 he
    obtain ⟨h2, he⟩ := gd_some.1 he
    obtain ⟨h3, he⟩ := gd_some.1 he
    injection he with he
    subst he
    have h1 : b = 10 + off := beq_true.1 h1
    have h2 : off ≤ z := ble_true.1 h2
    have h3 : z - off ≤ 9 := ble_true.1 h3
    subst h1
    obtain ⟨x, y, hx, hvx, hvy⟩ := hv.li2
    obtain rfl : xs = #[x, y] := Array.toList_inj.1 hx
    have e1 := hvx.int_inv
    have e2 := hvy.int_inv
    have q1 : ((z : Int) - 9223372036854775808) = ((z - off : Nat) : Int) := by have : off = 9223372036854775808 := rfl; omega
    have q2 : (((10 + off : Nat) : Int) - 9223372036854775808) = 10 := by have : off = 9223372036854775808 := rfl; omega
    rw [q1] at e1
    rw [q2] at e2
    subst e1; subst e2
    refine Calls.mono (Any.strconv_FormatInt_10_small Tryz.lays173 (z - off) (by omega) w) fun e w' hq => ?_
    obtain ⟨rfl, rfl⟩ := hq
    refine ⟨ρ, _, _, _, rfl, Rho.le_refl ρ, I, ?_⟩
    rw [digit_ok h3]
    have := VR.str ρ [UInt8.ofNat (48 + (z - off))]
    rw [enc_digit h3] at this
    exact this
  · cases he
theorem extra156 : Builder.Extra Tryz.prog Tryz.lays156_ren := {
  sizeBuilder := by kernel_rfl
  liesBuilder := by kernel_rfl
  t5 := Tryz.underlying5
  a5 := Tryz.isAgg5
  z5 := Tryz.sizeOf5
  v5 := Tryz.zeroValue5
  infoByte := by kernel_rfl
  cellsByte := by kernel_rfl
  sizeByte := by kernel_rfl
  neB5 := by decide }
theorem join_ext (w0 : Base) {args : List V} {h : T AObj} {nx : Nat} {r : V × T AObj × Nat} (he : joinE args h nx = some r) : GoodJ Tryz.prog w0 (.call 52 args h nx) (.got r.1 r.2.1 r.2.2) := by
  intro ρ xs w I hv
  unfold joinE at he
  split at he
  · rename_i b o k sl sn
    obtain ⟨h1, he⟩ := gd_some.1 he
    have h1 := ble_true.1 h1
    obtain ⟨x, y, hx, hvx, hvy⟩ := hv.li2
    obtain rfl : xs = #[x, y] := Array.toList_inj.1 hx
    obtain ⟨sep, rfl, rfl, rfl⟩ := hvy.str_inv
    cases hg : h.get b with
    | none => simp only [hg, reduceCtorEq] at he
    | some ob =>
      simp only [hg] at he
      cases ob with
      | map es => simp only [reduceCtorEq] at he
      | row c size =>
        simp only at he
        obtain ⟨h2, he⟩ := gd_some.1 he
        obtain ⟨cs, h3, he⟩ := bd_some.1 he
        have h2 : o + (k + 1) ≤ size := ble_true.1 h2
        cases cs with
        | nil => simp only [reduceCtorEq] at he
        | cons v rest =>
          cases v <;> first | (simp only [reduceCtorEq] at he; done) | skip
          rename_i l n
          simp only at he
          obtain ⟨q, h4, he⟩ := bd_some.1 he
          obtain ⟨h5, he⟩ := gd_some.1 he
          injection he with he
          subst he
          have h5 := ble_true.1 h5
          cases hvx with
          | l _ _ _ _ cap o' cb sz hr hc hs ho =>
          have ho' : o' = o := by rcases ho with q | q; exact q; omega
          subst ho'
          obtain ⟨cur, el, e1, e2, e3, e4⟩ := I.obj b _ cb sz hg hr
          obtain ⟨hlen, hcells⟩ := getCells_some c (k + 1) o' _ h3
          -- the world's cells
          have hvs : VRs ρ (V.s l n :: rest) ((cur.toList.drop o').take (k + 1)) := by
            refine VRs.of_get ?_ fun i v hv => ?_
            · rw [hlen, List.length_take, List.length_drop, Array.length_toList]; omega
            · have hi : i < k + 1 := by rw [← hlen]; exact (List.getElem?_eq_some_iff.1 hv).1
              have := hcells i hi
              rw [hv] at this
              obtain ⟨u, q1, q2⟩ := e4 (o' + i) v (by omega) this
              refine ⟨u, ?_, q2⟩
              rw [List.getElem?_take, if_pos hi, List.getElem?_drop]
              simpa using q1
          have hhead : ∃ x us, (cur.toList.drop o').take (k + 1) = x :: us ∧ VR ρ (.s l n) x ∧ VRs ρ rest us := by
            generalize (cur.toList.drop o').take (k + 1) = L at hvs
            cases hvs with
            | cons _ u _ us a b => exact ⟨u, us, rfl, a, b⟩
          obtain ⟨x, us, hL, hx0, hrest⟩ := hhead
          obtain ⟨s0, rfl, rfl, rfl⟩ := hx0.str_inv
          have hsl : sep.size = sep.data.toList.length := Array.length_toList.symm
          rw [hsl] at h4
          obtain ⟨ts, rfl, hts⟩ := joinR_ok hrest h4
          obtain ⟨q1, q2⟩ := hts s0.data.toList Array.length_toList.symm rfl
          have hj : Lib.join ((s0 :: ts).map (·.data.toList)) sep.data.toList = s0.data.toList ++ Lib.joinTail sep.data.toList (ts.map (·.data.toList)) := Lib.join_cons _ _ _
          have hlen2 : (s0 :: ts).length = k + 1 := by
            have := hvs.length
            rw [hL, hlen] at this
            simpa using this.symm
          have hcell : ∀ (j : Nat) y, (s0 :: ts)[j]? = some y → w.cell? ⟨cb, o' + j, none⟩ = some (.string y) := fun j y hy => by
            rw [Lib.cell_of_heap e1]
            have hj' : j < k + 1 := by rw [← hlen2]; exact (List.getElem?_eq_some_iff.1 hy).1
            have e5 : ((cur.toList.drop o').take (k + 1))[j]? = some (.string y) := by
              rw [hL]
              have : (Value.string s0 :: ts.map Value.string) = (s0 :: ts).map Value.string := rfl
              rw [this, List.getElem?_map, hy]; rfl
            rw [List.getElem?_take, if_pos hj', List.getElem?_drop] at e5
            simpa using e5
          have hbk : cb < w.heap.size := (Array.getElem?_eq_some_iff.1 e1).1
          have hC := Any.strings_Join Tryz.lays156 extra156 cb o' cap (s0 :: ts) sep w hcell hbk (by omega) (by omega) (by rw [hj, ← q1]; omega)
          rw [hlen2] at hC
          refine Calls.mono hC fun e w' hq => ?_
          obtain ⟨rfl, hb⟩ := hq
          refine ⟨ρ, _, _, _, rfl, Rho.le_refl ρ, I.below hb, ?_⟩
          rw [hj]
          have := VR.str ρ (s0.data.toList ++ Lib.joinTail sep.data.toList (ts.map (·.data.toList)))
          rw [← q1, ← q2] at this
          exact this
  · cases he
end Go.Proofs.YtngdilbfhpcfgaaGreatDoor
