/- The evaluator at this seat; ParseInt, FormatInt, Join. -/
import Derived.Test.YtpilkjmemeiccaaGreatDoorXI
import Derived.Test.YtpilkjmemeiccaaGreatDoorProg
import Derived.Shelf.Strconv.ParseIntPublic10
import Derived.Shelf.Strconv.Itoa4
import Derived.Shelf.Strings.OnBuilder
import Derived.Test.YtpilkjmemeiccaaGreatDoorEF
set_option linter.unusedSimpArgs false
set_option linter.unusedVariables false
/- The evaluator at this seat: what it does not run itself. -/
namespace Go.Proofs.YtpilkjmemeiccaaGreatDoor
open Go Go.Proofs.Ev
noncomputable section
def ext (f : Nat) : Option (List V → T AObj → Nat → R (V × T AObj × Nat)) :=
  match f with
  | 18 => some longE
  | 44 => some joinE
  | 77 => some fmtE
  | 114 => some levelsE
  | 136 => some parseE
  | _ => none
def cfg : Cfg := ⟨Tryz.prog, ext⟩
end
end Go.Proofs.YtpilkjmemeiccaaGreatDoor
/-
  DERIVED: THE SHELF's CONTRACTS AT THIS DUMP, IN PLAIN WORDS (tools/lay-plain.mjs out of 'TryzShelf.lean', which tools/lay-shelf.mjs wrote): THE SAME DECLARATIONS UNDER THE SAME NAMES: 'import', 'namespace', 'open', 'def', 'theorem' AND NOTHING ELSE: no command of the shelf's: FOR A HAND-IN. Each laying: the table of numbers ('.._ren') and one theorem, a field a fact of the dump's own or the kernel's comparison; each contract: ONE APPLICATION.
-/
namespace Go.Proofs
open Go.Shelf
def Tryz.lays174_ren : Go.Shelf.Ren := ⟨fun | 174 => 136 | 247 => 156 | 245 => 157 | 287 => 175 | 279 => 176 | 280 => 177 | 281 => 178 | 282 => 179 | 321 => 200 | 322 => 201 | 316 => 202 | 171 => 204 | 205 => 203 | 243 => 224 | 246 => 117 | 283 => 145 | 284 => 146 | 285 => 147 | 286 => 148 | 129 => 162 | 317 => 161 | 318 => 163 | 319 => 164 | 320 => 165 | 337 => 183 | 338 => 184 | n => n, fun | 9 => 9 | 3 => 3 | 2 => 2 | 75 => 159 | 85 => 222 | 4 => 4 | 167 => 258 | 5 => 5 | 53 => 234 | 175 => 259 | 46 => 250 | 168 => 261 | 37 => 155 | 0 => 0 | 210 => 281 | 21 => 21 | 127 => 202 | 145 => 305 | 143 => 303 | 171 => 233 | 173 => 237 | 212 => 246 | 51 => 247 | 20 => 20 | 213 => 248 | 232 => 288 | 233 => 289 | 80 => 137 | n => n, fun | 15 => 2 | 16 => 3 | 17 => 1 | 18 => 4 | 19 => 5 | n => n⟩
theorem Tryz.lays174 : Go.Proofs.LaysC.n174 Tryz.prog Tryz.lays174_ren := {
  mixed := by kernel_rfl
  f129 := Tryz.func162.trans (congrArg some (by kernel_rfl))
  f171 := Tryz.func204.trans (congrArg some (by kernel_rfl))
  f174 := Tryz.func136.trans (congrArg some (by kernel_rfl))
  f205 := Tryz.func203.trans (congrArg some (by kernel_rfl))
  f243 := Tryz.func224.trans (congrArg some (by kernel_rfl))
  f245 := Tryz.func157.trans (congrArg some (by kernel_rfl))
  f246 := Tryz.func117.trans (congrArg some (by kernel_rfl))
  f247 := Tryz.func156.trans (congrArg some (by kernel_rfl))
  f279 := Tryz.func176.trans (congrArg some (by kernel_rfl))
  f280 := Tryz.func177.trans (congrArg some (by kernel_rfl))
  f281 := Tryz.func178.trans (congrArg some (by kernel_rfl))
  f282 := Tryz.func179.trans (congrArg some (by kernel_rfl))
  f283 := Tryz.func145.trans (congrArg some (by kernel_rfl))
  f284 := Tryz.func146.trans (congrArg some (by kernel_rfl))
  f285 := Tryz.func147.trans (congrArg some (by kernel_rfl))
  f286 := Tryz.func148.trans (congrArg some (by kernel_rfl))
  f287 := Tryz.func175.trans (congrArg some (by kernel_rfl))
  f316 := Tryz.func202.trans (congrArg some (by kernel_rfl))
  f317 := Tryz.func161.trans (congrArg some (by kernel_rfl))
  f318 := Tryz.func163.trans (congrArg some (by kernel_rfl))
  f319 := Tryz.func164.trans (congrArg some (by kernel_rfl))
  f320 := Tryz.func165.trans (congrArg some (by kernel_rfl))
  f321 := Tryz.func200.trans (congrArg some (by kernel_rfl))
  f322 := Tryz.func201.trans (congrArg some (by kernel_rfl))
  f337 := Tryz.func183.trans (congrArg some (by kernel_rfl))
  f338 := Tryz.func184.trans (congrArg some (by kernel_rfl))
  t0 := Tryz.underlying0
  a0 := Tryz.isAgg0
  z0 := Tryz.sizeOf0
  v0 := Tryz.zeroValue0
  t2 := Tryz.underlying2
  a2 := Tryz.isAgg2
  z2 := Tryz.sizeOf2
  v2 := Tryz.zeroValue2
  t3 := Tryz.underlying3
  a3 := Tryz.isAgg3
  z3 := Tryz.sizeOf3
  v3 := Tryz.zeroValue3
  t4 := Tryz.underlying4
  a4 := Tryz.isAgg4
  z4 := Tryz.sizeOf4
  v4 := Tryz.zeroValue4
  t5 := Tryz.underlying5
  a5 := Tryz.isAgg5
  z5 := Tryz.sizeOf5
  v5 := Tryz.zeroValue5
  t9 := Tryz.underlying9
  a9 := Tryz.isAgg9
  z9 := Tryz.sizeOf9
  v9 := Tryz.zeroValue9
  t20 := Tryz.underlying20
  a20 := Tryz.isAgg20
  z20 := Tryz.sizeOf20
  v20 := Tryz.zeroValue20
  t21 := Tryz.underlying21
  a21 := Tryz.isAgg21
  z21 := Tryz.sizeOf21
  v21 := Tryz.zeroValue21
  t37 := Tryz.underlying155
  a37 := Tryz.isAgg155
  z37 := Tryz.sizeOf155
  v37 := Tryz.zeroValue155
  t46 := Tryz.underlying250
  a46 := Tryz.isAgg250
  z46 := Tryz.sizeOf250
  v46 := Tryz.zeroValue250
  t51 := Tryz.underlying247
  a51 := Tryz.isAgg247
  z51 := Tryz.sizeOf247
  v51 := Tryz.zeroValue247
  t53 := Tryz.underlying234
  a53 := Tryz.isAgg234
  z53 := Tryz.sizeOf234
  v53 := Tryz.zeroValue234
  t75 := Tryz.underlying159
  a75 := Tryz.isAgg159
  z75 := Tryz.sizeOf159
  v75 := Tryz.zeroValue159
  t85 := Tryz.underlying222
  a85 := Tryz.isAgg222
  z85 := Tryz.sizeOf222
  v85 := Tryz.zeroValue222
  t127 := Tryz.underlying202
  a127 := Tryz.isAgg202
  z127 := Tryz.sizeOf202
  v127 := Tryz.zeroValue202
  t143 := Tryz.underlying303
  a143 := Tryz.isAgg303
  z143 := Tryz.sizeOf303
  v143 := Tryz.zeroValue303
  t145 := Tryz.underlying305
  a145 := Tryz.isAgg305
  z145 := Tryz.sizeOf305
  v145 := Tryz.zeroValue305
  t167 := Tryz.underlying258
  a167 := Tryz.isAgg258
  z167 := Tryz.sizeOf258
  v167 := Tryz.zeroValue258
  t168 := Tryz.underlying261
  a168 := Tryz.isAgg261
  z168 := Tryz.sizeOf261
  v168 := Tryz.zeroValue261
  t171 := Tryz.underlying233
  a171 := Tryz.isAgg233
  z171 := Tryz.sizeOf233
  v171 := Tryz.zeroValue233
  t173 := Tryz.underlying237
  a173 := Tryz.isAgg237
  z173 := Tryz.sizeOf237
  v173 := Tryz.zeroValue237
  t175 := Tryz.underlying259
  a175 := Tryz.isAgg259
  z175 := Tryz.sizeOf259
  v175 := Tryz.zeroValue259
  t210 := Tryz.underlying281
  a210 := Tryz.isAgg281
  z210 := Tryz.sizeOf281
  v210 := Tryz.zeroValue281
  t212 := Tryz.underlying246
  a212 := Tryz.isAgg246
  z212 := Tryz.sizeOf246
  v212 := Tryz.zeroValue246
  t213 := Tryz.underlying248
  a213 := Tryz.isAgg248
  z213 := Tryz.sizeOf248
  t232 := Tryz.underlying288
  a232 := Tryz.isAgg288
  z232 := Tryz.sizeOf288
  v232 := Tryz.zeroValue288
  t233 := Tryz.underlying289
  a233 := Tryz.isAgg289
  z233 := Tryz.sizeOf289
  v233 := Tryz.zeroValue289
  g15 := by kernel_rfl
  g16 := by kernel_rfl
  g17 := by kernel_rfl
  g18 := by kernel_rfl
  g19 := by kernel_rfl
  t80 := Tryz.underlying137
  a80 := Tryz.isAgg137
  z80 := Tryz.sizeOf137
  v80 := Tryz.zeroValue137
  i0 := by kernel_rfl
  i2 := by kernel_rfl
  i3 := by kernel_rfl
  i4 := by kernel_rfl
  i5 := by kernel_rfl
  i9 := by kernel_rfl
  i20 := by kernel_rfl
  i21 := by kernel_rfl
  i37 := by kernel_rfl
  i46 := by kernel_rfl
  i51 := by kernel_rfl
  i53 := by kernel_rfl
  i75 := by kernel_rfl
  i80 := by kernel_rfl
  i85 := by kernel_rfl
  i127 := by kernel_rfl
  i143 := by kernel_rfl
  i145 := by kernel_rfl
  i167 := by kernel_rfl
  i168 := by kernel_rfl
  i171 := by kernel_rfl
  i173 := by kernel_rfl
  i175 := by kernel_rfl
  i210 := by kernel_rfl
  i212 := by kernel_rfl
  i232 := by kernel_rfl
  i233 := by kernel_rfl
  m15 := by kernel_rfl
  m16 := by kernel_rfl
  m17 := by kernel_rfl
  m18 := by kernel_rfl
  m19 := by kernel_rfl
  c0 := by kernel_rfl
  c2 := by kernel_rfl
  c3 := by kernel_rfl
  c4 := by kernel_rfl
  c5 := by kernel_rfl
  c9 := by kernel_rfl
  c20 := by kernel_rfl
  c21 := by kernel_rfl
  c37 := by kernel_rfl
  c46 := by kernel_rfl
  c51 := by kernel_rfl
  c53 := by kernel_rfl
  c75 := by kernel_rfl
  c80 := by kernel_rfl
  c85 := by kernel_rfl
  c127 := by kernel_rfl
  c143 := by kernel_rfl
  c145 := by kernel_rfl
  c167 := by kernel_rfl
  c168 := by kernel_rfl
  c171 := by kernel_rfl
  c173 := by kernel_rfl
  c175 := by kernel_rfl
  c210 := by kernel_rfl
  c212 := by kernel_rfl
  c213 := by kernel_rfl
  c232 := by kernel_rfl
  c233 := by kernel_rfl }
def Tryz.lays173_ren : Go.Shelf.Ren := ⟨fun | 173 => 77 | 246 => 117 | 283 => 145 | 284 => 146 | 285 => 147 | 286 => 148 | 129 => 162 | 317 => 161 | 318 => 163 | 319 => 164 | 320 => 165 | 337 => 183 | 338 => 184 | n => n, fun | 2 => 2 | 3 => 3 | 9 => 9 | 4 => 4 | 171 => 233 | 0 => 0 | 53 => 234 | 37 => 155 | 5 => 5 | 173 => 237 | 212 => 246 | 51 => 247 | 20 => 20 | 213 => 248 | 46 => 250 | 232 => 288 | 233 => 289 | n => n, fun | 17 => 1 | 18 => 4 | 19 => 5 | n => n⟩
theorem Tryz.lays173 : Go.Proofs.Lays.n173 Tryz.prog Tryz.lays173_ren := {
  mixed := by kernel_rfl
  f129 := Tryz.func162.trans (congrArg some (by kernel_rfl))
  f173 := Tryz.func77.trans (congrArg some (by kernel_rfl))
  f246 := Tryz.func117.trans (congrArg some (by kernel_rfl))
  f283 := Tryz.func145.trans (congrArg some (by kernel_rfl))
  f284 := Tryz.func146.trans (congrArg some (by kernel_rfl))
  f285 := Tryz.func147.trans (congrArg some (by kernel_rfl))
  f286 := Tryz.func148.trans (congrArg some (by kernel_rfl))
  f317 := Tryz.func161.trans (congrArg some (by kernel_rfl))
  f318 := Tryz.func163.trans (congrArg some (by kernel_rfl))
  f319 := Tryz.func164.trans (congrArg some (by kernel_rfl))
  f320 := Tryz.func165.trans (congrArg some (by kernel_rfl))
  f337 := Tryz.func183.trans (congrArg some (by kernel_rfl))
  f338 := Tryz.func184.trans (congrArg some (by kernel_rfl))
  t0 := Tryz.underlying0
  a0 := Tryz.isAgg0
  z0 := Tryz.sizeOf0
  v0 := Tryz.zeroValue0
  t2 := Tryz.underlying2
  a2 := Tryz.isAgg2
  z2 := Tryz.sizeOf2
  v2 := Tryz.zeroValue2
  t3 := Tryz.underlying3
  a3 := Tryz.isAgg3
  z3 := Tryz.sizeOf3
  v3 := Tryz.zeroValue3
  t4 := Tryz.underlying4
  a4 := Tryz.isAgg4
  z4 := Tryz.sizeOf4
  v4 := Tryz.zeroValue4
  t5 := Tryz.underlying5
  a5 := Tryz.isAgg5
  z5 := Tryz.sizeOf5
  v5 := Tryz.zeroValue5
  t9 := Tryz.underlying9
  a9 := Tryz.isAgg9
  z9 := Tryz.sizeOf9
  v9 := Tryz.zeroValue9
  t20 := Tryz.underlying20
  a20 := Tryz.isAgg20
  z20 := Tryz.sizeOf20
  v20 := Tryz.zeroValue20
  t37 := Tryz.underlying155
  a37 := Tryz.isAgg155
  z37 := Tryz.sizeOf155
  v37 := Tryz.zeroValue155
  t46 := Tryz.underlying250
  a46 := Tryz.isAgg250
  z46 := Tryz.sizeOf250
  v46 := Tryz.zeroValue250
  t51 := Tryz.underlying247
  a51 := Tryz.isAgg247
  z51 := Tryz.sizeOf247
  v51 := Tryz.zeroValue247
  t53 := Tryz.underlying234
  a53 := Tryz.isAgg234
  z53 := Tryz.sizeOf234
  v53 := Tryz.zeroValue234
  t171 := Tryz.underlying233
  a171 := Tryz.isAgg233
  z171 := Tryz.sizeOf233
  v171 := Tryz.zeroValue233
  t173 := Tryz.underlying237
  a173 := Tryz.isAgg237
  z173 := Tryz.sizeOf237
  v173 := Tryz.zeroValue237
  t212 := Tryz.underlying246
  a212 := Tryz.isAgg246
  z212 := Tryz.sizeOf246
  v212 := Tryz.zeroValue246
  t213 := Tryz.underlying248
  a213 := Tryz.isAgg248
  z213 := Tryz.sizeOf248
  t232 := Tryz.underlying288
  a232 := Tryz.isAgg288
  z232 := Tryz.sizeOf288
  v232 := Tryz.zeroValue288
  t233 := Tryz.underlying289
  a233 := Tryz.isAgg289
  z233 := Tryz.sizeOf289
  v233 := Tryz.zeroValue289
  g17 := by kernel_rfl
  g18 := by kernel_rfl
  g19 := by kernel_rfl }
def Tryz.lays156_ren : Go.Shelf.Ren := ⟨fun | 156 => 44 | 165 => 71 | 166 => 72 | 169 => 73 | 240 => 110 | 241 => 111 | 276 => 137 | 277 => 138 | n => n, fun | 31 => 22 | 9 => 9 | 3 => 3 | 4 => 4 | 0 => 0 | 20 => 20 | 72 => 157 | 76 => 160 | 70 => 154 | 37 => 155 | 75 => 159 | 127 => 202 | 164 => 226 | 5 => 5 | 80 => 137 | n => n, fun | n => n⟩
theorem Tryz.lays156 : Go.Proofs.Lays.n156 Tryz.prog Tryz.lays156_ren := {
  mixed := by kernel_rfl
  f156 := Tryz.func44.trans (congrArg some (by kernel_rfl))
  f165 := Tryz.func71.trans (congrArg some (by kernel_rfl))
  f166 := Tryz.func72.trans (congrArg some (by kernel_rfl))
  f169 := Tryz.func73.trans (congrArg some (by kernel_rfl))
  f240 := Tryz.func110.trans (congrArg some (by kernel_rfl))
  f241 := Tryz.func111.trans (congrArg some (by kernel_rfl))
  f276 := Tryz.func137.trans (congrArg some (by kernel_rfl))
  f277 := Tryz.func138.trans (congrArg some (by kernel_rfl))
  t0 := Tryz.underlying0
  a0 := Tryz.isAgg0
  z0 := Tryz.sizeOf0
  v0 := Tryz.zeroValue0
  t3 := Tryz.underlying3
  a3 := Tryz.isAgg3
  z3 := Tryz.sizeOf3
  v3 := Tryz.zeroValue3
  t4 := Tryz.underlying4
  a4 := Tryz.isAgg4
  z4 := Tryz.sizeOf4
  v4 := Tryz.zeroValue4
  t9 := Tryz.underlying9
  a9 := Tryz.isAgg9
  z9 := Tryz.sizeOf9
  v9 := Tryz.zeroValue9
  t20 := Tryz.underlying20
  a20 := Tryz.isAgg20
  z20 := Tryz.sizeOf20
  v20 := Tryz.zeroValue20
  t31 := Tryz.underlying22
  a31 := Tryz.isAgg22
  z31 := Tryz.sizeOf22
  v31 := Tryz.zeroValue22
  t37 := Tryz.underlying155
  a37 := Tryz.isAgg155
  z37 := Tryz.sizeOf155
  v37 := Tryz.zeroValue155
  t70 := Tryz.underlying154
  a70 := Tryz.isAgg154
  z70 := Tryz.sizeOf154
  v70 := Tryz.zeroValue154
  t72 := Tryz.underlying157
  a72 := Tryz.isAgg157
  z72 := Tryz.sizeOf157
  v72 := Tryz.zeroValue157
  t75 := Tryz.underlying159
  a75 := Tryz.isAgg159
  z75 := Tryz.sizeOf159
  v75 := Tryz.zeroValue159
  t76 := Tryz.underlying160
  a76 := Tryz.isAgg160
  z76 := Tryz.sizeOf160
  v76 := Tryz.zeroValue160
  t127 := Tryz.underlying202
  a127 := Tryz.isAgg202
  z127 := Tryz.sizeOf202
  v127 := Tryz.zeroValue202
  t164 := Tryz.underlying226
  a164 := Tryz.isAgg226
  z164 := Tryz.sizeOf226
  v164 := Tryz.zeroValue226 }
end Go.Proofs
/- ParseInt, FormatInt, Join, as the evaluator takes them. -/
namespace Go.Proofs.YtpilkjmemeiccaaGreatDoor
set_option maxRecDepth 100000
open Go.RowKit Go.Shelf Go.Proofs.Ev

theorem parse_ext (w0 : Base) {args : List V} {h : T AObj} {nx : Nat} {r : V × T AObj × Nat} (he : parseE args h nx = some r) : GoodJ Tryz.prog w0 (.call 136 args h nx) (.got r.1 r.2.1 r.2.2) := by
  intro ρ xs w I hv
  unfold parseE at he
  split at he
  · rename_i l n b z
    obtain ⟨h1, he⟩ := gd_some.1 he
    obtain ⟨h2, he⟩ := gd_some.1 he
    obtain ⟨h3, he⟩ := gd_some.1 he
    obtain ⟨h4, he⟩ := gd_some.1 he
    obtain ⟨u, h5, he⟩ := bd_some.1 he
    obtain ⟨h6, he⟩ := gd_some.1 he
    injection he with he
    subst he
    have h1 : b = 10 + off := beq_true.1 h1
    have h2 : z = 64 + off := beq_true.1 h2
    have h3 := ble_true.1 h3
    have h4 := ble_true.1 h4
    have h6 := ble_true.1 h6
    subst h1; subst h2
    obtain ⟨x, y, y', hx, hvx, hvy, hvz⟩ := hv.li3
    obtain rfl : xs = #[x, y, y'] := Array.toList_inj.1 hx
    obtain ⟨s, rfl, rfl, rfl⟩ := hvx.str_inv
    have e1 := hvy.int_inv
    have e2 := hvz.int_inv
    have q1 : (((10 + off : Nat) : Int) - 9223372036854775808) = 10 := by have : off = 9223372036854775808 := rfl; omega
    have q2 : (((64 + off : Nat) : Int) - 9223372036854775808) = 64 := by have : off = 9223372036854775808 := rfl; omega
    rw [q1] at e1
    rw [q2] at e2
    subst e1; subst e2
    rw [bytesU_of rfl rfl] at h5
    have hne : s.data.toList ≠ [] := fun q => by
      have : s.size = 0 := by show s.data.size = 0; rw [← Array.length_toList, q]; rfl
      omega
    refine Calls.mono (Any.strconv_ParseInt_10_at64_ok Tryz.lays174 s (by omega) (u : Int) (decN_int h5 hne h6) w) fun e w' hq => ?_
    obtain ⟨rfl, hw⟩ := hq
    have hb : Below w.heap.size w w' := by
      rcases hw with rfl | ⟨t, rfl⟩
      · exact Below.refl _ _
      · exact Lib.bytesWorld_below _ _ _
    exact ⟨ρ, _, _, _, rfl, Rho.le_refl ρ, I.below hb, .t _ _ (.cons _ _ _ _ (VR.nat ρ _ _ _ rfl) (.cons _ _ _ _ .x0 .nil))⟩
  · cases he
theorem fmt_ext (w0 : Base) {args : List V} {h : T AObj} {nx : Nat} {r : V × T AObj × Nat} (he : fmtE args h nx = some r) : GoodJ Tryz.prog w0 (.call 77 args h nx) (.got r.1 r.2.1 r.2.2) := by
  intro ρ xs w I hv
  unfold fmtE at he
  split at he
  · rename_i z b
    obtain ⟨h1, he⟩ := gd_some.1 he
    obtain ⟨h2, he⟩ := gd_some.1 he
    obtain ⟨h3, he⟩ := gd_some.1 he
    injection he with he
    subst he
    have h1 : b = 10 + off := beq_true.1 h1
    have h2 : off ≤ z := ble_true.1 h2
    have h3 : z - off ≤ 9 := ble_true.1 h3
    subst h1
    obtain ⟨x, y, hx, hvx, hvy⟩ := hv.li2
    obtain rfl : xs = #[x, y] := Array.toList_inj.1 hx
    have e1 := hvx.int_inv
    have e2 := hvy.int_inv
    have q1 : ((z : Int) - 9223372036854775808) = ((z - off : Nat) : Int) := by have : off = 9223372036854775808 := rfl; omega
    have q2 : (((10 + off : Nat) : Int) - 9223372036854775808) = 10 := by have : off = 9223372036854775808 := rfl; omega
    rw [q1] at e1
    rw [q2] at e2
    subst e1; subst e2
    refine Calls.mono (Any.strconv_FormatInt_10_small Tryz.lays173 (z - off) (by omega) w) fun e w' hq => ?_
    obtain ⟨rfl, rfl⟩ := hq
    refine ⟨ρ, _, _, _, rfl, Rho.le_refl ρ, I, ?_⟩
    rw [digit_ok h3]
    have := VR.str ρ [UInt8.ofNat (48 + (z - off))]
    rw [enc_digit h3] at this
    exact this
  · cases he
theorem extra156 : Builder.Extra Tryz.prog Tryz.lays156_ren := {
  sizeBuilder := by kernel_rfl
  liesBuilder := by kernel_rfl
  t5 := Tryz.underlying5
  a5 := Tryz.isAgg5
  z5 := Tryz.sizeOf5
  v5 := Tryz.zeroValue5
  infoByte := by kernel_rfl
  cellsByte := by kernel_rfl
  sizeByte := by kernel_rfl
  neB5 := by decide }
theorem join_ext (w0 : Base) {args : List V} {h : T AObj} {nx : Nat} {r : V × T AObj × Nat} (he : joinE args h nx = some r) : GoodJ Tryz.prog w0 (.call 44 args h nx) (.got r.1 r.2.1 r.2.2) := by
  intro ρ xs w I hv
  unfold joinE at he
  split at he
  · rename_i b o k sl sn
    obtain ⟨h1, he⟩ := gd_some.1 he
    have h1 := ble_true.1 h1
    obtain ⟨x, y, hx, hvx, hvy⟩ := hv.li2
    obtain rfl : xs = #[x, y] := Array.toList_inj.1 hx
    obtain ⟨sep, rfl, rfl, rfl⟩ := hvy.str_inv
    cases hg : h.get b with
    | none => simp only [hg, reduceCtorEq] at he
    | some ob =>
      simp only [hg] at he
      cases ob with
      | map es => simp only [reduceCtorEq] at he
      | row c size =>
        simp only at he
        obtain ⟨h2, he⟩ := gd_some.1 he
        obtain ⟨cs, h3, he⟩ := bd_some.1 he
        have h2 : o + (k + 1) ≤ size := ble_true.1 h2
        cases cs with
        | nil => simp only [reduceCtorEq] at he
        | cons v rest =>
          cases v <;> first | (simp only [reduceCtorEq] at he; done) | skip
          rename_i l n
          simp only at he
          obtain ⟨q, h4, he⟩ := bd_some.1 he
          obtain ⟨h5, he⟩ := gd_some.1 he
          injection he with he
          subst he
          have h5 := ble_true.1 h5
          cases hvx with
          | l _ _ _ _ cap o' cb sz hr hc hs ho =>
          have ho' : o' = o := by rcases ho with q | q; exact q; omega
          subst ho'
          obtain ⟨cur, el, e1, e2, e3, e4⟩ := I.obj b _ cb sz hg hr
          obtain ⟨hlen, hcells⟩ := getCells_some c (k + 1) o' _ h3
          -- the world's cells
          have hvs : VRs ρ (V.s l n :: rest) ((cur.toList.drop o').take (k + 1)) := by
            refine VRs.of_get ?_ fun i v hv => ?_
            · rw [hlen, List.length_take, List.length_drop, Array.length_toList]; omega
            · have hi : i < k + 1 := by rw [← hlen]; exact (List.getElem?_eq_some_iff.1 hv).1
              have := hcells i hi
              rw [hv] at this
              obtain ⟨u, q1, q2⟩ := e4 (o' + i) v (by omega) this
              refine ⟨u, ?_, q2⟩
              rw [List.getElem?_take, if_pos hi, List.getElem?_drop]
              simpa using q1
          have hhead : ∃ x us, (cur.toList.drop o').take (k + 1) = x :: us ∧ VR ρ (.s l n) x ∧ VRs ρ rest us := by
            generalize (cur.toList.drop o').take (k + 1) = L at hvs
            cases hvs with
            | cons _ u _ us a b => exact ⟨u, us, rfl, a, b⟩
          obtain ⟨x, us, hL, hx0, hrest⟩ := hhead
          obtain ⟨s0, rfl, rfl, rfl⟩ := hx0.str_inv
          have hsl : sep.size = sep.data.toList.length := Array.length_toList.symm
          rw [hsl] at h4
          obtain ⟨ts, rfl, hts⟩ := joinR_ok hrest h4
          obtain ⟨q1, q2⟩ := hts s0.data.toList Array.length_toList.symm rfl
          have hj : Lib.join ((s0 :: ts).map (·.data.toList)) sep.data.toList = s0.data.toList ++ Lib.joinTail sep.data.toList (ts.map (·.data.toList)) := Lib.join_cons _ _ _
          have hlen2 : (s0 :: ts).length = k + 1 := by
            have := hvs.length
            rw [hL, hlen] at this
            simpa using this.symm
          have hcell : ∀ (j : Nat) y, (s0 :: ts)[j]? = some y → w.cell? ⟨cb, o' + j, none⟩ = some (.string y) := fun j y hy => by
            rw [Lib.cell_of_heap e1]
            have hj' : j < k + 1 := by rw [← hlen2]; exact (List.getElem?_eq_some_iff.1 hy).1
            have e5 : ((cur.toList.drop o').take (k + 1))[j]? = some (.string y) := by
              rw [hL]
              have : (Value.string s0 :: ts.map Value.string) = (s0 :: ts).map Value.string := rfl
              rw [this, List.getElem?_map, hy]; rfl
            rw [List.getElem?_take, if_pos hj', List.getElem?_drop] at e5
            simpa using e5
          have hbk : cb < w.heap.size := (Array.getElem?_eq_some_iff.1 e1).1
          have hC := Any.strings_Join Tryz.lays156 extra156 cb o' cap (s0 :: ts) sep w hcell hbk (by omega) (by omega) (by rw [hj, ← q1]; omega)
          rw [hlen2] at hC
          refine Calls.mono hC fun e w' hq => ?_
          obtain ⟨rfl, hb⟩ := hq
          refine ⟨ρ, _, _, _, rfl, Rho.le_refl ρ, I.below hb, ?_⟩
          rw [hj]
          have := VR.str ρ (s0.data.toList ++ Lib.joinTail sep.data.toList (ts.map (·.data.toList)))
          rw [← q1, ← q2] at this
          exact this
  · cases he
end Go.Proofs.YtpilkjmemeiccaaGreatDoor
