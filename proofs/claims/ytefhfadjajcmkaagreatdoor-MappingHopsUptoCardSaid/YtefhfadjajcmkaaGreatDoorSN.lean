/-
  DERIVED: THE SHELF's CONTRACTS AT THIS DUMP, IN PLAIN WORDS (tools/lay-plain.mjs out of 'TryzShelf.lean', which tools/lay-shelf.mjs wrote): THE SAME DECLARATIONS UNDER THE SAME NAMES: 'import', 'namespace', 'open', 'def', 'theorem' AND NOTHING ELSE: no command of the shelf's: FOR A HAND-IN. Each laying: the table of numbers ('.._ren') and one theorem, a field a fact of the dump's own or the kernel's comparison; each contract: ONE APPLICATION.
-/
import Derived.Shelf.Sort.Plain
import Derived.Test.YtefhfadjajcmkaaGreatDoorProg
namespace Go.Proofs
open Go.Shelf
def Tryz.lays189_ren : Go.Shelf.Ren := ⟨fun | 189 => 62 | 125 => 113 | 257 => 124 | 128 => 170 | 129 => 171 | 294 => 194 | 295 => 195 | 296 => 196 | 297 => 197 | 298 => 198 | 299 => 199 | 216 => 200 | 300 => 201 | 301 => 202 | 328 => 258 | 329 => 244 | 330 => 245 | 331 => 259 | 332 => 260 | 215 => 211 | 343 => 299 | n => n, fun | 28 => 94 | 3 => 3 | 46 => 177 | 0 => 0 | 51 => 223 | 53 => 225 | 4 => 4 | 183 => 217 | 182 => 216 | 131 => 162 | 5 => 5 | 9 => 9 | 218 => 268 | 222 => 272 | 228 => 310 | 229 => 311 | n => n, fun | n => n⟩
theorem Tryz.lays189 : Go.Proofs.Lays.n189 Tryz.prog Tryz.lays189_ren := {
  mixed := by kernel_rfl
  f125 := Tryz.func113.trans (congrArg some (by kernel_rfl))
  f128 := Tryz.func170.trans (congrArg some (by kernel_rfl))
  f129 := Tryz.func171.trans (congrArg some (by kernel_rfl))
  f189 := Tryz.func62.trans (congrArg some (by kernel_rfl))
  f215 := Tryz.func211.trans (congrArg some (by kernel_rfl))
  f216 := Tryz.func200.trans (congrArg some (by kernel_rfl))
  f257 := Tryz.func124.trans (congrArg some (by kernel_rfl))
  f294 := Tryz.func194.trans (congrArg some (by kernel_rfl))
  f295 := Tryz.func195.trans (congrArg some (by kernel_rfl))
  f296 := Tryz.func196.trans (congrArg some (by kernel_rfl))
  f297 := Tryz.func197.trans (congrArg some (by kernel_rfl))
  f298 := Tryz.func198.trans (congrArg some (by kernel_rfl))
  f299 := Tryz.func199.trans (congrArg some (by kernel_rfl))
  f300 := Tryz.func201.trans (congrArg some (by kernel_rfl))
  f301 := Tryz.func202.trans (congrArg some (by kernel_rfl))
  f328 := Tryz.func258.trans (congrArg some (by kernel_rfl))
  f329 := Tryz.func244.trans (congrArg some (by kernel_rfl))
  f330 := Tryz.func245.trans (congrArg some (by kernel_rfl))
  f331 := Tryz.func259.trans (congrArg some (by kernel_rfl))
  f332 := Tryz.func260.trans (congrArg some (by kernel_rfl))
  f343 := Tryz.func299.trans (congrArg some (by kernel_rfl))
  t0 := Tryz.underlying0
  a0 := Tryz.isAgg0
  z0 := Tryz.sizeOf0
  v0 := Tryz.zeroValue0
  t3 := Tryz.underlying3
  a3 := Tryz.isAgg3
  z3 := Tryz.sizeOf3
  v3 := Tryz.zeroValue3
  t4 := Tryz.underlying4
  a4 := Tryz.isAgg4
  z4 := Tryz.sizeOf4
  v4 := Tryz.zeroValue4
  t5 := Tryz.underlying5
  a5 := Tryz.isAgg5
  z5 := Tryz.sizeOf5
  v5 := Tryz.zeroValue5
  t9 := Tryz.underlying9
  a9 := Tryz.isAgg9
  z9 := Tryz.sizeOf9
  v9 := Tryz.zeroValue9
  t28 := Tryz.underlying94
  a28 := Tryz.isAgg94
  z28 := Tryz.sizeOf94
  v28 := Tryz.zeroValue94
  t46 := Tryz.underlying177
  a46 := Tryz.isAgg177
  z46 := Tryz.sizeOf177
  v46 := Tryz.zeroValue177
  t51 := Tryz.underlying223
  a51 := Tryz.isAgg223
  z51 := Tryz.sizeOf223
  v51 := Tryz.zeroValue223
  t53 := Tryz.underlying225
  a53 := Tryz.isAgg225
  z53 := Tryz.sizeOf225
  v53 := Tryz.zeroValue225
  t131 := Tryz.underlying162
  a131 := Tryz.isAgg162
  z131 := Tryz.sizeOf162
  v131 := Tryz.zeroValue162
  t182 := Tryz.underlying216
  a182 := Tryz.isAgg216
  z182 := Tryz.sizeOf216
  v182 := Tryz.zeroValue216
  t183 := Tryz.underlying217
  a183 := Tryz.isAgg217
  z183 := Tryz.sizeOf217
  v183 := Tryz.zeroValue217
  t218 := Tryz.underlying268
  a218 := Tryz.isAgg268
  z218 := Tryz.sizeOf268
  v218 := Tryz.zeroValue268
  t222 := Tryz.underlying272
  a222 := Tryz.isAgg272
  z222 := Tryz.sizeOf272
  v222 := Tryz.zeroValue272
  t228 := Tryz.underlying310
  a228 := Tryz.isAgg310
  z228 := Tryz.sizeOf310
  v228 := Tryz.zeroValue310
  t229 := Tryz.underlying311
  a229 := Tryz.isAgg311
  z229 := Tryz.sizeOf311
  v229 := Tryz.zeroValue311 }
end Go.Proofs
