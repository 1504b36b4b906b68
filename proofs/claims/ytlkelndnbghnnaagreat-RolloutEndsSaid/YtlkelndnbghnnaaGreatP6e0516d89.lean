/-
 DERIVED: THE SHELF's CONTRACTS AT THIS DUMP, IN PLAIN WORDS (tools/lay-plain.mjs out of 'ZzLaysTryz.lean', which tools/lay-shelf.mjs wrote): THE SAME DECLARATIONS UNDER THE SAME NAMES: 'import', 'namespace', 'open', 'def', 'theorem' AND NOTHING ELSE: no command of the shelf's: FOR A HAND-IN. Each laying: the table of numbers ('.._ren') and one theorem, a field a fact of the dump's own or the kernel's comparison; each contract: ONE APPLICATION.
-/
import Derived.Shelf.Slices.CompactI
import Derived.Shelf.Sort.Plain
import Derived.Shelf.Slices.In.SortNone
import Derived.Test.YtlkelndnbghnnaaGreatProg
import Derived.Test.YtlkelndnbghnnaaGreatP56b06a0d4
namespace Go.Proofs
open Go.Shelf
def Tryz.lays76_ren : Go.Shelf.Ren := ⟨fun | 20 => 76 | n => n, fun | 22 => 22 | 3 => 3 | 4 => 4 | 0 => 0 | n => n, fun | n => n⟩
theorem Tryz.lays76 : Go.Proofs.Lays2.n20 Tryz.prog Tryz.lays76_ren := {
 mixed := by kernel_rfl
 f20 := Tryz.func76.trans (congrArg some (by kernel_rfl))
 t0 := Tryz.underlying0
 a0 := Tryz.isAgg0
 z0 := Tryz.sizeOf0
 v0 := Tryz.zeroValue0
 t3 := Tryz.underlying3
 a3 := Tryz.isAgg3
 z3 := Tryz.sizeOf3
 v3 := Tryz.zeroValue3
 t4 := Tryz.underlying4
 a4 := Tryz.isAgg4
 z4 := Tryz.sizeOf4
 v4 := Tryz.zeroValue4
 t22 := Tryz.underlying22
 a22 := Tryz.isAgg22
 z22 := Tryz.sizeOf22
 v22 := Tryz.zeroValue22
 i3 := by kernel_rfl }
def Tryz.lays75_ren : Go.Shelf.Ren := ⟨fun | 189 => 75 | 125 => 129 | 257 => 128 | 128 => 161 | 129 => 162 | 294 => 152 | 295 => 153 | 296 => 154 | 297 => 155 | 298 => 156 | 299 => 157 | 216 => 158 | 300 => 159 | 301 => 160 | 328 => 178 | 329 => 179 | 330 => 180 | 331 => 181 | 332 => 182 | 215 => 183 | 343 => 189 | n => n, fun | 28 => 22 | 3 => 3 | 46 => 91 | 0 => 0 | 51 => 165 | 53 => 167 | 4 => 4 | 183 => 158 | 182 => 157 | 131 => 162 | 5 => 5 | 9 => 9 | 218 => 181 | 222 => 185 | 228 => 189 | 229 => 190 | n => n, fun | n => n⟩
theorem Tryz.lays75 : Go.Proofs.Lays.n189 Tryz.prog Tryz.lays75_ren := {
 mixed := by kernel_rfl
 f125 := Tryz.func129.trans (congrArg some (by kernel_rfl))
 f128 := Tryz.func161.trans (congrArg some (by kernel_rfl))
 f129 := Tryz.func162.trans (congrArg some (by kernel_rfl))
 f189 := Tryz.func75.trans (congrArg some (by kernel_rfl))
 f215 := Tryz.func183.trans (congrArg some (by kernel_rfl))
 f216 := Tryz.func158.trans (congrArg some (by kernel_rfl))
 f257 := Tryz.func128.trans (congrArg some (by kernel_rfl))
 f294 := Tryz.func152.trans (congrArg some (by kernel_rfl))
 f295 := Tryz.func153.trans (congrArg some (by kernel_rfl))
 f296 := Tryz.func154.trans (congrArg some (by kernel_rfl))
 f297 := Tryz.func155.trans (congrArg some (by kernel_rfl))
 f298 := Tryz.func156.trans (congrArg some (by kernel_rfl))
 f299 := Tryz.func157.trans (congrArg some (by kernel_rfl))
 f300 := Tryz.func159.trans (congrArg some (by kernel_rfl))
 f301 := Tryz.func160.trans (congrArg some (by kernel_rfl))
 f328 := Tryz.func178.trans (congrArg some (by kernel_rfl))
 f329 := Tryz.func179.trans (congrArg some (by kernel_rfl))
 f330 := Tryz.func180.trans (congrArg some (by kernel_rfl))
 f331 := Tryz.func181.trans (congrArg some (by kernel_rfl))
 f332 := Tryz.func182.trans (congrArg some (by kernel_rfl))
 f343 := Tryz.func189.trans (congrArg some (by kernel_rfl))
 t0 := Tryz.underlying0
 a0 := Tryz.isAgg0
 z0 := Tryz.sizeOf0
 v0 := Tryz.zeroValue0
 t3 := Tryz.underlying3
 a3 := Tryz.isAgg3
 z3 := Tryz.sizeOf3
 v3 := Tryz.zeroValue3
 t4 := Tryz.underlying4
 a4 := Tryz.isAgg4
 z4 := Tryz.sizeOf4
 v4 := Tryz.zeroValue4
 t5 := Tryz.underlying5
 a5 := Tryz.isAgg5
 z5 := Tryz.sizeOf5
 v5 := Tryz.zeroValue5
 t9 := Tryz.underlying9
 a9 := Tryz.isAgg9
 z9 := Tryz.sizeOf9
 v9 := Tryz.zeroValue9
 t28 := Tryz.underlying22
 a28 := Tryz.isAgg22
 z28 := Tryz.sizeOf22
 v28 := Tryz.zeroValue22
 t46 := Tryz.underlying91
 a46 := Tryz.isAgg91
 z46 := Tryz.sizeOf91
 v46 := Tryz.zeroValue91
 t51 := Tryz.underlying165
 a51 := Tryz.isAgg165
 z51 := Tryz.sizeOf165
 v51 := Tryz.zeroValue165
 t53 := Tryz.underlying167
 a53 := Tryz.isAgg167
 z53 := Tryz.sizeOf167
 v53 := Tryz.zeroValue167
 t131 := Tryz.underlying162
 a131 := Tryz.isAgg162
 z131 := Tryz.sizeOf162
 v131 := Tryz.zeroValue162
 t182 := Tryz.underlying157
 a182 := Tryz.isAgg157
 z182 := Tryz.sizeOf157
 v182 := Tryz.zeroValue157
 t183 := Tryz.underlying158
 a183 := Tryz.isAgg158
 z183 := Tryz.sizeOf158
 v183 := Tryz.zeroValue158
 t218 := Tryz.underlying181
 a218 := Tryz.isAgg181
 z218 := Tryz.sizeOf181
 v218 := Tryz.zeroValue181
 t222 := Tryz.underlying185
 a222 := Tryz.isAgg185
 z222 := Tryz.sizeOf185
 v222 := Tryz.zeroValue185
 t228 := Tryz.underlying189
 a228 := Tryz.isAgg189
 z228 := Tryz.sizeOf189
 v228 := Tryz.zeroValue189
 t229 := Tryz.underlying190
 a229 := Tryz.isAgg190
 z229 := Tryz.sizeOf190
 v229 := Tryz.zeroValue190 }
end Go.Proofs
