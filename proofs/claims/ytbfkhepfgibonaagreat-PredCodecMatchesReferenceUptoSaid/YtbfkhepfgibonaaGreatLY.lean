/-
  The library's functions that are laid at this seat's numbers (printed by the shelf's tool).
  Conditions: none.
-/
import Derived.Shelf.Sort.Plain
import Derived.Shelf.Slices.CompactI
import Derived.Test.YtbfkhepfgibonaaGreatProg
namespace Go.Proofs
open Go.Shelf
def Tryz.layLaysn189_ren : Go.Shelf.Ren := ⟨fun | 189 => 42 | 125 => 69 | 257 => 68 | 128 => 110 | 129 => 111 | 294 => 101 | 295 => 102 | 296 => 103 | 297 => 104 | 298 => 105 | 299 => 106 | 216 => 107 | 300 => 108 | 301 => 109 | 328 => 129 | 329 => 130 | 330 => 131 | 331 => 132 | 332 => 133 | 215 => 134 | 343 => 140 | n => n, fun | 28 => 34 | 3 => 3 | 46 => 98 | 0 => 0 | 51 => 134 | 53 => 89 | 4 => 4 | 183 => 126 | 182 => 125 | 131 => 131 | 5 => 5 | 9 => 9 | 218 => 150 | 222 => 154 | 228 => 162 | 229 => 163 | n => n, fun | n => n⟩
theorem Tryz.layLaysn189 : Go.Proofs.Lays.n189 Tryz.prog Tryz.layLaysn189_ren := {
  mixed := by kernel_rfl
  f125 := Tryz.func69.trans (congrArg some (by kernel_rfl))
  f128 := Tryz.func110.trans (congrArg some (by kernel_rfl))
  f129 := Tryz.func111.trans (congrArg some (by kernel_rfl))
  f189 := Tryz.func42.trans (congrArg some (by kernel_rfl))
  f215 := Tryz.func134.trans (congrArg some (by kernel_rfl))
  f216 := Tryz.func107.trans (congrArg some (by kernel_rfl))
  f257 := Tryz.func68.trans (congrArg some (by kernel_rfl))
  f294 := Tryz.func101.trans (congrArg some (by kernel_rfl))
  f295 := Tryz.func102.trans (congrArg some (by kernel_rfl))
  f296 := Tryz.func103.trans (congrArg some (by kernel_rfl))
  f297 := Tryz.func104.trans (congrArg some (by kernel_rfl))
  f298 := Tryz.func105.trans (congrArg some (by kernel_rfl))
  f299 := Tryz.func106.trans (congrArg some (by kernel_rfl))
  f300 := Tryz.func108.trans (congrArg some (by kernel_rfl))
  f301 := Tryz.func109.trans (congrArg some (by kernel_rfl))
  f328 := Tryz.func129.trans (congrArg some (by kernel_rfl))
  f329 := Tryz.func130.trans (congrArg some (by kernel_rfl))
  f330 := Tryz.func131.trans (congrArg some (by kernel_rfl))
  f331 := Tryz.func132.trans (congrArg some (by kernel_rfl))
  f332 := Tryz.func133.trans (congrArg some (by kernel_rfl))
  f343 := Tryz.func140.trans (congrArg some (by kernel_rfl))
  t0 := Tryz.underlying0
  a0 := Tryz.isAgg0
  z0 := Tryz.sizeOf0
  v0 := Tryz.zeroValue0
  t3 := Tryz.underlying3
  a3 := Tryz.isAgg3
  z3 := Tryz.sizeOf3
  v3 := Tryz.zeroValue3
  t4 := Tryz.underlying4
  a4 := Tryz.isAgg4
  z4 := Tryz.sizeOf4
  v4 := Tryz.zeroValue4
  t5 := Tryz.underlying5
  a5 := Tryz.isAgg5
  z5 := Tryz.sizeOf5
  v5 := Tryz.zeroValue5
  t9 := Tryz.underlying9
  a9 := Tryz.isAgg9
  z9 := Tryz.sizeOf9
  v9 := Tryz.zeroValue9
  t28 := Tryz.underlying34
  a28 := Tryz.isAgg34
  z28 := Tryz.sizeOf34
  v28 := Tryz.zeroValue34
  t46 := Tryz.underlying98
  a46 := Tryz.isAgg98
  z46 := Tryz.sizeOf98
  v46 := Tryz.zeroValue98
  t51 := Tryz.underlying134
  a51 := Tryz.isAgg134
  z51 := Tryz.sizeOf134
  v51 := Tryz.zeroValue134
  t53 := Tryz.underlying89
  a53 := Tryz.isAgg89
  z53 := Tryz.sizeOf89
  v53 := Tryz.zeroValue89
  t131 := Tryz.underlying131
  a131 := Tryz.isAgg131
  z131 := Tryz.sizeOf131
  v131 := Tryz.zeroValue131
  t182 := Tryz.underlying125
  a182 := Tryz.isAgg125
  z182 := Tryz.sizeOf125
  v182 := Tryz.zeroValue125
  t183 := Tryz.underlying126
  a183 := Tryz.isAgg126
  z183 := Tryz.sizeOf126
  v183 := Tryz.zeroValue126
  t218 := Tryz.underlying150
  a218 := Tryz.isAgg150
  z218 := Tryz.sizeOf150
  v218 := Tryz.zeroValue150
  t222 := Tryz.underlying154
  a222 := Tryz.isAgg154
  z222 := Tryz.sizeOf154
  v222 := Tryz.zeroValue154
  t228 := Tryz.underlying162
  a228 := Tryz.isAgg162
  z228 := Tryz.sizeOf162
  v228 := Tryz.zeroValue162
  t229 := Tryz.underlying163
  a229 := Tryz.isAgg163
  z229 := Tryz.sizeOf163
  v229 := Tryz.zeroValue163 }
def Tryz.layLays2n20_ren : Go.Shelf.Ren := ⟨fun | 20 => 43 | n => n, fun | 22 => 34 | 3 => 3 | 4 => 4 | 0 => 0 | n => n, fun | n => n⟩
theorem Tryz.layLays2n20 : Go.Proofs.Lays2.n20 Tryz.prog Tryz.layLays2n20_ren := {
  mixed := by kernel_rfl
  f20 := Tryz.func43.trans (congrArg some (by kernel_rfl))
  t0 := Tryz.underlying0
  a0 := Tryz.isAgg0
  z0 := Tryz.sizeOf0
  v0 := Tryz.zeroValue0
  t3 := Tryz.underlying3
  a3 := Tryz.isAgg3
  z3 := Tryz.sizeOf3
  v3 := Tryz.zeroValue3
  t4 := Tryz.underlying4
  a4 := Tryz.isAgg4
  z4 := Tryz.sizeOf4
  v4 := Tryz.zeroValue4
  t22 := Tryz.underlying34
  a22 := Tryz.isAgg34
  z22 := Tryz.sizeOf34
  v22 := Tryz.zeroValue34
  i3 := by kernel_rfl }
end Go.Proofs
