/-
  DERIVED: THE SHELF's CONTRACTS AT THIS DUMP, IN PLAIN WORDS (tools/lay-plain.mjs out of 'YtmmiimcodbjnmaaDoorTrim.lean', which tools/lay-shelf.mjs wrote): THE SAME DECLARATIONS UNDER THE SAME NAMES: 'import', 'namespace', 'open', 'def', 'theorem' AND NOTHING ELSE: no command of the shelf's: FOR A HAND-IN. Each laying: the table of numbers ('.._ren') and one theorem, a field a fact of the dump's own or the kernel's comparison; each contract: ONE APPLICATION.
-/
import Derived.Shelf.Strings.SlTrimAscii
import Derived.Ground.NamesProg
import Derived.Test.YtmmiimcodbjnmaaDoorProg
namespace Go.Proofs
open Go.Shelf
def Tryd.lays160_ren : Go.Shelf.Ren := ⟨fun | 160 => 74 | 232 => 95 | 231 => 94 | 227 => 96 | 234 => 98 | 233 => 97 | 236 => 100 | 235 => 99 | 228 => 112 | 271 => 115 | 151 => 114 | 197 => 113 | 120 => 125 | 152 => 124 | 260 => 123 | 137 => 128 | 119 => 129 | 224 => 130 | 225 => 131 | 217 => 132 | 266 => 133 | n => n, fun | 9 => 9 | 4 => 4 | 3 => 3 | 5 => 5 | 117 => 152 | 116 => 151 | 0 => 0 | 124 => 155 | 21 => 21 | 105 => 179 | 46 => 73 | 119 => 191 | 139 => 194 | 138 => 193 | n => n, fun | 3 => 26 | 4 => 27 | n => n⟩
theorem Tryd.lays160 : Go.Proofs.Lays.n160 Tryd.prog Tryd.lays160_ren := {
  mixed := by kernel_rfl
  f119 := Tryd.func129.trans (congrArg some (by kernel_rfl))
  f120 := Tryd.func125.trans (congrArg some (by kernel_rfl))
  f137 := Tryd.func128.trans (congrArg some (by kernel_rfl))
  f151 := Tryd.func114.trans (congrArg some (by kernel_rfl))
  f152 := Tryd.func124.trans (congrArg some (by kernel_rfl))
  f160 := Tryd.func74.trans (congrArg some (by kernel_rfl))
  f197 := Tryd.func113.trans (congrArg some (by kernel_rfl))
  f217 := Tryd.func132.trans (congrArg some (by kernel_rfl))
  f224 := Tryd.func130.trans (congrArg some (by kernel_rfl))
  f225 := Tryd.func131.trans (congrArg some (by kernel_rfl))
  f227 := Tryd.func96.trans (congrArg some (by kernel_rfl))
  f228 := Tryd.func112.trans (congrArg some (by kernel_rfl))
  f231 := Tryd.func94.trans (congrArg some (by kernel_rfl))
  f232 := Tryd.func95.trans (congrArg some (by kernel_rfl))
  f233 := Tryd.func97.trans (congrArg some (by kernel_rfl))
  f234 := Tryd.func98.trans (congrArg some (by kernel_rfl))
  f235 := Tryd.func99.trans (congrArg some (by kernel_rfl))
  f236 := Tryd.func100.trans (congrArg some (by kernel_rfl))
  f260 := Tryd.func123.trans (congrArg some (by kernel_rfl))
  f266 := Tryd.func133.trans (congrArg some (by kernel_rfl))
  f271 := Tryd.func115.trans (congrArg some (by kernel_rfl))
  t0 := Tryd.underlying0
  a0 := Tryd.isAgg0
  z0 := Tryd.sizeOf0
  v0 := Tryd.zeroValue0
  t3 := Tryd.underlying3
  a3 := Tryd.isAgg3
  z3 := Tryd.sizeOf3
  v3 := Tryd.zeroValue3
  t4 := Tryd.underlying4
  a4 := Tryd.isAgg4
  z4 := Tryd.sizeOf4
  v4 := Tryd.zeroValue4
  t5 := Tryd.underlying5
  a5 := Tryd.isAgg5
  z5 := Tryd.sizeOf5
  v5 := Tryd.zeroValue5
  t9 := Tryd.underlying9
  a9 := Tryd.isAgg9
  z9 := Tryd.sizeOf9
  v9 := Tryd.zeroValue9
  t21 := Tryd.underlying21
  a21 := Tryd.isAgg21
  z21 := Tryd.sizeOf21
  v21 := Tryd.zeroValue21
  t46 := Tryd.underlying73
  a46 := Tryd.isAgg73
  z46 := Tryd.sizeOf73
  v46 := Tryd.zeroValue73
  t105 := Tryd.underlying179
  a105 := Tryd.isAgg179
  z105 := Tryd.sizeOf179
  v105 := Tryd.zeroValue179
  t116 := Tryd.underlying151
  a116 := Tryd.isAgg151
  z116 := Tryd.sizeOf151
  t117 := Tryd.underlying152
  a117 := Tryd.isAgg152
  z117 := Tryd.sizeOf152
  v117 := Tryd.zeroValue152
  t119 := Tryd.underlying191
  a119 := Tryd.isAgg191
  z119 := Tryd.sizeOf191
  t124 := Tryd.underlying155
  a124 := Tryd.isAgg155
  z124 := Tryd.sizeOf155
  v124 := Tryd.zeroValue155
  t138 := Tryd.underlying193
  a138 := Tryd.isAgg193
  z138 := Tryd.sizeOf193
  v138 := Tryd.zeroValue193
  t139 := Tryd.underlying194
  a139 := Tryd.isAgg194
  z139 := Tryd.sizeOf194
  v139 := Tryd.zeroValue194
  g3 := by kernel_rfl
  g4 := by kernel_rfl }
end Go.Proofs
