/-
  DERIVED: THE SHELF's CONTRACTS AT THIS DUMP, IN PLAIN WORDS (tools/lay-plain.mjs out of 'YtbapkamopelgpaaDoorTrim.lean', which tools/lay-shelf.mjs wrote): THE SAME DECLARATIONS UNDER THE SAME NAMES: 'import', 'namespace', 'open', 'def', 'theorem' AND NOTHING ELSE: no command of the shelf's: FOR A HAND-IN. Each laying: the table of numbers ('.._ren') and one theorem, a field a fact of the dump's own or the kernel's comparison; each contract: ONE APPLICATION.
-/
import Derived.Shelf.Strings.SlTrimAscii
import Derived.Ground.NamesProg
import Derived.Test.YtbapkamopelgpaaDoorProg
namespace Go.Proofs
open Go.Shelf
def Tryd.lays160_ren : Go.Shelf.Ren := ⟨fun | 160 => 93 | 232 => 106 | 231 => 105 | 227 => 107 | 234 => 109 | 233 => 108 | 236 => 111 | 235 => 110 | 228 => 118 | 271 => 121 | 151 => 120 | 197 => 119 | 120 => 129 | 152 => 128 | 260 => 127 | 137 => 132 | 119 => 133 | 224 => 134 | 225 => 135 | 217 => 136 | 266 => 137 | n => n, fun | 9 => 9 | 4 => 4 | 3 => 3 | 5 => 5 | 117 => 167 | 116 => 166 | 0 => 0 | 124 => 170 | 21 => 21 | 105 => 181 | 46 => 45 | 119 => 190 | 139 => 193 | 138 => 192 | n => n, fun | 3 => 26 | 4 => 27 | n => n⟩
theorem Tryd.lays160 : Go.Proofs.Lays.n160 Tryd.prog Tryd.lays160_ren := {
  mixed := by kernel_rfl
  f119 := Tryd.func133.trans (congrArg some (by kernel_rfl))
  f120 := Tryd.func129.trans (congrArg some (by kernel_rfl))
  f137 := Tryd.func132.trans (congrArg some (by kernel_rfl))
  f151 := Tryd.func120.trans (congrArg some (by kernel_rfl))
  f152 := Tryd.func128.trans (congrArg some (by kernel_rfl))
  f160 := Tryd.func93.trans (congrArg some (by kernel_rfl))
  f197 := Tryd.func119.trans (congrArg some (by kernel_rfl))
  f217 := Tryd.func136.trans (congrArg some (by kernel_rfl))
  f224 := Tryd.func134.trans (congrArg some (by kernel_rfl))
  f225 := Tryd.func135.trans (congrArg some (by kernel_rfl))
  f227 := Tryd.func107.trans (congrArg some (by kernel_rfl))
  f228 := Tryd.func118.trans (congrArg some (by kernel_rfl))
  f231 := Tryd.func105.trans (congrArg some (by kernel_rfl))
  f232 := Tryd.func106.trans (congrArg some (by kernel_rfl))
  f233 := Tryd.func108.trans (congrArg some (by kernel_rfl))
  f234 := Tryd.func109.trans (congrArg some (by kernel_rfl))
  f235 := Tryd.func110.trans (congrArg some (by kernel_rfl))
  f236 := Tryd.func111.trans (congrArg some (by kernel_rfl))
  f260 := Tryd.func127.trans (congrArg some (by kernel_rfl))
  f266 := Tryd.func137.trans (congrArg some (by kernel_rfl))
  f271 := Tryd.func121.trans (congrArg some (by kernel_rfl))
  t0 := Tryd.underlying0
  a0 := Tryd.isAgg0
  z0 := Tryd.sizeOf0
  v0 := Tryd.zeroValue0
  t3 := Tryd.underlying3
  a3 := Tryd.isAgg3
  z3 := Tryd.sizeOf3
  v3 := Tryd.zeroValue3
  t4 := Tryd.underlying4
  a4 := Tryd.isAgg4
  z4 := Tryd.sizeOf4
  v4 := Tryd.zeroValue4
  t5 := Tryd.underlying5
  a5 := Tryd.isAgg5
  z5 := Tryd.sizeOf5
  v5 := Tryd.zeroValue5
  t9 := Tryd.underlying9
  a9 := Tryd.isAgg9
  z9 := Tryd.sizeOf9
  v9 := Tryd.zeroValue9
  t21 := Tryd.underlying21
  a21 := Tryd.isAgg21
  z21 := Tryd.sizeOf21
  v21 := Tryd.zeroValue21
  t46 := Tryd.underlying45
  a46 := Tryd.isAgg45
  z46 := Tryd.sizeOf45
  v46 := Tryd.zeroValue45
  t105 := Tryd.underlying181
  a105 := Tryd.isAgg181
  z105 := Tryd.sizeOf181
  v105 := Tryd.zeroValue181
  t116 := Tryd.underlying166
  a116 := Tryd.isAgg166
  z116 := Tryd.sizeOf166
  t117 := Tryd.underlying167
  a117 := Tryd.isAgg167
  z117 := Tryd.sizeOf167
  v117 := Tryd.zeroValue167
  t119 := Tryd.underlying190
  a119 := Tryd.isAgg190
  z119 := Tryd.sizeOf190
  t124 := Tryd.underlying170
  a124 := Tryd.isAgg170
  z124 := Tryd.sizeOf170
  v124 := Tryd.zeroValue170
  t138 := Tryd.underlying192
  a138 := Tryd.isAgg192
  z138 := Tryd.sizeOf192
  v138 := Tryd.zeroValue192
  t139 := Tryd.underlying193
  a139 := Tryd.isAgg193
  z139 := Tryd.sizeOf193
  v139 := Tryd.zeroValue193
  g3 := by kernel_rfl
  g4 := by kernel_rfl }
end Go.Proofs
