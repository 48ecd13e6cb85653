/-
  DERIVED: THE SHELF's CONTRACTS AT THIS DUMP, IN PLAIN WORDS (tools/lay-plain.mjs out of 'YtmmiimcodbjnmaaDoorJoin.lean', which tools/lay-shelf.mjs wrote): THE SAME DECLARATIONS UNDER THE SAME NAMES: 'import', 'namespace', 'open', 'def', 'theorem' AND NOTHING ELSE: no command of the shelf's: FOR A HAND-IN. Each laying: the table of numbers ('.._ren') and one theorem, a field a fact of the dump's own or the kernel's comparison; each contract: ONE APPLICATION.
-/
import Derived.Shelf.Strings.OnBuilder
import Derived.Ground.NamesProg
import Derived.Test.YtmmiimcodbjnmaaDoorProg
namespace Go.Proofs
open Go.Shelf
def Tryd.lays156_ren : Go.Shelf.Ren := ⟨fun | 156 => 69 | 165 => 89 | 166 => 90 | 169 => 91 | 240 => 104 | 241 => 105 | 276 => 116 | 277 => 117 | n => n, fun | 31 => 27 | 9 => 9 | 3 => 3 | 4 => 4 | 0 => 0 | 20 => 20 | 72 => 144 | 76 => 50 | 70 => 142 | 37 => 34 | 75 => 44 | 127 => 171 | 164 => 182 | 5 => 5 | 80 => 147 | n => n, fun | n => n⟩
theorem Tryd.lays156 : Go.Proofs.Lays.n156 Tryd.prog Tryd.lays156_ren := {
  mixed := by kernel_rfl
  f156 := Tryd.func69.trans (congrArg some (by kernel_rfl))
  f165 := Tryd.func89.trans (congrArg some (by kernel_rfl))
  f166 := Tryd.func90.trans (congrArg some (by kernel_rfl))
  f169 := Tryd.func91.trans (congrArg some (by kernel_rfl))
  f240 := Tryd.func104.trans (congrArg some (by kernel_rfl))
  f241 := Tryd.func105.trans (congrArg some (by kernel_rfl))
  f276 := Tryd.func116.trans (congrArg some (by kernel_rfl))
  f277 := Tryd.func117.trans (congrArg some (by kernel_rfl))
  t0 := Tryd.underlying0
  a0 := Tryd.isAgg0
  z0 := Tryd.sizeOf0
  v0 := Tryd.zeroValue0
  t3 := Tryd.underlying3
  a3 := Tryd.isAgg3
  z3 := Tryd.sizeOf3
  v3 := Tryd.zeroValue3
  t4 := Tryd.underlying4
  a4 := Tryd.isAgg4
  z4 := Tryd.sizeOf4
  v4 := Tryd.zeroValue4
  t9 := Tryd.underlying9
  a9 := Tryd.isAgg9
  z9 := Tryd.sizeOf9
  v9 := Tryd.zeroValue9
  t20 := Tryd.underlying20
  a20 := Tryd.isAgg20
  z20 := Tryd.sizeOf20
  v20 := Tryd.zeroValue20
  t31 := Tryd.underlying27
  a31 := Tryd.isAgg27
  z31 := Tryd.sizeOf27
  v31 := Tryd.zeroValue27
  t37 := Tryd.underlying34
  a37 := Tryd.isAgg34
  z37 := Tryd.sizeOf34
  v37 := Tryd.zeroValue34
  t70 := Tryd.underlying142
  a70 := Tryd.isAgg142
  z70 := Tryd.sizeOf142
  v70 := Tryd.zeroValue142
  t72 := Tryd.underlying144
  a72 := Tryd.isAgg144
  z72 := Tryd.sizeOf144
  v72 := Tryd.zeroValue144
  t75 := Tryd.underlying44
  a75 := Tryd.isAgg44
  z75 := Tryd.sizeOf44
  v75 := Tryd.zeroValue44
  t76 := Tryd.underlying50
  a76 := Tryd.isAgg50
  z76 := Tryd.sizeOf50
  v76 := Tryd.zeroValue50
  t127 := Tryd.underlying171
  a127 := Tryd.isAgg171
  z127 := Tryd.sizeOf171
  v127 := Tryd.zeroValue171
  t164 := Tryd.underlying182
  a164 := Tryd.isAgg182
  z164 := Tryd.sizeOf182
  v164 := Tryd.zeroValue182 }
end Go.Proofs
