/- The words of a digest: turning a word, the words' arithmetic. -/
import Derived.Test.YtbapkamopelgpaaDoorRows
import Derived.Test.YtbapkamopelgpaaDoorShaSpec
import Derived.Test.YtbapkamopelgpaaDoorBlocks
import Derived.WalkKit
import Derived.WalkSpells
import Derived.WalkLawsBesides
import Derived.Laws.Externs
import Derived.Lib.Hide
import Derived.Deep.Light
import Derived.BigQuiet
import Derived.Deep.QuietTactic
import Derived.Deep.RegionWith
import Derived.BigRegion
import Derived.KernelRfl
import Derived.Laws.Shifts
import Derived.Laws.BitsAllLaws
namespace Go.Proofs.YtbapkamopelgpaaDoor
open Go.RowKit Go.Stop Go.Extern Go.Ranges
set_option linter.unusedVariables false
set_option linter.unusedSimpArgs false
/-- A word's number. -/
def num (x : Sha.W) : Int := (x.toNat : Int)
theorem num_lo (x : Sha.W) : 0 ≤ num x := by unfold num; omega
theorem num_hi (x : Sha.W) : num x < 4294967296 := by have := x.isLt; unfold num; omega
theorem num_shl (x : Sha.W) (n : Nat) : IntKind.u32.wrap (num x * 2 ^ n) = num (x <<< n) := by
  rw [IntKind.wrap_u32']
  unfold num
  rw [BitVec.toNat_shiftLeft, Nat.shiftLeft_eq, Int.natCast_emod, Int.natCast_mul, Int.natCast_pow]
  rfl
theorem num_shr (x : Sha.W) (n : Nat) : (num x).fdiv (2 ^ n) = num (x >>> n) := by
  unfold num
  rw [BitVec.toNat_ushiftRight, Nat.shiftRight_eq_div_pow, Int.fdiv_eq_ediv_of_nonneg _ (Int.le_of_lt (Int.pow_pos (by decide))), Int.natCast_ediv, Int.natCast_pow]
  rfl
theorem num_add (x y : Sha.W) : IntKind.u32.wrap (num x + num y) = num (x + y) := by
  rw [IntKind.wrap_u32']
  unfold num
  rw [BitVec.toNat_add, Int.natCast_emod, Int.natCast_add]
  rfl
theorem num_of (x : Sha.W) : BitVec.ofInt 32 (num x) = x := by
  unfold num
  apply BitVec.eq_of_toNat_eq
  simp
theorem num_wrap (z : Sha.W) : IntKind.u32.wrap (num z) = num z := by
  rw [IntKind.wrap_u32']
  have := num_lo z; have := num_hi z
  omega
theorem bits_xor (x y : Sha.W) : bits .xor .u32 (num x) (num y) = num (x ^^^ y) := by
  have h : bits .xor .u32 (num x) (num y) = IntKind.u32.wrap (num (BitVec.ofInt 32 (num x) ^^^ BitVec.ofInt 32 (num y))) := rfl
  rw [h, num_of, num_of, num_wrap]
theorem bits_or (x y : Sha.W) : bits .or .u32 (num x) (num y) = num (x ||| y) := by
  have h : bits .or .u32 (num x) (num y) = IntKind.u32.wrap (num (BitVec.ofInt 32 (num x) ||| BitVec.ofInt 32 (num y))) := rfl
  rw [h, num_of, num_of, num_wrap]
theorem bits_and (x y : Sha.W) : bits .and .u32 (num x) (num y) = num (x &&& y) := by
  have h : bits .and .u32 (num x) (num y) = IntKind.u32.wrap (num (BitVec.ofInt 32 (num x) &&& BitVec.ofInt 32 (num y))) := rfl
  rw [h, num_of, num_of, num_wrap]
theorem bits_not (x : Sha.W) : bits .xor .u32 4294967295 (num x) = num (~~~x) := by
  have h := bits_xor 0xffffffff#32 x
  rw [show num 0xffffffff#32 = 4294967295 by decide] at h
  rw [h, BitVec.xor_comm]
  congr 1
  exact BitVec.xor_allOnes
theorem mod_shl (x : Sha.W) (n m : Nat) (h : m = 2 ^ n) : num x * (m : Int) % (4294967296 : Int) = num (x <<< n) := by
  subst h
  have := num_shl x n
  rw [IntKind.wrap_u32'] at this
  rw [Int.natCast_pow]
  exact this
theorem div_shr (x : Sha.W) (n m : Nat) (h : m = 2 ^ n) : num x / (m : Int) = num (x >>> n) := by
  subst h
  have := num_shr x n
  rw [Int.fdiv_eq_ediv_of_nonneg _ (Int.le_of_lt (Int.pow_pos (by decide)))] at this
  rw [Int.natCast_pow]
  exact this
theorem mod_add (x y : Sha.W) : (num x + num y) % (4294967296 : Int) = num (x + y) := by
  have := num_add x y
  rwa [IntKind.wrap_u32'] at this
theorem rot2 (x : Sha.W) (w : World) : Calls Tryd.prog 117 #[.int .u32 (num x), .int .i64 (-2)] w fun e w' => e = .returned (.int .u32 (num (Sha.rr x 2))) ∧ w = w' := by
  have s0 : bits .and .u64 (IntKind.u64.wrap (-2)) 31 = 30 := by decide +kernel
  go_enter Tryd.func117, Tryd.ntmps117
  go_wp2
  go_ret
  refine ⟨?_, rfl⟩
  show Ending.returned (.int .u32 (bits .or .u32 (num x * 1073741824 % 4294967296) (num x / 4))) = _
  rw [show num x * (1073741824 : Int) % (4294967296 : Int) = num (x <<< 30) from mod_shl x 30 1073741824 (by decide), show num x / (4 : Int) = num (x >>> 2) from div_shr x 2 4 (by decide), bits_or, BitVec.or_comm]
  rfl
theorem rot6 (x : Sha.W) (w : World) : Calls Tryd.prog 117 #[.int .u32 (num x), .int .i64 (-6)] w fun e w' => e = .returned (.int .u32 (num (Sha.rr x 6))) ∧ w = w' := by
  have s0 : bits .and .u64 (IntKind.u64.wrap (-6)) 31 = 26 := by decide +kernel
  go_enter Tryd.func117, Tryd.ntmps117
  go_wp2
  go_ret
  refine ⟨?_, rfl⟩
  show Ending.returned (.int .u32 (bits .or .u32 (num x * 67108864 % 4294967296) (num x / 64))) = _
  rw [show num x * (67108864 : Int) % (4294967296 : Int) = num (x <<< 26) from mod_shl x 26 67108864 (by decide), show num x / (64 : Int) = num (x >>> 6) from div_shr x 6 64 (by decide), bits_or, BitVec.or_comm]
  rfl
theorem rot7 (x : Sha.W) (w : World) : Calls Tryd.prog 117 #[.int .u32 (num x), .int .i64 (-7)] w fun e w' => e = .returned (.int .u32 (num (Sha.rr x 7))) ∧ w = w' := by
  have s0 : bits .and .u64 (IntKind.u64.wrap (-7)) 31 = 25 := by decide +kernel
  go_enter Tryd.func117, Tryd.ntmps117
  go_wp2
  go_ret
  refine ⟨?_, rfl⟩
  show Ending.returned (.int .u32 (bits .or .u32 (num x * 33554432 % 4294967296) (num x / 128))) = _
  rw [show num x * (33554432 : Int) % (4294967296 : Int) = num (x <<< 25) from mod_shl x 25 33554432 (by decide), show num x / (128 : Int) = num (x >>> 7) from div_shr x 7 128 (by decide), bits_or, BitVec.or_comm]
  rfl
theorem rot11 (x : Sha.W) (w : World) : Calls Tryd.prog 117 #[.int .u32 (num x), .int .i64 (-11)] w fun e w' => e = .returned (.int .u32 (num (Sha.rr x 11))) ∧ w = w' := by
  have s0 : bits .and .u64 (IntKind.u64.wrap (-11)) 31 = 21 := by decide +kernel
  go_enter Tryd.func117, Tryd.ntmps117
  go_wp2
  go_ret
  refine ⟨?_, rfl⟩
  show Ending.returned (.int .u32 (bits .or .u32 (num x * 2097152 % 4294967296) (num x / 2048))) = _
  rw [show num x * (2097152 : Int) % (4294967296 : Int) = num (x <<< 21) from mod_shl x 21 2097152 (by decide), show num x / (2048 : Int) = num (x >>> 11) from div_shr x 11 2048 (by decide), bits_or, BitVec.or_comm]
  rfl
theorem rot13 (x : Sha.W) (w : World) : Calls Tryd.prog 117 #[.int .u32 (num x), .int .i64 (-13)] w fun e w' => e = .returned (.int .u32 (num (Sha.rr x 13))) ∧ w = w' := by
  have s0 : bits .and .u64 (IntKind.u64.wrap (-13)) 31 = 19 := by decide +kernel
  go_enter Tryd.func117, Tryd.ntmps117
  go_wp2
  go_ret
  refine ⟨?_, rfl⟩
  show Ending.returned (.int .u32 (bits .or .u32 (num x * 524288 % 4294967296) (num x / 8192))) = _
  rw [show num x * (524288 : Int) % (4294967296 : Int) = num (x <<< 19) from mod_shl x 19 524288 (by decide), show num x / (8192 : Int) = num (x >>> 13) from div_shr x 13 8192 (by decide), bits_or, BitVec.or_comm]
  rfl
theorem rot17 (x : Sha.W) (w : World) : Calls Tryd.prog 117 #[.int .u32 (num x), .int .i64 (-17)] w fun e w' => e = .returned (.int .u32 (num (Sha.rr x 17))) ∧ w = w' := by
  have s0 : bits .and .u64 (IntKind.u64.wrap (-17)) 31 = 15 := by decide +kernel
  go_enter Tryd.func117, Tryd.ntmps117
  go_wp2
  go_ret
  refine ⟨?_, rfl⟩
  show Ending.returned (.int .u32 (bits .or .u32 (num x * 32768 % 4294967296) (num x / 131072))) = _
  rw [show num x * (32768 : Int) % (4294967296 : Int) = num (x <<< 15) from mod_shl x 15 32768 (by decide), show num x / (131072 : Int) = num (x >>> 17) from div_shr x 17 131072 (by decide), bits_or, BitVec.or_comm]
  rfl
theorem rot18 (x : Sha.W) (w : World) : Calls Tryd.prog 117 #[.int .u32 (num x), .int .i64 (-18)] w fun e w' => e = .returned (.int .u32 (num (Sha.rr x 18))) ∧ w = w' := by
  have s0 : bits .and .u64 (IntKind.u64.wrap (-18)) 31 = 14 := by decide +kernel
  go_enter Tryd.func117, Tryd.ntmps117
  go_wp2
  go_ret
  refine ⟨?_, rfl⟩
  show Ending.returned (.int .u32 (bits .or .u32 (num x * 16384 % 4294967296) (num x / 262144))) = _
  rw [show num x * (16384 : Int) % (4294967296 : Int) = num (x <<< 14) from mod_shl x 14 16384 (by decide), show num x / (262144 : Int) = num (x >>> 18) from div_shr x 18 262144 (by decide), bits_or, BitVec.or_comm]
  rfl
theorem rot19 (x : Sha.W) (w : World) : Calls Tryd.prog 117 #[.int .u32 (num x), .int .i64 (-19)] w fun e w' => e = .returned (.int .u32 (num (Sha.rr x 19))) ∧ w = w' := by
  have s0 : bits .and .u64 (IntKind.u64.wrap (-19)) 31 = 13 := by decide +kernel
  go_enter Tryd.func117, Tryd.ntmps117
  go_wp2
  go_ret
  refine ⟨?_, rfl⟩
  show Ending.returned (.int .u32 (bits .or .u32 (num x * 8192 % 4294967296) (num x / 524288))) = _
  rw [show num x * (8192 : Int) % (4294967296 : Int) = num (x <<< 13) from mod_shl x 13 8192 (by decide), show num x / (524288 : Int) = num (x >>> 19) from div_shr x 19 524288 (by decide), bits_or, BitVec.or_comm]
  rfl
theorem rot22 (x : Sha.W) (w : World) : Calls Tryd.prog 117 #[.int .u32 (num x), .int .i64 (-22)] w fun e w' => e = .returned (.int .u32 (num (Sha.rr x 22))) ∧ w = w' := by
  have s0 : bits .and .u64 (IntKind.u64.wrap (-22)) 31 = 10 := by decide +kernel
  go_enter Tryd.func117, Tryd.ntmps117
  go_wp2
  go_ret
  refine ⟨?_, rfl⟩
  show Ending.returned (.int .u32 (bits .or .u32 (num x * 1024 % 4294967296) (num x / 4194304))) = _
  rw [show num x * (1024 : Int) % (4294967296 : Int) = num (x <<< 10) from mod_shl x 10 1024 (by decide), show num x / (4194304 : Int) = num (x >>> 22) from div_shr x 22 4194304 (by decide), bits_or, BitVec.or_comm]
  rfl
theorem rot25 (x : Sha.W) (w : World) : Calls Tryd.prog 117 #[.int .u32 (num x), .int .i64 (-25)] w fun e w' => e = .returned (.int .u32 (num (Sha.rr x 25))) ∧ w = w' := by
  have s0 : bits .and .u64 (IntKind.u64.wrap (-25)) 31 = 7 := by decide +kernel
  go_enter Tryd.func117, Tryd.ntmps117
  go_wp2
  go_ret
  refine ⟨?_, rfl⟩
  show Ending.returned (.int .u32 (bits .or .u32 (num x * 128 % 4294967296) (num x / 33554432))) = _
  rw [show num x * (128 : Int) % (4294967296 : Int) = num (x <<< 7) from mod_shl x 7 128 (by decide), show num x / (33554432 : Int) = num (x >>> 25) from div_shr x 25 33554432 (by decide), bits_or, BitVec.or_comm]
  rfl
theorem turned6 (x : Sha.W) (w : World) : Calls Tryd.prog 104 #[.int .u32 (num x), .int .i64 6, .int .i64 11, .int .i64 25] w fun e w' => e = .returned (.int .u32 (num (Sha.rr x 6 ^^^ Sha.rr x 11 ^^^ Sha.rr x 25))) ∧ w = w' := by
  have s3 := bits_xor
  go_enter Tryd.func104, Tryd.ntmps104
  go_wp2_with (first
    | (go_at_call 117; with_reducible refine (rot6 _ _).mono ?_; rintro e w' ⟨rfl, rfl⟩)
    | (go_at_call 117; with_reducible refine (rot11 _ _).mono ?_; rintro e w' ⟨rfl, rfl⟩)
    | (go_at_call 117; with_reducible refine (rot25 _ _).mono ?_; rintro e w' ⟨rfl, rfl⟩))
  go_ret
  exact ⟨rfl, rfl⟩
theorem turned2 (x : Sha.W) (w : World) : Calls Tryd.prog 104 #[.int .u32 (num x), .int .i64 2, .int .i64 13, .int .i64 22] w fun e w' => e = .returned (.int .u32 (num (Sha.rr x 2 ^^^ Sha.rr x 13 ^^^ Sha.rr x 22))) ∧ w = w' := by
  have s3 := bits_xor
  go_enter Tryd.func104, Tryd.ntmps104
  go_wp2_with (first
    | (go_at_call 117; with_reducible refine (rot2 _ _).mono ?_; rintro e w' ⟨rfl, rfl⟩)
    | (go_at_call 117; with_reducible refine (rot13 _ _).mono ?_; rintro e w' ⟨rfl, rfl⟩)
    | (go_at_call 117; with_reducible refine (rot22 _ _).mono ?_; rintro e w' ⟨rfl, rfl⟩))
  go_ret
  exact ⟨rfl, rfl⟩
end Go.Proofs.YtbapkamopelgpaaDoor
