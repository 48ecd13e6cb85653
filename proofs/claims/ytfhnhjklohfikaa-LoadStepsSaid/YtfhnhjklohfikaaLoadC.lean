import Derived.Test.YtfhnhjklohfikaaLoadB
namespace Go.Proofs.Ytfhnhjklohfikaa
open Go.RowKit FloatOrd
set_option linter.unusedVariables false
attribute [local go_sem] call_bits call_frombits ge_sign
theorem ret_float {a b : Nat} (h : a = b) : Ending.returned (.float .f64 a) = .returned (.float .f64 b) := by rw [h]

theorem or_sign (k : Nat) (hk : k < 9223372036854775808) : bits BinOp.or .u64 (k : Int) 9223372036854775808 = ((9223372036854775808 + k : Nat) : Int) := by
  have h := u64_or_nat k 9223372036854775808 (by omega) (by decide)
  rw [show ((9223372036854775808 : Nat) : Int) = 9223372036854775808 from rfl] at h
  rw [h, Nat.or_comm, nat_join 63 _ _ (by decide) (by omega)]
def InPlace (p : Int) : Prop := -9218868437227405313 ≤ p ∧ p ≤ 9218868437227405312
theorem u64_wrap (n : Int) : IntKind.u64.wrap n = n % 18446744073709551616 := by simp [IntKind.wrap, IntKind.bits, IntKind.signed]
theorem at_low (p : Int) (hp : InPlace p) (h : p < 0) : (bits BinOp.or IntKind.u64 (IntKind.u64.wrap (wrap64 (-1 - p))) 9223372036854775808).toNat = atF p := by
  unfold InPlace at hp
  have e : IntKind.u64.wrap (wrap64 (-1 - p)) = (((-1 - p).toNat : Nat) : Int) := by
    rw [u64_wrap]; unfold wrap64; omega
  rw [e, or_sign _ (by omega)]
  unfold atF
  rw [if_pos h, Int.toNat_natCast]
theorem at_high (p : Int) (hp : InPlace p) (h : ¬ p < 0) : (IntKind.u64.wrap p).toNat = atF p := by
  unfold InPlace at hp
  rw [u64_wrap]
  unfold atF
  rw [if_neg h]
  congr 1
  omega
set_option maxRecDepth 100000 in
theorem at_any (p : Int) (hp : InPlace p) (w : World) :
    Calls Try.prog 51 #[.int .i64 p] w fun e w' => e = .returned (.float .f64 (atF p)) ∧ w = w' := by
  by_cases h : p < 0
  · go_enter Try.func51, Try.ntmps51
    go_wp2
    go_ret
    exact ⟨ret_float (at_low p hp h), rfl⟩
  · go_enter Try.func51, Try.ntmps51
    go_wp2
    go_ret
    exact ⟨ret_float (at_high p hp (by omega)), rfl⟩
theorem in_place {x : Nat} (h : isNaN x = false) : InPlace (place x) := ⟨place_low h, place_num h⟩
set_option maxRecDepth 100000 in
theorem steps_any (x : Nat) (n : Int) (hx : Wd x) (h1 : -50 ≤ n) (h2 : n ≤ 50) (w : World) :
    Calls Try.prog 20 #[.float .f64 x, .int .i64 n] w fun e w' => e = .returned (.float .f64 (stepF x n)) ∧ w = w' := by
  cases hn : isNaN x
  · have hp := in_place hn
    have e : Hid (stepF x n = atF (clip (place x + n))) := by unfold stepF; rw [hn]; rfl
    go_enter Try.func20, Try.ntmps20
    go_wp2_with (first
      | (go_at_call 47; refine (isNaN_any _ (by assumption) _).mono ?_; rintro e w' ⟨rfl, rfl⟩)
      | (go_at_call 43; refine (place_any _ (by assumption) _).mono ?_; rintro e w' ⟨rfl, rfl⟩))
    all_goals
      refine (at_any _ (by go_light; unfold InPlace at *; try (unfold wrap64 at *); omega) _).mono ?_
      rintro e w' ⟨rfl, rfl⟩
      go_wp2
      go_ret
      refine ⟨ret_float ?_, rfl⟩
      go_light
      rw [e.out]
      congr 1
      clear e
      unfold InPlace at hp
      unfold wrap64 at *
      unfold clip
      split
      · omega
      · split <;> omega
  · go_enter Try.func20, Try.ntmps20
    go_wp2_with (first
      | (go_at_call 47; refine (isNaN_any _ (by assumption) _).mono ?_; rintro e w' ⟨rfl, rfl⟩))
    go_ret
    exact ⟨ret_float (by unfold stepF; rw [hn]; rfl), rfl⟩
end Go.Proofs.Ytfhnhjklohfikaa
