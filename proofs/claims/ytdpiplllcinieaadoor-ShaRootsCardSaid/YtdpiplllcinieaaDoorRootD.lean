/- The first bits behind the point of a prime's root. -/
import Derived.Test.YtdpiplllcinieaaDoorRootC
namespace Go.Proofs.YtdpiplllcinieaaDoor
open Go.RowKit Go.Stop Go.Extern Go.Ranges
set_option linter.unusedVariables false
set_option linter.unusedSimpArgs false
attribute [-go_sem] loadVar storeVar
attribute [local go_sem] loadVar_one storeVar_one
def bitT (x : Int) (b : Nat) : Int := bits .or .u64 x (IntKind.u64.wrap (2 ^ b))
def rootT (p : Int) (power : Nat) : Nat → Int
  | 0 => 0
  | k + 1 => if aboveT (bitT (rootT p power k) (35 - k)) power p then rootT p power k else bitT (rootT p power k) (35 - k)
theorem bits_range (x y : Int) : 0 ≤ bits .or .u64 x y ∧ bits .or .u64 x y < 18446744073709551616 := by
  have e : bits .or .u64 x y = IntKind.u64.wrap ((BitVec.ofInt 64 x ||| BitVec.ofInt 64 y).toNat : Int) := rfl
  rw [e, IntKind.wrap_u64]
  omega
theorem rootT_range (p : Int) (power : Nat) : ∀ k, 0 ≤ rootT p power k ∧ rootT p power k < 18446744073709551616
  | 0 => by simp [rootT]
  | k + 1 => by
    have h := rootT_range p power k
    unfold rootT
    split
    · exact h
    · exact bits_range _ _
set_option maxRecDepth 20000 in
set_option maxHeartbeats 4000000 in
theorem root_any (p : Int) (power : Nat) (w : World) (hp1 : 1 ≤ power) (hp : power ≤ 10) :
    Calls Tryd.prog 46 #[.int .u64 p, .int .i64 power] w fun e w' => e = .returned (.int .u32 (rootT p power 36 % 4294967296)) ∧ Below w.heap.size w w' := by
  go_enter Tryd.func46, Tryd.ntmps46
  go_wp2_with fail
  go_loopw [6, 5] (fun u v wr => ∃ k : Nat, k ≤ 36 ∧ u = .int .i64 (35 - (k : Int)) ∧ v = .int .u64 (rootT p power k) ∧ Below w.heap.size w wr) (fun u _ _ => (intOf u + 1).toNat)
  case atStart => exact ⟨0, by omega, by go_num, rfl, Below.refl _ _⟩
  case round =>
    obtain ⟨k, hk, rfl, rfl, hB⟩ := hrel
    have HB := Lib.hid hB
    clear hB
    have hr := rootT_range p power k
    by_cases hlt : k < 36
    · have hb := bits_range (rootT p power k) (IntKind.u64.wrap (2 ^ (35 - k)))
      have ha := Lib.hid (above_any (bits .or .u64 (rootT p power k) (IntKind.u64.wrap (2 ^ (35 - k)))) power p wr hb.1 hb.2 hp1 hp)
      have hs : Hid (rootT p power (k + 1) = if aboveT (bits .or .u64 (rootT p power k) (IntKind.u64.wrap (2 ^ (35 - k)))) power p then rootT p power k else bits .or .u64 (rootT p power k) (IntKind.u64.wrap (2 ^ (35 - k)))) := rfl
      generalize aboveT (bits .or .u64 (rootT p power k) (IntKind.u64.wrap (2 ^ (35 - k)))) power p = q at *
      cases q with
      | true =>
        go_wp2_with (go_at_call 65; with_reducible refine ha.out.mono ?_; rintro e w2 ⟨rfl, hb2⟩)
        go_round
        case rel => exact ⟨k + 1, by omega, by go_num, by rw [hs.out]; rfl, HB.out.trans (hb2.mono HB.out.size)⟩
        case measure => simp only [intOf]; omega
      | false =>
        go_wp2_with (go_at_call 65; with_reducible refine ha.out.mono ?_; rintro e w2 ⟨rfl, hb2⟩)
        go_round
        case rel => exact ⟨k + 1, by omega, by go_num, by rw [hs.out]; rfl, HB.out.trans (hb2.mono HB.out.size)⟩
        case measure => simp only [intOf]; omega
    · have hke : k = 36 := by omega
      subst hke
      have h32 := and32 (rootT p power 36) hr.1 hr.2
      go_wp2_with fail
      go_ret
      exact ⟨rfl, HB.out⟩
end Go.Proofs.YtdpiplllcinieaaDoor
