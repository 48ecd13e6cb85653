/- octets, the reference: a number's bytes, the greatest number. -/
import Derived.Test.YtmmiimcodbjnmaaDoorRfD
namespace Go.Proofs.YtmmiimcodbjnmaaDoor
open Go.RowKit Go.Stop Go.Extern Go.Ranges Go.Rows2
set_option linter.unusedVariables false
set_option linter.unusedSimpArgs false
set_option maxRecDepth 100000
theorem most02_any (c : UInt8) (w : World) (h : 0 < ocSize c) : Calls Tryd.prog 64 #[.int .i64 (ocSize c)] w fun e w' => e = .returned (.int .i64 (ocMost c)) ∧ w = w' := by
  have hs : c = 98 ∨ c = 119 ∨ c = 113 := by
    unfold ocSize at h
    by_cases h1 : c = 98
    · exact .inl h1
    · by_cases h2 : c = 119
      · exact .inr (.inl h2)
      · by_cases h3 : c = 113
        · exact .inr (.inr h3)
        · rw [if_neg h1, if_neg h2, if_neg h3] at h
          cases h
  rcases hs with rfl | rfl | rfl
  · show Calls Tryd.prog 64 #[.int .i64 1] w fun e w' => e = .returned (.int .i64 255) ∧ w = w'
    go_enter Tryd.func64, Tryd.ntmps64
    go_wp2
    go_ret
    exact ⟨rfl, rfl⟩
  · show Calls Tryd.prog 64 #[.int .i64 4] w fun e w' => e = .returned (.int .i64 4294967295) ∧ w = w'
    go_enter Tryd.func64, Tryd.ntmps64
    go_wp2
    go_ret
    exact ⟨rfl, rfl⟩
  · show Calls Tryd.prog 64 #[.int .i64 8] w fun e w' => e = .returned (.int .i64 4611686018427387903) ∧ w = w'
    go_enter Tryd.func64, Tryd.ntmps64
    go_wp2
    go_ret
    exact ⟨rfl, rfl⟩
set_option maxHeartbeats 4000000 in
theorem num02_1 (n : Int) (w : World) (h0 : 0 ≤ n) (h1 : n ≤ 9223372036854775807) : Calls Tryd.prog 65 #[.int .i64 n, .int .i64 1] w fun e w' => e = .returned (.slice (some ⟨w.heap.size, 0, none⟩) 1 1) ∧ w' = w.alloc (.cells #[.int .u8 (n % 256)] 5) := by
  have hmk : ∀ w, (Instr.makeSlice 34 (.int .i64 1) (.int .i64 1)).run Tryd.prog w = .ok (.slice (some ⟨w.heap.size, 0, none⟩) 1 1) (w.alloc (.cells #[.int .u8 0] 5)) := fun _ => by kernel_rfl
  have e0 : IntKind.u8.wrap (n % 256) = n % 256 := by show n % 256 % 2 ^ 8 = n % 256; omega
  have p0 : 0 ≤ n := by omega
  have q0 : n ≤ 9223372036854775807 := by omega
  go_enter Tryd.func65, Tryd.ntmps65
  go_wp2_with fail
  refine wp_loop_rounds 2 ?_
  rw [rounds_succ]
  go_wp2_with fail
  rw [rounds_succ]
  go_wp2_with fail
  go_ret
  exact ⟨rfl, rfl⟩
set_option maxHeartbeats 4000000 in
theorem num02_2 (n : Int) (w : World) (h0 : 0 ≤ n) (h1 : n ≤ 9223372036854775807) : Calls Tryd.prog 65 #[.int .i64 n, .int .i64 2] w fun e w' => e = .returned (.slice (some ⟨w.heap.size, 0, none⟩) 2 2) ∧ w' = w.alloc (.cells #[.int .u8 (n / 256 % 256), .int .u8 (n % 256)] 5) := by
  have hmk : ∀ w, (Instr.makeSlice 34 (.int .i64 2) (.int .i64 2)).run Tryd.prog w = .ok (.slice (some ⟨w.heap.size, 0, none⟩) 2 2) (w.alloc (.cells #[.int .u8 0, .int .u8 0] 5)) := fun _ => by kernel_rfl
  have e0 : IntKind.u8.wrap (n % 256) = n % 256 := by show n % 256 % 2 ^ 8 = n % 256; omega
  have p0 : 0 ≤ n := by omega
  have q0 : n ≤ 9223372036854775807 := by omega
  have e1 : IntKind.u8.wrap (n / 256 % 256) = n / 256 % 256 := by show n / 256 % 256 % 2 ^ 8 = n / 256 % 256; omega
  have p1 : 0 ≤ n / 256 := by omega
  have q1 : n / 256 ≤ 9223372036854775807 := by omega
  go_enter Tryd.func65, Tryd.ntmps65
  go_wp2_with fail
  refine wp_loop_rounds 3 ?_
  rw [rounds_succ]
  go_wp2_with fail
  rw [rounds_succ]
  go_wp2_with fail
  rw [rounds_succ]
  go_wp2_with fail
  go_ret
  exact ⟨rfl, rfl⟩
set_option maxHeartbeats 4000000 in
theorem num02_4 (n : Int) (w : World) (h0 : 0 ≤ n) (h1 : n ≤ 9223372036854775807) : Calls Tryd.prog 65 #[.int .i64 n, .int .i64 4] w fun e w' => e = .returned (.slice (some ⟨w.heap.size, 0, none⟩) 4 4) ∧ w' = w.alloc (.cells #[.int .u8 (((n / 256 / 256) / 256) % 256), .int .u8 ((n / 256 / 256) % 256), .int .u8 (n / 256 % 256), .int .u8 (n % 256)] 5) := by
  have hmk : ∀ w, (Instr.makeSlice 34 (.int .i64 4) (.int .i64 4)).run Tryd.prog w = .ok (.slice (some ⟨w.heap.size, 0, none⟩) 4 4) (w.alloc (.cells #[.int .u8 0, .int .u8 0, .int .u8 0, .int .u8 0] 5)) := fun _ => by kernel_rfl
  have e0 : IntKind.u8.wrap (n % 256) = n % 256 := by show n % 256 % 2 ^ 8 = n % 256; omega
  have p0 : 0 ≤ n := by omega
  have q0 : n ≤ 9223372036854775807 := by omega
  have e1 : IntKind.u8.wrap (n / 256 % 256) = n / 256 % 256 := by show n / 256 % 256 % 2 ^ 8 = n / 256 % 256; omega
  have p1 : 0 ≤ n / 256 := by omega
  have q1 : n / 256 ≤ 9223372036854775807 := by omega
  have e2 : IntKind.u8.wrap ((n / 256 / 256) % 256) = (n / 256 / 256) % 256 := by show (n / 256 / 256) % 256 % 2 ^ 8 = (n / 256 / 256) % 256; omega
  have p2 : 0 ≤ (n / 256 / 256) := by omega
  have q2 : (n / 256 / 256) ≤ 9223372036854775807 := by omega
  have e3 : IntKind.u8.wrap (((n / 256 / 256) / 256) % 256) = ((n / 256 / 256) / 256) % 256 := by show ((n / 256 / 256) / 256) % 256 % 2 ^ 8 = ((n / 256 / 256) / 256) % 256; omega
  have p3 : 0 ≤ ((n / 256 / 256) / 256) := by omega
  have q3 : ((n / 256 / 256) / 256) ≤ 9223372036854775807 := by omega
  go_enter Tryd.func65, Tryd.ntmps65
  go_wp2_with fail
  refine wp_loop_rounds 5 ?_
  rw [rounds_succ]
  go_wp2_with fail
  rw [rounds_succ]
  go_wp2_with fail
  rw [rounds_succ]
  go_wp2_with fail
  rw [rounds_succ]
  go_wp2_with fail
  rw [rounds_succ]
  go_wp2_with fail
  go_ret
  exact ⟨rfl, rfl⟩
set_option maxHeartbeats 4000000 in
theorem num02_8 (n : Int) (w : World) (h0 : 0 ≤ n) (h1 : n ≤ 9223372036854775807) : Calls Tryd.prog 65 #[.int .i64 n, .int .i64 8] w fun e w' => e = .returned (.slice (some ⟨w.heap.size, 0, none⟩) 8 8) ∧ w' = w.alloc (.cells #[.int .u8 (((((((n / 256 / 256) / 256) / 256) / 256) / 256) / 256) % 256), .int .u8 ((((((n / 256 / 256) / 256) / 256) / 256) / 256) % 256), .int .u8 (((((n / 256 / 256) / 256) / 256) / 256) % 256), .int .u8 ((((n / 256 / 256) / 256) / 256) % 256), .int .u8 (((n / 256 / 256) / 256) % 256), .int .u8 ((n / 256 / 256) % 256), .int .u8 (n / 256 % 256), .int .u8 (n % 256)] 5) := by
  have hmk : ∀ w, (Instr.makeSlice 34 (.int .i64 8) (.int .i64 8)).run Tryd.prog w = .ok (.slice (some ⟨w.heap.size, 0, none⟩) 8 8) (w.alloc (.cells #[.int .u8 0, .int .u8 0, .int .u8 0, .int .u8 0, .int .u8 0, .int .u8 0, .int .u8 0, .int .u8 0] 5)) := fun _ => by kernel_rfl
  have e0 : IntKind.u8.wrap (n % 256) = n % 256 := by show n % 256 % 2 ^ 8 = n % 256; omega
  have p0 : 0 ≤ n := by omega
  have q0 : n ≤ 9223372036854775807 := by omega
  have e1 : IntKind.u8.wrap (n / 256 % 256) = n / 256 % 256 := by show n / 256 % 256 % 2 ^ 8 = n / 256 % 256; omega
  have p1 : 0 ≤ n / 256 := by omega
  have q1 : n / 256 ≤ 9223372036854775807 := by omega
  have e2 : IntKind.u8.wrap ((n / 256 / 256) % 256) = (n / 256 / 256) % 256 := by show (n / 256 / 256) % 256 % 2 ^ 8 = (n / 256 / 256) % 256; omega
  have p2 : 0 ≤ (n / 256 / 256) := by omega
  have q2 : (n / 256 / 256) ≤ 9223372036854775807 := by omega
  have e3 : IntKind.u8.wrap (((n / 256 / 256) / 256) % 256) = ((n / 256 / 256) / 256) % 256 := by show ((n / 256 / 256) / 256) % 256 % 2 ^ 8 = ((n / 256 / 256) / 256) % 256; omega
  have p3 : 0 ≤ ((n / 256 / 256) / 256) := by omega
  have q3 : ((n / 256 / 256) / 256) ≤ 9223372036854775807 := by omega
  have e4 : IntKind.u8.wrap ((((n / 256 / 256) / 256) / 256) % 256) = (((n / 256 / 256) / 256) / 256) % 256 := by show (((n / 256 / 256) / 256) / 256) % 256 % 2 ^ 8 = (((n / 256 / 256) / 256) / 256) % 256; omega
  have p4 : 0 ≤ (((n / 256 / 256) / 256) / 256) := by omega
  have q4 : (((n / 256 / 256) / 256) / 256) ≤ 9223372036854775807 := by omega
  have e5 : IntKind.u8.wrap (((((n / 256 / 256) / 256) / 256) / 256) % 256) = ((((n / 256 / 256) / 256) / 256) / 256) % 256 := by show ((((n / 256 / 256) / 256) / 256) / 256) % 256 % 2 ^ 8 = ((((n / 256 / 256) / 256) / 256) / 256) % 256; omega
  have p5 : 0 ≤ ((((n / 256 / 256) / 256) / 256) / 256) := by omega
  have q5 : ((((n / 256 / 256) / 256) / 256) / 256) ≤ 9223372036854775807 := by omega
  have e6 : IntKind.u8.wrap ((((((n / 256 / 256) / 256) / 256) / 256) / 256) % 256) = (((((n / 256 / 256) / 256) / 256) / 256) / 256) % 256 := by show (((((n / 256 / 256) / 256) / 256) / 256) / 256) % 256 % 2 ^ 8 = (((((n / 256 / 256) / 256) / 256) / 256) / 256) % 256; omega
  have p6 : 0 ≤ (((((n / 256 / 256) / 256) / 256) / 256) / 256) := by omega
  have q6 : (((((n / 256 / 256) / 256) / 256) / 256) / 256) ≤ 9223372036854775807 := by omega
  have e7 : IntKind.u8.wrap (((((((n / 256 / 256) / 256) / 256) / 256) / 256) / 256) % 256) = ((((((n / 256 / 256) / 256) / 256) / 256) / 256) / 256) % 256 := by show ((((((n / 256 / 256) / 256) / 256) / 256) / 256) / 256) % 256 % 2 ^ 8 = ((((((n / 256 / 256) / 256) / 256) / 256) / 256) / 256) % 256; omega
  have p7 : 0 ≤ ((((((n / 256 / 256) / 256) / 256) / 256) / 256) / 256) := by omega
  have q7 : ((((((n / 256 / 256) / 256) / 256) / 256) / 256) / 256) ≤ 9223372036854775807 := by omega
  go_enter Tryd.func65, Tryd.ntmps65
  go_wp2_with fail
  refine wp_loop_rounds 9 ?_
  rw [rounds_succ]
  go_wp2_with fail
  rw [rounds_succ]
  go_wp2_with fail
  rw [rounds_succ]
  go_wp2_with fail
  rw [rounds_succ]
  go_wp2_with fail
  rw [rounds_succ]
  go_wp2_with fail
  rw [rounds_succ]
  go_wp2_with fail
  rw [rounds_succ]
  go_wp2_with fail
  rw [rounds_succ]
  go_wp2_with fail
  rw [rounds_succ]
  go_wp2_with fail
  go_ret
  exact ⟨rfl, rfl⟩
end Go.Proofs.YtmmiimcodbjnmaaDoor
