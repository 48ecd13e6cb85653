/- Numbers as figures: the reference's Numeral. -/
import Derived.Test.YtmmiimcodbjnmaaDoorOctM
import Derived.BigQuiet
import Derived.Lib.ItoaNum
namespace Go.Proofs.YtmmiimcodbjnmaaDoor
open Go.RowKit Go.Stop Go.Extern Go.Ranges Go.Rows2
set_option linter.unusedVariables false
set_option linter.unusedSimpArgs false
set_option maxRecDepth 100000
/-- A figure. -/
def dig (k : Nat) : UInt8 := UInt8.ofNat (48 + k)
theorem drewN_add (w : World) (i j : Nat) : (w.drewN i).drewN j = w.drewN (i + j) := by
  induction j with
  | zero => rfl
  | succ j ih =>
    show ((w.drewN i).drewN j).drew = (w.drewN (i + j)).drew
    rw [ih]
def figS : ByteArray := ⟨#[48, 49, 50, 51, 52, 53, 54, 55, 56, 57]⟩
theorem fig_at (k : Nat) (hk : k < 10) (w : World) : (Instr.slice 9 (.string figS) (some (.int .i64 (k : Int))) (some (.int .i64 ((k : Int) + 1))) none).run Tryd.prog w = .ok (.string ⟨#[dig k]⟩) w := by
  have h0 : ∀ w, (Instr.slice 9 (.string figS) (some (.int .i64 0)) (some (.int .i64 1)) none).run Tryd.prog w = .ok (.string ⟨#[48]⟩) w := fun _ => by kernel_rfl
  have h1 : ∀ w, (Instr.slice 9 (.string figS) (some (.int .i64 1)) (some (.int .i64 2)) none).run Tryd.prog w = .ok (.string ⟨#[49]⟩) w := fun _ => by kernel_rfl
  have h2 : ∀ w, (Instr.slice 9 (.string figS) (some (.int .i64 2)) (some (.int .i64 3)) none).run Tryd.prog w = .ok (.string ⟨#[50]⟩) w := fun _ => by kernel_rfl
  have h3 : ∀ w, (Instr.slice 9 (.string figS) (some (.int .i64 3)) (some (.int .i64 4)) none).run Tryd.prog w = .ok (.string ⟨#[51]⟩) w := fun _ => by kernel_rfl
  have h4 : ∀ w, (Instr.slice 9 (.string figS) (some (.int .i64 4)) (some (.int .i64 5)) none).run Tryd.prog w = .ok (.string ⟨#[52]⟩) w := fun _ => by kernel_rfl
  have h5 : ∀ w, (Instr.slice 9 (.string figS) (some (.int .i64 5)) (some (.int .i64 6)) none).run Tryd.prog w = .ok (.string ⟨#[53]⟩) w := fun _ => by kernel_rfl
  have h6 : ∀ w, (Instr.slice 9 (.string figS) (some (.int .i64 6)) (some (.int .i64 7)) none).run Tryd.prog w = .ok (.string ⟨#[54]⟩) w := fun _ => by kernel_rfl
  have h7 : ∀ w, (Instr.slice 9 (.string figS) (some (.int .i64 7)) (some (.int .i64 8)) none).run Tryd.prog w = .ok (.string ⟨#[55]⟩) w := fun _ => by kernel_rfl
  have h8 : ∀ w, (Instr.slice 9 (.string figS) (some (.int .i64 8)) (some (.int .i64 9)) none).run Tryd.prog w = .ok (.string ⟨#[56]⟩) w := fun _ => by kernel_rfl
  have h9 : ∀ w, (Instr.slice 9 (.string figS) (some (.int .i64 9)) (some (.int .i64 10)) none).run Tryd.prog w = .ok (.string ⟨#[57]⟩) w := fun _ => by kernel_rfl
  match k, hk with
  | 0, _ => exact h0 w
  | 1, _ => exact h1 w
  | 2, _ => exact h2 w
  | 3, _ => exact h3 w
  | 4, _ => exact h4 w
  | 5, _ => exact h5 w
  | 6, _ => exact h6 w
  | 7, _ => exact h7 w
  | 8, _ => exact h8 w
  | 9, _ => exact h9 w
  | n + 10, h => exact absurd h (by omega)
theorem dd_small {u : Nat} (h : u < 10) : Lib.decDigits u = [dig u] := by
  unfold Lib.decDigits dig
  rw [dif_pos h]
theorem dd_big {u : Nat} (h : ¬ u < 10) : Lib.decDigits u = Lib.decDigits (u / 10) ++ [dig (u % 10)] := by
  unfold dig
  conv => lhs; unfold Lib.decDigits
  rw [dif_neg h]
theorem dd_len (u : Nat) : ∀ m, u < 10 ^ (m + 1) → (Lib.decDigits u).length ≤ m + 1 := fun m => by
  induction m generalizing u with
  | zero =>
    intro h
    rw [dd_small (by simpa using h)]
    simp
  | succ m ih =>
    intro h
    by_cases h10 : u < 10
    · rw [dd_small h10]; simp
    · rw [dd_big h10, List.length_append]
      have := ih (u / 10) (by rw [Nat.pow_succ] at h; omega)
      simp
      exact this
theorem str_cat (a b : List UInt8) : ((⟨a.toArray⟩ : ByteArray) ++ ⟨b.toArray⟩) = ⟨(a ++ b).toArray⟩ := by
  apply ByteArray.ext
  simp
set_option maxHeartbeats 4000000 in
theorem numeral_small (n : Int) (u : Nat) (w : World) (hu : u < 10) (hn : n = (u : Int)) :
    Calls Tryd.prog 44 #[.int .i64 n] w fun e w' => e = .returned (.string ⟨(Lib.decDigits u).toArray⟩) ∧ ∃ k, w' = w.drewN k := by
  rw [dd_small hu]
  subst hn
  have d1 : decide ((u : Int) < 0) = false := by rw [decide_eq_false_iff_not]; omega
  have d2 : decide ((u : Int) < 10) = true := by rw [decide_eq_true_eq]; omega
  have hs := fig_at u hu w
  have z1 : IntKind.i64.wrap ((u : Int) + 1) = (u : Int) + 1 := by rw [IntKind.wrap_i64]; omega
  unfold figS at hs
  go_enter Tryd.func44, Tryd.ntmps44
  go_wp2_with fail
  go_ret
  exact ⟨rfl, 0, rfl⟩
set_option maxHeartbeats 4000000 in
theorem numeral_pos (m : Nat) : ∀ (u : Nat) (w : World), u < 10 ^ (m + 1) → u ≤ 9223372036854775807 →
    Calls Tryd.prog 44 #[.int .i64 (u : Int)] w fun e w' => e = .returned (.string ⟨(Lib.decDigits u).toArray⟩) ∧ ∃ k, w' = w.drewN k := by
  induction m with
  | zero => exact fun u w h _ => numeral_small _ u w (by simpa using h) rfl
  | succ m ih =>
    intro u w h hmax
    by_cases h10 : u < 10
    · exact numeral_small _ u w h10 rfl
    · have K := ih (u / 10)
      have HK := Lib.hid fun (W : World) => K W (by rw [Nat.pow_succ] at h; omega) (by omega)
      have hlen := dd_len (u / 10) 40 (by have : (10 : Nat) ^ 41 = 100000000000000000000000000000000000000000 := by decide
                                          omega)
      rw [dd_big h10]
      have d1 : decide ((u : Int) < 0) = false := by rw [decide_eq_false_iff_not]; omega
      have d2 : decide ((u : Int) < 10) = false := by rw [decide_eq_false_iff_not]; omega
      have hs := fun W => fig_at (u % 10) (by omega) W
      have z1 : IntKind.i64.wrap (((u % 10 : Nat) : Int) + 1) = ((u % 10 : Nat) : Int) + 1 := by rw [IntKind.wrap_i64]; omega
      have e1 : (u : Int) % 10 = ((u % 10 : Nat) : Int) := by omega
      have e2 : (u : Int) / 10 = ((u / 10 : Nat) : Int) := by omega
      have e3 : (u : Int).tmod 10 = ((u % 10 : Nat) : Int) := by rw [Int.tmod_eq_emod_of_nonneg (by omega)]; exact e1
      have e4 : (u : Int).tdiv 10 = ((u / 10 : Nat) : Int) := by rw [Int.tdiv_eq_ediv_of_nonneg (by omega)]; exact e2
      have e5 : IntKind.i64.wrap ((u : Int) / 10) = ((u / 10 : Nat) : Int) := by rw [e2, IntKind.wrap_i64]; omega
      have e6 : IntKind.i64.wrap ((u : Int).tdiv 10) = ((u / 10 : Nat) : Int) := by rw [e4, IntKind.wrap_i64]; omega
      have e7 : IntKind.i64.wrap ((u : Int) % 10) = ((u % 10 : Nat) : Int) := by rw [e1, IntKind.wrap_i64]; omega
      have e8 : IntKind.i64.wrap ((u : Int).tmod 10) = ((u % 10 : Nat) : Int) := by rw [e3, IntKind.wrap_i64]; omega
      have e9 : wrap64 ((u / 10 : Nat) : Int) = ((u / 10 : Nat) : Int) := IntWalk.wrap64_in _ ⟨by omega, by omega⟩
      have HQ := Lib.hid fun k => ((HK.out (w.drewN k)).mono fun e w' h => (show e = .returned (.string ⟨(Lib.decDigits (u / 10)).toArray⟩) ∧ ∃ m, w' = w.drewN m from ⟨h.1, by obtain ⟨m, hm⟩ := h.2; exact ⟨k + m, by rw [hm, drewN_add]⟩⟩))
      unfold figS at hs
      clear ih K h hmax h10
      generalize u % 10 = r at *
      generalize u / 10 = q at *
      have HL := Lib.hid hlen
      generalize dig r = dr at *
      generalize hD : Lib.decDigits q = D at *
      have hsz : ¬ (maxLen < D.length + 1) := by unfold maxLen; omega
      clear hD
      go_enter Tryd.func44, Tryd.ntmps44
      go_wp2_with fail
      go_quiet ((go_at_call 44; (try rw [e9]); exact HQ.out _))
      go_wp2_with fail
      go_ret
      exact ⟨congrArg (fun q => Ending.returned (.string q)) (str_cat D [dr]), _, rfl⟩
set_option maxHeartbeats 4000000 in
theorem numeral_nsmall (n : Int) (u : Nat) (w : World) (hu : u < 10) (h1 : 1 ≤ u) (hn : n = -(u : Int)) :
    Calls Tryd.prog 44 #[.int .i64 n] w fun e w' => e = .returned (.string ⟨(45 :: Lib.decDigits u).toArray⟩) ∧ ∃ k, w' = w.drewN k := by
  rw [dd_small hu]
  have d1 : decide (n < 0) = true := by rw [decide_eq_true_eq]; omega
  have d2 : decide (-10 < n) = true := by rw [decide_eq_true_eq]; omega
  have hs := fig_at u hu w
  have z0 : -n = (u : Int) := by omega
  have z1 : IntKind.i64.wrap (-n) = (u : Int) := by rw [z0, IntKind.wrap_i64]; omega
  have z2 : IntKind.i64.wrap ((u : Int) + 1) = (u : Int) + 1 := by rw [IntKind.wrap_i64]; omega
  have hu2 : (u : Int) < 10 := by omega
  have hu3 : (0 : Int) ≤ (u : Int) := by omega
  generalize dig u = du at *
  have hsz : ¬ (maxLen < 2) := by decide
  unfold figS at hs
  clear hn h1
  go_enter Tryd.func44, Tryd.ntmps44
  go_wp2_with fail
  go_ret
  exact ⟨congrArg (fun q => Ending.returned (.string q)) (str_cat [45] [du]), 0, rfl⟩
set_option maxHeartbeats 4000000 in
theorem numeral_neg (m : Nat) : ∀ (u : Nat) (w : World), u < 10 ^ (m + 1) → 1 ≤ u → u ≤ 9223372036854775808 →
    Calls Tryd.prog 44 #[.int .i64 (-(u : Int))] w fun e w' => e = .returned (.string ⟨(45 :: Lib.decDigits u).toArray⟩) ∧ ∃ k, w' = w.drewN k := by
  induction m with
  | zero => exact fun u w h h1 _ => numeral_nsmall _ u w (by simpa using h) h1 rfl
  | succ m ih =>
    intro u w h h1 hmax
    by_cases h10 : u < 10
    · exact numeral_nsmall _ u w h10 h1 rfl
    · have K := ih (u / 10)
      have HK := Lib.hid fun (W : World) => K W (by rw [Nat.pow_succ] at h; omega) (by omega) (by omega)
      have hlen := dd_len (u / 10) 40 (by have : (10 : Nat) ^ 41 = 100000000000000000000000000000000000000000 := by decide
                                          omega)
      rw [dd_big h10]
      obtain ⟨n, hn⟩ : ∃ n : Int, n = -(u : Int) := ⟨_, rfl⟩
      rw [← hn]
      have d1 : decide (n < 0) = true := by rw [decide_eq_true_eq]; omega
      have d2 : decide (-10 < n) = false := by rw [decide_eq_false_iff_not]; omega
      have hs := fun W => fig_at (u % 10) (by omega) W
      have z1 : IntKind.i64.wrap (((u % 10 : Nat) : Int) + 1) = ((u % 10 : Nat) : Int) + 1 := by rw [IntKind.wrap_i64]; omega
      have e3 : n.tmod 10 = -((u % 10 : Nat) : Int) := by rw [hn, Int.neg_tmod, Int.tmod_eq_emod_of_nonneg (by omega)]; omega
      have e4 : n.tdiv 10 = -((u / 10 : Nat) : Int) := by rw [hn, Int.neg_tdiv, Int.tdiv_eq_ediv_of_nonneg (by omega)]; omega
      have e6 : IntKind.i64.wrap (n.tdiv 10) = -((u / 10 : Nat) : Int) := by rw [e4, IntKind.wrap_i64]; omega
      have e8 : IntKind.i64.wrap (n.tmod 10) = -((u % 10 : Nat) : Int) := by rw [e3, IntKind.wrap_i64]; omega
      have e9 : wrap64 (-((u / 10 : Nat) : Int)) = -((u / 10 : Nat) : Int) := IntWalk.wrap64_in _ ⟨by omega, by omega⟩
      have e10 : IntKind.i64.wrap ((u % 10 : Nat) : Int) = ((u % 10 : Nat) : Int) := by rw [IntKind.wrap_i64]; omega
      have HQ := Lib.hid fun k => ((HK.out (w.drewN k)).mono fun e w' h => (show e = .returned (.string ⟨(45 :: Lib.decDigits (u / 10)).toArray⟩) ∧ ∃ m, w' = w.drewN m from ⟨h.1, by obtain ⟨m, hm⟩ := h.2; exact ⟨k + m, by rw [hm, drewN_add]⟩⟩))
      have hr10 : ((u % 10 : Nat) : Int) < 10 := by omega
      have hr0 : (0 : Int) ≤ ((u % 10 : Nat) : Int) := by omega
      unfold figS at hs
      clear ih K h hmax h10 hn h1
      generalize u % 10 = r at *
      generalize u / 10 = q at *
      have HL := Lib.hid hlen
      generalize dig r = dr at *
      generalize hD : Lib.decDigits q = D at *
      have hsz : ¬ (maxLen < D.length + 1 + 1) := by unfold maxLen; omega
      clear hD
      go_enter Tryd.func44, Tryd.ntmps44
      go_wp2_with fail
      go_quiet ((go_at_call 44; (try rw [e9]); exact HQ.out _))
      go_wp2_with fail
      go_ret
      exact ⟨congrArg (fun q => Ending.returned (.string q)) (str_cat (45 :: D) [dr]), _, rfl⟩
/-- Any number's figures. -/
theorem numeral_any (n : Int) (w : World) (h0 : -9223372036854775808 ≤ n) (h1 : n ≤ 9223372036854775807) :
    Calls Tryd.prog 44 #[.int .i64 n] w fun e w' => e = .returned (.string ⟨(Lib.itoa n).toArray⟩) ∧ Below w.heap.size w w' := by
  unfold Lib.itoa
  by_cases hn : n < 0
  · rw [if_pos hn]
    obtain ⟨u, hu⟩ : ∃ u : Nat, n = -(u : Int) := ⟨n.natAbs, by omega⟩
    subst hu
    have e : (-(u : Int)).natAbs = u := by omega
    rw [e]
    refine (numeral_neg 18 u w (by have : (10 : Nat) ^ 19 = 10000000000000000000 := by decide
                                   omega) (by omega) (by omega)).mono ?_
    rintro e w' ⟨rfl, k, rfl⟩
    exact ⟨rfl, below_drewN _ _⟩
  · rw [if_neg hn]
    obtain ⟨u, hu⟩ : ∃ u : Nat, n = (u : Int) := ⟨n.toNat, by omega⟩
    subst hu
    rw [Int.toNat_natCast]
    refine (numeral_pos 18 u w (by have : (10 : Nat) ^ 19 = 10000000000000000000 := by decide
                                   omega) (by omega)).mono ?_
    rintro e w' ⟨rfl, k, rfl⟩
    exact ⟨rfl, below_drewN _ _⟩
end Go.Proofs.YtmmiimcodbjnmaaDoor
