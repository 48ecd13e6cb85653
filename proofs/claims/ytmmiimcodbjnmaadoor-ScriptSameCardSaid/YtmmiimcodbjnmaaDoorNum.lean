/- The number of each error. -/
import Derived.Test.YtmmiimcodbjnmaaDoorErrs
import Derived.Deep.LoopGhost
namespace Go.Proofs.YtmmiimcodbjnmaaDoor
open Go.RowKit Go.Stop Go.Extern
set_option linter.unusedVariables false
set_option linter.unusedSimpArgs false
def ep (a : Nat → Addr) (n : Nat) : Value := .iface 199 (.pointer (some (a n)))
def listErr (a : Nat → Addr) : Array Value := #[.iface 199 (.pointer (some (a 1))), .iface 199 (.pointer (some (a 2))), .iface 199 (.pointer (some (a 3))), .iface 199 (.pointer (some (a 4))), .iface 199 (.pointer (some (a 5))), .iface 199 (.pointer (some (a 6))), .iface 199 (.pointer (some (a 7))), .iface 199 (.pointer (some (a 8))), .iface 199 (.pointer (some (a 9))), .iface 199 (.pointer (some (a 10))), .iface 199 (.pointer (some (a 11))), .iface 199 (.pointer (some (a 12))), .iface 199 (.pointer (some (a 13))), .iface 199 (.pointer (some (a 14))), .iface 199 (.pointer (some (a 15))), .iface 199 (.pointer (some (a 16))), .iface 199 (.pointer (some (a 17))), .iface 199 (.pointer (some (a 18))), .iface 199 (.pointer (some (a 19))), .iface 199 (.pointer (some (a 20))), .iface 199 (.pointer (some (a 21))), .iface 199 (.pointer (some (a 22)))]
theorem listErr_at (a : Nat → Addr) (k : Nat) (hk : k < 22) : (listErr a)[k]? = some (.iface 199 (.pointer (some (a (k + 1))))) :=
  match k, hk with
  | 0, _ => rfl | 1, _ => rfl | 2, _ => rfl | 3, _ => rfl | 4, _ => rfl | 5, _ => rfl | 6, _ => rfl | 7, _ => rfl | 8, _ => rfl | 9, _ => rfl | 10, _ => rfl
  | 11, _ => rfl | 12, _ => rfl | 13, _ => rfl | 14, _ => rfl | 15, _ => rfl | 16, _ => rfl | 17, _ => rfl | 18, _ => rfl | 19, _ => rfl | 20, _ => rfl | 21, _ => rfl
  | n + 22, h => absurd h (by omega)

theorem num_nil (w : World) : Calls Tryd.prog 29 #[.nilIface] w fun e w' => e = .returned (.int .i64 0) ∧ w = w' := by
  go_enter Tryd.func29, Tryd.ntmps29
  go_wp2
  go_ret
  exact ⟨rfl, rfl⟩
set_option maxRecDepth 100000 in
theorem num_some (a : Nat → Addr) (n : Nat) (h1 : 1 ≤ n) (h2 : n ≤ 22) (w : World) (H : Errs w a) :
    Calls Tryd.prog 29 #[.iface 199 (.pointer (some (a n)))] w fun e w' => e = .returned (.int .i64 n) ∧ Below w.heap.size w w' := by
  have e1 : w.cell? ⟨3, 0, none⟩ = _ := H.at 1 (by decide) (by decide)
  have e2 : w.cell? ⟨5, 0, none⟩ = _ := H.at 2 (by decide) (by decide)
  have e3 : w.cell? ⟨4, 0, none⟩ = _ := H.at 3 (by decide) (by decide)
  have e4 : w.cell? ⟨6, 0, none⟩ = _ := H.at 4 (by decide) (by decide)
  have e5 : w.cell? ⟨7, 0, none⟩ = _ := H.at 5 (by decide) (by decide)
  have e6 : w.cell? ⟨8, 0, none⟩ = _ := H.at 6 (by decide) (by decide)
  have e7 : w.cell? ⟨2, 0, none⟩ = _ := H.at 7 (by decide) (by decide)
  have e8 : w.cell? ⟨9, 0, none⟩ = _ := H.at 8 (by decide) (by decide)
  have e9 : w.cell? ⟨10, 0, none⟩ = _ := H.at 9 (by decide) (by decide)
  have e10 : w.cell? ⟨11, 0, none⟩ = _ := H.at 10 (by decide) (by decide)
  have e11 : w.cell? ⟨12, 0, none⟩ = _ := H.at 11 (by decide) (by decide)
  have e12 : w.cell? ⟨13, 0, none⟩ = _ := H.at 12 (by decide) (by decide)
  have e13 : w.cell? ⟨14, 0, none⟩ = _ := H.at 13 (by decide) (by decide)
  have e14 : w.cell? ⟨15, 0, none⟩ = _ := H.at 14 (by decide) (by decide)
  have e15 : w.cell? ⟨16, 0, none⟩ = _ := H.at 15 (by decide) (by decide)
  have e16 : w.cell? ⟨17, 0, none⟩ = _ := H.at 16 (by decide) (by decide)
  have e17 : w.cell? ⟨18, 0, none⟩ = _ := H.at 17 (by decide) (by decide)
  have e18 : w.cell? ⟨19, 0, none⟩ = _ := H.at 18 (by decide) (by decide)
  have e19 : w.cell? ⟨20, 0, none⟩ = _ := H.at 19 (by decide) (by decide)
  have e20 : w.cell? ⟨21, 0, none⟩ = _ := H.at 20 (by decide) (by decide)
  have e21 : w.cell? ⟨22, 0, none⟩ = _ := H.at 21 (by decide) (by decide)
  have e22 : w.cell? ⟨23, 0, none⟩ = _ := H.at 22 (by decide) (by decide)
  go_enter Tryd.func29, Tryd.ntmps29
  go_wp2_with fail
  clear e1 e2 e3 e4 e5 e6 e7 e8 e9 e10 e11 e12 e13 e14 e15 e16 e17 e18 e19 e20 e21 e22
  have hcell : ∀ k, k < 22 → (w.alloc (.cells (listErr a) 44)).cell? ⟨w.heap.size, k, none⟩ = some (.iface 199 (.pointer (some (a (k + 1))))) := fun k hk => by
    rw [cell_of_row _ _ _ (listErr a) 44 (0, 0) (heap_alloc_new w _)]
    exact listErr_at a k hk
  have hb : Below w.heap.size w (w.alloc (.cells (listErr a) 44)) := (Below.refl _ _).alloc (Nat.le_refl _) _
  have H1 := H.below hb
  unfold listErr at hcell hb H1
  generalize w.alloc _ = W1 at *
  go_loop [33] (fun s => ∃ k : Nat, k < n ∧ s = .int .i64 k) (fun s => 22 - (intOf s).toNat)
  case atStart => exact ⟨0, by omega, rfl⟩
  case round =>
    obtain ⟨k, hk, rfl⟩ := hrel
    have hc := hcell k (by omega)
    have hlt : k < 22 := by omega
    clear hcell
    by_cases hkn : k + 1 = n
    · subst hkn
      go_wp2_with (go_at_call 61; refine (is_same _ _).mono ?_; rintro e w' ⟨rfl, rfl⟩)
      go_ret
      exact ⟨rfl, hb⟩
    · obtain ⟨c1, t1, r1⟩ := H1.row n h1 h2
      obtain ⟨c2, t2, r2⟩ := H1.row (k + 1) (by omega) (by omega)
      have hne : a n ≠ a (k + 1) := fun e => hkn (H1.ne n (k + 1) h1 h2 (by omega) (by omega) e).symm
      go_wp2_with (go_at_call 61; refine (is_other _ _ c1 c2 t1 t2 _ hne r1 r2).mono ?_; rintro e w' ⟨rfl, rfl⟩)
      go_round
      case rel => exact ⟨k + 1, by omega, by go_num⟩
      case measure => simp [intOf]; omega
theorem num_any (a : Nat → Addr) (n : Nat) (h2 : n ≤ 22) (w : World) (H : Errs w a) :
    Calls Tryd.prog 29 #[errV a n] w fun e w' => e = .returned (.int .i64 n) ∧ Below w.heap.size w w' := by
  unfold errV
  by_cases h : n = 0
  · subst h
    rw [if_pos rfl]
    exact (num_nil w).mono fun e w' ⟨h1, h2⟩ => ⟨h1, h2 ▸ Below.refl _ _⟩
  · rw [if_neg h]
    exact num_some a n (by omega) h2 w H
end Go.Proofs.YtmmiimcodbjnmaaDoor
