/- octets, reading: what is thrown is caught. -/
import Derived.Test.YtmmiimcodbjnmaaDoorRdE
import Derived.Defers
import Derived.Recover
namespace Go.Proofs.YtmmiimcodbjnmaaDoor
open Go.RowKit Go.Stop Go.Extern Go.Ranges Go.Rows2
set_option linter.unusedVariables false
set_option linter.unusedSimpArgs false
set_option maxRecDepth 20000
set_option maxHeartbeats 400000 in
theorem caught_idle (E : Nat) (w : World) :
    CallsD Tryd.prog 76 #[.pointer (some ⟨E, 0, none⟩)] .returning w fun e u' w' => e = .returned (.tuple #[]) ∧ u' = .returning ∧ w' = w := by
  refine callsD_of_wpS Tryd.func76 rfl fun c₀ cs hu => ?_
  apply wpS_seq
  apply wpS_region
  simp [wpOpsS, go_sem, recoverD, hu, Tryd.ntmps76, Exit.thenS]
  refine wpS_of_wp ?_
  go_wp2_with fail
  cases c₀
  simp_all [bodyPostS, results, Tryd.results76]
set_option maxHeartbeats 400000 in
theorem caught_halt (E : Nat) (x : Addr) (u : Value) (w : World) (hc : w.cell? ⟨E, 0, none⟩ = some u) (hf : w.frozen? ⟨E, 0, none⟩ = false) :
    CallsD Tryd.prog 76 #[.pointer (some ⟨E, 0, none⟩)] (.panicking (haltV (.iface 199 (.pointer (some x))))) w fun e u' w' =>
      e = .returned (.tuple #[]) ∧ settle u' = .returning ∧ w'.cell? ⟨E, 0, none⟩ = some (.iface 199 (.pointer (some x))) ∧ Chg (fun k => k = E) w w' := by
  have hta : ∀ W, (Instr.typeAssert (.iface 135 (.agg #[.iface 199 (.pointer (some x))])) 20 135 true).run Tryd.prog W = .ok (.tuple #[.agg #[.iface 199 (.pointer (some x))], .bool true]) W := fun _ => by kernel_rfl
  have hlt : E < w.heap.size := World.block_lt_of_cell? w _ hc
  have hc1 : ∀ o, (w.alloc o).cell? ⟨E, 0, none⟩ = some u := fun o => ((alloc_below w o).cell (p := ⟨E, 0, none⟩) hlt).trans hc
  have hf1 : ∀ o, (w.alloc o).frozen? ⟨E, 0, none⟩ = false := fun o => ((alloc_below w o).frozen (p := ⟨E, 0, none⟩) hlt).trans hf
  refine callsD_of_wpS Tryd.func76 rfl fun c₀ cs hu => ?_
  apply wpS_seq
  apply wpS_region
  unfold haltV at hu
  simp [wpOpsS, go_sem, recoverD, hu, Tryd.ntmps76, Exit.thenS]
  refine wpS_of_wp ?_
  have hfr : (#[.pointer (some ⟨E, 0, none⟩)] ++ (Array.replicate 14 undef).setIfInBounds 4 (.iface 135 (.agg #[.iface 199 (.pointer (some x))])) : Array Value) = #[.pointer (some ⟨E, 0, none⟩), undef, undef, undef, undef, .iface 135 (.agg #[.iface 199 (.pointer (some x))]), undef, undef, undef, undef, undef, undef, undef, undef, undef] := rfl
  rw [hfr]
  clear hfr hu
  go_wp2_with fail
  cases c₀
  refine ⟨rfl, _, rfl, _, by simp [results, Tryd.results76], rfl, rfl, ?_, ?_⟩
  · refine ((alloc_below (w.setCell ⟨E, 0, none⟩ _) _).cell (p := ⟨E, 0, none⟩) (by simpa [World.setCell] using hlt)).trans ?_
    simp [go_sem, hc]
  · exact (chg_cell w E 0 _).trans (Chg.of_below (alloc_below _ _))
end Go.Proofs.YtmmiimcodbjnmaaDoor
