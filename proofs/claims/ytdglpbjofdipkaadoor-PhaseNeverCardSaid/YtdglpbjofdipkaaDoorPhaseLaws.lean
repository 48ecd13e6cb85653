/- The walks of the statements on a repository's serving state. -/
import Derived.Test.YtdglpbjofdipkaaDoorPhase3
import Derived.Test.YtdglpbjofdipkaaDoorPhaseLaid
import Derived.MakeChecks
import Derived.Deep.RegionHeld3
namespace Go.Proofs.YtdglpbjofdipkaaDoor
open Go.RowKit Go.Stop Go.Extern Go.ErrsGen
set_option linter.unusedVariables false
set_option linter.unusedSimpArgs false
theorem env_of {W : World} (h : laidMet Tryd.prog (errList.map (fun x => (x.1, sent "*errors.errorString" x.2.1)) ++ [("cartage/phase.names", namesData)]) W) : ∃ a, Env W a := by
  obtain ⟨⟨a, ha⟩, hr⟩ := errs_of_laid _ h
  exact ⟨a, ha, names_of_laid hr⟩
theorem env_admits {W : World} (h : laidMetH Tryd.prog Rows.phaseAdmitsRow.laid W) : ∃ a, Env W a := by
  rw [MakeChecks.laidMetH_plain _ _ _ (by kernel_rfl)] at h
  exact env_of h
/-- A phase's cells at a world, which is below another. -/
theorem keepP {W w w' : World} {s e : Value} {b : Nat} (h : w.cell? ⟨b, 0, none⟩ = some s ∧ w.cell? ⟨b, 1, none⟩ = some e ∧ Below W.heap.size W w) (hbb : b < W.heap.size) (hb : Below w.heap.size w w') :
    w'.cell? ⟨b, 0, none⟩ = some s ∧ w'.cell? ⟨b, 1, none⟩ = some e ∧ Below W.heap.size W w' := by
  have hs := h.2.2.size
  refine ⟨?_, ?_, h.2.2.trans (hb.mono hs)⟩
  · rw [(bcell hb).1 b 0 (by omega)]; exact h.1
  · rw [(bcell hb).1 b 1 (by omega)]; exact h.2.1
theorem admits_walk (a : Nat → Addr) (s e st : Int) (_w0 : (Lit.int .i64 s).wf = true) (_w1 : (Lit.int .i64 e).wf = true) (_w2 : (Lit.int .i64 st).wf = true) (w : World) (E : Env w a) :
    Calls Tryd.prog 4 #[.agg #[.int .i64 s, .int .i64 e], .int .i64 st] w fun x w' => x = .returned (.bool true) ∧ Below w.heap.size w w' := by
  have HE := Lib.hid E
  clear E
  go_enter Tryd.func4, Tryd.ntmps4
  go_wp2_with fail
  refine (alive_any a _ (HE.out.below (ba (Below.refl _ _) _))).mono ?_
  rintro x1 w1 ⟨rfl, hb1⟩
  obtain ⟨hc1, hf1⟩ := bcell hb1
  have HB1 : Hid (Below w.heap.size w w1) := (ba (Below.refl _ _) _).trans (hb1.mono (by simp))
  have hz1 : w.heap.size < w1.heap.size := by have := hb1.size; simp at this; omega
  clear hb1
  have hp0 : w1.drew.cell? ⟨w.heap.size, 0, none⟩ = some (.int .i64 s) := by simp [hc1]
  have hp1 : w1.drew.cell? ⟨w.heap.size, 1, none⟩ = some (.int .i64 e) := by simp [hc1]
  have hb0 : Below w1.heap.size w1 w1.drew := bd (Below.refl _ _)
  have hR : admitR s e st ≤ 22 := by unfold admitR; repeat' split
                                     all_goals decide
  go_wp2_with fail
  go_region_held3 (fun w' => w'.cell? ⟨w.heap.size, 0, none⟩ = some (.int .i64 s) ∧ w'.cell? ⟨w.heap.size, 1, none⟩ = some (.int .i64 e) ∧ Below w1.heap.size w1 w')
    (first
      | exact ⟨hp0, hp1, hb0⟩
      | exact keepP (by assumption) hz1 (by assumption))
    (first
      | (go_at_call 21; refine (admit_any a _ _ _ _ (HE.out.below (HB1.out.trans (Below.mono (And.right (And.right (by assumption))) (by omega))))).mono ?_; rintro e w' ⟨rfl, hb⟩)
      | (go_at_call 16; refine (num_any a _ (by assumption) _ (HE.out.errs.below (HB1.out.trans (Below.mono (And.right (And.right (by assumption))) (by omega))))).mono ?_; rintro e w' ⟨rfl, hb⟩)
      | (go_at_call 22; refine (refAdmit_any _ _ _ _).mono ?_; rintro e w' ⟨rfl, hb⟩))
  all_goals
    have hB2 := HB1.out.trans (Below.mono (And.right (And.right (by assumption))) (show w.heap.size ≤ w1.heap.size by omega))
    go_wp2_with fail
    go_ret
    exact ⟨rfl, hB2⟩
end Go.Proofs.YtdglpbjofdipkaaDoor
