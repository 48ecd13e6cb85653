/- octets, the reference: rows that hold the same fields are the same. -/
import Derived.Test.YtmmiimcodbjnmaaDoorWrA
import Derived.BigQuiet
namespace Go.Proofs.YtmmiimcodbjnmaaDoor
open Go.RowKit Go.Stop Go.Extern Go.Ranges Go.Rows2
set_option linter.unusedVariables false
set_option linter.unusedSimpArgs false
set_option maxRecDepth 100000
theorem drewN_add (w : World) (i j : Nat) : (w.drewN i).drewN j = w.drewN (i + j) := by
  induction j with
  | zero => rfl
  | succ j ih =>
    show ((w.drewN i).drewN j).drew = (w.drewN (i + j)).drew
    rw [ih]
set_option maxHeartbeats 4000000 in
theorem same02_true (A A' : Option Addr) (n c c' : Nat) (N : Nat → Int) (B : Nat → List Int) (w : World) (hf : FieldsAt w A n N B) (hg : FieldsAt w A' n N B) (hn : n ≤ 100000) :
    Calls Tryd.prog 35 #[.slice A n c, .slice A' n c'] w fun e w' => e = .returned (.bool true) ∧ Below w.heap.size w w' := by
  have HF := Lib.hid hf
  have HG := Lib.hid hg
  clear hf hg
  go_enter Tryd.func35, Tryd.ntmps35
  go_wp2_with fail
  go_loopw [13] (fun x wr => ∃ k j : Nat, k ≤ n ∧ x = .int .i64 k ∧ wr = w.drewN j) (fun x _ => n - (intOf x).toNat)
  case atStart => exact ⟨0, 0, Nat.zero_le _, rfl, rfl⟩
  case round =>
    obtain ⟨k, dn, hk, rfl, rfl⟩ := hrel
    by_cases hlt : k < n
    · obtain ⟨b, o, rfl, _, hc⟩ := HF.out (by omega)
      obtain ⟨b', o', rfl, _, hc'⟩ := HG.out (by omega)
      obtain ⟨D, e, h0, h1, h2⟩ := hc k hlt
      obtain ⟨D', e', h0', h1', h2'⟩ := hc' k hlt
      have cv1 := fun q => (show Lib.BytesIn (w.drewN q) D _ _ from h2).convert (P := Tryd.prog) rfl e 34 5 9 Tryd.underlying34 Tryd.underlying5 Tryd.underlying9
      have cv2 := fun q => (show Lib.BytesIn (w.drewN q) D' _ _ from h2').convert (P := Tryd.prog) rfl e' 34 5 9 Tryd.underlying34 Tryd.underlying5 Tryd.underlying9
      have q0 : (N k != N k) = false := by simp
      generalize strOfNums (B k) = s1 at *
      have q1 : (s1.toList != s1.toList) = false := by simp
      generalize N k = Nk at *
      have hk0 : (0 : Int) ≤ (k : Int) := by omega
      clear hc hc' h2 h2'
      go_wp2_with fail
      go_quiet (fail)
      go_wp2_with fail
      go_round
      case rel => exact ⟨k + 1, dn + _, by omega, by go_num, rfl⟩
      case measure => simp only [intOf]; omega
    · obtain rfl : k = n := by omega
      go_wp2_with fail
      go_ret
      exact ⟨rfl, below_drewN _ _⟩
end Go.Proofs.YtmmiimcodbjnmaaDoor
