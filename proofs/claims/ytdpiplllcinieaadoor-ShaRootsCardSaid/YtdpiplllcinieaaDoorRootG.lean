/- The law of the roots, walked. -/
import Derived.Test.YtdpiplllcinieaaDoorRootF
import Derived.Test.YtdpiplllcinieaaDoorShaJ
namespace Go.Proofs.YtdpiplllcinieaaDoor
open Go.RowKit Go.Stop Go.Extern Go.Ranges
set_option linter.unusedVariables false
set_option linter.unusedSimpArgs false
attribute [-go_sem] loadVar storeVar
attribute [local go_sem] loadVar_one storeVar_one
set_option maxRecDepth 20000 in
set_option maxHeartbeats 4000000 in
theorem rooted_any (w : World) :
    Calls Tryd.prog 21 #[] w fun e w' => e = .returned (.bool true) ∧ Below w.heap.size w w' := by
  have hp : ∀ w', Calls Tryd.prog 45 #[.int .i64 64] w' _ := primes_any primes_len primes_309
  have hr : ∀ (p : Int) w', Calls Tryd.prog 46 #[.int .u64 p, .int .i64 3] w' fun e w2 => e = .returned (.int .u32 (rootT p 3 36 % 4294967296)) ∧ Below w'.heap.size w' w2 := fun p w' => root_any p 3 w' (by decide) (by decide)
  have HP := Lib.hid hp
  have HR := Lib.hid hr
  clear hp hr
  go_enter Tryd.func21, Tryd.ntmps21
  go_wp2_with (first
    | (go_at_call 40; with_reducible refine (table_any w).mono ?_; rintro e w1 ⟨g, rfl, hb1, hg1, hT⟩; have KB1 := Lib.hid hb1; have KT := Lib.hid hT; clear hb1 hT)
    | (go_at_call 45; with_reducible refine (HP.out _).mono ?_; rintro e w2 ⟨g2, c2, rfl, hb2, hU⟩; have KB2 := Lib.hid hb2; have KU := Lib.hid hU; clear hb2 hU))
  have hB2 := KB1.out.trans (KB2.out.mono KB1.out.size)
  have hT2 := KT.out.below KB2.out
  have KB := Lib.hid hB2
  have KT2 := Lib.hid hT2
  clear hB2 hT2 KB1 KB2 KT
  go_loopw [7] (fun u wr => ∃ i : Nat, i ≤ 64 ∧ u = .int .i64 i ∧ Below w.heap.size w wr ∧ TableAt wr g ∧ U64At wr (some ⟨g2, 0, none⟩) 64 (primesT 310)) (fun u _ => 64 - (intOf u).toNat)
  case atStart => exact ⟨0, by omega, by go_num, KB.out, KT2.out, KU.out⟩
  case round =>
    obtain ⟨i, hi, rfl, hB, hT, hU⟩ := hrel
    have HB := Lib.hid hB
    have HT := Lib.hid hT
    have HU := Lib.hid hU
    by_cases hlt : i < 64
    · have hlt2 : (i : Int) < 64 := by omega
      obtain ⟨b, o, hbo, hbl, hcx⟩ := hU (by omega)
      injection hbo with hbo
      injection hbo with hb1 ho1
      subst hb1 ho1
      have hx := hcx i hlt
      rw [Nat.zero_add] at hx
      have hk := hT.2 i hlt
      have hk1 : wr.drew.cell? ⟨g, i, none⟩ = some (.int .u32 (num (Sha.kf i))) := hk
      have hgl := hT.1
      have hroot := root_kf i hlt
      clear hB hT hU hcx
      generalize (primesT 310).getD i 0 = p at *
      have hR : Hid (∀ w', Calls Tryd.prog 46 #[.int .u64 p, .int .i64 3] w' fun e w2 => e = .returned (.int .u32 (num (Sha.kf i))) ∧ Below w'.heap.size w' w2) := fun w' => by
        rw [← hroot]
        exact HR.out p w'
      clear hroot
      go_wp2_with fail
      go_region_with (go_at_call 46
                      with_reducible refine (hR.out _).mono ?_
                      rintro e w3 ⟨rfl, hb3⟩
                      have hb4 := (Below.refl wr.heap.size wr).drew.trans hb3
                      have hk3 : w3.cell? ⟨g, i, none⟩ = some (.int .u32 (num (Sha.kf i))) := (hb4.cell (p := ⟨g, i, none⟩) hgl).trans hk
                      have HB4 := Lib.hid hb4
                      clear hb3 hb4)
      all_goals
        go_wp2_with fail
        go_round
        case rel => exact ⟨i + 1, by omega, by go_num, HB.out.trans (HB4.out.mono HB.out.size), HT.out.below HB4.out, HU.out.below HB4.out⟩
        case measure => simp only [intOf]; omega
    · have hie : i = 64 := by omega
      subst hie
      go_wp2_with fail
      go_ret
      exact ⟨rfl, HB.out⟩
set_option maxRecDepth 20000 in
theorem shaRoots_walk (w : World) (hG : Grains w) (hS : Start w) :
    Calls Tryd.prog 5 #[] w fun x w' => x = .returned (.bool true) ∧ Below w.heap.size w w' := by
  have KG := Lib.hid hG
  have KS := Lib.hid hS
  clear hG hS
  go_enter Tryd.func5, Tryd.ntmps5
  go_wp2_with (first
    | (go_at_call 16; with_reducible refine (alive01 w KG.out KS.out).mono ?_; rintro e w1 ⟨rfl, hb1⟩; have KB1 := Lib.hid hb1; clear hb1)
    | (go_at_call 21; with_reducible refine (rooted_any _).mono ?_; rintro e w2 ⟨rfl, hb2⟩; have KB2 := Lib.hid hb2; clear hb2))
  go_ret
  exact ⟨rfl, KB1.out.trans (KB2.out.mono KB1.out.size)⟩
end Go.Proofs.YtdpiplllcinieaaDoor

