/- octets, reading by a shape that has a letter that is none. -/
import Derived.Test.YtmmiimcodbjnmaaDoorRdH
import Derived.Test.YtmmiimcodbjnmaaDoorRfD
namespace Go.Proofs.YtmmiimcodbjnmaaDoor
open Go.RowKit Go.Stop Go.Extern Go.Ranges Go.Rows2
set_option linter.unusedVariables false
set_option linter.unusedSimpArgs false
set_option maxRecDepth 20000
theorem rest_no (A : Option Addr) (n c : Nat) (s : ByteArray) (a : Nat → Addr) (w : World) (hE : ErrC w a 7) (hs : s.size ≤ 100000) (hk : s.data.toList.all ocKnown = false) :
    Calls Tryd.prog 24 #[.string s, .slice A n c] w fun e w' => e = .returned (.tuple #[.slice none 0 0, .slice none 0 0, errV a 7]) ∧ Below w.heap.size w w' := by
  have b0 := alloc_below w (.cells #[.string s] 9)
  have hE0 := hE.below b0
  have hka := fun W => ocKnown_any s W (by unfold maxLen; omega)
  rw [hk] at hka
  clear hE
  go_enter Tryd.func24, Tryd.ntmps24
  go_wp2_with fail
  refine (hka _).mono ?_
  rintro e w1 ⟨rfl, hb1⟩
  have hE1 := hE0.below hb1
  have HB := Lib.hid (stepV b0 hb1)
  simp only [ErrC, gErr] at hE1
  clear hb1 hka hE0 b0
  go_wp2_with fail
  first
    | (go_ret3; exact ⟨rfl, HB.out⟩)
    | (go_quiet (fail)
       go_wp2_with fail
       go_ret3
       exact ⟨rfl, stepV HB.out (below_drewN _ _)⟩)
theorem read_no (A : Option Addr) (n c : Nat) (s : ByteArray) (a : Nat → Addr) (w : World) (hE : ErrC w a 7) (hs : s.size ≤ 100000) (hk : s.data.toList.all ocKnown = false) :
    Calls Tryd.prog 34 #[.string s, .slice A n c] w fun e w' => e = .returned (.tuple #[.slice none 0 0, errV a 7]) ∧ Below w.heap.size w w' := by
  have K := Lib.hid (rest_no A n c s a w hE hs hk)
  have hev : errV a 7 = .iface 199 (.pointer (some (a 7))) := rfl
  rw [hev] at K ⊢
  clear hE
  go_enter Tryd.func34, Tryd.ntmps34
  go_wp2_with fail
  refine K.out.mono ?_
  rintro e w1 ⟨rfl, hb⟩
  have HB := Lib.hid hb
  clear hb K hev
  go_wp2_with fail
  first
    | (go_ret2; exact ⟨rfl, HB.out⟩)
    | (go_quiet (fail)
       go_wp2_with fail
       go_ret2
       exact ⟨rfl, stepV HB.out (below_drewN _ _)⟩)
theorem known02_no (s : ByteArray) (w : World) (hs : s.size ≤ 100000) (hk : s.data.toList.all ocKnown = false) : Calls Tryd.prog 59 #[.string s] w fun e w' => e = .returned (.bool false) ∧ w = w' := by
  have HK := Lib.hid hk
  clear hk
  go_enter Tryd.func59, Tryd.ntmps59
  go_wp2_with fail
  go_loop [3] (fun i => ∃ k : Nat, k ≤ s.size ∧ i = .int .i64 k ∧ ∀ j, j < k → ocKnown (s.data.toList.getD j 0) = true) (fun i => s.size - (intOf i).toNat)
  case atStart => exact ⟨0, Nat.zero_le _, rfl, fun j hj => absurd hj (Nat.not_lt_zero j)⟩
  case round =>
    obtain ⟨k, hk, rfl, hal⟩ := hrel
    have HA := Lib.hid hal
    clear hal
    by_cases hlt : k < s.size
    · have hd : decide ((k : Int) < (s.size : Int)) = true := by simp; omega
      have KS := Lib.hid (size02_any (s.data.toList.getD k 0) w)
      have hat := Lib.hid (at_u8 s k hlt)
      by_cases hkc : ocKnown (s.data.toList.getD k 0) = true
      · have HKC := Lib.hid hkc
        rw [rfSize_known hkc] at KS
        clear hkc
        go_wp2_with fail
        rw [hat.out]
        refine KS.out.mono ?_
        rintro e w1 ⟨rfl, rfl⟩
        go_wp2_with fail
        go_round
        case rel => exact ⟨k + 1, by omega, by go_num, fun j hj => by
          by_cases e : j = k
          · subst e; exact HKC.out
          · exact HA.out j (by omega)⟩
        case measure => simp [intOf]; omega
      · rw [rfSize_neg (by simpa using hkc)] at KS
        clear hkc
        go_wp2_with fail
        rw [hat.out]
        refine KS.out.mono ?_
        rintro e w1 ⟨rfl, rfl⟩
        go_wp2_with fail
        go_ret
        exact ⟨rfl, rfl⟩
    · exfalso
      have : s.data.toList.all ocKnown = true := List.all_eq_true.2 fun c hc => by
        obtain ⟨j, hj, e⟩ := List.getElem_of_mem hc
        have h1 := HA.out j (by have : s.data.toList.length = s.size := by simp
                                omega)
        rw [List.getD_eq_getElem?_getD, List.getElem?_eq_getElem hj, e] at h1
        exact h1
      rw [HK.out] at this
      cases this
theorem rest02_no (A : Option Addr) (n c : Nat) (s : ByteArray) (w : World) (hs : s.size ≤ 100000) (hk : s.data.toList.all ocKnown = false) :
    Calls Tryd.prog 28 #[.string s, .slice A n c] w fun e w' => e = .returned (.tuple #[.slice none 0 0, .slice none 0 0, .int .i64 7]) ∧ Below w.heap.size w w' := by
  have K := Lib.hid (known02_no s w hs hk)
  clear hk
  go_enter Tryd.func28, Tryd.ntmps28
  go_wp2_with fail
  refine K.out.mono ?_
  rintro e w1 ⟨rfl, rfl⟩
  go_wp2_with fail
  exact bodyPost_ret (v := .tuple #[.slice none 0 0, .slice none 0 0, .int .i64 7]) (by simp [results, Tryd.results28, go_sem]) rfl ⟨rfl, Below.refl _ _⟩
end Go.Proofs.YtmmiimcodbjnmaaDoor
