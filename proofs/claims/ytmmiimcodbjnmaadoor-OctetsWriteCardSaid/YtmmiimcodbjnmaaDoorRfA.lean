/- octets, the reference: letters. -/
import Derived.Test.YtmmiimcodbjnmaaDoorRdE
namespace Go.Proofs.YtmmiimcodbjnmaaDoor
open Go.RowKit Go.Stop Go.Extern Go.Ranges Go.Rows2
set_option linter.unusedVariables false
set_option linter.unusedSimpArgs false
set_option maxRecDepth 20000
/-- The reference's size of a letter. -/
def rfSize (c : UInt8) : Int := if 0 < ocSize c then (ocSize c : Int) else if c = 111 ∨ c = 116 then 0 else -1
theorem rfSize_known {c : UInt8} (h : ocKnown c = true) : rfSize c = (ocSize c : Int) := by
  unfold rfSize
  by_cases h1 : 0 < ocSize c
  · rw [if_pos h1]
  · rw [if_neg h1]
    have h0 : ocSize c = 0 := by omega
    rw [h0, if_pos]
    · rfl
    · unfold ocKnown at h
      unfold ocSize at h0
      by_cases e1 : c = 98
      · rw [if_pos e1] at h0; cases h0
      · by_cases e2 : c = 119
        · rw [if_neg e1, if_pos e2] at h0; cases h0
        · by_cases e3 : c = 113
          · rw [if_neg e1, if_neg e2, if_pos e3] at h0; cases h0
          · simp [e1, e2, e3] at h
            exact h
theorem rfSize_neg {c : UInt8} (h : ocKnown c = false) : rfSize c = -1 := by
  unfold ocKnown at h
  simp only [Bool.or_eq_false_iff, beq_eq_false_iff_ne, ne_eq] at h
  obtain ⟨⟨⟨⟨h1, h2⟩, h3⟩, h4⟩, h5⟩ := h
  unfold rfSize ocSize
  rw [if_neg h1, if_neg h2, if_neg h3, if_neg (by decide), if_neg (by rintro (e | e); exact h4 e; exact h5 e)]
theorem size02_any (c : UInt8) (w : World) : Calls Tryd.prog 60 #[.int .u8 c.toNat] w fun e w' => e = .returned (.int .i64 (rfSize c)) ∧ w = w' := by
  by_cases h1 : c = 98
  · subst h1
    go_enter Tryd.func60, Tryd.ntmps60
    go_wp2
    go_ret
    exact ⟨rfl, rfl⟩
  · by_cases h2 : c = 119
    · subst h2
      go_enter Tryd.func60, Tryd.ntmps60
      go_wp2
      go_ret
      exact ⟨rfl, rfl⟩
    · by_cases h3 : c = 113
      · subst h3
        go_enter Tryd.func60, Tryd.ntmps60
        go_wp2
        go_ret
        exact ⟨rfl, rfl⟩
      · by_cases h4 : c = 111
        · subst h4
          go_enter Tryd.func60, Tryd.ntmps60
          go_wp2
          go_ret
          exact ⟨rfl, rfl⟩
        · by_cases h5 : c = 116
          · subst h5
            go_enter Tryd.func60, Tryd.ntmps60
            go_wp2
            go_ret
            exact ⟨rfl, rfl⟩
          · have hk : ocKnown c = false := by unfold ocKnown; simp [h1, h2, h3, h4, h5]
            have nb : ∀ (d : UInt8), c ≠ d → ((c.toNat : Int) == (d.toNat : Int)) = false := fun d hd => by
              have : c.toNat ≠ d.toNat := fun e => hd (UInt8.toNat_inj.1 e)
              rw [beq_eq_false_iff_ne]; omega
            have n1 : ((c.toNat : Int) == 98) = false := nb 98 h1
            have n2 : ((c.toNat : Int) == 119) = false := nb 119 h2
            have n3 : ((c.toNat : Int) == 113) = false := nb 113 h3
            have n4 : ((c.toNat : Int) == 111) = false := nb 111 h4
            have n5 : ((c.toNat : Int) == 116) = false := nb 116 h5
            rw [rfSize_neg hk]
            clear h1 h2 h3 h4 h5 hk nb
            go_enter Tryd.func60, Tryd.ntmps60
            go_wp2
            go_ret
            exact ⟨rfl, rfl⟩
theorem at_u8 (s : ByteArray) (k : Nat) (h : k < s.size) : s[k] = s.data.toList.getD k 0 := by
  have h2 : k < s.data.toList.length := by simpa using h
  rw [List.getD_eq_getElem?_getD, List.getElem?_eq_getElem h2]
  rfl
theorem known02_any (s : ByteArray) (w : World) (hs : s.size ≤ 100000) (hk : s.data.toList.all ocKnown = true) : Calls Tryd.prog 59 #[.string s] w fun e w' => e = .returned (.bool true) ∧ w = w' := by
  have HK := Lib.hid hk
  clear hk
  go_enter Tryd.func59, Tryd.ntmps59
  go_wp2_with fail
  go_loop [3] (fun i => ∃ k : Nat, k ≤ s.size ∧ i = .int .i64 k) (fun i => s.size - (intOf i).toNat)
  case atStart => exact ⟨0, Nat.zero_le _, rfl⟩
  case round =>
    obtain ⟨k, hk, rfl⟩ := hrel
    by_cases hlt : k < s.size
    · have hd : decide ((k : Int) < (s.size : Int)) = true := by simp; omega
      have hkc : ocKnown (s.data.toList.getD k 0) = true := by
        have := List.all_eq_true.1 HK.out (s.data.toList.getD k 0) (by
          rw [List.getD_eq_getElem?_getD, List.getElem?_eq_getElem (by simpa using hlt)]
          exact List.getElem_mem _)
        exact this
      have KS := Lib.hid (size02_any (s.data.toList.getD k 0) w)
      rw [rfSize_known hkc] at KS
      have hat := Lib.hid (at_u8 s k hlt)
      clear hkc
      go_wp2_with fail
      rw [hat.out]
      refine KS.out.mono ?_
      rintro e w1 ⟨rfl, rfl⟩
      go_wp2_with fail
      go_round
      case rel => exact ⟨k + 1, by omega, by go_num⟩
      case measure => simp [intOf]; omega
    · have hd : decide ((k : Int) < (s.size : Int)) = false := by simp; omega
      go_wp2_with fail
      go_ret
      exact ⟨rfl, rfl⟩
end Go.Proofs.YtmmiimcodbjnmaaDoor
