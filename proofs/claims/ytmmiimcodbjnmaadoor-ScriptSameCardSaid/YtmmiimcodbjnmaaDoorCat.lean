/- slices.Grow at nil, slices.Concat of bytes. -/
import Derived.Test.YtmmiimcodbjnmaaDoorClone
namespace Go.Proofs.YtmmiimcodbjnmaaDoor
open Go.RowKit Go.Stop Go.Extern Go.Ranges Go.Rows2
set_option linter.unusedVariables false
set_option linter.unusedSimpArgs false
set_option maxRecDepth 20000 in
theorem grow_nil (N : Nat) (hN : N ≤ 1099511627776) (w : World) :
    Calls Tryd.prog 101 #[.slice none 0 0, .int .i64 N] w fun e w' => ∃ v, e = .returned v ∧ Below w.heap.size w w' ∧ w'.ownsRow w.heap.size 5 1 v 0 [] := by
  obtain ⟨it, j1, j2, j3, j4⟩ := of_row1 row5
  by_cases h0 : N = 0
  · subst h0
    go_enter Tryd.func101, Tryd.ntmps101
    go_wp2
    go_ret
    exact ⟨_, rfl, Below.refl _ _, World.ownsRow_nil _ _ _ _⟩
  · have hp : (0 : Int) < N := by omega
    have hn : ¬ ((N : Int) < 0) := by omega
    have hr := Lib.run_append_nil_zeros (P := Tryd.prog) w 34 3 34 5 it (.int .u8 0) .i64 .i64 Tryd.underlying34 Tryd.underlying3 j1 j2 N (by omega) (by omega) (by omega) (by rw [j4]; omega)
    go_enter Tryd.func101, Tryd.ntmps101
    go_wp2_with (at_builtin; go_loud (refine Lib.wpList_append_run _ rfl (.tmp 20) (.tmp 21) 34 3 rfl _ _ rfl rfl _ _ hr ?_))
    have hge := grownCap_ge w N 0 5
    have hle := grownCap_le_maxLen w N 0 5 (by unfold maxLen; omega)
    go_ret
    refine ⟨_, rfl, ((Below.refl _ w).alloc (Nat.le_refl _) _).drew, by simp, .inr ⟨w.heap.size, _, _, rfl, Nat.le_refl _, heap_alloc_last w _, Nat.zero_le _, hle, ?_, by simp⟩⟩
    simp [size_zeroCells]
    omega
set_option maxRecDepth 20000 in
theorem concat_any (A : Option Addr) (m c : Nat) (f : Nat → List Int) (w : World) (hP : PartsAt w A m f) (hL : (cat f m).length ≤ 549755813888) (hm : m ≤ maxLen) :
    Calls Tryd.prog 79 #[.slice A m c] w fun e w' => ∃ v, e = .returned v ∧ Below w.heap.size w w' ∧ w'.ownsRow w.heap.size 5 1 v (cat f m).length (bV (cat f m)) := by
  have KP := Lib.hid hP
  have hm2 : (m : Int) ≤ 9223372036854775807 := by have := hm; unfold maxLen at this; omega
  have hmono := Lib.hid (fun i (hi : i ≤ m) => cat_mono f hi)
  clear hP hm
  go_enter Tryd.func79, Tryd.ntmps79
  go_wp2_with fail
  go_loopw [11, 3] (fun x y wr => ∃ i : Nat, i ≤ m ∧ x = .int .i64 i ∧ y = .int .i64 ((cat f i).length : Nat) ∧ w = wr) (fun x _ _ => m - (intOf x).toNat)
  case atStart => exact ⟨0, Nat.zero_le _, rfl, rfl, rfl⟩
  case round =>
    obtain ⟨i, hi, rfl, rfl, rfl⟩ := hrel
    by_cases hlt : i < m
    · obtain ⟨b, o, rfl, _, hc⟩ := KP.out (by omega)
      obtain ⟨B, cc, h1, _⟩ := hc i hlt
      clear hc
      have hs := hmono.out (i + 1) hlt
      have hs1 : (cat f (i + 1)).length = (cat f i).length + (f i).length := by simp [cat]
      have hs2 : Hid ((cat f (i + 1)).length = (cat f i).length + (f i).length) := hs1
      have hb1 : ((cat f i).length : Int) + ((f i).length : Int) ≤ 9223372036854775807 := by omega
      have hb2 : ¬ (((cat f i).length : Int) + ((f i).length : Int) < 0) := by omega
      clear hs hs1
      go_wp2_with fail
      go_round
      case rel => exact ⟨i + 1, by omega, by go_num, by rw [hs2.out]; go_num, by first | rfl | trivial⟩
      case measure => simp [intOf]; omega
    · have hie : i = m := by omega
      subst hie
      have hgr := grow_nil (cat f i).length (by omega) w
      have KG := Lib.hid hgr
      clear hgr
      go_wp2_with (go_at_call 101; refine KG.out.mono ?_; rintro e w1 ⟨v1, rfl, hb1, ho1⟩)
      have KB := Lib.hid hb1
      have KO := Lib.hid ho1
      have hsz := hb1.size
      clear hb1 ho1
      go_loopw [27, 6] (fun x y wr => ∃ (j : Nat) (v : Value), j ≤ i ∧ x = .int .i64 j ∧ v = y ∧ Below wr.heap.size wr wr ∧ Below w.heap.size w wr ∧ wr.ownsRow w.heap.size 5 1 v (cat f j).length (bV (cat f j))) (fun x _ _ => i - (intOf x).toNat)
      case atStart => exact ⟨0, _, Nat.zero_le _, rfl, rfl, Below.refl _ _, KB.out, KO.out⟩
      case round =>
        obtain ⟨j, v, hj, rfl, rfl, _, hB, hO⟩ := hrel
        have HB := Lib.hid hB
        have HO := Lib.hid hO
        have hsz3 := hB.size
        clear hB hO
        by_cases hlt : j < i
        · obtain ⟨b, o, rfl, hbl, hc⟩ := KP.out (by omega)
          obtain ⟨B, cc, h1, h2⟩ := hc j hlt
          clear hc
          have h1' : wr.cell? ⟨b, o + j, none⟩ = some (.slice B (f j).length cc) := (HB.out.cell (p := ⟨b, o + j, none⟩) hbl).trans h1
          have hs := hmono.out (j + 1) hlt
          have hs1 : (cat f (j + 1)).length = (cat f j).length + (f j).length := by simp [cat]
          obtain ⟨v', w', hr, ho', hg'⟩ := app_bytes HO.out B (f j).length cc (f j) rfl (bytesIn_below' h2 HB.out) hsz3 (by omega)
          have ho2 : w'.ownsRow w.heap.size 5 1 v' (cat f (j + 1)).length (bV (cat f (j + 1))) := hs1 ▸ ho'
          have K2 := Lib.hid ho2
          have Kg := Lib.hid hg'
          clear ho2 hg' ho' h1 h2 hs hs1
          go_wp2_with (at_builtin; go_loud (refine Lib.wpList_append_run _ rfl (.tmp 31) (.tmp 32) 34 34 rfl _ _ rfl rfl _ _ hr ?_))
          go_round
          case rel => exact ⟨j + 1, _, by omega, by go_num, rfl, Below.refl _ _, HB.out.grown Kg.out hsz3 (fun k hk => (HO.out.lt k hk).1), K2.out⟩
          case measure => simp [intOf]; omega
        · have hje : j = i := by omega
          subst hje
          go_wp2_with fail
          go_ret
          exact ⟨v, rfl, HB.out, HO.out⟩
end Go.Proofs.YtmmiimcodbjnmaaDoor
