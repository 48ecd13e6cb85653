/- octets: field. -/
import Derived.Test.YtmmiimcodbjnmaaDoorOctC
import Derived.Deep.RegionHeld3
namespace Go.Proofs.YtmmiimcodbjnmaaDoor
open Go.RowKit Go.Stop Go.Extern Go.Ranges Go.Rows2
set_option linter.unusedVariables false
set_option linter.unusedSimpArgs false
set_option maxRecDepth 20000
theorem ne_byte {c d : UInt8} {n : Nat} (hd : d.toNat = n) (h : ¬ c = d) : ¬ ((c.toNat : Int) = (n : Int)) := fun e => h (UInt8.toNat_inj.1 (by omega))
/-- What a field's bytes are in memory. -/
def FieldEnd (w : World) (l : List Int) (e : Ending) (w' : World) : Prop := ∃ A c, e = .returned (.tuple #[.slice A l.length c, .nilIface]) ∧ Lib.BytesIn w' A l.length l ∧ Below w.heap.size w w'
theorem keepV {V W : World} {p : Addr} {x : Value} (hp : p.block < V.heap.size) (hc : V.cell? p = some x) (hb : Below V.heap.size V W) : W.cell? p = some x ∧ Below V.heap.size V W := ⟨(hb.cell hp).trans hc, hb⟩
theorem stepV {w w1 w2 : World} (h : Below w.heap.size w w1) (h2 : Below w1.heap.size w1 w2) : Below w.heap.size w w2 := h.trans (h2.mono h.size)
theorem concat_two (T : TypeId) {w : World} {A1 A2 : Option Addr} {c1 c2 n1 : Nat} {D B : List Int} (hn : D.length = n1) (h1 : Lib.BytesIn w A1 n1 D) (h2 : Lib.BytesIn w A2 B.length B) (hL : D.length + B.length ≤ 549755813888) :
    Calls Tryd.prog 79 #[.slice (some ⟨w.heap.size, 0, none⟩) 2 2] (w.alloc (.cells #[.slice A1 n1 c1, .slice A2 B.length c2] T)) fun e w' => ∃ A c m, Hid (m = (D ++ B).length) ∧ e = .returned (.slice A m c) ∧ Lib.BytesIn w' A m (D ++ B) ∧ Below w.heap.size w w' := by
  subst hn
  have ha := alloc_below w (.cells #[.slice A1 D.length c1, .slice A2 B.length c2] T)
  have hcat : cat (fun i => if i = 0 then D else B) 2 = D ++ B := by simp [cat]
  have hP : PartsAt (w.alloc (.cells #[.slice A1 D.length c1, .slice A2 B.length c2] T)) (some ⟨w.heap.size, 0, none⟩) 2 (fun i => if i = 0 then D else B) := fun _ =>
    ⟨w.heap.size, 0, rfl, by simp, fun i hi => by
      have : i = 0 ∨ i = 1 := by omega
      rcases this with rfl | rfl
      · exact ⟨A1, c1, (cell_of_row _ _ _ _ _ _ (heap_alloc_last w _)).trans rfl, bytesIn_below' h1 ha⟩
      · exact ⟨A2, c2, (cell_of_row _ _ _ _ _ _ (heap_alloc_last w _)).trans rfl, bytesIn_below' h2 ha⟩⟩
  refine (concat_any (some ⟨w.heap.size, 0, none⟩) 2 2 _ _ hP (by rw [hcat]; simpa using hL) (by decide)).mono ?_
  rintro e w' ⟨v, rfl, hb, ho⟩
  rw [hcat] at ho
  obtain ⟨A, c, rfl⟩ := own_slice ho
  exact ⟨A, c, _, Lib.hid rfl, rfl, own_bytes ho, ha.trans (hb.mono ha.size)⟩
set_option maxHeartbeats 2000000 in
theorem ocField_ok (c : UInt8) (N : Int) (B : List Int) (A : Option Addr) (cc : Nat) (w : World) (hB : Lib.BytesIn w A B.length B) (hf : ocFit c N B = true) :
    Calls Tryd.prog 53 #[.int .u8 c.toNat, .agg #[.int .i64 N, .slice A B.length cc]] w (FieldEnd w (ocB c N B)) := by
  by_cases hs : 0 < ocSize c
  · have e1 : ocB c N B = ocNum (ocSize c) N := by unfold ocB; rw [if_pos hs]
    have e2 : 0 ≤ N ∧ N ≤ ocMost c := by
      unfold ocFit at hf
      rw [if_pos hs] at hf
      simpa using hf
    have hs' : (0 : Int) < (ocSize c : Int) := by omega
    have n1 : ¬ N < 0 := by omega
    have n2 : ¬ ocMost c < N := by omega
    have hsl := ocSize_le c
    have hN0 := e2.1
    have hw := Lib.hid (fun W => ocWide_any c W)
    have hn := Lib.hid (fun W => ocNumber_any N (ocSize c) hsl hN0 W)
    rw [e1]
    generalize ocSize c = s at *
    generalize ocMost c = M at *
    clear e1 e2 hf hs hB
    go_enter Tryd.func53, Tryd.ntmps53
    go_wp2_with (first
      | (go_at_call 77
         refine (hw.out _).mono ?_
         rintro e w' ⟨rfl, rfl⟩)
      | (go_at_call 78
         refine (hn.out _).mono ?_
         rintro e w2 ⟨v, rfl, hb2, ho2⟩
         have HB2 := Lib.hid hb2
         have HO2 := Lib.hid ho2
         clear hb2 ho2))
    go_ret2
    obtain ⟨A2, c2, hv⟩ := own_slice HO2.out
    subst hv
    refine ⟨A2, c2, by rw [ocNum_len]; rfl, ?_, (alloc_below _ _).trans (HB2.out.mono (by simp))⟩
    rw [ocNum_len]
    exact own_bytes HO2.out
  · have e0 : ocSize c = 0 := by omega
    have hw := Lib.hid (fun W => ocWide_any c W)
    unfold ocFit at hf
    rw [if_neg hs] at hf
    rw [e0] at hw
    by_cases ho : c = 111
    · have e1 : ocB c N B = B := by unfold ocB; rw [if_neg hs, if_pos ho]
      rw [e1]
      have hl : B.length = 32 := by
        have : B.length = 32 ∧ B.length ≤ 65535 := by simpa [ho] using hf
        exact this.1
      subst ho
      have HB := Lib.hid hB
      generalize ocMost 111 = M at *
      clear hf hs e0 e1 hB
      rw [hl]
      have Hl := Lib.hid hl
      clear hl
      go_enter Tryd.func53, Tryd.ntmps53
      go_wp2_with (first
        | (go_at_call 77
           refine (hw.out _).mono ?_
           rintro e w' ⟨rfl, rfl⟩))
      go_ret2
      refine ⟨A, cc, by rw [Hl.out]; rfl, bytesIn_below' HB.out (alloc_below _ _), alloc_below _ _⟩
    · have e1 : ocB c N B = ocNum 2 (B.length : Int) ++ B := by unfold ocB; rw [if_neg hs, if_neg ho]
      rw [e1]
      have hl : B.length ≤ 65535 := by
        have : (c == 111) = false := by simpa using ho
        simpa [this] using hf
      have hoc := ne_byte (d := 111) rfl ho
      have HB := Lib.hid hB
      have hl1 : ¬ (65535 : Int) < (B.length : Int) := by omega
      generalize ocMost c = M at *
      clear hf hs e0 e1 hB ho
      have hn := Lib.hid (fun W => ocNumber_any (B.length : Int) 2 (by decide) (by omega) W)
      have hlN := Lib.hid (ocNum_len 2 (B.length : Int))
      obtain ⟨D, hD⟩ : ∃ D, D = ocNum 2 (B.length : Int) := ⟨_, rfl⟩
      rw [← hD] at hn hlN ⊢
      clear hD
      go_enter Tryd.func53, Tryd.ntmps53
      go_wp2_with (first
        | (go_at_call 77
           refine (hw.out _).mono ?_
           rintro e w' ⟨rfl, rfl⟩))
      have hVc : (w.alloc (.cells #[.int .i64 N, .slice A B.length cc] 60)).cell? ⟨w.heap.size, 1, none⟩ = some (.slice A B.length cc) := (cell_of_row _ _ _ _ _ _ (heap_alloc_last w _)).trans rfl
      have hVb := alloc_below w (.cells #[.int .i64 N, .slice A B.length cc] 60)
      have hVl : w.heap.size < (w.alloc (.cells #[.int .i64 N, .slice A B.length cc] 60)).heap.size := by simp
      generalize w.alloc (.cells #[.int .i64 N, .slice A B.length cc] 60) = V at *
      have HVb := Lib.hid hVb
      clear hVb
      go_region_held3 (fun w' => w'.cell? ⟨w.heap.size, 1, none⟩ = some (.slice A B.length cc) ∧ Below V.heap.size V w')
        (first
          | exact keepV hVl hVc (Below.refl _ _)
          | exact keepV hVl hVc (Below.refl _ _).drew
          | exact keepV hVl hVc (stepV (And.right (by assumption)) (by assumption))
          | exact keepV hVl hVc (stepV (And.right (by assumption)) (alloc_below _ _))
          | exact keepV hVl hVc (stepV (stepV (Below.refl _ _).drew hb2) hb3)
          | exact keepV hVl hVc (stepV (stepV (Below.refl _ _).drew (by assumption)) (by assumption))
          | assumption)
        (first
          | (go_at_call 78; refine (hn.out _).mono ?_; rintro e w2 ⟨v, rfl, hb2, ho2⟩; obtain ⟨A2, c2, rfl⟩ := own_slice ho2)
          | (go_at_call 79; refine (concat_two _ hlN.out (own_bytes ho2) (bytesIn_below' HB.out (stepV HVb.out (stepV (Below.refl _ _).drew hb2))) (by rw [hlN.out]; omega)).mono ?_; rintro e w3 ⟨A3, c3, m3, hm3, rfl, hB3, hb3⟩))
      go_wp2_with fail
      go_ret2
      have hm4 := hm3.out
      subst hm4
      exact ⟨A3, c3, rfl, hB3, stepV HVb.out (stepV (stepV (Below.refl _ _).drew hb2) hb3)⟩
theorem ocField_no (c : UInt8) (N : Int) (B : List Int) (A : Option Addr) (cc : Nat) (a : Nat → Addr) (w : World) (H : ErrC w a 1) (hk : ocKnown c = true) (hf : ocFit c N B = false) :
    Calls Tryd.prog 53 #[.int .u8 c.toNat, .agg #[.int .i64 N, .slice A B.length cc]] w fun e w' => e = .returned (.tuple #[.slice none 0 0, .iface 199 (.pointer (some (a 1)))]) ∧ Below w.heap.size w w' := by
  have e1 : w.cell? ⟨3, 0, none⟩ = _ := H
  have hlt := World.block_lt_of_cell? w _ e1
  have hw := Lib.hid (fun W => ocWide_any c W)
  by_cases hs : 0 < ocSize c
  · unfold ocFit at hf
    rw [if_pos hs] at hf
    have hs' : (0 : Int) < (ocSize c : Int) := by omega
    have h2 : N < 0 ∨ (¬ N < 0 ∧ ocMost c < N) := by
      by_cases h0 : N < 0
      · exact .inl h0
      · refine .inr ⟨h0, ?_⟩
        have h1 : decide (0 ≤ N) = true := decide_eq_true (by omega)
        rw [h1, Bool.true_and] at hf
        have := of_decide_eq_false hf
        omega
    generalize ocSize c = s at *
    generalize ocMost c = M at *
    clear hf hs H
    rcases h2 with h2 | ⟨h2, h3⟩
    · go_enter Tryd.func53, Tryd.ntmps53
      go_wp2_with (first
        | (go_at_call 77
           refine (hw.out _).mono ?_
           rintro e w' ⟨rfl, rfl⟩))
      go_quiet (fail)
      go_wp2
      go_ret2
      exact ⟨rfl, (alloc_below _ _).trans (Below.mono (below_drewN _ _) (by simp))⟩
    · go_enter Tryd.func53, Tryd.ntmps53
      go_wp2_with (first
        | (go_at_call 77
           refine (hw.out _).mono ?_
           rintro e w' ⟨rfl, rfl⟩))
      go_quiet (fail)
      go_wp2
      go_ret2
      exact ⟨rfl, (alloc_below _ _).trans (Below.mono (below_drewN _ _) (by simp))⟩
  · have e0 : ocSize c = 0 := by omega
    unfold ocFit at hf
    rw [if_neg hs] at hf
    rw [e0] at hw
    generalize ocMost c = M at *
    clear e0 hs H
    by_cases ho : c = 111
    · subst ho
      by_cases hl : B.length = 32
      · exfalso; simp [hl] at hf
      · have hl1 : ¬ (B.length : Int) = 32 := by omega
        clear hf hk
        go_enter Tryd.func53, Tryd.ntmps53
        go_wp2_with (first
          | (go_at_call 77
             refine (hw.out _).mono ?_
             rintro e w' ⟨rfl, rfl⟩))
        go_quiet (fail)
        go_wp2
        go_ret2
        exact ⟨rfl, (alloc_below _ _).trans (Below.mono (below_drewN _ _) (by simp))⟩
    · have hl1 : (65535 : Int) < (B.length : Int) := by
        have : (c == 111) = false := by simpa using ho
        rw [this] at hf
        simp at hf
        omega
      have hoc := ne_byte (d := 111) rfl ho
      clear hf hk ho
      go_enter Tryd.func53, Tryd.ntmps53
      go_wp2_with (first
        | (go_at_call 77
           refine (hw.out _).mono ?_
           rintro e w' ⟨rfl, rfl⟩))
      go_quiet (fail)
      go_wp2
      go_ret2
      exact ⟨rfl, (alloc_below _ _).trans (Below.mono (below_drewN _ _) (by simp))⟩
end Go.Proofs.YtmmiimcodbjnmaaDoor
