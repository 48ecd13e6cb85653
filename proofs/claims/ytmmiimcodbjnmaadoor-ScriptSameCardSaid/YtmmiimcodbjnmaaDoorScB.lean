/- script.laid: its first region, walked. -/
import Derived.Test.YtmmiimcodbjnmaaDoorScA
namespace Go.Proofs.YtmmiimcodbjnmaaDoor
open Go.RowKit Go.Stop Go.Extern Go.Ranges Go.Rows2
set_option linter.unusedVariables false
set_option linter.unusedSimpArgs false
set_option maxRecDepth 100000
/-- What holds behind the region. -/
def LaidE (V : World) (M : Sact) (C : Array Value) (g : Nat) (a : Act) (w : World) : Prop :=
  ∃ (x7 x8 x9 x10 x11 x12 x13 x14 x15 : Value) (g4 g5 g6 bt ct : Nat), a = laidF C g (.pointer (some ⟨g4, 0, none⟩)) (.pointer (some ⟨g5, 0, none⟩)) (.pointer (some ⟨g6, 0, none⟩)) x7 x8 x9 x10 x11 x12 x13 x14 x15 ∧
    Below V.heap.size V w ∧ BoxAt w g4 M.who (.slice none 0 0) ∧ BoxAt w g5 M.i (.slice none 0 0) ∧ BoxAt w g6 0 (.slice (some ⟨bt, 0, none⟩) M.repo.size ct) ∧ Lib.BytesIn w (some ⟨bt, 0, none⟩) M.repo.size (sB M.repo)
theorem laidE_of {V w : World} {M : Sact} {C : Array Value} {g : Nat} {L : Nat → Bool} {a : Act} (hI : LaidI V M C g L a w) (hL : ∀ i, i < 15 → L i = true) : LaidE V M C g a w := by
  obtain ⟨x4, x5, x6, x7, x8, x9, x10, x11, x12, x13, x14, x15, g4, g5, g6, bt, ct, rfl, h⟩ := hI
  obtain ⟨rfl, _, q4⟩ := h.h9 (hL 9 (by decide))
  obtain ⟨rfl, _, q5⟩ := h.h10 (hL 10 (by decide))
  obtain ⟨rfl, _, q6⟩ := h.h11 (hL 11 (by decide))
  rw [if_pos (hL 12 (by decide))] at q4
  rw [if_pos (hL 13 (by decide))] at q5
  rw [if_pos (hL 14 (by decide))] at q6
  exact ⟨x7, x8, x9, x10, x11, x12, x13, x14, x15, g4, g5, g6, bt, ct, rfl, h.bel, q4, q5, q6, (h.h8 (hL 8 (by decide))).2.2⟩
set_option maxHeartbeats 8000000 in
theorem laid_two (M : Sact) (hk : M.k = 2) (B K : Option Addr) (cb ck : Nat) (w : World) :
    Calls Tryd.prog 68 #[.agg (actA M B cb K ck)] w fun e w' => ∃ g, e = .returned (.tuple #[.string ⟨#[98]⟩, .slice (some ⟨g, 0, none⟩) 1 1]) ∧ BoxAt w' g M.i (.slice none 0 0) ∧ Below w.heap.size w w' := by
  obtain ⟨V, hV⟩ : ∃ V, V = w.alloc (.cells (actA M B cb K ck) 37) := ⟨_, rfl⟩
  have hV1 : V.heap[w.heap.size]? = some (.cells (actA M B cb K ck) 37 (0, 0)) := by rw [hV]; exact heap_alloc_last _ _
  have k0 : ∀ W, Below V.heap.size V W → W.cell? ⟨w.heap.size, 0, none⟩ = some (.int .i64 2) := fun W h => by rw [← hk]; exact (actCell hV1 h 0).trans rfl
  have k1 : ∀ W, Below V.heap.size V W → W.cell? ⟨w.heap.size, 1, none⟩ = some (.int .i64 M.who) := fun W h => (actCell hV1 h 1).trans rfl
  have k2 : ∀ W, Below V.heap.size V W → W.cell? ⟨w.heap.size, 2, none⟩ = some (.int .i64 M.i) := fun W h => (actCell hV1 h 2).trans rfl
  have k4 : ∀ W, Below V.heap.size V W → W.cell? ⟨w.heap.size, 4, none⟩ = some (.string M.repo) := fun W h => (actCell hV1 h 4).trans rfl
  have HVq := Lib.hid hV
  have HB0 := Lib.hid (show Below w.heap.size w V by rw [hV]; exact alloc_below _ _)
  clear hV hV1
  generalize actA M B cb K ck = C at *
  go_enter Tryd.func68, Tryd.ntmps68
  go_wp2_with fail
  rw [← HVq.out]
  refine Code.wp_mono (Q := fun e a W => e = .normal ∧ LaidE V M C w.heap.size a W) ?post (wp_region_inv (by kernel_rfl) (LaidI V M C w.heap.size) (by kernel_rfl) ?init ?step ?done)
  case init => exact ⟨undef, undef, undef, undef, undef, undef, undef, undef, undef, undef, undef, undef, 0, 0, 0, 0, 0, rfl, (Below.refl _ _).drew, (fun h => by cases h), (fun h => by cases h), (fun h => by cases h), (fun h => by cases h), (fun h => by cases h), (fun h => by cases h), (fun h => by cases h), (fun h => by cases h), (fun h => by cases h), (fun h => by cases h), (fun h => by cases h), (fun h => by cases h), (fun h => by cases h), (fun h => by cases h), (fun h => by cases h), (fun h => by cases h), (fun h => by cases h), (fun h => by cases h), (fun h => by cases h), (fun h => by cases h), (fun h => by cases h)⟩
  case done => exact fun L a W hI hL => ⟨rfl, laidE_of hI fun i hi => hL i hi⟩
  case step =>
    intro L a W i o hI ho hun hdep K hK
    obtain ⟨x4, x5, x6, x7, x8, x9, x10, x11, x12, x13, x14, x15, g4, g5, g6, bt, ct, rfl, h⟩ := hI
    have hi : i < 15 := (Array.getElem?_eq_some_iff.1 ho).1
    have hcs : i = 0 ∨ i = 1 ∨ i = 2 ∨ i = 3 ∨ i = 4 ∨ i = 5 ∨ i = 6 ∨ i = 7 ∨ i = 8 ∨ i = 9 ∨ i = 10 ∨ i = 11 ∨ i = 12 ∨ i = 13 ∨ i = 14 := by omega
    have hB := h.bel
    have c1 := k1 W hB
    have c2 := k2 W hB
    have c4 := k4 W hB
    clear k0 k1 k2 k4 hi
    unfold laidF
    rcases hcs with rfl | rfl | rfl | rfl | rfl | rfl | rfl | rfl | rfl | rfl | rfl | rfl | rfl | rfl | rfl
    · cases ho
      have H := Lib.hid (h.s0)
      have HK := Lib.hid hK
      clear h hK hdep
      go_simp
      exact HK.out.out _ _ ⟨_, _, _, _, _, _, _, _, _, _, _, _, _, _, _, _, _, rfl, H.out⟩
    · cases ho
      have e0 : L 0 = true := hdep ⟨0, .data⟩ (by simp) (by rfl)
      obtain rfl := h.h0 e0
      have H := Lib.hid (h.s1)
      have HK := Lib.hid hK
      clear h hK hdep
      go_simp
      exact HK.out.out _ _ ⟨_, _, _, _, _, _, _, _, _, _, _, _, _, _, _, _, _, rfl, H.out⟩
    · cases ho
      have e1 : L 1 = true := hdep ⟨1, .data⟩ (by simp) (by rfl)
      obtain rfl := h.h1 e1
      have H := Lib.hid h
      have HK := Lib.hid hK
      clear h hK hdep
      go_simp
      refine (mkNum_any _ _).mono ?_
      rintro e w2 ⟨rfl, hb2⟩
      have h2 := Lib.hid ((H.out.below hb2).s2)
      clear hb2
      go_wp2_with fail
      exact HK.out.out _ _ ⟨_, _, _, _, _, _, _, _, _, _, _, _, _, _, _, _, _, rfl, h2.out⟩
    · cases ho
      have H := Lib.hid (h.s3)
      have HK := Lib.hid hK
      clear h hK hdep
      go_simp
      exact HK.out.out _ _ ⟨_, _, _, _, _, _, _, _, _, _, _, _, _, _, _, _, _, rfl, H.out⟩
    · cases ho
      have e3 : L 3 = true := hdep ⟨3, .data⟩ (by simp) (by rfl)
      obtain rfl := h.h3 e3
      have H := Lib.hid (h.s4)
      have HK := Lib.hid hK
      clear h hK hdep
      go_simp
      exact HK.out.out _ _ ⟨_, _, _, _, _, _, _, _, _, _, _, _, _, _, _, _, _, rfl, H.out⟩
    · cases ho
      have e4 : L 4 = true := hdep ⟨4, .data⟩ (by simp) (by rfl)
      obtain rfl := h.h4 e4
      have H := Lib.hid h
      have HK := Lib.hid hK
      clear h hK hdep
      go_simp
      refine (mkNum_any _ _).mono ?_
      rintro e w2 ⟨rfl, hb2⟩
      have h2 := Lib.hid ((H.out.below hb2).s5)
      clear hb2
      go_wp2_with fail
      exact HK.out.out _ _ ⟨_, _, _, _, _, _, _, _, _, _, _, _, _, _, _, _, _, rfl, h2.out⟩
    · cases ho
      have H := Lib.hid (h.s6)
      have HK := Lib.hid hK
      clear h hK hdep
      go_simp
      exact HK.out.out _ _ ⟨_, _, _, _, _, _, _, _, _, _, _, _, _, _, _, _, _, rfl, H.out⟩
    · cases ho
      have e6 : L 6 = true := hdep ⟨6, .data⟩ (by simp) (by rfl)
      obtain rfl := h.h6 e6
      have H := Lib.hid (h.s7)
      have HK := Lib.hid hK
      clear h hK hdep
      go_simp
      exact HK.out.out _ _ ⟨_, _, _, _, _, _, _, _, _, _, _, _, _, _, _, _, _, rfl, H.out⟩
    · cases ho
      have e7 : L 7 = true := hdep ⟨7, .data⟩ (by simp) (by rfl)
      obtain rfl := h.h7 e7
      have H := Lib.hid h
      have HK := Lib.hid hK
      clear h hK hdep
      go_simp
      refine (mkText_at _ _).mono ?_
      rintro e w2 ⟨c', rfl, hz2, ht2, hb2⟩
      have h2 := Lib.hid (H.out.s8 (b' := W.heap.size + 1) (c' := c') hun hb2 (Nat.le_succ _) hz2 ht2)
      clear hb2 hz2 ht2
      go_wp2_with fail
      exact HK.out.out _ _ ⟨_, _, _, _, _, _, _, _, _, _, _, _, _, _, _, _, _, rfl, h2.out⟩
    · cases ho
      have H := Lib.hid (h.s9 hun)
      have HK := Lib.hid hK
      clear h hK hdep
      go_simp
      exact HK.out.out _ _ ⟨_, _, _, _, _, _, _, _, _, _, _, _, _, _, _, _, _, rfl, H.out⟩
    · cases ho
      have H := Lib.hid (h.s10 hun)
      have HK := Lib.hid hK
      clear h hK hdep
      go_simp
      exact HK.out.out _ _ ⟨_, _, _, _, _, _, _, _, _, _, _, _, _, _, _, _, _, rfl, H.out⟩
    · cases ho
      have H := Lib.hid (h.s11 hun)
      have HK := Lib.hid hK
      clear h hK hdep
      go_simp
      exact HK.out.out _ _ ⟨_, _, _, _, _, _, _, _, _, _, _, _, _, _, _, _, _, rfl, H.out⟩
    · cases ho
      have e9 : L 9 = true := hdep ⟨9, .data⟩ (by simp) (by rfl)
      have e2 : L 2 = true := hdep ⟨2, .data⟩ (by simp) (by rfl)
      obtain ⟨rfl, hv9, hx9⟩ := h.h9 e9
      obtain ⟨f0, f1, f2, f3⟩ := hx9.facts
      obtain rfl := h.h2 e2
      have H := Lib.hid (h.s12 e9)
      have HK := Lib.hid hK
      clear h hK hdep
      go_simp
      exact HK.out.out _ _ ⟨_, _, _, _, _, _, _, _, _, _, _, _, _, _, _, _, _, rfl, H.out⟩
    · cases ho
      have e10 : L 10 = true := hdep ⟨10, .data⟩ (by simp) (by rfl)
      have e5 : L 5 = true := hdep ⟨5, .data⟩ (by simp) (by rfl)
      obtain ⟨rfl, hv10, hx10⟩ := h.h10 e10
      obtain ⟨f0, f1, f2, f3⟩ := hx10.facts
      obtain rfl := h.h5 e5
      have H := Lib.hid (h.s13 e10)
      have HK := Lib.hid hK
      clear h hK hdep
      go_simp
      exact HK.out.out _ _ ⟨_, _, _, _, _, _, _, _, _, _, _, _, _, _, _, _, _, rfl, H.out⟩
    · cases ho
      have e11 : L 11 = true := hdep ⟨11, .data⟩ (by simp) (by rfl)
      have e8 : L 8 = true := hdep ⟨8, .data⟩ (by simp) (by rfl)
      obtain ⟨rfl, hv11, hx11⟩ := h.h11 e11
      obtain ⟨f0, f1, f2, f3⟩ := hx11.facts
      obtain ⟨rfl, hb8, ht8⟩ := h.h8 e8
      have H := Lib.hid (h.s14 e11 e8)
      have HK := Lib.hid hK
      clear h hK hdep
      go_simp
      exact HK.out.out _ _ ⟨_, _, _, _, _, _, _, _, _, _, _, _, _, _, _, _, _, rfl, H.out⟩
  case post =>
    rintro e a W ⟨rfl, x7, x8, x9, x10, x11, x12, x13, x14, x15, g4, g5, g6, bt, ct, rfl, hB, q4, q5, q6, qt⟩
    have c0 := k0 W hB
    obtain ⟨f0, f1, _, _⟩ := q5.facts
    have HB := Lib.hid (stepV HB0.out hB)
    have HQ5 := Lib.hid q5
    clear k0 k1 k2 k4 q4 q5 q6 qt hB
    unfold laidF
    go_wp2_with fail
    go_region
    all_goals
      go_wp2_with fail
      go_ret2
      exact ⟨_, rfl, heap_alloc_last _ _, stepV HB.out (stepV (Below.refl _ _).drew (alloc_below _ _))⟩
end Go.Proofs.YtmmiimcodbjnmaaDoor
