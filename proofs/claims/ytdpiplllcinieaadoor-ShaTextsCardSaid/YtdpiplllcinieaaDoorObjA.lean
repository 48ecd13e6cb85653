import Derived.Test.YtdpiplllcinieaaDoorRows
import Derived.WalkKit
import Derived.WalkSpells
import Derived.WalkLawsBesides
import Derived.Laws.Externs
import Derived.Lib.Hide
import Derived.Deep.Light
import Derived.BigQuiet
import Derived.Deep.QuietTactic
import Derived.Deep.RegionWith
import Derived.BigRegion
import Derived.Lib.SlBytesConst
import Derived.Test.YtdpiplllcinieaaDoorArrEq
import Derived.Test.YtdpiplllcinieaaDoorRanges
import Derived.KernelRfl
import Derived.Laws.BytesArg
namespace Go.Proofs.YtdpiplllcinieaaDoor
open Go.RowKit Go.Stop Go.Extern Go.Ranges
set_option linter.unusedVariables false
set_option linter.unusedSimpArgs false
theorem ba {a w : World} (h : Below a.heap.size a w) (o : Obj) : Below a.heap.size a (w.alloc o) := h.alloc h.size o
theorem bd {a w : World} (h : Below a.heap.size a w) : Below a.heap.size a w.drew := h.drew
theorem bs {a w : World} (h : Below a.heap.size a w) {p : Addr} (hp : a.heap.size ≤ p.block) (u : Value) : Below a.heap.size a (w.setCell p u) := h.setCell hp u
theorem info5 : ∃ i, Tryd.prog.info? 5 = some i := Option.isSome_iff_exists.1 (by kernel_rfl)
theorem eq25 (d : Nat) (w : World) (xs ys : Array Value) (hx : ArrEq.u8s 32 xs = true) (hy : ArrEq.u8s 32 ys = true) : (Op.equalIn (d + 2) 25 (.agg xs) (.agg ys)).run Tryd.prog w = .ok (ArrEq.arrEq 32 xs ys) w :=
  ArrEq.run_equalIn_bytes (P := Tryd.prog) w Tryd.underlying25 info5.choose_spec Tryd.underlying5 (by kernel_rfl) (by kernel_rfl) hx hy
theorem ld25 (w : World) (b o : Nat) (h : hasRange w b o 32 = true) : (loadVar 25 ⟨b, o, none⟩).run Tryd.prog w = .ok (.agg (rangeOf w b o 32)) w :=
  var_range 32 Tryd.underlying25 rfl (by kernel_rfl) w b o h
theorem ld28 (w : World) (b o : Nat) (h : hasRange w b o 36 = true) : (loadVar 28 ⟨b, o, none⟩).run Tryd.prog w = .ok (.agg (rangeOf w b o 36)) w :=
  var_range 36 Tryd.underlying28 rfl (by kernel_rfl) w b o h
theorem st25 (w : World) (C C' : Array Value) (g : Nat) (hg : g = w.heap.size) (h1 : C.size = 32) (h2 : C'.size = 32) (h3 : ones C' = true) :
    (storeVar 25 ⟨g, 0, none⟩ (.agg C')).run Tryd.prog (w.alloc (.cells C 25)) = .ok () (w.alloc (.cells C' 25)) :=
  var_new 32 (by kernel_rfl) w C C' g hg h1 h2 h3
/-- The id of noughts. -/
def zero32 : Array Value := #[.int .u8 0, .int .u8 0, .int .u8 0, .int .u8 0, .int .u8 0, .int .u8 0, .int .u8 0, .int .u8 0, .int .u8 0, .int .u8 0, .int .u8 0, .int .u8 0, .int .u8 0, .int .u8 0, .int .u8 0, .int .u8 0, .int .u8 0, .int .u8 0, .int .u8 0, .int .u8 0, .int .u8 0, .int .u8 0, .int .u8 0, .int .u8 0, .int .u8 0, .int .u8 0, .int .u8 0, .int .u8 0, .int .u8 0, .int .u8 0, .int .u8 0, .int .u8 0]
theorem zero_lit : (#[.int .u8 0, .int .u8 0, .int .u8 0, .int .u8 0, .int .u8 0, .int .u8 0, .int .u8 0, .int .u8 0, .int .u8 0, .int .u8 0, .int .u8 0, .int .u8 0, .int .u8 0, .int .u8 0, .int .u8 0, .int .u8 0, .int .u8 0, .int .u8 0, .int .u8 0, .int .u8 0, .int .u8 0, .int .u8 0, .int .u8 0, .int .u8 0, .int .u8 0, .int .u8 0, .int .u8 0, .int .u8 0, .int .u8 0, .int .u8 0, .int .u8 0, .int .u8 0] : Array Value) = zero32 := Eq.trans rfl rfl
theorem zero_size : zero32.size = 32 := Eq.trans rfl rfl
theorem extract_all (C : Array Value) (n : Nat) (h : C.size = n) : C.extract 0 n = C := by subst h; simp
theorem zero_ext : zero32.extract 0 32 = zero32 := extract_all _ _ zero_size
theorem zero_same : ArrEq.arrEq 32 zero32 zero32 = true := by decide +kernel
theorem zero_u8 : ArrEq.u8s 32 zero32 = true := by decide +kernel
theorem zero_one : ones zero32 = true := by decide +kernel
theorem zero_some : ¬ zero32 = #[] := by decide +kernel
attribute [-go_sem] loadVar storeVar
attribute [local go_sem] zero_ext zero_same zero_lit zero_size zero_u8 zero_one zero_some
attribute [local go_sem] loadVar_one storeVar_one
/-- A blob without an id's bytes, its text in a slice. -/
structure Blob (C : Array Value) (A : Option Addr) (n c : Nat) : Prop where
  size : C.size = 36
  kind : C[0]? = some (.int .i64 1)
  text : C[1]? = some (.slice A n c)
  ents : C[2]? = some (.slice none 0 0)
  targ : C.extract 3 35 = zero32
  pars : C[35]? = some (.slice none 0 0)
set_option maxRecDepth 20000 in
theorem own_blob (C : Array Value) (A : Option Addr) (n c : Nat) (H : Blob C A n c) (w : World) :
    Calls Tryd.prog 57 #[.agg C] w fun x w' => x = .returned (.bool true) ∧ Below w.heap.size w w' := by
  have hC : 35 ≤ C.size := by rw [H.size]; decide
  obtain ⟨hs, h0, h1, h2, h3, h4⟩ := H
  clear hs
  have e25 := eq25 9998
  have l25 := ld25
  have s25 := st25
  go_enter Tryd.func57, Tryd.ntmps57
  go_wp2_with fail
  go_ret
  exact ⟨rfl, by repeat (first | exact Below.refl _ _ | apply bd | apply ba)⟩
set_option maxRecDepth 20000 in
theorem laid_blob (C : Array Value) (g n c : Nat) (x : Int) (H : Blob C (some ⟨g, 0, none⟩) 1 1) (w : World) (hc : w.cell? ⟨g, 0, none⟩ = some (.int .u8 x)) (hg : g < w.heap.size) :
    Calls Tryd.prog 56 #[.agg C] w fun v w' => ∃ g' c, v = .returned (.slice (some ⟨g', 0, none⟩) 2 c) ∧ w'.cell? ⟨g', 0, none⟩ = some (.int .u8 98) ∧ w'.cell? ⟨g', 1, none⟩ = some (.int .u8 x) ∧ Below w.heap.size w w' ∧ w.heap.size ≤ g' := by
  obtain ⟨hs, h0, h1, h2, h3, h4⟩ := H
  clear hs
  go_enter Tryd.func56, Tryd.ntmps56
  go_wp2_with fail
  go_ret
  refine ⟨_, _, rfl, ?_, ?_, ?_, ?_⟩
  · rw [World.cell?_drew]; simp [go_sem]; rw [Array.getElem?_append_left (by simp)]; rfl
  · rw [World.cell?_drew]; simp [go_sem]; rw [Array.getElem?_append_left (by simp)]; rfl
  · repeat (first | exact Below.refl _ _ | apply bd | apply ba)
  · omega
set_option maxRecDepth 20000 in
theorem right_blob (C : Array Value) (g n c : Nat) (x : Int) (H : Blob C (some ⟨g, 0, none⟩) 1 1) (w : World) (hc : w.cell? ⟨g, 0, none⟩ = some (.int .u8 x)) (hg : g < w.heap.size) :
    Calls Tryd.prog 33 #[.agg C] w fun v w' => v = .returned (.bool true) ∧ Below w.heap.size w w' := by
  have hC : 36 ≤ C.size := by rw [H.size]; decide
  have hE := extract_all C 36 H.size
  have HH := Lib.hid H
  clear H
  have l28 := ld28
  go_enter Tryd.func33, Tryd.ntmps33
  go_wp2_with fail
  refine (own_blob C _ _ _ HH.out _).mono ?_
  rintro v w1 ⟨rfl, hb⟩
  obtain ⟨k1, k2⟩ := range_below hb w.heap.size 0 36 (by simp)
  rw [range_new _ _ _ _ _ _ _ rfl (by omega), hE] at k1
  rw [has_new _ _ _ _ _ _ _ rfl (by omega)] at k2
  have hB : Below w.heap.size w w1 := (ba (Below.refl _ _) _).trans (hb.mono (by simp))
  have hz : w.heap.size < w1.heap.size := by have := hb.size; simp at this; omega
  go_wp2_with fail
  refine (laid_blob C g n c x HH.out w1 ((hB.cell (p := ⟨g, 0, none⟩) hg).trans hc) (by omega)).mono ?_
  rintro v w2 ⟨g', c', rfl, _, _, hb2, _⟩
  go_wp2_with fail
  go_ret
  exact ⟨rfl, hB.trans (hb2.mono (by omega))⟩
set_option maxRecDepth 20000 in
theorem bytes_blob (C : Array Value) (g n c : Nat) (x : Int) (H : Blob C (some ⟨g, 0, none⟩) 1 1) (w : World) (hc : w.cell? ⟨g, 0, none⟩ = some (.int .u8 x)) (hg : g < w.heap.size) :
    Calls Tryd.prog 32 #[.agg C] w fun v w' => ∃ g' c, v = .returned (.tuple #[.slice (some ⟨g', 0, none⟩) 2 c, .nilIface]) ∧ w'.cell? ⟨g', 0, none⟩ = some (.int .u8 98) ∧ w'.cell? ⟨g', 1, none⟩ = some (.int .u8 x) ∧ Below w.heap.size w w' := by
  have hC : 36 ≤ C.size := by rw [H.size]; decide
  have hE := extract_all C 36 H.size
  have HH := Lib.hid H
  clear H
  have l28 := ld28
  go_enter Tryd.func32, Tryd.ntmps32
  go_wp2_with fail
  refine (right_blob C g n c x HH.out _ (by simp [go_sem, hc, hg]) (by simp; omega)).mono ?_
  rintro v w1 ⟨rfl, hb⟩
  obtain ⟨k1, k2⟩ := range_below hb w.heap.size 0 36 (by simp)
  rw [range_new _ _ _ _ _ _ _ rfl (by omega), hE] at k1
  rw [has_new _ _ _ _ _ _ _ rfl (by omega)] at k2
  have hB : Below w.heap.size w w1 := (ba (Below.refl _ _) _).trans (hb.mono (by simp))
  have hz : w.heap.size < w1.heap.size := by have := hb.size; simp at this; omega
  go_wp2_with fail
  refine (laid_blob C g n c x HH.out w1 ((hB.cell (p := ⟨g, 0, none⟩) hg).trans hc) (by omega)).mono ?_
  rintro v w2 ⟨g', c', rfl, e1, e2, hb2, _⟩
  go_wp2_with fail
  refine bodyPost_ret (v := .tuple #[.slice (some ⟨g', 0, none⟩) 2 c', .nilIface]) (by simp [results, Tryd.results32, go_sem]) rfl ⟨g', c', rfl, e1, e2, hB.trans (hb2.mono (by omega))⟩
set_option maxRecDepth 20000 in
theorem alive06 (w : World) : Calls Tryd.prog 11 #[] w fun x w' => x = .returned (.bool true) ∧ Below w.heap.size w w' := by
  have kc := fun (w : World) (C : Array Value) (n c : Nat) => Lib.run_convert_bytes_const (P := Tryd.prog) w 22 5 C n c Tryd.underlying22 Tryd.underlying5
  go_enter Tryd.func11, Tryd.ntmps11
  go_wp2_with fail
  refine (bytes_blob _ w.heap.size 0 0 120 ?bl _ ?h1 ?h2).mono ?_
  case bl => exact ⟨by kernel_rfl, by kernel_rfl, by kernel_rfl, by kernel_rfl, by kernel_rfl, by kernel_rfl⟩
  case h1 => exact (World.cell?_alloc_mark w _ _ _ 0).trans rfl
  case h2 => simp
  rintro v w1 ⟨g', c', rfl, e1, e2, hb⟩
  have cv := run_convert_bytes_arg (P := Tryd.prog) w1 22 5 Tryd.underlying22 Tryd.underlying5 g' 0 2 c' [98, 120] rfl (fun i hi => by
    have : i = 0 ∨ i = 1 := by omega
    rcases this with rfl | rfl
    · exact e1
    · exact e2) 9 Tryd.underlying9
  have cs : strOfNums [98, 120] = ⟨#[98, 120]⟩ := by decide +kernel
  rw [cs] at cv
  go_wp2_with fail
  go_ret
  exact ⟨rfl, (Below.alloc (Below.refl _ _) (Nat.le_refl _) _).trans (hb.mono (by simp))⟩
end Go.Proofs.YtdpiplllcinieaaDoor
