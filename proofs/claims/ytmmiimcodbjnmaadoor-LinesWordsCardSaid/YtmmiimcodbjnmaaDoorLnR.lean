/- Lines: the chapter's example. -/
import Derived.Test.YtmmiimcodbjnmaaDoorLnX
import Derived.Deep.RegionHeld3
import Derived.Test.YtmmiimcodbjnmaaDoorRdO
namespace Go.Proofs.YtmmiimcodbjnmaaDoor
open Go.RowKit Go.Stop Go.Extern Go.Ranges Go.Rows2
set_option linter.unusedVariables false
set_option linter.unusedSimpArgs false
set_option maxRecDepth 100000
def recC : Array Value := #[.int .i64 0, .int .i64 1, .int .i64 1, .string ⟨#[97]⟩, .slice none 0 0, .int .i64 1, .int .i64 2, .int .i64 0, .int .i64 0, .int .i64 0, .int .i64 0, .int .i64 0, .string ⟨#[]⟩, .int .i64 0, .int .i64 0, .int .i64 0, .int .i64 0, .int .i64 0, .int .i64 0, .slice none 0 0, .slice none 0 0]
set_option maxHeartbeats 2000000 in
theorem outcome_ok (w : World) (H : LWords w) : Calls Tryd.prog 72 #[.agg recC] w fun e w' => e = .returned (.string (liW 0)) ∧ Below w.heap.size w w' := by
  have hb := alloc_below w (.cells recC 80)
  have K := Lib.hid (liWord_any 0 _ (H.below hb))
  have hne : ((⟨#[111, 107]⟩ : ByteArray).toList == (⟨#[]⟩ : ByteArray).toList) = false := by rw [ByteArray.toList_eq, ByteArray.toList_eq]; decide
  have HB := Lib.hid hb
  rw [show wordV 0 = ⟨#[111, 107]⟩ from rfl] at K
  clear hb H
  rw [show liW 0 = ⟨#[111, 107]⟩ from rfl]
  unfold recC at *
  go_enter Tryd.func72, Tryd.ntmps72
  go_wp2_with fail
  refine K.out.mono ?_
  rintro e w1 ⟨rfl, rfl⟩
  go_wp2_with fail
  go_ret
  exact ⟨rfl, HB.out⟩
theorem opOne (w : World) (H : LnV w) : Calls Tryd.prog 17 #[.int .i64 1] w fun e w' => e = .returned (.string (opW 1)) ∧ Below w.heap.size w w' := liOp_any 1 w (by decide) (by decide) H
theorem tab_below {w w' : World} {name : String} {k : IntKind} {zs : List Int} (h : Lib.TabIs Tryd.prog w name k zs) (hb : Below w.heap.size w w') : Lib.TabIs Tryd.prog w' name k zs := by
  unfold Lib.TabIs World.var? at *
  cases hg : Tryd.prog.globalNamed name with
  | none => rw [hg] at h; cases h
  | some g =>
    rw [hg] at h
    simp only [Option.bind_some] at h ⊢
    cases hh : w.heap[g]? with
    | none => rw [hh] at h; cases h
    | some x =>
      rw [hb.block g (Array.getElem?_eq_some_iff.1 hh).1]
      exact h
theorem LnV.below {w w' : World} (h : LnV w) (hb : Below w.heap.size w w') : LnV w' := ⟨h.words.below hb, h.ops.below hb, tab_below h.tab hb⟩
theorem join_row (w : World) : ∀ j x, [sC0, ⟨#[49]⟩, opW 1, ⟨#[97, 58]⟩, liW 0][j]? = some x → (w.alloc (.cells #[.string sC0, .string ⟨#[49]⟩, .string (opW 1), .string ⟨#[97, 58]⟩, .string (liW 0)] 9)).cell? ⟨w.heap.size, 0 + j, none⟩ = some (.string x) := fun j x hj => by
  rw [Nat.zero_add, cell_of_row _ _ _ _ _ _ (heap_alloc_last w _)]
  match j, hj with
  | 0, hj => injection hj with e; subst e; rfl
  | 1, hj => injection hj with e; subst e; rfl
  | 2, hj => injection hj with e; subst e; rfl
  | 3, hj => injection hj with e; subst e; rfl
  | 4, hj => injection hj with e; subst e; rfl
  | n + 5, hj => simp at hj
theorem recRow {W w' : World} {g : Nat} (h : W.heap[g]? = some (.cells recC 80 (0, 0))) (hb : Below W.heap.size W w') : w'.heap[g]? = some (.cells recC 80 (0, 0)) := (hb.block g (Array.getElem?_eq_some_iff.1 h).1).trans h
attribute [-go_sem] loadVar storeVar
attribute [local go_sem] loadVar_one storeVar_one
theorem ldRec (w : World) (g : Nat) (h : w.heap[g]? = some (.cells recC 80 (0, 0))) : (loadVar 80 ⟨g, 0, none⟩).run Tryd.prog w = .ok (.agg recC) w := by
  have hc : ∀ j, w.cell? ⟨g, 0 + j, none⟩ = recC[j]? := fun j => by rw [Nat.zero_add]; exact cell_of_row _ _ _ _ _ _ h
  have hr : rangeOf w g 0 21 = recC := by
    apply Array.ext_getElem?
    intro j
    by_cases hj : j < 21
    · simp only [rangeOf, List.getElem?_toArray, List.getElem?_map, List.getElem?_range hj, Option.map_some]
      rw [hc j]
      have : j < recC.size := hj
      rw [Array.getElem?_eq_getElem this]
      rfl
    · rw [Array.getElem?_eq_none (by rw [size_rangeOf]; omega), Array.getElem?_eq_none (by show 21 ≤ j; omega)]
  have hh : hasRange w g 0 21 = true := List.all_eq_true.2 fun j hj => by
    rw [hc j, Array.getElem?_eq_getElem (show j < recC.size from List.mem_range.1 hj)]
    rfl
  have := var_range 21 Tryd.underlying80 rfl (by kernel_rfl) w g 0 hh
  rw [hr] at this
  exact this
set_option maxHeartbeats 8000000 in
theorem record_al (w : World) (H : LnV w) : Calls Tryd.prog 39 #[.agg recC] w fun e w' => e = .returned (.string ⟨#[99, 108, 105, 101, 110, 116, 48, 32, 49, 32, 99, 114, 101, 97, 116, 101, 32, 97, 58, 32, 111, 107]⟩) ∧ Below w.heap.size w w' := by
  obtain ⟨V, hV⟩ : ∃ V, V = w.alloc (.cells recC 80) := ⟨_, rfl⟩
  have hb0 := alloc_below w (.cells recC 80)
  rw [← hV] at hb0
  have hV1 : V.heap[w.heap.size]? = some (.cells recC 80 (0, 0)) := by rw [hV]; exact heap_alloc_last _ _
  have k0 : ∀ W, Below V.heap.size V W → W.cell? ⟨w.heap.size, 0, none⟩ = some (.int .i64 0) := fun W h => (cell_of_row _ _ _ _ _ _ (recRow hV1 h)).trans rfl
  have k1 : ∀ W, Below V.heap.size V W → W.cell? ⟨w.heap.size, 1, none⟩ = some (.int .i64 1) := fun W h => (cell_of_row _ _ _ _ _ _ (recRow hV1 h)).trans rfl
  have k2 : ∀ W, Below V.heap.size V W → W.cell? ⟨w.heap.size, 2, none⟩ = some (.int .i64 1) := fun W h => (cell_of_row _ _ _ _ _ _ (recRow hV1 h)).trans rfl
  have k3 : ∀ W, Below V.heap.size V W → W.cell? ⟨w.heap.size, 3, none⟩ = some (.string ⟨#[97]⟩) := fun W h => (cell_of_row _ _ _ _ _ _ (recRow hV1 h)).trans rfl
  have kL : ∀ W, Below V.heap.size V W → (loadVar 80 ⟨w.heap.size, 0, none⟩).run Tryd.prog W = .ok (.agg recC) W := fun W h => ldRec W _ (recRow hV1 h)
  have HVq := Lib.hid hV
  have HB0 := Lib.hid hb0
  have HL := Lib.hid fun (W : World) (h : Below V.heap.size V W) => H.below (stepV hb0 h)
  have KO := Lib.hid fun (W : World) (h : Below V.heap.size V W) => opOne W (HL.out W h)
  have KU := Lib.hid fun (W : World) (h : Below V.heap.size V W) => outcome_ok W (HL.out W h).words
  have KC := Lib.hid fun (W : World) => client_0 W
  clear hV hb0 H hV1
  have hAll : Below V.heap.size V V.drew := (Below.refl _ _).drew
  have hsz : ¬ (maxLen < 2) := by decide
  have KJ := Lib.hid fun (W : World) => join_5 W.heap.size (W.alloc (.cells #[.string sC0, .string ⟨#[49]⟩, .string (opW 1), .string ⟨#[97, 58]⟩, .string (liW 0)] 9)) (join_row W) (by simp)
  generalize opW 1 = sOp at *
  generalize liW 0 = sOk at *
  generalize sC0 = sCl at *
  generalize recC = rC at *
  go_enter Tryd.func39, Tryd.ntmps39
  go_wp2_with fail
  first
    | rw [← HVq.out]
    | skip
  go_region_held3 (fun W => Below V.heap.size V W)
    (first
      | assumption
      | exact Below.refl _ _
      | exact (Below.refl _ _).drew
      | exact stepV hAll (alloc_below _ _)
      | fail "")
    (first
      | (go_at_call 70; refine (KC.out _).mono ?_; rintro e w' ⟨rfl, hb'⟩; replace hAll := stepV hAll hb')
      | (go_at_call 43; refine (itoa_1 _).mono ?_; rintro e w' ⟨rfl, rfl⟩)
      | (go_at_call 17; refine (KO.out _ hAll).mono ?_; rintro e w' ⟨rfl, hb'⟩; replace hAll := stepV hAll hb')
      | (go_at_call 71; refine (named_a _).mono ?_; rintro e w' ⟨rfl, hb'⟩; replace hAll := stepV hAll hb')
      | (go_at_call 72; refine (KU.out _ hAll).mono ?_; rintro e w' ⟨rfl, hb'⟩; replace hAll := stepV hAll hb')
      | (go_at_call 69; refine (KJ.out _).mono ?_; rintro e w' ⟨rfl, hb'⟩; replace hAll := stepV (stepV hAll (alloc_below _ _)) hb')
      | fail "")
  go_wp2_with fail
  go_ret
  exact ⟨rfl, stepV HB0.out hAll⟩
end Go.Proofs.YtmmiimcodbjnmaaDoor
