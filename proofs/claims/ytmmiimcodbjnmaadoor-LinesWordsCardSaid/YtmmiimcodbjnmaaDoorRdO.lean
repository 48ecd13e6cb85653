/- octets, reading: an object's id. -/
import Derived.Test.YtmmiimcodbjnmaaDoorRdD
import Derived.Test.YtmmiimcodbjnmaaDoorRow
namespace Go.Proofs.YtmmiimcodbjnmaaDoor
open Go.RowKit Go.Stop Go.Extern Go.Ranges Go.Rows2
set_option linter.unusedVariables false
set_option linter.unusedSimpArgs false
set_option maxRecDepth 20000
attribute [-go_sem] loadVar storeVar
attribute [local go_sem] loadVar_one storeVar_one
attribute [local go_sem] World.setRow_alloc_new
def zeroO : Array Value := Array.replicate 32 (.int .u8 0)
theorem zeroO_lit : (#[.int .u8 0, .int .u8 0, .int .u8 0, .int .u8 0, .int .u8 0, .int .u8 0, .int .u8 0, .int .u8 0, .int .u8 0, .int .u8 0, .int .u8 0, .int .u8 0, .int .u8 0, .int .u8 0, .int .u8 0, .int .u8 0, .int .u8 0, .int .u8 0, .int .u8 0, .int .u8 0, .int .u8 0, .int .u8 0, .int .u8 0, .int .u8 0, .int .u8 0, .int .u8 0, .int .u8 0, .int .u8 0, .int .u8 0, .int .u8 0, .int .u8 0, .int .u8 0] : Array Value) = zeroO := by rfl
theorem zeroO_size : zeroO.size = 32 := by simp [zeroO]
attribute [local go_sem] zeroO_lit zeroO_size
theorem ldO (w : World) (b o : Nat) (h : hasRange w b o 32 = true) : (loadVar 103 ⟨b, o, none⟩).run Tryd.prog w = .ok (.agg (rangeOf w b o 32)) w :=
  var_range 32 Tryd.underlying103 rfl (by kernel_rfl) w b o h
theorem stO (w : World) (b : Nat) (C : Array Value) (h : isRow w b 32 = true) (h2 : C.size = 32) (h3 : ones C = true) : (storeVar 103 ⟨b, 0, none⟩ (.agg C)).run Tryd.prog w = .ok () (w.setRow b C) :=
  store_row 32 (by kernel_rfl) w b C h h2 h3
theorem chg_setRow (w : World) (b : Nat) (C : Array Value) : Chg (fun k => k = b) w (w.setRow b C) := ⟨rfl, rfl, rfl, by simp, fun k _ hs => setRow_other w b k C hs⟩
def OidEnd (w : World) (I T : Nat) (xs : List Int) (e : Ending) (w' : World) : Prop :=
  ∃ D, e = .returned (.agg D) ∧ D.size = 32 ∧ ones D = true ∧ (∀ j, j < 32 → D[j]? = some (.int .u8 (xs.getD j 0))) ∧ InAt w' I T (xs.drop 32) ∧ Chg (fun k => k = I) w w'
theorem oidO_any (I T : Nat) (xs : List Int) (w : World) (hN : 32 ≤ xs.length) (h : InAt w I T xs) :
    Calls Tryd.prog 57 #[.pointer (some ⟨I, 0, none⟩)] w (OidEnd w I T xs) := by
  have hlt := h.lt
  have htl := h.tlt
  have b0 : Below w.heap.size w (w.alloc (.cells zeroO 103)) := alloc_below _ _
  have hR0 : isRow (w.alloc (.cells zeroO 103)) w.heap.size 32 = true := by simp [go_sem]
  have hz0 : (w.alloc (.cells zeroO 103)).heap.size = w.heap.size + 1 := by simp
  have K := Lib.hid (take_ok I T 32 xs _ (by decide) hN (h.below b0))
  rw [show (32 : Int).toNat = 32 from rfl] at K
  have HB0 := Lib.hid b0
  clear h b0
  go_enter Tryd.func57, Tryd.ntmps57
  go_wp2_with fail
  generalize w.alloc (.cells zeroO 103) = W0 at *
  refine K.out.mono ?_
  rintro e w1 ⟨A, c, rfl, hT, hA, hI, hC⟩
  have hl : (xs.take 32).length = 32 := by rw [List.length_take]; omega
  obtain ⟨b, o, rfl, hcl⟩ := hT.at_ (by omega)
  have hc2 : ∀ j, j < 32 → w1.cell? ⟨b, o + j, none⟩ = some (.int .u8 (xs.getD j 0)) := fun j hj => by
    rw [hcl j (by omega)]
    simp [List.getD_eq_getElem?_getD, List.getElem?_take, hj]
  have hH : hasRange w1 b o 32 = true := List.all_eq_true.2 fun j hj => by rw [hc2 j (List.mem_range.1 hj)]; rfl
  have hDj : ∀ j, j < 32 → (rangeOf w1 b o 32)[j]? = some (.int .u8 (xs.getD j 0)) := fun j hj => by
    unfold rangeOf
    simp [List.getElem?_map, List.getElem?_range hj, hc2 j hj]
  have hDs : (rangeOf w1 b o 32).size = 32 := by simp [rangeOf]
  have hDo : ones (rangeOf w1 b o 32) = true := by
    unfold ones rangeOf
    rw [← Array.all_toList, List.all_eq_true]
    intro u hu
    obtain ⟨j, hj, rfl⟩ : ∃ a, a < 32 ∧ (w1.cell? ⟨b, o + a, none⟩).getD Value.nilIface = u := by simpa using hu
    rw [hc2 j hj]
    rfl
  have hR1 : isRow w1 w.heap.size 32 = true := (isRow_of (hC.block _ (by omega) (by show ¬ w.heap.size = I; omega))).trans hR0
  have hL := ldO w1 b o hH
  generalize rangeOf w1 b o 32 = D at *
  have hS := stO w1 w.heap.size D hR1 hDs hDo
  have hch : Chg (fun k => k = I) w (w1.setRow w.heap.size D) := by
    have h1 := (Chg.of_below HB0.out).trans hC
    refine h1.trans2 (T := fun k => k = w.heap.size) ?_ (fun k hk => .inr (by omega))
    exact chg_setRow w1 w.heap.size D
  have hI2 : InAt (w1.setRow w.heap.size D) I T (xs.drop 32) := hI.chg (chg_setRow w1 w.heap.size D) (Nat.ne_of_lt hlt) (Nat.ne_of_lt htl)
  have HI2 := Lib.hid hI2
  have HCH := Lib.hid hch
  have HDj := Lib.hid hDj
  have hL2 := ldO (w1.setRow w.heap.size D) w.heap.size 0 (List.all_eq_true.2 fun j hj => by rw [Nat.zero_add, cell_setRow hR1 D j, hDj j (List.mem_range.1 hj)]; rfl)
  rw [range_setRow_all hR1 D hDs] at hL2
  have hAt : ∀ W, (Instr.arrayAt 103 (.slice (some ⟨b, o, none⟩) 32 c)).run Tryd.prog W = .ok (.pointer (some ⟨b, o, none⟩)) W := fun _ => by kernel_rfl
  clear hT hA hI hC hcl hc2 hH hI2 hch hDj
  go_wp2_with fail
  refine bodyPost_ret (v := .agg D) (by simp [results, Tryd.results57, go_sem, hL2]) rfl ⟨D, rfl, hDs, hDo, HDj.out, HI2.out, HCH.out⟩
theorem oidO_no (I T : Nat) (xs : List Int) (a : Nat → Addr) (w : World) (hN : xs.length < 32) (h : InAt w I T xs) (hE : ErrC w a 2) :
    Calls Tryd.prog 57 #[.pointer (some ⟨I, 0, none⟩)] w (Halts w a I 2) := by
  have b0 : Below w.heap.size w (w.alloc (.cells zeroO 103)) := alloc_below _ _
  have K := Lib.hid (take_no I T 32 xs a _ (by omega) (h.below b0) (hE.below b0))
  have HB0 := Lib.hid b0
  clear h b0 hE
  go_enter Tryd.func57, Tryd.ntmps57
  go_wp2_with fail
  refine K.out.mono ?_
  rintro e w1 ⟨rfl, hC⟩
  exact ⟨rfl, rfl, (Chg.of_below HB0.out).trans hC⟩
theorem stNO (w : World) (C C' : Array Value) (g : Nat) (hg : g = w.heap.size) (h1 : C.size = 32) (h2 : C'.size = 32) (h3 : ones C' = true) :
    (storeVar 103 ⟨g, 0, none⟩ (.agg C')).run Tryd.prog (w.alloc (.cells C 103)) = .ok () (w.alloc (.cells C' 103)) :=
  var_new 32 (by kernel_rfl) w C C' g hg h1 h2 h3
set_option maxHeartbeats 1000000 in
theorem one_oid (I T : Nat) (xs : List Int) (w : World) (hN : 32 ≤ xs.length) (h : InAt w I T xs) :
    Calls Tryd.prog 52 #[.pointer (some ⟨I, 0, none⟩), .int .u8 111] w (OneEnd w I T 0 (xs.take 32) (xs.drop 32)) := by
  have hlt := h.lt
  have htl := h.tlt
  have b0 : Below w.heap.size w (w.alloc (.cells #[.int .i64 0, .slice none 0 0] 60)) := (Below.refl _ _).alloc (Nat.le_refl _) _
  have K := Lib.hid (oidO_any I T xs _ hN (h.below b0))
  clear h
  go_enter Tryd.func52, Tryd.ntmps52
  go_wp2_with fail
  refine K.out.mono ?_
  rintro e w1 ⟨D, rfl, hDs, hDo, hDj, hI, hC⟩
  have hz := hC.size
  simp at hz
  have hb1 := alloc_below w1 (.cells D 103)
  have hS := stNO w1 zeroO D w1.heap.size rfl zeroO_size hDs hDo
  have hl : (xs.take 32).length = 32 := by rw [List.length_take]; omega
  have hB : Lib.BytesIn (w1.alloc (.cells D 103)) (some ⟨w1.heap.size, 0, none⟩) (xs.take 32).length (xs.take 32) := fun _ => ⟨w1.heap.size, 0, rfl, fun i hi => by
    rw [hl] at hi
    rw [cell_of_row _ _ _ _ _ _ (heap_alloc_last w1 _), Nat.zero_add, hDj i hi]
    simp [List.getD_eq_getElem?_getD, List.getElem?_take, hi]⟩
  have hq := (hC.trans (Chg.of_below hb1)).block w.heap.size (by simp) (by omega)
  have hR : isRow (w1.alloc (.cells D 103)) w.heap.size 2 = true := by
    unfold isRow
    rw [hq, heap_alloc_last]
    rfl
  have hS2 := store_row (P := Tryd.prog) (t := 60) 2 (by kernel_rfl) (w1.alloc (.cells D 103)) w.heap.size #[.int .i64 0, .slice (some ⟨w1.heap.size, 0, none⟩) 32 32] hR rfl (by simp [ones, Value.oneCell'])
  have hL2 := var_range (P := Tryd.prog) 2 Tryd.underlying60 rfl (by kernel_rfl) ((w1.alloc (.cells D 103)).setRow w.heap.size #[.int .i64 0, .slice (some ⟨w1.heap.size, 0, none⟩) 32 32]) w.heap.size 0 (List.all_eq_true.2 fun j hj => by
    rw [Nat.zero_add, cell_setRow hR]
    have := List.mem_range.1 hj
    have : j = 0 ∨ j = 1 := by omega
    rcases this with rfl | rfl <;> rfl)
  rw [range_setRow_all hR _ rfl] at hL2
  have hch := chg_setRow (w1.alloc (.cells D 103)) w.heap.size #[.int .i64 0, .slice (some ⟨w1.heap.size, 0, none⟩) 32 32]
  have hzz : (w1.alloc (.cells D 103)).heap.size = w1.heap.size + 1 := by simp
  have hfin : OneEnd w I T 0 (xs.take 32) (xs.drop 32) (.returned (.agg #[.int .i64 0, .slice (some ⟨w1.heap.size, 0, none⟩) 32 32])) ((w1.alloc (.cells D 103)).setRow w.heap.size #[.int .i64 0, .slice (some ⟨w1.heap.size, 0, none⟩) 32 32]) := by
    refine ⟨some ⟨w1.heap.size, 0, none⟩, 32, by rw [hl], ?_, by omega, by decide, fun x e1 _ => ?_, (hI.below hb1).chg hch (Nat.ne_of_lt hlt) (Nat.ne_of_lt htl), ?_⟩
    · refine fun hn => ⟨w1.heap.size, 0, rfl, fun i hi => ?_⟩
      obtain ⟨b, o, e, hc⟩ := hB hn
      injection e with e
      injection e with e1 e2 e3
      subst e1
      subst e2
      exact (World.cell?_of_block (a := ⟨w1.heap.size, 0 + i, none⟩) (hch.block w1.heap.size (by omega) (by show ¬ w1.heap.size = w.heap.size; omega))).trans (hc i hi)
    · injection e1 with e1
      subst e1
      have := hch.size
      show w.heap.size ≤ w1.heap.size ∧ w1.heap.size < _
      omega
    · exact ((Chg.of_below b0).trans (hC.trans (Chg.of_below hb1))).trans2 hch (fun k hk => .inr (by omega))
  have HFIN := Lib.hid hfin
  clear hB hI hC K hq hb1 hDj hl hfin hch
  go_wp2_with fail
  exact bodyPost_ret (v := .agg #[.int .i64 0, .slice (some ⟨w1.heap.size, 0, none⟩) 32 32]) (by simp [results, Tryd.results52, go_sem, hL2]) rfl HFIN.out
theorem one_okA (c : UInt8) (I T : Nat) (xs : List Int) (w : World) (h : InAt w I T xs) (hb : BytesOk xs) (hn : rdC c xs = 0) :
    Calls Tryd.prog 52 #[.pointer (some ⟨I, 0, none⟩), .int .u8 c.toNat] w (OneEnd w I T (rdN c xs) (rdB c xs) (xs.drop (rdLen c xs))) := by
  by_cases hc : c = 111
  · subst hc
    have h32 : 32 ≤ xs.length := by
      unfold rdC at hn
      rw [if_pos rfl] at hn
      split at hn
      · cases hn
      · omega
    exact one_oid I T xs w h32 h
  · exact one_ok c I T xs w hc h hb hn
theorem one_noA (c : UInt8) (I T : Nat) (xs : List Int) (a : Nat → Addr) (w : World) (h : InAt w I T xs) (hb : BytesOk xs) (hE : ErrC w a 1 ∧ ErrC w a 2 ∧ ErrC w a 7) (hn : rdC c xs ≠ 0) :
    Calls Tryd.prog 52 #[.pointer (some ⟨I, 0, none⟩), .int .u8 c.toNat] w (Halts w a I (rdC c xs)) := by
  by_cases hc : c = 111
  · subst hc
    have h32 : xs.length < 32 := by
      unfold rdC at hn
      rw [if_pos rfl] at hn
      split at hn
      · assumption
      · exact absurd rfl hn
    have hr : rdC 111 xs = 2 := by unfold rdC; rw [if_pos rfl, if_pos h32]
    rw [hr]
    have b0 : Below w.heap.size w (w.alloc (.cells #[.int .i64 0, .slice none 0 0] 60)) := (Below.refl _ _).alloc (Nat.le_refl _) _
    have K := Lib.hid (oidO_no I T xs a _ h32 (h.below b0) (hE.2.1.below b0))
    have HB0 := Lib.hid b0
    clear h hb hE hn b0 hr
    go_enter Tryd.func52, Tryd.ntmps52
    go_wp2_with fail
    refine K.out.mono ?_
    rintro e w1 ⟨rfl, hC⟩
    exact ⟨rfl, rfl, (Chg.of_below HB0.out).trans hC⟩
  · exact one_no c I T xs a w hc h hb hE hn
end Go.Proofs.YtmmiimcodbjnmaaDoor
