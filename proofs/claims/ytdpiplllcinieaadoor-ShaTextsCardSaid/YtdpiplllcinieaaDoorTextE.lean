/- The reference's Hex. -/
import Derived.Test.YtdpiplllcinieaaDoorTextD
namespace Go.Proofs.YtdpiplllcinieaaDoor
open Go.RowKit Go.Stop Go.Extern Go.Ranges
set_option linter.unusedVariables false
set_option linter.unusedSimpArgs false
set_option maxRecDepth 20000
theorem sl_fig (w : World) (i : Int) (h0 : 0 ≤ i) (h1 : i < 16) : (Instr.slice 9 (.string { data := #[48, 49, 50, 51, 52, 53, 54, 55, 56, 57, 97, 98, 99, 100, 101, 102] }) (some (.int .u8 i)) (some (.int .u8 (i + 1))) none).run Tryd.prog w = .ok (.string (strOfNums [fig i])) w := by
  have : i = 0 ∨ i = 1 ∨ i = 2 ∨ i = 3 ∨ i = 4 ∨ i = 5 ∨ i = 6 ∨ i = 7 ∨ i = 8 ∨ i = 9 ∨ i = 10 ∨ i = 11 ∨ i = 12 ∨ i = 13 ∨ i = 14 ∨ i = 15 := by omega
  rcases this with rfl | rfl | rfl | rfl | rfl | rfl | rfl | rfl | rfl | rfl | rfl | rfl | rfl | rfl | rfl | rfl <;> (show _ = _; kernel_rfl)
theorem str_app (xs ys : List Int) : strOfNums xs ++ strOfNums ys = strOfNums (xs ++ ys) := by
  apply ByteArray.ext
  rw [ByteArray.data_append]
  simp [strOfNums]
theorem str_size (xs : List Int) : (strOfNums xs).size = xs.length := by
  show (strOfNums xs).data.size = _
  simp [strOfNums]
theorem add_str (xs ys : List Int) (w : World) (h : xs.length + ys.length ≤ 1000000) : (binOp .add 9 (.string (strOfNums xs)) (.string (strOfNums ys))).run Tryd.prog w = .ok (.string (strOfNums (xs ++ ys))) w := by
  rw [← str_app]
  simp [go_sem, binOp, str_size]
  omega
attribute [-go_sem] loadVar storeVar
attribute [local go_sem] loadVar_one storeVar_one
theorem ix24 (w : World) (D : Array Value) (i : Nat) (x : Int) (hi : i < 32) (h : D[i]? = some (.int .u8 x)) : (Instr.index 24 (.agg D) (.int .i64 i)).run Tryd.prog w = .ok (.int .u8 x) w := by
  have h2 : (i : Int) < 32 := by omega
  have hz := size_u8 w
  simp [Instr.index, go_sem, Tryd.underlying24, h2, hz, h]
  intro h3
  omega
set_option maxHeartbeats 4000000 in
theorem refHex_any (C : Array Value) (xs : List Int) (w : World) (hC : isOid C xs) (hl : xs.length = 32) (hb : ∀ x ∈ xs, isByte x) :
    Calls Tryd.prog 25 #[.agg C] w fun e w' => e = .returned (.string (strOfNums (hexNums xs))) ∧ Below w.heap.size w w' := by
  have KC := Lib.hid hC
  have Kb := Lib.hid hb
  have Kl := Lib.hid hl
  have hz : 32 ≤ C.size := by rw [hC.size]; decide
  have hE : C.extract 0 32 = C := by rw [← hC.size]; simp
  clear hC hb hl
  have l24 := ld24
  have e0 : ({ data := #[] } : ByteArray) = strOfNums (hexNums (xs.take 0)) := rfl
  go_enter Tryd.func25, Tryd.ntmps25
  go_wp2_with fail
  have hB0 : Below w.heap.size w (w.alloc (.cells C 24)) := (Below.refl _ _).alloc (Nat.le_refl _) _
  generalize w.alloc (.cells C 24) = W0 at *
  have KB := Lib.hid hB0
  clear hB0
  have e1 := e0
  rw [e0]
  clear e1
  go_loopw [8, 4] (fun x y wr => ∃ j d : Nat, j ≤ 32 ∧ x = .int .i64 j ∧ y = .string (strOfNums (hexNums (xs.take j))) ∧ wr = W0.drewN d) (fun x _ _ => 32 - (intOf x).toNat)
  case atStart => exact ⟨0, 0, Nat.zero_le _, rfl, rfl, rfl⟩
  case round =>
    obtain ⟨j, dn, hj, rfl, rfl, rfl⟩ := hrel
    by_cases hlt : j < 32
    · have ixw := fun w => ix24 w C j _ hlt (KC.out.at_ j hlt)
      have hx : isByte (xs.getD j 0) := Kb.out _ (by
        rw [List.getD_eq_getElem?_getD, List.getElem?_eq_getElem (by rw [Kl.out]; exact hlt)]
        exact List.getElem_mem _)
      have hnext : Hid (hexNums (xs.take (j + 1)) = hexNums (xs.take j) ++ ([fig (xs.getD j 0 / 16)] ++ [fig (xs.getD j 0 % 16)])) := by
        show _ = _
        rw [List.take_add_one, List.getD_eq_getElem?_getD, List.getElem?_eq_getElem (by rw [Kl.out]; exact hlt), hexNums_append]
        rfl
      have hsz : (hexNums (xs.take j)).length ≤ 64 := by rw [hexNums_len, List.length_take]; omega
      generalize xs.getD j 0 = x at *
      have x0 := hx.1
      have x1 := hx.2
      clear hx
      have f1 := fun w => sl_fig w (x / 16) (by omega) (by omega)
      have f2 := fun w => sl_fig w (x % 16) (by omega) (by omega)
      have a1 : strOfNums [fig (x / 16)] ++ strOfNums [fig (x % 16)] = strOfNums [fig (x / 16), fig (x % 16)] := str_app _ _
      have a2 : strOfNums (hexNums (xs.take j)) ++ strOfNums [fig (x / 16), fig (x % 16)] = strOfNums (hexNums (xs.take j) ++ [fig (x / 16), fig (x % 16)]) := str_app _ _
      have b1 : ¬ (9223372036854775807 < (strOfNums [fig (x / 16)]).size + (strOfNums [fig (x % 16)]).size) := by rw [str_size, str_size]; simp
      have b2 : ¬ (9223372036854775807 < (strOfNums (hexNums (xs.take j))).size + (strOfNums [fig (x / 16), fig (x % 16)]).size) := by rw [str_size, str_size]; simp; omega
      have t1 : Int.tdiv x 16 = x / 16 := Int.tdiv_eq_ediv_of_nonneg x0
      have t2 : Int.tmod x 16 = x % 16 := Int.tmod_eq_emod_of_nonneg x0
      have w1 : IntKind.u8.wrap (x / 16 + 1) = x / 16 + 1 := by rw [IntKind.wrap_u8']; omega
      have w2 : IntKind.u8.wrap (x % 16 + 1) = x % 16 + 1 := by rw [IntKind.wrap_u8']; omega
      have w3 : IntKind.u8.wrap (x / 16) = x / 16 := by rw [IntKind.wrap_u8']; omega
      have w4 : IntKind.u8.wrap (x % 16) = x % 16 := by rw [IntKind.wrap_u8']; omega
      clear hsz
      go_wp2_with fail
      go_quiet (fail)
      go_wp2_with fail
      go_round
      case rel =>
        refine ⟨j + 1, dn + _, by omega, by go_num, ?_, rfl⟩
        rw [hnext.out]; rfl
      case measure => simp only [intOf]; omega
    · obtain rfl : j = 32 := by omega
      have hxs : xs.take 32 = xs := List.take_of_length_le (by rw [Kl.out]; exact Nat.le_refl _)
      have HX := Lib.hid hxs
      clear hxs
      go_wp2_with fail
      go_ret
      exact ⟨by rw [HX.out]; rfl, KB.out.trans ((below_drewN _ _).mono KB.out.size)⟩
end Go.Proofs.YtdpiplllcinieaaDoor
