/- Digests compared, here and in the reference; a digest's first bytes. -/
import Derived.Test.YtdpiplllcinieaaDoorTextA
import Derived.Test.YtdpiplllcinieaaDoorObjB
namespace Go.Proofs.YtdpiplllcinieaaDoor
open Go.RowKit Go.Stop Go.Extern Go.Ranges
set_option linter.unusedVariables false
set_option linter.unusedSimpArgs false
set_option maxRecDepth 20000
/-- Is the first of two rows of numbers ahead? (two rows of one length) -/
def ltL : List Int → List Int → Bool
  | x :: xs, y :: ys => if x = y then ltL xs ys else decide (x < y)
  | _, _ => false
theorem u8_lt {x y : Int} (hx : isByte x) (hy : isByte y) : (UInt8.ofNat x.toNat < UInt8.ofNat y.toNat) ↔ x < y := by
  have h0 := hx.1
  have h1 := hx.2
  have h2 := hy.1
  have h3 := hy.2
  rw [UInt8.lt_iff_toNat_lt, UInt8.toNat_ofNat', UInt8.toNat_ofNat']
  omega
theorem compare_lt : ∀ (xs ys : List Int), xs.length = ys.length → (∀ x ∈ xs, isByte x) → (∀ y ∈ ys, isByte y) → decide (Lib.compareBytes (Lib.bytesOf xs) (Lib.bytesOf ys) < 0) = ltL xs ys
  | [], [], _, _, _ => by decide
  | [], _ :: _, h, _, _ => by simp at h
  | _ :: _, [], h, _, _ => by simp at h
  | x :: xs, y :: ys, h, hx, hy => by
    have ih := compare_lt xs ys (by simpa using h) (fun z hz => hx z (by simp [hz])) (fun z hz => hy z (by simp [hz]))
    have a := u8_lt (hx x (by simp)) (hy y (by simp))
    have b := u8_lt (hy y (by simp)) (hx x (by simp))
    show decide ((if UInt8.ofNat x.toNat < UInt8.ofNat y.toNat then (-1 : Int) else if UInt8.ofNat y.toNat < UInt8.ofNat x.toNat then 1 else Lib.compareBytes (Lib.bytesOf xs) (Lib.bytesOf ys)) < 0) = (if x = y then ltL xs ys else decide (x < y))
    by_cases e : x = y
    · subst e
      rw [if_neg (by rw [a]; omega), if_neg (by rw [a]; omega), if_pos rfl, ih]
    · rw [if_neg e]
      by_cases l : x < y
      · rw [if_pos (a.2 l)]; simp [l]
      · rw [if_neg (by rw [a]; exact l), if_pos (b.2 (by omega))]; simp [l]
theorem run_compareSlices {P : Program} (w : World) (b1 o1 n1 c1 b2 o2 n2 c2 : Nat) (xs ys : List Int) (h1 : xs.length = n1) (h2 : ys.length = n2)
    (k1 : ∀ i, i < n1 → w.cell? ⟨b1, o1 + i, none⟩ = some (.int .u8 (xs.getD i 0))) (k2 : ∀ i, i < n2 → w.cell? ⟨b2, o2 + i, none⟩ = some (.int .u8 (ys.getD i 0))) :
    (Extern.BytealgCompare.compare #[.slice (some ⟨b1, o1, none⟩) n1 c1, .slice (some ⟨b2, o2, none⟩) n2 c2]).run P w = .ok (.int .i64 (Lib.compareBytes (Lib.bytesOf xs) (Lib.bytesOf ys))) w := by
  have load : ∀ (b o n : Nat) (zs : List Int), zs.length = n → (∀ i, i < n → w.cell? ⟨b, o + i, none⟩ = some (.int .u8 (zs.getD i 0))) → (Extern.Bytes.loadBytes ⟨b, o, none⟩ n .empty).run P w = .ok ⟨(Lib.bytesOf zs).toArray⟩ w := fun b o n zs hz hk => by
    have hl := Lib.run_loadBytesX (P := P) w zs ⟨b, o, none⟩ .empty (fun j x hj => by
      have hjl : j < zs.length := (List.getElem?_eq_some_iff.1 hj).1
      have e : (⟨b, o, none⟩ : Addr).add j = ⟨b, o + j, none⟩ := by unfold Addr.add; split <;> simp_all
      rw [e, hk j (by omega), List.getD_eq_getElem?_getD, hj]
      rfl)
    rw [hz] at hl
    have he : (⟨ByteArray.empty.data ++ (Lib.bytesOf zs).toArray⟩ : ByteArray) = ⟨(Lib.bytesOf zs).toArray⟩ := by
      apply ByteArray.ext
      show (#[] : Array UInt8) ++ (Lib.bytesOf zs).toArray = (Lib.bytesOf zs).toArray
      simp
    rw [he] at hl
    exact hl
  have e1 := load b1 o1 n1 xs h1 k1
  have e2 := load b2 o2 n2 ys h2 k2
  have hc := Lib.cmp_eq ⟨(Lib.bytesOf xs).toArray⟩ ⟨(Lib.bytesOf ys).toArray⟩
  change Sem.run P (do pure (goInt (Extern.BytealgCompare.cmp (← Extern.Bytes.bytesOf (.slice (some ⟨b1, o1, none⟩) n1 c1)) (← Extern.Bytes.bytesOf (.slice (some ⟨b2, o2, none⟩) n2 c2))))) w = _
  simp only [Extern.Bytes.bytesOf, Sem.run_bind, Sem.run_pure, e1, e2, Result.andThen, hc]
  rfl
theorem bytesCompare_any (b1 o1 n1 c1 b2 o2 n2 c2 : Nat) (xs ys : List Int) (w : World) (h1 : xs.length = n1) (h2 : ys.length = n2)
    (k1 : ∀ i, i < n1 → w.cell? ⟨b1, o1 + i, none⟩ = some (.int .u8 (xs.getD i 0))) (k2 : ∀ i, i < n2 → w.cell? ⟨b2, o2 + i, none⟩ = some (.int .u8 (ys.getD i 0))) :
    Calls Tryd.prog 50 #[.slice (some ⟨b1, o1, none⟩) n1 c1, .slice (some ⟨b2, o2, none⟩) n2 c2] w fun e w' => e = .returned (.int .i64 (Lib.compareBytes (Lib.bytesOf xs) (Lib.bytesOf ys))) ∧ w = w' := by
  have K1 := Lib.hid k1
  have K2 := Lib.hid k2
  clear k1 k2
  go_enter Tryd.func50, Tryd.ntmps50
  go_wp2
  rw [run_callFunc_extern Tryd.func69 (by kernel_rfl) (by kernel_rfl) (by kernel_rfl) (e := Extern.BytealgCompare.compare) (by kernel_rfl), run_compareSlices w b1 o1 n1 c1 b2 o2 n2 c2 xs ys h1 h2 K1.out K2.out]
  simp only [Result.andThen]
  rw [Oper.upon_value]
  go_wp2
  go_ret
  exact ⟨rfl, rfl⟩
theorem two_heap (w : World) (o1 o2 : Obj) : ((w.alloc o1).alloc o2).heap[w.heap.size]? = some o1 ∧ ((w.alloc o1).alloc o2).heap[w.heap.size + 1]? = some o2 := by
  have e1 : (w.alloc o1).heap.size = w.heap.size + 1 := by simp
  have h2 := heap_alloc_last (w.alloc o1) o2
  rw [e1] at h2
  refine ⟨?_, h2⟩
  rw [Below.heap_alloc _ _ _ (by simp)]
  exact heap_alloc_last w o1
set_option maxHeartbeats 4000000 in
theorem less_any (C D : Array Value) (xs ys : List Int) (w : World) (hC : isOid C xs) (hD : isOid D ys) (hx : ∀ x ∈ xs, isByte x) (hy : ∀ y ∈ ys, isByte y) (lx : xs.length = 32) (ly : ys.length = 32) :
    Calls Tryd.prog 27 #[.agg C, .agg D] w fun e w' => e = .returned (.bool (ltL xs ys)) ∧ Below w.heap.size w w' := by
  have kl := Lib.hid (compare_lt xs ys (lx.trans ly.symm) hx hy)
  have KC := Lib.hid hC
  have KD := Lib.hid hD
  have LX := Lib.hid lx
  have LY := Lib.hid ly
  have zC : C.size = 32 := hC.size
  have zD : D.size = 32 := hD.size
  clear hC hD hx hy lx ly
  go_enter Tryd.func27, Tryd.ntmps27
  go_wp2_with fail
  have kc1 : ∀ i, i < 32 → ((w.alloc (.cells C 25)).alloc (.cells D 25)).cell? ⟨w.heap.size, 0 + i, none⟩ = some (.int .u8 (xs.getD i 0)) := fun i hi => by
    rw [cell_of_row _ _ _ _ _ _ (two_heap w _ _).1, Nat.zero_add]
    exact KC.out.at_ i hi
  have kc2 : ∀ i, i < 32 → ((w.alloc (.cells C 25)).alloc (.cells D 25)).cell? ⟨w.heap.size + 1, 0 + i, none⟩ = some (.int .u8 (ys.getD i 0)) := fun i hi => by
    rw [cell_of_row _ _ _ _ _ _ (two_heap w _ _).2, Nat.zero_add]
    exact KD.out.at_ i hi
  have K1 := Lib.hid kc1
  have K2 := Lib.hid kc2
  clear kc1 kc2
  have hb : Below w.heap.size w ((w.alloc (.cells C 25)).alloc (.cells D 25)) := ((Below.refl _ _).alloc (Nat.le_refl _) _).alloc (by simp) _
  have HB := Lib.hid hb
  clear hb
  have hq := fun k => Calls.quiet_of_same (n := k) ((bytesCompare_any w.heap.size 0 32 32 (w.heap.size + 1) 0 32 32 xs ys (((w.alloc (.cells C 25)).alloc (.cells D 25)).drewN k) LX.out LY.out K1.out K2.out).mono fun e w' h => ⟨h.1, h.2.symm⟩)
  have HQ := Lib.hid hq
  clear hq
  go_quiet ((go_at_call 50; exact HQ.out _))
  go_wp2_with fail
  go_ret
  exact ⟨by rw [← kl.out]; rfl, HB.out.trans ((below_drewN _ _).mono (by simp; omega))⟩
theorem ltL_hit : ∀ (xs ys : List Int) (k : Nat), xs.length = ys.length → k < xs.length → (∀ j, j < k → xs.getD j 0 = ys.getD j 0) → xs.getD k 0 ≠ ys.getD k 0 → ltL xs ys = decide (xs.getD k 0 < ys.getD k 0)
  | [], _, k, _, hk, _, _ => by simp at hk
  | _ :: _, [], k, h, _, _, _ => by simp at h
  | x :: xs, y :: ys, 0, h, hk, hb, hne => by
    simp only [List.getD_cons_zero] at hne ⊢
    exact if_neg hne
  | x :: xs, y :: ys, k + 1, h, hk, hb, hne => by
    have h0 := hb 0 (by omega)
    simp only [List.getD_cons_zero] at h0
    simp only [List.getD_cons_succ] at hne ⊢
    show (if x = y then ltL xs ys else decide (x < y)) = _
    rw [if_pos h0]
    exact ltL_hit xs ys k (by simpa using h) (by simpa using hk) (fun j hj => by have := hb (j + 1) (by omega); simpa using this) hne
theorem ltL_same : ∀ (xs ys : List Int), (∀ j, j < xs.length → xs.getD j 0 = ys.getD j 0) → xs.length = ys.length → ltL xs ys = false
  | [], _, _, _ => by unfold ltL; rfl
  | _ :: _, [], _, h => by simp at h
  | x :: xs, y :: ys, hb, h => by
    have h0 := hb 0 (by simp)
    simp only [List.getD_cons_zero] at h0
    show (if x = y then ltL xs ys else decide (x < y)) = _
    rw [if_pos h0]
    exact ltL_same xs ys (fun j hj => by have := hb (j + 1) (by simp; omega); simpa using this) (by simpa using h)
theorem below_drewN3 (w : World) (i j k : Nat) : Below w.heap.size w (((w.drewN i).drewN j).drewN k) := ⟨rfl, rfl, rfl, Nat.le_refl _, fun _ _ => rfl⟩
theorem ret_bool {a b : Bool} (h : a = b) : Ending.returned (.bool a) = .returned (.bool b) := by rw [h]
set_option maxHeartbeats 4000000 in
theorem refLess_any (C D : Array Value) (xs ys : List Int) (w : World) (hC : isOid C xs) (hD : isOid D ys) (lx : xs.length = 32) (ly : ys.length = 32) :
    Calls Tryd.prog 28 #[.agg C, .agg D] w fun e w' => e = .returned (.bool (ltL xs ys)) ∧ Below w.heap.size w w' := by
  have KC := Lib.hid hC
  have KD := Lib.hid hD
  have hlt2 := Lib.hid (ltL_hit xs ys)
  have hsm := Lib.hid (ltL_same xs ys)
  have LX := Lib.hid lx
  have LY := Lib.hid ly
  have zC : C.size = 32 := hC.size
  have zD : D.size = 32 := hD.size
  clear hC hD lx ly
  go_enter Tryd.func28, Tryd.ntmps28
  go_wp2_with fail
  have kc1 : ∀ i, i < 32 → ((w.alloc (.cells C 24)).alloc (.cells D 24)).cell? ⟨w.heap.size, i, none⟩ = some (.int .u8 (xs.getD i 0)) := fun i hi => by
    rw [cell_of_row _ _ _ _ _ _ (two_heap w _ _).1]
    exact KC.out.at_ i hi
  have kc2 : ∀ i, i < 32 → ((w.alloc (.cells C 24)).alloc (.cells D 24)).cell? ⟨w.heap.size + 1, i, none⟩ = some (.int .u8 (ys.getD i 0)) := fun i hi => by
    rw [cell_of_row _ _ _ _ _ _ (two_heap w _ _).2]
    exact KD.out.at_ i hi
  have K1 := Lib.hid kc1
  have K2 := Lib.hid kc2
  clear kc1 kc2
  have hb : Below w.heap.size w ((w.alloc (.cells C 24)).alloc (.cells D 24)) := ((Below.refl _ _).alloc (Nat.le_refl _) _).alloc (by simp) _
  have HB := Lib.hid hb
  clear hb
  generalize (w.alloc (.cells C 24)).alloc (.cells D 24) = W0 at *
  go_loopw [6] (fun x wr => ∃ k d : Nat, k ≤ 32 ∧ x = .int .i64 k ∧ wr = W0.drewN d ∧ ∀ j, j < k → xs.getD j 0 = ys.getD j 0) (fun x _ => 32 - (intOf x).toNat)
  case atStart => exact ⟨0, 0, Nat.zero_le _, rfl, rfl, fun j hj => absurd hj (by omega)⟩
  case round =>
    obtain ⟨k, dn, hk, rfl, rfl, hbef⟩ := hrel
    have Hb := Lib.hid hbef
    clear hbef
    by_cases hlt : k < 32
    · have c1 := K1.out k hlt
      have c2 := K2.out k hlt
      by_cases he : xs.getD k 0 = ys.getD k 0
      · have hx := Lib.hid (rfl : xs.getD k 0 = xs.getD k 0)
        rw [← he] at c2
        have He := Lib.hid he
        clear he hx
        go_wp2_with fail
        go_quiet (fail)
        go_wp2_with fail
        go_round
        case rel =>
          refine ⟨k + 1, dn + _, by omega, by go_num, rfl, fun j hj => ?_⟩
          by_cases hjk : j = k
          · subst hjk; exact He.out
          · exact Hb.out j (by omega)
        case measure => simp only [intOf]; omega
      · have hf := Lib.hid (hlt2.out k (LX.out.trans LY.out.symm) (by rw [LX.out]; exact hlt) Hb.out he)
        have n1 : (xs.getD k 0 != ys.getD k 0) = true := by simpa using he
        have n2 : (xs.getD k 0 == ys.getD k 0) = false := by simpa using he
        clear he
        generalize xs.getD k 0 = x at *
        generalize ys.getD k 0 = y at *
        go_wp2_with fail
        go_quiet (fail)
        go_wp2_with fail
        go_quiet (fail)
        go_wp2_with fail
        go_ret
        exact ⟨ret_bool hf.out.symm, HB.out.trans ((below_drewN3 _ _ _ _).mono HB.out.size)⟩
    · obtain rfl : k = 32 := by omega
      go_wp2_with fail
      go_ret
      exact ⟨ret_bool (hsm.out (fun j hj => Hb.out j (by rw [LX.out] at hj; exact hj)) (LX.out.trans LY.out.symm)).symm, HB.out.trans ((below_drewN _ _).mono HB.out.size)⟩
set_option maxHeartbeats 4000000 in
theorem short_any (C : Array Value) (xs : List Int) (w : World) (hC : isOid C xs) (hx : ∀ x ∈ xs, isByte x) (lx : xs.length = 32) :
    Calls Tryd.prog 29 #[.agg C] w fun e w' => e = .returned (.int .u64 (be (xs.take 8))) ∧ Below w.heap.size w w' := by
  have KC := Lib.hid hC
  have zC : C.size = 32 := hC.size
  have hn := Lib.hid (fun W (h : Lib.BytesIn W (some ⟨w.heap.size, 0, none⟩) 8 (xs.take 8)) => number_any (some ⟨w.heap.size, 0, none⟩) 8 32 (xs.take 8) W (by simp [lx]) (by decide) (fun x h => hx x (List.mem_of_mem_take h)) h)
  clear hC hx lx
  go_enter Tryd.func29, Tryd.ntmps29
  go_wp2_with (go_at_call 51
               refine (hn.out _ (fun _ => ⟨w.heap.size, 0, rfl, fun i hi => ?hc⟩)).mono ?_
               case hc =>
                 rw [cell_of_row _ _ _ _ _ _ (heap_alloc_last w _), Nat.zero_add, List.getD_eq_getElem?_getD, List.getElem?_take_of_lt hi, ← List.getD_eq_getElem?_getD]
                 exact KC.out.at_ i (by omega)
               rintro e w1 ⟨rfl, rfl⟩)
  go_ret
  exact ⟨rfl, (Below.refl _ _).alloc (Nat.le_refl _) _⟩
end Go.Proofs.YtdpiplllcinieaaDoor
