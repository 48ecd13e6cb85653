/- The law ShaTexts, walked. -/
import Derived.Test.YtdpiplllcinieaaDoorTextF
import Derived.LaidEql
import Derived.Lib.QuietBelow
namespace Go.Proofs.YtdpiplllcinieaaDoor
open Go.RowKit Go.Stop Go.Extern Go.Ranges Go.Sort Go.BigFrame
set_option linter.unusedVariables false
set_option linter.unusedSimpArgs false
set_option maxRecDepth 100000
attribute [-go_sem] loadVar storeVar
attribute [local go_sem] loadVar_one storeVar_one
theorem st25m (w : World) (C C' : Array Value) (g : Nat) (hg : g = w.heap.size) (h1 : C.size = 32) (h2 : C'.size = 32) (h3 : ones C' = true) :
    (storeVar 25 ⟨g, 0, none⟩ (.agg C')).run Tryd.prog (w.alloc (.cells C 25)) = .ok () (w.alloc (.cells C' 25)) :=
  var_new 32 (by kernel_rfl) w C C' g hg h1 h2 h3
theorem eq24 (d : Nat) (w : World) (xs ys : Array Value) (hx : ArrEq.u8s 32 xs = true) (hy : ArrEq.u8s 32 ys = true) : (Op.equalIn (d + 2) 24 (.agg xs) (.agg ys)).run Tryd.prog w = .ok (ArrEq.arrEq 32 xs ys) w :=
  ArrEq.run_equalIn_bytes (P := Tryd.prog) w Tryd.underlying24 info5.choose_spec Tryd.underlying5 (by kernel_rfl) (by kernel_rfl) hx hy
/-- An array's block, as it reads. -/
def At32 (w : World) (p : Nat) (C : Array Value) : Prop := rangeOf w p 0 32 = C ∧ hasRange w p 0 32 = true ∧ p < w.heap.size
theorem At32.below {w w' : World} {p : Nat} {C : Array Value} (h : At32 w p C) (hb : Below w.heap.size w w') : At32 w' p C :=
  ⟨(range_of (hb.block p h.2.2)).trans h.1, (has_of (hb.block p h.2.2)).trans h.2.1, Nat.lt_of_lt_of_le h.2.2 hb.size⟩
theorem At32.new (w : World) (C : Array Value) (t : TypeId) (h : C.size = 32) : At32 (w.alloc (.cells C t)) w.heap.size C := by
  refine ⟨?_, has_new _ _ _ _ _ _ _ rfl (by omega), by simp⟩
  rw [range_new _ _ _ _ _ _ _ rfl (by omega), Nat.zero_add]
  exact extract_all C 32 h
theorem At32.range {w : World} {p : Nat} {L : List Value} (h : At32 w p L.toArray) : w.rangeAt p 0 L := fun j v hv => by
  obtain ⟨h1, h2, h3⟩ := h
  have hj : j < 32 := by
    have : j < L.length := (List.getElem?_eq_some_iff.1 hv).1
    have e := congrArg Array.size h1
    rw [size_rangeOf] at e
    simp at e
    omega
  obtain ⟨u, hu⟩ := has_at h2 hj
  have := rangeOf_get (w := w) (b := p) (o := 0) hj hu
  rw [h1, List.getElem?_toArray, hv] at this
  injection this with this
  rw [hu, this]
theorem alloc_below (w : World) (o : Obj) : Below w.heap.size w (w.alloc o) := (Below.refl _ _).alloc (Nat.le_refl _) _
/-- The law's five arrays, as they lie. -/
structure TS (w : World) (p3 p4 p7 p9 p11 : Nat) (C D O : Array Value) (W : World) : Prop where
  a3 : At32 W p3 C
  a4 : At32 W p4 D
  a7 : At32 W p7 C
  a9 : At32 W p9 O
  a11 : At32 W p11 O
  b : Below w.heap.size w W
theorem TS.below {w : World} {p3 p4 p7 p9 p11 : Nat} {C D O : Array Value} {W W' : World} (h : TS w p3 p4 p7 p9 p11 C D O W) (hb : Below W.heap.size W W') : TS w p3 p4 p7 p9 p11 C D O W' :=
  ⟨h.a3.below hb, h.a4.below hb, h.a7.below hb, h.a9.below hb, h.a11.below hb, h.b.trans (hb.mono h.b.size)⟩
theorem oid_of (xs : List Int) (h : xs.length = 32) : ∃ O, isOid O xs := ⟨(xs.map (Value.int .u8)).toArray, by simp [h], fun i hi => by
  rw [List.getElem?_toArray, List.getElem?_map, List.getElem?_eq_getElem (by omega), List.getD_eq_getElem?_getD, List.getElem?_eq_getElem (by omega)]
  rfl⟩
theorem unhV_len (s : ByteArray) : (unhV s).length = 32 := by
  unfold unhV
  split <;> simp [unh]
set_option maxHeartbeats 8000000 in
theorem shaTexts_walk (C D : Array Value) (xs ys : List Int) (s : ByteArray) (a : Nat → Addr) (w : World) (hC : isOid C xs) (hD : isOid D ys) (hx : ∀ x ∈ xs, isByte x) (hy : ∀ y ∈ ys, isByte y) (lx : xs.length = 32) (ly : ys.length = 32)
    (hs : s.size ≤ maxLen) (hG : Grains w) (hS : Start w) (hE : Errs w a) :
    Calls Tryd.prog 6 #[.agg C, .agg D, .string s] w fun x w' => x = .returned (.bool true) ∧ Below w.heap.size w w' := by
  obtain ⟨CL, rfl⟩ : ∃ L : List Value, C = L.toArray := ⟨C.toList, by simp⟩
  obtain ⟨DL, rfl⟩ : ∃ L : List Value, D = L.toArray := ⟨D.toList, by simp⟩
  have KC := Lib.hid hC
  have KD := Lib.hid hD
  have KX := Lib.hid hx
  have KY := Lib.hid hy
  have LX := Lib.hid lx
  have LY := Lib.hid ly
  have KG := Lib.hid hG
  have KS := Lib.hid hS
  have KE := Lib.hid hE
  have Ks := Lib.hid hs
  have zC : CL.toArray.size = 32 := hC.size
  have zD : DL.toArray.size = 32 := hD.size
  have l25 := ld25
  have l24 := ld24
  have s25m := st25m
  have s24n := st24n
  have hs2 : (s.size : Int) ≤ 9223372036854775807 := by have := hs; unfold maxLen at this; omega
  have hgd := Lib.hid (hex_good xs lx hx)
  obtain ⟨O, hO⟩ := oid_of (unhV s) (unhV_len s)
  obtain ⟨OL, rfl⟩ : ∃ L : List Value, O = L.toArray := ⟨O.toList, by simp⟩
  have KO := Lib.hid hO
  have zO : OL.toArray.size = 32 := hO.size
  have oC := oid_onesT hC
  have oO := oid_onesT hO
  have aC := (by simp [ArrEq.arrEq] : ArrEq.arrEq 32 CL.toArray CL.toArray = true)
  have aO := (by simp [ArrEq.arrEq] : ArrEq.arrEq 32 OL.toArray OL.toArray = true)
  have uC := isOid_u8 hC
  have uO := isOid_u8 hO
  clear hO
  have hhs : Hid ((strOfNums (hexNums xs)).size ≤ maxLen) := Lib.hid (by rw [str_size, hexNums_len, lx]; decide)
  clear hC hD hx hy lx ly hG hS hE hs
  go_enter Tryd.func6, Tryd.ntmps6
  go_wp2_with fail
  have hb0 := ((alloc_below w (.cells CL.toArray 25)).trans ((alloc_below (w.alloc (.cells CL.toArray 25)) (.cells DL.toArray 25)).mono (by simp)))
  refine (alive01 _ (KG.out.below hb0) (KS.out.below hb0)).mono ?_
  rintro x1 w1 ⟨rfl, hb1⟩
  have hA1 := (((At32.new w CL.toArray 25 zC).below (alloc_below _ _)).below hb1)
  have hD1 : At32 w1 (w.heap.size + 1) DL.toArray := by
    have h := (At32.new (w.alloc (.cells CL.toArray 25)) DL.toArray 25 zD).below hb1
    have e : (w.alloc (.cells CL.toArray 25)).heap.size = w.heap.size + 1 := by simp
    rw [e] at h
    exact h
  have hB1 := hb0.trans (hb1.mono hb0.size)
  have g1 := hA1.1
  have g2 := hA1.2.1
  have HA1 := Lib.hid hA1
  have HD1 := Lib.hid hD1
  have HB1 := Lib.hid hB1
  clear hA1 hD1 hB1 hb1 hb0
  by_cases h200 : 200 < s.size
  · have h200' : (200 : Int) < (s.size : Int) := by omega
    go_wp2_with fail
    go_ret
    exact ⟨rfl, HB1.out⟩
  have h200' : ¬ (200 : Int) < (s.size : Int) := by omega
  have hback : Hid (∀ W, Below w.heap.size w W → Calls Tryd.prog 22 #[.string (strOfNums (hexNums xs))] W fun e w' => e = .returned (.tuple #[.agg CL.toArray, .nilIface]) ∧ Below W.heap.size W w') := Lib.hid (fun W hb => by
    refine (unhex_any a (strOfNums (hexNums xs)) W hhs.out (KE.out.below hb)).mono ?_
    rintro e w' ⟨B, rfl, hB, hb'⟩
    rw [unhV_yes hgd.out.1, hgd.out.2] at hB
    rw [unE_yes _ hgd.out.1, isOid_eq hB KC.out]
    exact ⟨rfl, hb'⟩)
  have hun : Hid (∀ W, Below w.heap.size w W → Calls Tryd.prog 22 #[.string s] W fun e w' => e = .returned (.tuple #[.agg OL.toArray, unE s a]) ∧ Below W.heap.size W w') := Lib.hid (fun W hb => by
    refine (unhex_any a s W Ks.out (KE.out.below hb)).mono ?_
    rintro e w' ⟨B, rfl, hB, hb'⟩
    rw [isOid_eq hB KO.out]
    exact ⟨rfl, hb'⟩)
  have hrun : Hid (∀ W, Calls Tryd.prog 24 #[.string s] W fun e w' => e = .returned (.tuple #[.agg OL.toArray, .bool (good s)]) ∧ Below W.heap.size W w') := Lib.hid (fun W => by
    refine (refUnhex_any s W Ks.out).mono ?_
    rintro e w' ⟨B, rfl, hB, hb'⟩
    rw [isOid_eq hB KO.out]
    exact ⟨rfl, hb'⟩)
  have hHex : Hid (∀ W, Calls Tryd.prog 23 #[.agg CL.toArray] W fun e w' => e = .returned (.string (strOfNums (hexNums xs))) ∧ Below W.heap.size W w') := Lib.hid (fun W => hex_any CL.toArray xs W KC.out LX.out KX.out)
  have hrHex : Hid (∀ W, Calls Tryd.prog 25 #[.agg CL.toArray] W fun e w' => e = .returned (.string (strOfNums (hexNums xs))) ∧ Below W.heap.size W w') := Lib.hid (fun W => refHex_any CL.toArray xs W KC.out LX.out KX.out)
  go_wp2_with (first
    | (go_at_call 23
       (with_reducible refine (hHex.out w1).mono ?_)
       rintro e w2 ⟨rfl, hb2⟩
       have HB2 := Lib.hid (HB1.out.trans (hb2.mono HB1.out.size))
       have HA2 := Lib.hid (HA1.out.below hb2)
       have HD2 := Lib.hid (HD1.out.below hb2)
       clear hb2)
    | (go_at_call 22
       (with_reducible refine (hback.out w2 HB2.out).mono ?_)
       rintro e w3 ⟨rfl, hb3⟩
       have HB3 := Lib.hid (HB2.out.trans (hb3.mono HB2.out.size))
       have HA3 := Lib.hid ((HA2.out.below hb3).below (alloc_below w3 (.cells CL.toArray 25)))
       have HD3 := Lib.hid ((HD2.out.below hb3).below (alloc_below w3 (.cells CL.toArray 25)))
       have HK3 := Lib.hid (At32.new w3 CL.toArray 25 zC)
       have HB3a := Lib.hid (HB3.out.trans ((alloc_below w3 (.cells CL.toArray 25)).mono HB3.out.size))
       clear hb3)
    | (go_at_call 22
       (with_reducible refine (hun.out _ HB3a.out).mono ?_)
       rintro e w4 ⟨rfl, hb4⟩
       have HA4 := Lib.hid ((HA3.out.below hb4).below (alloc_below w4 (.cells OL.toArray 25)))
       have HD4 := Lib.hid ((HD3.out.below hb4).below (alloc_below w4 (.cells OL.toArray 25)))
       have HK4 := Lib.hid ((HK3.out.below hb4).below (alloc_below w4 (.cells OL.toArray 25)))
       have HO4 := Lib.hid (At32.new w4 OL.toArray 25 zO)
       have HB4 := Lib.hid (HB3a.out.trans ((hb4.trans ((alloc_below w4 (.cells OL.toArray 25)).mono hb4.size)).mono HB3a.out.size))
       clear hb4)
    | (go_at_call 24
       (with_reducible refine (hrun.out _).mono ?_)
       rintro e w5 ⟨rfl, hb5⟩))
  have TT : TS w w.heap.size (w.heap.size + 1) w3.heap.size w4.heap.size w5.heap.size CL.toArray DL.toArray OL.toArray (w5.alloc (.cells OL.toArray 24)) :=
    ⟨(HA4.out.below hb5).below (alloc_below _ _), (HD4.out.below hb5).below (alloc_below _ _), (HK4.out.below hb5).below (alloc_below _ _), (HO4.out.below hb5).below (alloc_below _ _), At32.new _ _ _ zO,
      HB4.out.trans ((hb5.trans ((alloc_below w5 (.cells OL.toArray 24)).mono hb5.size)).mono HB4.out.size)⟩
  clear HA3 HD3 HK3 HA4 HD4 HK4 HO4 hb5 HA1 HD1 HA2 HD2 g1 g2
  generalize w5.alloc (.cells OL.toArray 24) = W5 at *
  generalize w5.heap.size = p11 at *
  generalize w4.heap.size = p9 at *
  generalize w3.heap.size = p7 at *
  have TD := Lib.hid (TT.below (Below.refl _ _).drew)
  have e25 := eq25 9998
  have e24 := eq24 9998
  have f1 := TD.out.a3.1
  have f2 := TD.out.a3.2.1
  have f3 := TD.out.a7.1
  have f4 := TD.out.a7.2.1
  have TT0 := Lib.hid TT
  clear TT
  clear f1 f2 f3 f4
  have kR : Hid (∀ p : Regrown, TS w w.heap.size (w.heap.size + 1) p7 p9 p11 CL.toArray DL.toArray OL.toArray (grow (redrawn W5 p.d) p.os)) := Lib.hid (fun p => TT0.out.below (below_regrown W5 p.d p.os))
  have f1 := fun p => (kR.out p).a3.1
  have f2 := fun p => (kR.out p).a3.2.1
  have f3 := fun p => (kR.out p).a7.1
  have f4 := fun p => (kR.out p).a7.2.1
  have f5 := fun p => (kR.out p).a9.1
  have f6 := fun p => (kR.out p).a9.2.1
  have f7 := fun p => (kR.out p).a11.1
  have f8 := fun p => (kR.out p).a11.2.1
  have hNum : Hid (∀ p : Regrown, Calls Tryd.prog 26 #[.iface 163 (.pointer (some (a 4)))] (grow (redrawn W5 p.d) p.os) fun e w' => e = .returned (.int .i64 4) ∧ Below (grow (redrawn W5 p.d) p.os).heap.size (grow (redrawn W5 p.d) p.os) w') :=
    Lib.hid (fun p => num_some a 4 (by decide) (by decide) _ (KE.out.below (kR.out p).b))
  have hend : ∀ W6, Below W5.heap.size W5 W6 → TS w w.heap.size (w.heap.size + 1) p7 p9 p11 CL.toArray DL.toArray OL.toArray W6 := fun W6 h => TT0.out.below h
  have Hend := Lib.hid hend
  clear hend
  cases hgs : good s
  all_goals
    first
      | (have hue := unE_yes a hgs
         rw [hue])
      | (have hue := unE_no a hgs
         rw [hue])
    clear hue hgs
    refine wp_region_quiet_below (by kernel_rfl) (by kernel_rfl) ?_
    repeat (go_big_quiet_step (first
      | (go_at_call 23; exact Calls.regrown_of (hHex.out _))
      | (go_at_call 25; exact Calls.regrown_of (hrHex.out _))
      | (go_at_call 26; exact Calls.regrown_of (hNum.out _))))
    refine wpQuiet_nil ?_
    intro W6 hw'
    obtain ⟨pq, hw''⟩ := hw'
    have hB6 := below_regrown W5 pq.d pq.os
    rw [← hw''] at hB6
    have HT6 := Lib.hid (Hend.out W6 hB6)
    clear hw'' f1 f2 f3 f4 f5 f6 f7 f8 hB6
    go_wp2_with fail
    go_loopw [73, 13] (fun x y wr => ∃ k : Nat, k ≤ 8 ∧ x = .int .i64 k ∧ y = .int .u64 (be (xs.take k)) ∧ W6 = wr) (fun x _ _ => 8 - (intOf x).toNat)
    case atStart => exact ⟨0, Nat.zero_le _, rfl, rfl, rfl⟩
    case round =>
      obtain ⟨k, hk, rfl, rfl, rfl⟩ := hrel
      by_cases hlt : k < 8
      · have hck : W6.cell? ⟨w.heap.size, 0 + k, none⟩ = some (.int .u8 (xs.getD k 0)) := by
          refine HT6.out.a3.range k _ ?_
          have := KC.out.at_ k (by omega)
          rwa [List.getElem?_toArray] at this
        rw [Nat.zero_add] at hck
        have hx : isByte (xs.getD k 0) := KX.out _ (by
          rw [List.getD_eq_getElem?_getD, List.getElem?_eq_getElem (by rw [LX.out]; omega)]
          exact List.getElem_mem _)
        have hnext : Hid (be (xs.take (k + 1)) = be (xs.take k) * 256 + xs.getD k 0) := by
          show _ = _
          rw [List.take_add_one, List.getElem?_eq_getElem (by rw [LX.out]; omega), List.getD_eq_getElem?_getD, List.getElem?_eq_getElem (by rw [LX.out]; omega)]
          exact be_snoc _ _
        obtain ⟨b0, b1⟩ := be_lt_n k (xs.take k) (by rw [List.length_take, LX.out]; omega) (fun y hy => KX.out y (List.mem_of_mem_take hy))
        have b2 : be (xs.take k) < 72057594037927936 := by
          have hk7 : (256 : Int) ^ k ≤ 256 ^ 7 := by exact_mod_cast Nat.pow_le_pow_right (by decide) (by omega : k ≤ 7)
          have : (256 : Int) ^ 7 = 72057594037927936 := by decide
          omega
        clear b1
        generalize be (xs.take k) = B at *
        generalize xs.getD k 0 = x at *
        have x0 := hx.1
        have x1 := hx.2
        clear hx
        go_wp2_with fail
        go_round
        case rel =>
          refine ⟨k + 1, by omega, by go_num, ?_, trivial⟩
          rw [hnext.out]
        case measure => simp only [intOf]; omega
      · obtain rfl : k = 8 := by omega
        go_wp2_with fail
        have hLess : Hid (∀ W, Calls Tryd.prog 27 #[.agg CL.toArray, .agg DL.toArray] W fun e w' => e = .returned (.bool (ltL xs ys)) ∧ Below W.heap.size W w') := Lib.hid (fun W => less_any _ _ xs ys W KC.out KD.out KX.out KY.out LX.out LY.out)
        have hrLess : Hid (∀ W, Calls Tryd.prog 28 #[.agg CL.toArray, .agg DL.toArray] W fun e w' => e = .returned (.bool (ltL xs ys)) ∧ Below W.heap.size W w') := Lib.hid (fun W => refLess_any _ _ xs ys W KC.out KD.out LX.out LY.out)
        have hShort : Hid (∀ W, Calls Tryd.prog 29 #[.agg CL.toArray] W fun e w' => e = .returned (.int .u64 (be (xs.take 8))) ∧ Below W.heap.size W w') := Lib.hid (fun W => short_any _ xs W KC.out KX.out LX.out)
        have kT : Hid (∀ p : Regrown, TS w w.heap.size (w.heap.size + 1) p7 p9 p11 CL.toArray DL.toArray OL.toArray (grow (redrawn W6 p.d) p.os)) := Lib.hid (fun p => HT6.out.below (below_regrown W6 p.d p.os))
        have f1 := fun p => (kT.out p).a3.1
        have f2 := fun p => (kT.out p).a3.2.1
        have f3 := fun p => (kT.out p).a4.1
        have f4 := fun p => (kT.out p).a4.2.1
        refine wp_region_quiet_below (by kernel_rfl) (by kernel_rfl) ?_
        repeat (go_big_quiet_step (first
          | (go_at_call 27; exact Calls.regrown_of (hLess.out _))
          | (go_at_call 28; exact Calls.regrown_of (hrLess.out _))
          | (go_at_call 29; exact Calls.regrown_of (hShort.out _))))
        refine wpQuiet_nil ?_
        intro W7 hw'
        obtain ⟨pr, hw''⟩ := hw'
        have hB7 := below_regrown W6 pr.d pr.os
        rw [← hw''] at hB7
        clear hw'' f1 f2 f3 f4
        go_wp2_with fail
        go_ret
        exact ⟨rfl, HT6.out.b.trans (hB7.mono HT6.out.b.size)⟩
end Go.Proofs.YtdpiplllcinieaaDoor
