/- The reference's Same of two objects. -/
import Derived.Test.YtdpiplllcinieaaDoorObjC
namespace Go.Proofs.YtdpiplllcinieaaDoor
open Go.RowKit Go.Stop Go.Extern Go.Ranges
set_option linter.unusedVariables false
set_option linter.unusedSimpArgs false
attribute [-go_sem] loadVar storeVar
attribute [local go_sem] loadVar_one storeVar_one
theorem info24 : ∃ i, Tryd.prog.info? 24 = some i := Option.isSome_iff_exists.1 (by kernel_rfl)
theorem ld24 (w : World) (b o : Nat) (h : hasRange w b o 32 = true) : (loadVar 24 ⟨b, o, none⟩).run Tryd.prog w = .ok (.agg (rangeOf w b o 32)) w :=
  var_range 32 Tryd.underlying24 rfl (by kernel_rfl) w b o h
theorem ld74 (w : World) (b o : Nat) (h : hasRange w b o 33 = true) : (loadVar 74 ⟨b, o, none⟩).run Tryd.prog w = .ok (.agg (rangeOf w b o 33)) w :=
  var_range 33 Tryd.underlying74 rfl (by kernel_rfl) w b o h
theorem eq24 (d : Nat) (w : World) (xs ys : Array Value) (hx : ArrEq.u8s 32 xs = true) (hy : ArrEq.u8s 32 ys = true) : (Op.equalIn (d + 2) 24 (.agg xs) (.agg ys)).run Tryd.prog w = .ok (ArrEq.arrEq 32 xs ys) w :=
  ArrEq.run_equalIn_bytes (P := Tryd.prog) w Tryd.underlying24 info5.choose_spec Tryd.underlying5 (by kernel_rfl) (by kernel_rfl) hx hy
theorem eq74 (d : Nat) (w : World) (xs ys : Array Value) (hx : ArrEq.isEnt xs = true) (hy : ArrEq.isEnt ys = true) : (Op.equalIn (d + 3) 74 (.agg xs) (.agg ys)).run Tryd.prog w = .ok (ArrEq.entEq xs ys) w :=
  ArrEq.run_equalIn_ent (P := Tryd.prog) w Tryd.underlying74 (by kernel_rfl) (by decide) (by decide) rfl rfl rfl rfl Tryd.underlying9 Tryd.underlying24 info24.choose_spec (by kernel_rfl) info5.choose_spec Tryd.underlying5 (by kernel_rfl) (by kernel_rfl) hx hy
set_option maxRecDepth 20000 in
set_option maxHeartbeats 1000000 in
theorem refSame_any (C D : Array Value) (k l : Int) (A B : Option Addr) (n c m d : Nat) (xs ys : List Int) (E F : Option Addr) (ne ce me de : Nat) (ef eg : Nat → Array Value) (Q R : Option Addr) (np cp mp dp : Nat) (pf pg : Nat → Array Value) (w : World)
    (HC : ObjAt w C k A n c xs E ne ce ef Q np cp pf) (HD : ObjAt w D l B m d ys F me de eg R mp dp pg) :
    Calls Tryd.prog 14 #[.agg C, .agg D] w fun x w' => x = .returned (.bool (objEq C D k l xs ys ne me ef eg np mp pf pg)) ∧ Below w.heap.size w w' := by
  have hC : 35 ≤ C.size := by rw [HC.size]; decide
  have hD : 35 ≤ D.size := by rw [HD.size]; decide
  obtain ⟨_, h0, h1, h2, u1, h4, _, _, _, _, _, _, _, _⟩ := id HC
  obtain ⟨_, g0, g1, g2, u2, g4, _, _, _, _, _, _, _, _⟩ := id HD
  have KC := Lib.hid HC
  have KD := Lib.hid HD
  clear HC HD
  rename_i a1 a2 a3 a4 a5 a6 a7 a8 a9 b1 b2 b3 b4 b5 b6 b7 b8 b9
  clear a1 a2 a3 a4 a5 a6 a7 a8 a9 b1 b2 b3 b4 b5 b6 b7 b8 b9
  have l24 := ld24
  have e24 := eq24 9998
  have l74 := ld74
  have e74 := eq74 9997
  have hB0 : Below w.heap.size w ((w.alloc (.cells C 33)).alloc (.cells D 33)) := ba (ba (Below.refl _ _) _) _
  have c1 := (bytesIn_below KC.out.bytes hB0).convert (P := Tryd.prog) KC.out.len c 22 5 9 Tryd.underlying22 Tryd.underlying5 Tryd.underlying9
  have c2 := (bytesIn_below KD.out.bytes hB0).convert (P := Tryd.prog) KD.out.len d 22 5 9 Tryd.underlying22 Tryd.underlying5 Tryd.underlying9
  go_enter Tryd.func14, Tryd.ntmps14
  cases hk : (k == l)
  · have hk' : (k != l) = true := by simp [bne, hk]
    go_wp2_with fail
    go_ret
    exact ⟨by unfold objEq; rw [hk]; simp, hB0⟩
  have hk' : (k != l) = false := by simp [bne, hk]
  cases hb : ((strOfNums xs).toList == (strOfNums ys).toList)
  · have hb' : bytesEq xs ys = false := hb
    have hb2 : ((strOfNums xs).toList != (strOfNums ys).toList) = true := by simp only [bne, hb]; rfl
    go_wp2_with fail
    go_ret
    exact ⟨by unfold objEq; rw [hb']; simp, hB0⟩
  have hb' : bytesEq xs ys = true := hb
  have hb2 : ((strOfNums xs).toList != (strOfNums ys).toList) = false := by simp only [bne, hb]; rfl
  cases ha : ArrEq.arrEq 32 (C.extract 3 35) (D.extract 3 35)
  · go_wp2_with fail
    go_ret
    exact ⟨by unfold objEq; rw [ha]; simp, hB0⟩
  by_cases hne : ne = me
  · by_cases hnp : np = mp
    · subst hne hnp
      have hn1 : (ne : Int) ≤ 9223372036854775807 := by have := KC.out.emax; unfold maxLen at this; omega
      have hn2 : (np : Int) ≤ 9223372036854775807 := by have := KC.out.qmax; unfold maxLen at this; omega
      go_wp2_with fail
      generalize hW0 : (w.alloc (.cells C 33)).alloc (.cells D 33) = W0 at *
      have x0 : W0.cell? ⟨w.heap.size, 2, none⟩ = some (.slice E ne ce) := by rw [← hW0]; simp [go_sem, h2]
      have x1 : W0.cell? ⟨w.heap.size + 1, 2, none⟩ = some (.slice F ne de) := by rw [← hW0]; simp [go_sem, g2]
      have x2 : W0.cell? ⟨w.heap.size, 35, none⟩ = some (.slice Q np cp) := by rw [← hW0]; simp [go_sem, h4]
      have x3 : W0.cell? ⟨w.heap.size + 1, 35, none⟩ = some (.slice R np dp) := by rw [← hW0]; simp [go_sem, g4]
      have HEc := Lib.hid (KC.out.eat.below hB0)
      have HEd := Lib.hid (KD.out.eat.below hB0)
      have HQc := Lib.hid (KC.out.qat.below hB0)
      have HQd := Lib.hid (KD.out.qat.below hB0)
      go_loopw [49] (fun x wr => ∃ i j : Nat, i ≤ ne ∧ x = .int .i64 i ∧ wr = W0.drewN j ∧ ∀ q, q < i → ArrEq.entEq (ef q) (eg q) = true) (fun x _ => ne - (intOf x).toNat)
      case atStart => exact ⟨0, 0, Nat.zero_le _, rfl, rfl, fun j hj => absurd hj (by omega)⟩
      case round =>
        obtain ⟨i, dn, hi, rfl, rfl, hbef⟩ := hrel
        have Hb := Lib.hid hbef
        clear hbef
        by_cases hlt : i < ne
        · obtain ⟨b, o, rfl, _, hac⟩ := HEc.out (by omega)
          obtain ⟨b', o', rfl, _, had⟩ := HEd.out (by omega)
          obtain ⟨a1, a2⟩ := hac i hlt
          obtain ⟨b1, b2⟩ := had i hlt
          have v1 := KC.out.eok i hlt
          have v2 := KD.out.eok i hlt
          clear hac had
          cases he : ArrEq.entEq (ef i) (eg i)
          · have H := Lib.hid (sameEnts_hit hlt he)
            go_wp2_with fail
            go_quiet (fail)
            go_wp2_with fail
            go_ret
            exact ⟨by unfold objEq; rw [H.out]; simp, hB0.trans (by subst hW0; exact ⟨rfl, rfl, rfl, by simp, fun _ _ => rfl⟩)⟩
          · go_wp2_with fail
            go_quiet (fail)
            go_wp2_with fail
            go_round
            case rel =>
              refine ⟨i + 1, dn + _, by omega, by go_num, rfl, fun j hj => ?_⟩
              by_cases hjk : j = i
              · subst hjk; exact he
              · exact Hb.out j (by omega)
            case measure => simp [intOf]; omega
        · have HE := Lib.hid (sameEnts_all (f := ef) (g := eg) (n := ne) (fun j hj => Hb.out j (by omega)))
          go_wp2_with fail
          go_loopw [67] (fun x wr => ∃ i j : Nat, i ≤ np ∧ x = .int .i64 i ∧ wr = W0.drewN j ∧ ∀ q, q < i → ArrEq.arrEq 32 (pf q) (pg q) = true) (fun x _ => np - (intOf x).toNat)
          case atStart => exact ⟨0, _, Nat.zero_le _, rfl, rfl, fun j hj => absurd hj (by omega)⟩
          case round =>
            obtain ⟨i2, dn2, hi2, rfl, rfl, hbef2⟩ := hrel
            have Hb2 := Lib.hid hbef2
            clear hbef2
            by_cases hlt2 : i2 < np
            · obtain ⟨b, o, rfl, _, hac⟩ := HQc.out (by omega)
              obtain ⟨b', o', rfl, _, had⟩ := HQd.out (by omega)
              obtain ⟨a1, a2⟩ := hac i2 hlt2
              obtain ⟨b1, b2⟩ := had i2 hlt2
              have v1 := KC.out.qok i2 hlt2
              have v2 := KD.out.qok i2 hlt2
              clear hac had
              cases he : ArrEq.arrEq 32 (pf i2) (pg i2)
              · have H := Lib.hid (sameIds_hit hlt2 he)
                go_wp2_with fail
                go_quiet (fail)
                go_wp2_with fail
                go_ret
                exact ⟨by unfold objEq; rw [H.out]; simp, hB0.trans (by subst hW0; exact ⟨rfl, rfl, rfl, by simp, fun _ _ => rfl⟩)⟩
              · go_wp2_with fail
                go_quiet (fail)
                go_wp2_with fail
                go_round
                case rel =>
                  refine ⟨i2 + 1, dn2 + _, by omega, by go_num, rfl, fun j hj => ?_⟩
                  by_cases hjk : j = i2
                  · subst hjk; exact he
                  · exact Hb2.out j (by omega)
                case measure => simp [intOf]; omega
            · have HI := Lib.hid (sameIds_all (f := pf) (g := pg) (n := np) (fun j hj => Hb2.out j (by omega)))
              go_wp2_with fail
              go_ret
              exact ⟨by unfold objEq; rw [hk, hb', HE.out, ha, HI.out]; rfl, hB0.trans (by subst hW0; exact ⟨rfl, rfl, rfl, by simp, fun _ _ => rfl⟩)⟩
    · have hnp' : ((np : Int) != (mp : Int)) = true := by simp; omega
      subst hne
      go_wp2_with fail
      go_ret
      exact ⟨by unfold objEq; rw [sameIds_no hnp]; simp, hB0⟩
  · have hne' : ((ne : Int) != (me : Int)) = true := by simp; omega
    go_wp2_with fail
    go_ret
    exact ⟨by unfold objEq; rw [sameEnts_no hne]; simp, hB0⟩
end Go.Proofs.YtdpiplllcinieaaDoor
