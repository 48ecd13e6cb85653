/- The law ObjectSame, walked. -/
import Derived.Test.YtdpiplllcinieaaDoorObjE
import Derived.Test.YtdpiplllcinieaaDoorOpenObj
import Derived.Deep.RegionHeld3
namespace Go.Proofs.YtdpiplllcinieaaDoor
open Go.RowKit Go.Stop Go.Extern Go.Ranges
set_option linter.unusedVariables false
set_option linter.unusedSimpArgs false
attribute [-go_sem] loadVar storeVar
attribute [local go_sem] loadVar_one storeVar_one
attribute [local go_sem] zero36_lit zero36_size
theorem ObjAt.below {w w' : World} {C : Array Value} {k : Int} {A : Option Addr} {n c : Nat} {xs : List Int} {E : Option Addr} {ne ce : Nat} {ef : Nat → Array Value} {Q : Option Addr} {np cp : Nat} {pf : Nat → Array Value}
    (h : ObjAt w C k A n c xs E ne ce ef Q np cp pf) (hb : Below w.heap.size w w') : ObjAt w' C k A n c xs E ne ce ef Q np cp pf :=
  ⟨h.size, h.kind, h.text, h.ents, h.targ, h.pars, h.len, bytesIn_below h.bytes hb, h.eat.below hb, h.eok, h.qat.below hb, h.qok, h.emax, h.qmax⟩
/-- Where a block of 36 cells lies whole. -/
def Whole (w : World) (b : Nat) (C : Array Value) : Prop := rangeOf w b 0 36 = C ∧ hasRange w b 0 36 = true ∧ b < w.heap.size
theorem Whole.below {B : Nat} {w w' : World} {b : Nat} {C : Array Value} (h : Whole w b C) (hb : Below B w w') (hB : b < B) : Whole w' b C := by
  obtain ⟨k1, k2⟩ := Below.range hb b 0 36 hB
  exact ⟨k1.trans h.1, k2.trans h.2.1, Nat.lt_of_lt_of_le h.2.2 hb.size⟩
theorem Whole.new (w : World) (C : Array Value) (t : TypeId) (h : C.size = 36) : Whole (w.alloc (.cells C t)) w.heap.size C :=
  ⟨by rw [range_new _ _ _ _ _ _ _ rfl (by omega)]; exact extract_all C 36 h, has_new _ _ _ _ _ _ _ rfl (by omega), by simp⟩
theorem Whole.old {w : World} {b : Nat} {C : Array Value} (h : Whole w b C) (o : Obj) : Whole (w.alloc o) b C :=
  h.below (B := w.heap.size) (ba (Below.refl _ _) o) h.2.2
theorem Whole.cell {w : World} {b : Nat} {C : Array Value} (h : Whole w b C) {j : Nat} (hj : j < 36) {v : Value} (hv : C[j]? = some v) : w.cell? ⟨b, j, none⟩ = some v := by
  obtain ⟨u, hu⟩ := has_at h.2.1 hj
  rw [Nat.zero_add] at hu
  have := rangeOf_get hj (by rw [Nat.zero_add]; exact hu)
  rw [h.1, hv] at this
  rw [hu, this]
theorem arr_refl {n : Nat} {xs : Array Value} (h : ArrEq.u8s n xs = true) : ArrEq.arrEq n xs xs = true := by
  simp [ArrEq.arrEq]
theorem objEq_ext {C D C' D' : Array Value} {k l : Int} {xs ys : List Int} {ne me : Nat} {ef eg : Nat → Array Value} {np mp : Nat} {pf pg : Nat → Array Value} (h1 : C'.extract 3 35 = C.extract 3 35) (h2 : D'.extract 3 35 = D.extract 3 35) :
    objEq C' D' k l xs ys ne me ef eg np mp pf pg = objEq C D k l xs ys ne me ef eg np mp pf pg := by unfold objEq; rw [h1, h2]
theorem objEq_refl {w : World} {C : Array Value} {k : Int} {A : Option Addr} {n c : Nat} {xs : List Int} {E : Option Addr} {ne ce : Nat} {ef : Nat → Array Value} {Q : Option Addr} {np cp : Nat} {pf : Nat → Array Value}
    (h : ObjAt w C k A n c xs E ne ce ef Q np cp pf) : objEq C C k k xs xs ne ne ef ef np np pf pf = true := by
  have h1 : sameEnts ne ne ef ef = true := sameEnts_all (fun j hj => by unfold ArrEq.entEq; simp [ArrEq.arrEq])
  have h2 : sameIds np np pf pf = true := sameIds_all (fun j hj => by simp [ArrEq.arrEq])
  unfold objEq bytesEq
  rw [h1, h2]
  simp [ArrEq.arrEq]
set_option maxRecDepth 20000 in
set_option maxHeartbeats 4000000 in
theorem objectSame_walk (C D : Array Value) (k l : Int) (A B : Option Addr) (n c m d : Nat) (xs ys : List Int) (E F : Option Addr) (ne ce me de : Nat) (ef eg : Nat → Array Value) (Q R : Option Addr) (np cp mp dp : Nat) (pf pg : Nat → Array Value) (w : World)
    (HC : ObjAt w C k A n c xs E ne ce ef Q np cp pf) (HD : ObjAt w D l B m d ys F me de eg R mp dp pg) :
    Calls Tryd.prog 3 #[.agg C, .agg D] w fun x w' => x = .returned (.bool true) ∧ Below w.heap.size w w' := by
  have KC := Lib.hid HC
  have KD := Lib.hid HD
  clear HC HD
  have l28 := ld28
  go_enter Tryd.func3, Tryd.ntmps3
  have Wa : Whole ((w.alloc (.cells C 28)).alloc (.cells D 28)) w.heap.size C := (Whole.new w C _ KC.out.size).old _
  have Wb : Whole ((w.alloc (.cells C 28)).alloc (.cells D 28)) (w.heap.size + 1) D := by simpa using Whole.new (w.alloc (.cells C 28)) D 28 KD.out.size
  have HB : Below w.heap.size w ((w.alloc (.cells C 28)).alloc (.cells D 28)) := ba (ba (Below.refl _ _) _) _
  have Ka := Lib.hid Wa
  have Kb := Lib.hid Wb
  have KB := Lib.hid HB
  clear Wa Wb HB
  go_wp2_with fail
  refine (alive06 _).mono ?_
  rintro x1 w1 ⟨rfl, hb1⟩
  have Wa := Ka.out.below hb1 Ka.out.2.2
  have Wb := Kb.out.below hb1 Kb.out.2.2
  have HB := KB.out.trans (hb1.mono KB.out.size)
  clear Ka Kb KB hb1
  have Ka := Lib.hid Wa
  have Kb := Lib.hid Wb
  have KB := Lib.hid HB
  obtain ⟨y1, y2, y3⟩ := Wa
  obtain ⟨z1, z2, z3⟩ := Wb
  clear HB
  go_wp2_with fail
  refine (of_any C k A n c xs E ne ce ef Q np cp pf w1 (KC.out.below KB.out)).mono ?_
  rintro x2 w2 ⟨C', b1, E', ce', Q', cp', rfl, ⟨cs, co⟩, hb2, ho2, _⟩
  have Wa := Ka.out.below hb2 Ka.out.2.2
  have Wb := Kb.out.below hb2 Kb.out.2.2
  have HB := KB.out.trans (hb2.mono KB.out.size)
  clear Ka Kb KB hb2 y1 y2 y3 z1 z2 z3
  have Wa' := Wa.old (.cells C' 33)
  have Wb' := Wb.old (.cells C' 33)
  have Wc' := Whole.new w2 C' 33 cs
  have HB' := ba HB (.cells C' 33)
  have HO := Lib.hid ho2
  have hz2 : w.heap.size + 2 ≤ w2.heap.size := by have := Wb.2.2; omega
  clear ho2 Wa Wb HB
  have Ka := Lib.hid Wa'
  have Kb := Lib.hid Wb'
  have Kc := Lib.hid Wc'
  have KB := Lib.hid HB'
  obtain ⟨y1, y2, y3⟩ := Wa'
  obtain ⟨z1, z2, z3⟩ := Wb'
  clear Wc' HB'
  have s33 := fun (w : World) (C : Array Value) (g : Nat) (hg : g = w.heap.size) (h1 : C.size = 36) => st33 w C C' g hg h1 cs co
  clear cs co
  go_wp2_with fail
  refine (of_any D l B m d ys F me de eg R mp dp pg _ (KD.out.below KB.out)).mono ?_
  rintro x3 w3 ⟨D', b2, F', de', R', dp', rfl, ⟨es, eo⟩, hb3, ho3, _⟩
  have Wa := Ka.out.below hb3 Ka.out.2.2
  have Wb := Kb.out.below hb3 Kb.out.2.2
  have Wc := Kc.out.below hb3 Kc.out.2.2
  have HB := KB.out.trans (hb3.mono KB.out.size)
  clear Ka Kb Kc KB y1 y2 y3 z1 z2 z3
  have Wa' := Wa.old (.cells D' 33)
  have Wb' := Wb.old (.cells D' 33)
  have Wc' := Wc.old (.cells D' 33)
  have Wd' := Whole.new w3 D' 33 es
  have HB' := ba HB (.cells D' 33)
  have HP := Lib.hid ho3
  have hz3 : w2.heap.size + 1 ≤ w3.heap.size := by have := Wc.2.2; omega
  have KB3 := Lib.hid hb3
  clear ho3 Wa Wb Wc HB hb3
  have Ka := Lib.hid Wa'
  have Kb := Lib.hid Wb'
  have Kc := Lib.hid Wc'
  have Kd := Lib.hid Wd'
  have KB := Lib.hid HB'
  clear Wa' Wb' Wc' Wd' HB'
  have s33 := fun (w : World) (C : Array Value) (g : Nat) (hg : g = w.heap.size) (h1 : C.size = 36) => st33 w C D' g hg h1 es eo
  clear es eo
  cases b1
  · go_wp2_with fail
    go_ret
    exact ⟨rfl, KB.out⟩
  cases b2
  · go_wp2_with fail
    go_ret
    exact ⟨rfl, KB.out⟩
  obtain ⟨HC', e1⟩ := HO.out rfl
  obtain ⟨HD', e2⟩ := HP.out rfl
  have KC' := Lib.hid (ObjAt.below (ObjAt.below (ObjAt.below HC' (ba (Below.refl _ _) _)) KB3.out) (ba (Below.refl _ (w3)) (.cells D' 33)))
  have KD' := Lib.hid (ObjAt.below HD' (ba (Below.refl _ _) (.cells D' 33)))
  have y0 := Ka.out.cell (by omega) KC.out.kind
  clear HC' HD' HO HP KB3
  have hq : Hid (objEq C' D' k l xs ys ne me ef eg np mp pf pg = objEq C D k l xs ys ne me ef eg np mp pf pg) := objEq_ext e1 e2
  clear e1 e2
  by_cases hk : k = 3
  · subst hk
    go_wp2_with fail
    have hw1 := KB.out
    generalize hW5 : w3.alloc (.cells D' 33) = W5 at *
    clear hW5 hz3 hz2
    generalize w2.heap.size = p2 at *
    generalize w3.heap.size = p3 at *
    obtain ⟨bv, hbv⟩ : ∃ bv, bv = objEq C D 3 l xs ys ne me ef eg np mp pf pg := ⟨_, rfl⟩
    have hSame : Hid (∀ w', (rangeOf w' w.heap.size 0 36 = C ∧ hasRange w' w.heap.size 0 36 = true) ∧ (rangeOf w' (w.heap.size + 1) 0 36 = D ∧ hasRange w' (w.heap.size + 1) 0 36 = true) ∧ (rangeOf w' p2 0 36 = C' ∧ hasRange w' p2 0 36 = true) ∧ (rangeOf w' p3 0 36 = D' ∧ hasRange w' p3 0 36 = true) ∧ w'.cell? ⟨w.heap.size, 0, none⟩ = some (.int .i64 3) ∧ Below W5.heap.size W5 w' → Calls Tryd.prog 13 #[.agg C, .agg D] w' fun x w'' => x = .returned (.bool bv) ∧ Below w'.heap.size w' w'') := fun w' hbS => have hb := hbS.2.2.2.2.2
            hbv ▸ same_any C D 3 l A B n c m d xs ys E F ne ce me de ef eg Q R np cp mp dp pf pg w' (KC.out.below (hw1.trans (hb.mono hw1.size))) (KD.out.below (hw1.trans (hb.mono hw1.size)))
    have hSelf : Hid (∀ w', (rangeOf w' w.heap.size 0 36 = C ∧ hasRange w' w.heap.size 0 36 = true) ∧ (rangeOf w' (w.heap.size + 1) 0 36 = D ∧ hasRange w' (w.heap.size + 1) 0 36 = true) ∧ (rangeOf w' p2 0 36 = C' ∧ hasRange w' p2 0 36 = true) ∧ (rangeOf w' p3 0 36 = D' ∧ hasRange w' p3 0 36 = true) ∧ w'.cell? ⟨w.heap.size, 0, none⟩ = some (.int .i64 3) ∧ Below W5.heap.size W5 w' → Calls Tryd.prog 13 #[.agg C, .agg C] w' fun x w'' => x = .returned (.bool true) ∧ Below w'.heap.size w' w'') := fun w' hbS => have hb := hbS.2.2.2.2.2
            (same_any C C 3 3 A A n c n c xs xs E E ne ce ne ce ef ef Q Q np cp np cp pf pf w' (KC.out.below (hw1.trans (hb.mono hw1.size))) (KC.out.below (hw1.trans (hb.mono hw1.size)))).mono (fun x w'' h => ⟨by rw [h.1, objEq_refl KC.out], h.2⟩)
    have hRef : Hid (∀ w', (rangeOf w' w.heap.size 0 36 = C ∧ hasRange w' w.heap.size 0 36 = true) ∧ (rangeOf w' (w.heap.size + 1) 0 36 = D ∧ hasRange w' (w.heap.size + 1) 0 36 = true) ∧ (rangeOf w' p2 0 36 = C' ∧ hasRange w' p2 0 36 = true) ∧ (rangeOf w' p3 0 36 = D' ∧ hasRange w' p3 0 36 = true) ∧ w'.cell? ⟨w.heap.size, 0, none⟩ = some (.int .i64 3) ∧ Below W5.heap.size W5 w' → Calls Tryd.prog 14 #[.agg C', .agg D'] w' fun x w'' => x = .returned (.bool bv) ∧ Below w'.heap.size w' w'') := fun w' hbS => have hb := hbS.2.2.2.2.2
            (refSame_any C' D' 3 l A B n c m d xs ys E' F' ne ce' me de' ef eg Q' R' np cp' mp dp' pf pg w' (KC'.out.below hb) (KD'.out.below hb)).mono (fun x w'' h => ⟨by rw [h.1, hq.out, hbv], h.2⟩)
    have hWant : Hid (∀ w', Calls Tryd.prog 15 #[.int .i64 3] w' fun x w'' => x = .returned (.int .i64 2) ∧ w' = w'') := fun w' => (wanted_any 3 w').mono (fun x w'' h => ⟨by rw [h.1, if_pos rfl], h.2⟩)
    have keepS : ∀ w', Below W5.heap.size W5 w' → (rangeOf w' w.heap.size 0 36 = C ∧ hasRange w' w.heap.size 0 36 = true) ∧ (rangeOf w' (w.heap.size + 1) 0 36 = D ∧ hasRange w' (w.heap.size + 1) 0 36 = true) ∧ (rangeOf w' p2 0 36 = C' ∧ hasRange w' p2 0 36 = true) ∧ (rangeOf w' p3 0 36 = D' ∧ hasRange w' p3 0 36 = true) ∧ w'.cell? ⟨w.heap.size, 0, none⟩ = some (.int .i64 3) ∧ Below W5.heap.size W5 w' := by
      intro w' hb
      have h1 := Ka.out.below hb Ka.out.2.2
      have h2 := Kb.out.below hb Kb.out.2.2
      have h3 := Kc.out.below hb Kc.out.2.2
      have h4 := Kd.out.below hb Kd.out.2.2
      exact ⟨⟨h1.1, h1.2.1⟩, ⟨h2.1, h2.2.1⟩, ⟨h3.1, h3.2.1⟩, ⟨h4.1, h4.2.1⟩, h1.cell (by omega) KC.out.kind, hb⟩
    have kS := Lib.hid keepS
    have kT : Hid (∀ w' w'', ((rangeOf w' w.heap.size 0 36 = C ∧ hasRange w' w.heap.size 0 36 = true) ∧ (rangeOf w' (w.heap.size + 1) 0 36 = D ∧ hasRange w' (w.heap.size + 1) 0 36 = true) ∧ (rangeOf w' p2 0 36 = C' ∧ hasRange w' p2 0 36 = true) ∧ (rangeOf w' p3 0 36 = D' ∧ hasRange w' p3 0 36 = true) ∧ w'.cell? ⟨w.heap.size, 0, none⟩ = some (.int .i64 3) ∧ Below W5.heap.size W5 w') → Below w'.heap.size w' w'' → (rangeOf w'' w.heap.size 0 36 = C ∧ hasRange w'' w.heap.size 0 36 = true) ∧ (rangeOf w'' (w.heap.size + 1) 0 36 = D ∧ hasRange w'' (w.heap.size + 1) 0 36 = true) ∧ (rangeOf w'' p2 0 36 = C' ∧ hasRange w'' p2 0 36 = true) ∧ (rangeOf w'' p3 0 36 = D' ∧ hasRange w'' p3 0 36 = true) ∧ w''.cell? ⟨w.heap.size, 0, none⟩ = some (.int .i64 3) ∧ Below W5.heap.size W5 w'') := fun w' w'' hS hb => keepS w'' (hS.2.2.2.2.2.trans (hb.mono hS.2.2.2.2.2.size))
    have pB : Below W5.heap.size W5 W5.drew := bd (Below.refl _ _)
    have KW := Lib.hid hw1
    clear keepS hw1 hbv
    have l33 := ld33
    go_region_held3 (fun w' => (rangeOf w' w.heap.size 0 36 = C ∧ hasRange w' w.heap.size 0 36 = true) ∧ (rangeOf w' (w.heap.size + 1) 0 36 = D ∧ hasRange w' (w.heap.size + 1) 0 36 = true) ∧ (rangeOf w' p2 0 36 = C' ∧ hasRange w' p2 0 36 = true) ∧ (rangeOf w' p3 0 36 = D' ∧ hasRange w' p3 0 36 = true) ∧ w'.cell? ⟨w.heap.size, 0, none⟩ = some (.int .i64 3) ∧ Below W5.heap.size W5 w')
      (first
        | exact kS.out _ pB
        | exact kT.out _ _ (by assumption) (by assumption)
        | exact kT.out _ _ (by assumption) (Below.refl _ _))
      (first
        | (go_at_call 13; with_reducible refine (hSame.out _ (by assumption)).mono ?_; rintro e w' ⟨rfl, hb⟩)
        | (go_at_call 13; with_reducible refine (hSelf.out _ (by assumption)).mono ?_; rintro e w' ⟨rfl, hb⟩)
        | (go_at_call 14; with_reducible refine (hRef.out _ (by assumption)).mono ?_; rintro e w' ⟨rfl, hb⟩)
        | (go_at_call 15; with_reducible refine (hWant.out _).mono ?_; rintro e w' ⟨rfl, rfl⟩))
    all_goals
      have hS := kT.out _ _ (by assumption) (Below.refl _ _)
      have hfin : Below w.heap.size w _ := KW.out.trans (hS.2.2.2.2.2.mono KW.out.size)
      clear hS
      go_wp2_with fail
      go_ret
      exact ⟨rfl, hfin⟩

  · have hk' : (k == 3) = false := by simp [hk]
    go_wp2_with fail
    have hw1 := KB.out
    generalize hW5 : w3.alloc (.cells D' 33) = W5 at *
    clear hW5 hz3 hz2
    generalize w2.heap.size = p2 at *
    generalize w3.heap.size = p3 at *
    obtain ⟨bv, hbv⟩ : ∃ bv, bv = objEq C D k l xs ys ne me ef eg np mp pf pg := ⟨_, rfl⟩
    have hSame : Hid (∀ w', (rangeOf w' w.heap.size 0 36 = C ∧ hasRange w' w.heap.size 0 36 = true) ∧ (rangeOf w' (w.heap.size + 1) 0 36 = D ∧ hasRange w' (w.heap.size + 1) 0 36 = true) ∧ (rangeOf w' p2 0 36 = C' ∧ hasRange w' p2 0 36 = true) ∧ (rangeOf w' p3 0 36 = D' ∧ hasRange w' p3 0 36 = true) ∧ w'.cell? ⟨w.heap.size, 0, none⟩ = some (.int .i64 k) ∧ Below W5.heap.size W5 w' → Calls Tryd.prog 13 #[.agg C, .agg D] w' fun x w'' => x = .returned (.bool bv) ∧ Below w'.heap.size w' w'') := fun w' hbS => have hb := hbS.2.2.2.2.2
            hbv ▸ same_any C D k l A B n c m d xs ys E F ne ce me de ef eg Q R np cp mp dp pf pg w' (KC.out.below (hw1.trans (hb.mono hw1.size))) (KD.out.below (hw1.trans (hb.mono hw1.size)))
    have hSelf : Hid (∀ w', (rangeOf w' w.heap.size 0 36 = C ∧ hasRange w' w.heap.size 0 36 = true) ∧ (rangeOf w' (w.heap.size + 1) 0 36 = D ∧ hasRange w' (w.heap.size + 1) 0 36 = true) ∧ (rangeOf w' p2 0 36 = C' ∧ hasRange w' p2 0 36 = true) ∧ (rangeOf w' p3 0 36 = D' ∧ hasRange w' p3 0 36 = true) ∧ w'.cell? ⟨w.heap.size, 0, none⟩ = some (.int .i64 k) ∧ Below W5.heap.size W5 w' → Calls Tryd.prog 13 #[.agg C, .agg C] w' fun x w'' => x = .returned (.bool true) ∧ Below w'.heap.size w' w'') := fun w' hbS => have hb := hbS.2.2.2.2.2
            (same_any C C k k A A n c n c xs xs E E ne ce ne ce ef ef Q Q np cp np cp pf pf w' (KC.out.below (hw1.trans (hb.mono hw1.size))) (KC.out.below (hw1.trans (hb.mono hw1.size)))).mono (fun x w'' h => ⟨by rw [h.1, objEq_refl KC.out], h.2⟩)
    have hRef : Hid (∀ w', (rangeOf w' w.heap.size 0 36 = C ∧ hasRange w' w.heap.size 0 36 = true) ∧ (rangeOf w' (w.heap.size + 1) 0 36 = D ∧ hasRange w' (w.heap.size + 1) 0 36 = true) ∧ (rangeOf w' p2 0 36 = C' ∧ hasRange w' p2 0 36 = true) ∧ (rangeOf w' p3 0 36 = D' ∧ hasRange w' p3 0 36 = true) ∧ w'.cell? ⟨w.heap.size, 0, none⟩ = some (.int .i64 k) ∧ Below W5.heap.size W5 w' → Calls Tryd.prog 14 #[.agg C', .agg D'] w' fun x w'' => x = .returned (.bool bv) ∧ Below w'.heap.size w' w'') := fun w' hbS => have hb := hbS.2.2.2.2.2
            (refSame_any C' D' k l A B n c m d xs ys E' F' ne ce' me de' ef eg Q' R' np cp' mp dp' pf pg w' (KC'.out.below hb) (KD'.out.below hb)).mono (fun x w'' h => ⟨by rw [h.1, hq.out, hbv], h.2⟩)
    have hWant : Hid (∀ w', Calls Tryd.prog 15 #[.int .i64 k] w' fun x w'' => x = .returned (.int .i64 0) ∧ w' = w'') := fun w' => (wanted_any k w').mono (fun x w'' h => ⟨by rw [h.1, if_neg hk], h.2⟩)
    have keepS : ∀ w', Below W5.heap.size W5 w' → (rangeOf w' w.heap.size 0 36 = C ∧ hasRange w' w.heap.size 0 36 = true) ∧ (rangeOf w' (w.heap.size + 1) 0 36 = D ∧ hasRange w' (w.heap.size + 1) 0 36 = true) ∧ (rangeOf w' p2 0 36 = C' ∧ hasRange w' p2 0 36 = true) ∧ (rangeOf w' p3 0 36 = D' ∧ hasRange w' p3 0 36 = true) ∧ w'.cell? ⟨w.heap.size, 0, none⟩ = some (.int .i64 k) ∧ Below W5.heap.size W5 w' := by
      intro w' hb
      have h1 := Ka.out.below hb Ka.out.2.2
      have h2 := Kb.out.below hb Kb.out.2.2
      have h3 := Kc.out.below hb Kc.out.2.2
      have h4 := Kd.out.below hb Kd.out.2.2
      exact ⟨⟨h1.1, h1.2.1⟩, ⟨h2.1, h2.2.1⟩, ⟨h3.1, h3.2.1⟩, ⟨h4.1, h4.2.1⟩, h1.cell (by omega) KC.out.kind, hb⟩
    have kS := Lib.hid keepS
    have kT : Hid (∀ w' w'', ((rangeOf w' w.heap.size 0 36 = C ∧ hasRange w' w.heap.size 0 36 = true) ∧ (rangeOf w' (w.heap.size + 1) 0 36 = D ∧ hasRange w' (w.heap.size + 1) 0 36 = true) ∧ (rangeOf w' p2 0 36 = C' ∧ hasRange w' p2 0 36 = true) ∧ (rangeOf w' p3 0 36 = D' ∧ hasRange w' p3 0 36 = true) ∧ w'.cell? ⟨w.heap.size, 0, none⟩ = some (.int .i64 k) ∧ Below W5.heap.size W5 w') → Below w'.heap.size w' w'' → (rangeOf w'' w.heap.size 0 36 = C ∧ hasRange w'' w.heap.size 0 36 = true) ∧ (rangeOf w'' (w.heap.size + 1) 0 36 = D ∧ hasRange w'' (w.heap.size + 1) 0 36 = true) ∧ (rangeOf w'' p2 0 36 = C' ∧ hasRange w'' p2 0 36 = true) ∧ (rangeOf w'' p3 0 36 = D' ∧ hasRange w'' p3 0 36 = true) ∧ w''.cell? ⟨w.heap.size, 0, none⟩ = some (.int .i64 k) ∧ Below W5.heap.size W5 w'') := fun w' w'' hS hb => keepS w'' (hS.2.2.2.2.2.trans (hb.mono hS.2.2.2.2.2.size))
    have pB : Below W5.heap.size W5 W5.drew := bd (Below.refl _ _)
    have KW := Lib.hid hw1
    clear keepS hw1 hbv
    have l33 := ld33
    go_region_held3 (fun w' => (rangeOf w' w.heap.size 0 36 = C ∧ hasRange w' w.heap.size 0 36 = true) ∧ (rangeOf w' (w.heap.size + 1) 0 36 = D ∧ hasRange w' (w.heap.size + 1) 0 36 = true) ∧ (rangeOf w' p2 0 36 = C' ∧ hasRange w' p2 0 36 = true) ∧ (rangeOf w' p3 0 36 = D' ∧ hasRange w' p3 0 36 = true) ∧ w'.cell? ⟨w.heap.size, 0, none⟩ = some (.int .i64 k) ∧ Below W5.heap.size W5 w')
      (first
        | exact kS.out _ pB
        | exact kT.out _ _ (by assumption) (by assumption)
        | exact kT.out _ _ (by assumption) (Below.refl _ _))
      (first
        | (go_at_call 13; with_reducible refine (hSame.out _ (by assumption)).mono ?_; rintro e w' ⟨rfl, hb⟩)
        | (go_at_call 13; with_reducible refine (hSelf.out _ (by assumption)).mono ?_; rintro e w' ⟨rfl, hb⟩)
        | (go_at_call 14; with_reducible refine (hRef.out _ (by assumption)).mono ?_; rintro e w' ⟨rfl, hb⟩)
        | (go_at_call 15; with_reducible refine (hWant.out _).mono ?_; rintro e w' ⟨rfl, rfl⟩))
    all_goals
      have hS := kT.out _ _ (by assumption) (Below.refl _ _)
      have hfin : Below w.heap.size w _ := KW.out.trans (hS.2.2.2.2.2.mono KW.out.size)
      clear hS
      go_wp2_with fail
      go_ret
      exact ⟨rfl, hfin⟩
theorem objectSame_law {C D : Array Value} {k l : Int} {A B : Option Addr} {n c m d : Nat} {xs ys : List Int} {E F : Option Addr} {ne ce me de : Nat} {ef eg : Nat → Array Value} {Q R : Option Addr} {np cp mp dp : Nat} {pf pg : Nat → Array Value} {w : World}
    (HC : ObjAt w C k A n c xs E ne ce ef Q np cp pf) (HD : ObjAt w D l B m d ys F me de eg R mp dp pg) (w' : World) (hw : w' = w) :
    Calls Tryd.prog 3 #[.agg C, .agg D] w' fun x w'' => x = .returned (.bool true) ∧ Below w'.heap.size w' w'' := by
  subst hw
  exact objectSame_walk C D k l A B n c m d xs ys E F ne ce me de ef eg Q R np cp mp dp pf pg w' HC HD
end Go.Proofs.YtdpiplllcinieaaDoor
