/- bytes.Equal; the kind that a first link must have; object.Same. -/
import Derived.Test.YtdpiplllcinieaaDoorObjB
import Derived.Shelf.Bytes.SlEqualAll
import Derived.Deep.RegionHeld3
namespace Go.Proofs.YtdpiplllcinieaaDoor
open Go.RowKit Go.Stop Go.Extern Go.Ranges
set_option linter.unusedVariables false
set_option linter.unusedSimpArgs false
attribute [-go_sem] loadVar storeVar
attribute [local go_sem] loadVar_one storeVar_one
theorem bytes_any (p q : Option Addr) (n m c d : Nat) (xs ys : List Int) (w : World) (hx : xs.length = n) (hy : ys.length = m) (h1 : Lib.BytesIn w p n xs) (h2 : Lib.BytesIn w q m ys) :
    Calls Tryd.prog 37 #[.slice p n c, .slice q m d] w fun e w' => e = .returned (.bool ((strOfNums xs).toList == (strOfNums ys).toList)) ∧ w = w' := by
  have c1 := h1.convert (P := Tryd.prog) hx c 22 5 9 Tryd.underlying22 Tryd.underlying5 Tryd.underlying9
  have c2 := h2.convert (P := Tryd.prog) hy d 22 5 9 Tryd.underlying22 Tryd.underlying5 Tryd.underlying9
  clear h1 h2
  go_enter Tryd.func37, Tryd.ntmps37
  go_wp2_with fail
  go_ret
  exact ⟨rfl, rfl⟩
theorem wanted_any (k : Int) (w : World) : Calls Tryd.prog 15 #[.int .i64 k] w fun e w' => e = .returned (.int .i64 (if k = 3 then 2 else 0)) ∧ w = w' := by
  by_cases h : k = 3
  · subst h
    go_enter Tryd.func15, Tryd.ntmps15
    go_wp2
    go_ret
    exact ⟨rfl, rfl⟩
  · have H : Hid ((if k = 3 then (2 : Int) else 0) = 0) := if_neg h
    go_enter Tryd.func15, Tryd.ntmps15
    go_wp2
    go_ret
    exact ⟨by simp [go_sem, H.out], rfl⟩
/-- An object as it lies: its cells, its text's bytes, its entries, its parents. -/
structure ObjAt (w : World) (C : Array Value) (k : Int) (A : Option Addr) (n c : Nat) (xs : List Int) (E : Option Addr) (ne ce : Nat) (ef : Nat → Array Value) (Q : Option Addr) (np cp : Nat) (pf : Nat → Array Value) : Prop where
  size : C.size = 36
  kind : C[0]? = some (.int .i64 k)
  text : C[1]? = some (.slice A n c)
  ents : C[2]? = some (.slice E ne ce)
  targ : ArrEq.u8s 32 (C.extract 3 35) = true
  pars : C[35]? = some (.slice Q np cp)
  len : xs.length = n
  bytes : Lib.BytesIn w A n xs
  eat : Elems w E ne 33 ef
  eok : ∀ i, i < ne → ArrEq.isEnt (ef i) = true
  qat : Elems w Q np 32 pf
  qok : ∀ i, i < np → ArrEq.u8s 32 (pf i) = true
  emax : ne ≤ maxLen
  qmax : np ≤ maxLen
def bytesEq (xs ys : List Int) : Bool := (strOfNums xs).toList == (strOfNums ys).toList
/-- Are two objects the same? -/
def objEq (C D : Array Value) (k l : Int) (xs ys : List Int) (ne me : Nat) (ef eg : Nat → Array Value) (np mp : Nat) (pf pg : Nat → Array Value) : Bool :=
  k == l && bytesEq xs ys && sameEnts ne me ef eg && ArrEq.arrEq 32 (C.extract 3 35) (D.extract 3 35) && sameIds np mp pf pg
theorem bytesIn_below {w w' : World} {p : Option Addr} {n : Nat} {xs : List Int} (h : Lib.BytesIn w p n xs) (hb : Below w.heap.size w w') : Lib.BytesIn w' p n xs := fun hn => by
  obtain ⟨b, o, rfl, hc⟩ := h hn
  exact ⟨b, o, rfl, fun i hi => (hb.cell (p := ⟨b, o + i, none⟩) (World.block_lt_of_cell? w _ (hc i hi))).trans (hc i hi)⟩
theorem cell_below {W w : World} (hb : Below W.heap.size W w) (b o : Nat) (h : b < W.heap.size) : w.cell? ⟨b, o, none⟩ = W.cell? ⟨b, o, none⟩ := hb.cell (p := ⟨b, o, none⟩) h
set_option maxRecDepth 20000 in
theorem same_any (C D : Array Value) (k l : Int) (A B : Option Addr) (n c m d : Nat) (xs ys : List Int) (E F : Option Addr) (ne ce me de : Nat) (ef eg : Nat → Array Value) (Q R : Option Addr) (np cp mp dp : Nat) (pf pg : Nat → Array Value) (w : World)
    (HC : ObjAt w C k A n c xs E ne ce ef Q np cp pf) (HD : ObjAt w D l B m d ys F me de eg R mp dp pg) :
    Calls Tryd.prog 13 #[.agg C, .agg D] w fun x w' => x = .returned (.bool (objEq C D k l xs ys ne me ef eg np mp pf pg)) ∧ Below w.heap.size w w' := by
  have hC : 35 ≤ C.size := by rw [HC.size]; decide
  have hD : 35 ≤ D.size := by rw [HD.size]; decide
  obtain ⟨_, h0, h1, h2, u1, h4, _, _, _, _, _, _, _, _⟩ := id HC
  obtain ⟨_, g0, g1, g2, u2, g4, _, _, _, _, _, _, _, _⟩ := id HD
  have KC := Lib.hid HC
  have KD := Lib.hid HD
  clear HC HD
  rename_i a1 a2 a3 a4 a5 a6 a7 a8 a9 b1 b2 b3 b4 b5 b6 b7 b8 b9
  clear a1 a2 a3 a4 a5 a6 a7 a8 a9 b1 b2 b3 b4 b5 b6 b7 b8 b9
  have l25 := ld25
  have e25 := eq25 9998
  go_enter Tryd.func13, Tryd.ntmps13
  have hB0 : Below w.heap.size w ((w.alloc (.cells C 28)).alloc (.cells D 28)) := ba (ba (Below.refl _ _) _) _
  cases hk : (k == l)
  · go_wp2_with fail
    go_ret
    exact ⟨by unfold objEq; rw [hk]; simp, hB0⟩
  go_wp2_with fail
  refine (bytes_any A B n m c d xs ys _ KC.out.len KD.out.len (bytesIn_below KC.out.bytes hB0) (bytesIn_below KD.out.bytes hB0)).mono ?_
  rintro x1 w1 ⟨rfl, rfl⟩
  cases hb : ((strOfNums xs).toList == (strOfNums ys).toList)
  · have hb' : bytesEq xs ys = false := hb
    go_wp2_with fail
    go_ret
    exact ⟨by unfold objEq; rw [hb']; simp, hB0⟩
  have hb' : bytesEq xs ys = true := hb
  go_wp2_with fail
  refine (ents_any E F ne me ce de ef eg _ KC.out.emax KD.out.emax (KC.out.eat.below hB0) (KD.out.eat.below hB0) KC.out.eok KD.out.eok).mono ?_
  rintro x2 w2 ⟨rfl, hb2⟩
  obtain ⟨r1, r2⟩ := range_below hb2 w.heap.size 3 32 (by simp; omega)
  obtain ⟨r3, r4⟩ := range_below hb2 (w.heap.size + 1) 3 32 (by simp)
  have r5 := cell_below hb2 w.heap.size 35 (by simp; omega)
  have r6 := cell_below hb2 (w.heap.size + 1) 35 (by simp)
  simp [go_sem, hC, hD, h4, g4] at r1 r2 r3 r4 r5 r6
  have hB2 : Below w.heap.size w w2 := hB0.trans (hb2.mono (by simp; omega))
  clear hb2
  cases he : sameEnts ne me ef eg
  · go_wp2_with fail
    go_ret
    exact ⟨by unfold objEq; rw [he]; simp, hB2⟩
  cases ha : ArrEq.arrEq 32 (C.extract 3 35) (D.extract 3 35)
  · go_wp2_with fail
    go_ret
    exact ⟨by unfold objEq; rw [ha]; simp, hB2⟩
  go_wp2_with fail
  refine (ids_any Q R np mp cp dp pf pg _ KC.out.qmax KD.out.qmax (KC.out.qat.below hB2) (KD.out.qat.below hB2) KC.out.qok KD.out.qok).mono ?_
  rintro x3 w3 ⟨rfl, hb3⟩
  go_wp2_with fail
  go_ret
  exact ⟨by unfold objEq; rw [hk, hb', he, ha]; simp, hB2.trans (hb3.mono hB2.size)⟩
end Go.Proofs.YtdpiplllcinieaaDoor
