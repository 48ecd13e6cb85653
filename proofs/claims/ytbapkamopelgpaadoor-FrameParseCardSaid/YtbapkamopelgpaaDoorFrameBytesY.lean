/- FrameBytes: the walk. What comes in: slices of slices of bytes, opened. -/
import Derived.Test.YtbapkamopelgpaaDoorFrameBytesX
import Derived.Deep.Slices
import Derived.OpenShut
namespace Go.Proofs.YtbapkamopelgpaaDoor
open Go.RowKit Go.Stop Go.Extern Go.Ranges Go.Rows2 Go.Sort
set_option linter.unusedVariables false
set_option linter.unusedSimpArgs false
set_option maxRecDepth 100000
theorem frB_len {F : Frm} (hL : F.body.length ≤ 3000) : (frB F).length ≤ 3040 := by
  have h1 := fr_len hL
  unfold frB
  rw [List.length_append, four_sum, show frBase F = [99, 97, 114, 116] ++ ocAll frS.data.toList (frN F) (frF F) 4 from rfl, List.length_append]
  simp
  omega
theorem frB_byte {F : Frm} (hb : ∀ x ∈ F.body, isByte x) : BytesOk (frB F) := fun y hy => by
  rcases List.mem_append.1 (show y ∈ frBase F ++ (Sha.sum (frBase F)).take 4 from hy) with h | h
  · exact frF_byte hb y h
  · exact sum_bytes _ y (List.mem_of_mem_take h)
theorem own_cap {w : World} {base : Nat} {e : TypeId} {m : Nat} {A : Option Addr} {n c : Nat} {xs : List Value} (h : w.ownsRow base e m (.slice A n c) n xs) : n ≤ c ∧ c ≤ maxLen := by
  rcases h.2 with ⟨hv, h0⟩ | ⟨g, cap, cur, hv, _, _, h1, h2, _⟩
  · injection hv with _ _ h3; subst h3; subst h0; exact ⟨Nat.le_refl _, Nat.zero_le _⟩
  · injection hv with _ _ h3; subst h3; exact ⟨h1, h2⟩
theorem frC_le (F : Frm) : frC F ≤ 22 := by
  unfold frC endC
  split
  · decide
  · split
    · decide
    · split <;> decide
theorem keepZ {W w' : World} {gf gw g7 : Nat} {F : Frm} {B Bp Ab : Option Addr} {cb cp cbb : Nat} {tf tw t7 : TypeId} {ys : List Int}
    (h1 : W.heap[gf]? = some (.cells #[.int .i64 F.k, .int .i64 F.f, .int .i64 F.t, .slice B F.body.length cb] tf (0, 0))) (h2 : W.heap[gw]? = some (.cells #[.int .i64 F.k, .int .i64 F.f, .int .i64 F.t, .slice B F.body.length cb] tw (0, 0)))
    (h3 : W.heap[g7]? = some (.cells #[.int .i64 F.k, .int .i64 F.f, .int .i64 F.t, .slice Bp F.body.length cp] t7 (0, 0))) (h4 : Lib.BytesIn W Ab ys.length ys) (hb : Below W.heap.size W w') :
    (w'.cell? ⟨gf, 0, none⟩ = some (.int .i64 F.k) ∧ w'.cell? ⟨gf, 1, none⟩ = some (.int .i64 F.f) ∧ w'.cell? ⟨gf, 2, none⟩ = some (.int .i64 F.t) ∧ w'.cell? ⟨gf, 3, none⟩ = some (.slice B F.body.length cb)) ∧
        (w'.cell? ⟨gw, 0, none⟩ = some (.int .i64 F.k) ∧ w'.cell? ⟨gw, 1, none⟩ = some (.int .i64 F.f) ∧ w'.cell? ⟨gw, 2, none⟩ = some (.int .i64 F.t) ∧ w'.cell? ⟨gw, 3, none⟩ = some (.slice B F.body.length cb)) ∧
        (w'.cell? ⟨g7, 0, none⟩ = some (.int .i64 F.k) ∧ w'.cell? ⟨g7, 1, none⟩ = some (.int .i64 F.f) ∧ w'.cell? ⟨g7, 2, none⟩ = some (.int .i64 F.t) ∧ w'.cell? ⟨g7, 3, none⟩ = some (.slice Bp F.body.length cp)) ∧
        (convert 22 9 (.slice Ab ys.length cbb)).run Tryd.prog w' = .ok (.string (strOfNums ys)) w' ∧ Below W.heap.size W w' := by
  obtain ⟨a0, a1, a2, a3, _⟩ := keepF h1 hb
  obtain ⟨b0, b1, b2, b3, _⟩ := keepF h2 hb
  obtain ⟨c0, c1, c2, c3, _⟩ := keepF h3 hb
  exact ⟨⟨a0, a1, a2, a3⟩, ⟨b0, b1, b2, b3⟩, ⟨c0, c1, c2, c3⟩, (bytesIn_below' h4 hb).convert (P := Tryd.prog) rfl cbb 22 5 9 Tryd.underlying22 Tryd.underlying5 Tryd.underlying9, hb⟩
set_option maxHeartbeats 8000000 in
theorem frameBytes_walk (F : Frm) (B : Option Addr) (cb : Nat) (a : Nat → Addr) (w : World) (HV : PrV w a) (HE : Errs w a) (hB : Lib.BytesIn w B F.body.length F.body) (hb : ∀ x ∈ F.body, isByte x) (hc : F.body.length ≤ cb) (hcm : cb ≤ maxLen) :
    Calls Tryd.prog 8 #[.agg (frA F B cb)] w fun e w' => e = .returned (.bool true) ∧ Below w.heap.size w w' := by
  have b0 := alloc_below w (.cells (frA F B cb) 56)
  have HR0 := Lib.hid (heap_alloc_last w (.cells (frA F B cb) 56))
  have K := Lib.hid (alive15 a _ (HV.fr.below b0))
  have HVh := Lib.hid HV
  have HEh := Lib.hid HE
  have HBh := Lib.hid hB
  have HOh := Lib.hid hb
  have HB0 := Lib.hid b0
  have hLm : F.body.length ≤ 9223372036854775807 := by unfold maxLen at hcm; omega
  clear HV HE hB hb b0 hc hcm
  unfold frA at HR0 HB0 K ⊢
  go_enter Tryd.func8, Tryd.ntmps8
  go_wp2_with fail
  refine K.out.mono ?_
  rintro e w1 ⟨rfl, hb1⟩
  obtain ⟨m0, m1, m2, m3, _⟩ := keepF HR0.out hb1
  have HR1 := Lib.hid ((hb1.block _ (Array.getElem?_eq_some_iff.1 HR0.out).1).trans HR0.out)
  have HB1 := Lib.hid (stepV HB0.out hb1)
  clear hb1 K HR0 HB0
  by_cases h1 : 3500 < F.body.length
  · have hd : decide ((3500 : Int) < (F.body.length : Int)) = true := by simp; omega
    go_wp2_with fail
    go_ret
    exact ⟨rfl, HB1.out⟩
  have hd : decide ((3500 : Int) < (F.body.length : Int)) = false := by simp; omega
  have hg0 : w.heap.size < w1.heap.size := (Array.getElem?_eq_some_iff.1 HR1.out).1
  have bw := alloc_below w1 (.cells #[.int .i64 F.k, .int .i64 F.f, .int .i64 F.t, .slice B F.body.length cb] 59)
  have HRw := Lib.hid (heap_alloc_last w1 (.cells #[.int .i64 F.k, .int .i64 F.f, .int .i64 F.t, .slice B F.body.length cb] 59))
  have HRf := Lib.hid ((bw.block _ hg0).trans HR1.out)
  have HB2 := Lib.hid (stepV HB1.out bw)
  have KB := Lib.hid (bytesAid_any B F.body.length cb F.body _ rfl (bytesIn_below' HBh.out HB2.out) (by omega))
  clear bw HR1
  go_wp2_with fail
  refine KB.out.mono ?_
  rintro e w2 ⟨gi, ci, rfl, hb2, hoi⟩
  obtain ⟨p0, p1, p2, p3, _⟩ := keepF HRf.out hb2
  obtain ⟨q0, q1, q2, q3, _⟩ := keepF HRw.out hb2
  have HRf2 := Lib.hid ((hb2.block _ (Array.getElem?_eq_some_iff.1 HRf.out).1).trans HRf.out)
  have HRw2 := Lib.hid ((hb2.block _ (Array.getElem?_eq_some_iff.1 HRw.out).1).trans HRw.out)
  have HB3 := Lib.hid (stepV HB2.out hb2)
  have HI := Lib.hid hoi
  have hBi : Lib.BytesIn w2 (some ⟨gi, 0, none⟩) F.body.length F.body := fun h0 => by
    obtain ⟨b, o, hbo, hcx⟩ := own_bytes hoi (by omega)
    refine ⟨b, o, hbo, fun i hi => ?_⟩
    rw [hcx i (by omega)]
    simp [List.getD_eq_getElem?_getD, List.getElem?_append_left hi]
  have KF := Lib.hid (frBytes_any F (some ⟨gi, 0, none⟩) ci a w2 (HVh.out.fr.below HB3.out) hBi HOh.out (by unfold maxLen; omega))
  have HBi := Lib.hid hBi
  clear hb2 hoi KB HRf HRw HB2 hBi m0 m1 m2 m3
  unfold frA at KF
  go_wp2_with fail
  by_cases hfc : frC F = 0
  · have HFC := Lib.hid hfc
    clear hfc
    refine KF.out.mono ?_
    rintro e w3 ⟨hok, _⟩
    obtain ⟨Ab, cbb, rfl, hob, hb3⟩ := hok HFC.out
    have KN := Lib.hid fun (W : World) (h : Below w3.heap.size w3 W) => num_any a 0 (by decide) W (HEh.out.below (stepV (stepV HB3.out hb3) h))
    simp only [show errV a 0 = Value.nilIface from rfl] at KN
    have hz : frC F = 0 := HFC.out
    have HOB := Lib.hid hob
    clear hok hob
    obtain ⟨p0, p1, p2, p3, _⟩ := keepF HRf2.out hb3
    obtain ⟨q0, q1, q2, q3, _⟩ := keepF HRw2.out hb3
    have HRf3 := Lib.hid ((hb3.block _ (Array.getElem?_eq_some_iff.1 HRf2.out).1).trans HRf2.out)
    have HRw3 := Lib.hid ((hb3.block _ (Array.getElem?_eq_some_iff.1 HRw2.out).1).trans HRw2.out)
    have HB4 := Lib.hid (stepV HB3.out hb3)
    have hgf : w.heap.size < w3.heap.size := (Array.getElem?_eq_some_iff.1 HRf3.out).1
    have hgw : w1.heap.size < w3.heap.size := (Array.getElem?_eq_some_iff.1 HRw3.out).1
    have x3 := fun (p : Regrown) => ((below_regrown w3 p.d p.os).cell (p := ⟨w.heap.size, 3, none⟩) hgf).trans p3
    have y0 := fun (p : Regrown) => ((below_regrown w3 p.d p.os).cell (p := ⟨w1.heap.size, 0, none⟩) hgw).trans q0
    have y1 := fun (p : Regrown) => ((below_regrown w3 p.d p.os).cell (p := ⟨w1.heap.size, 1, none⟩) hgw).trans q1
    have y2 := fun (p : Regrown) => ((below_regrown w3 p.d p.os).cell (p := ⟨w1.heap.size, 2, none⟩) hgw).trans q2
    have y3 := fun (p : Regrown) => ((below_regrown w3 p.d p.os).cell (p := ⟨w1.heap.size, 3, none⟩) hgw).trans q3
    have KBd := Lib.hid fun (W : World) => refBad_any F B cb W (by unfold maxLen; omega)
    have KK := Lib.hid fun (W : World) (h : Below w3.heap.size w3 W) => keptAid_any gi F.body.length ci B cb F.body W rfl (own_bytes (own_keep (own_keep HI.out hb3) h)) (bytesIn_below' HBh.out (stepV HB4.out h)) (own_cap HI.out).1 (own_cap HI.out).2
    unfold frA at KBd
    rw [hz] at KBd
    clear hz
    clear hb3 p0 p1 p2 q0 q1 q2 q3 HRf2 HRw2 HB3 KF
    go_wp2_with fail
    refine wp_region_quiet_below (by kernel_rfl) (by kernel_rfl) ?_
    iterate 12 (go_big_quiet_step (first
      | (go_at_call 20; exact Calls.regrown_of (KN.out _ (below_regrown _ _ _)))
      | (go_at_call 33; exact Calls.regrown_of (KBd.out _))
      | (go_at_call 30; exact Calls.regrown_of (KK.out _ (below_regrown _ _ _)))))
    refine wpQuiet_nil ?_
    intro W6 hw'
    obtain ⟨pq, hw''⟩ := hw'
    have hB6 := below_regrown w3 pq.d pq.os
    rw [← hw''] at hB6
    have HB6 := Lib.hid (stepV HB4.out hB6)
    have HRf6 := Lib.hid ((hB6.block _ (Array.getElem?_eq_some_iff.1 HRf3.out).1).trans HRf3.out)
    have HRw6 := Lib.hid ((hB6.block _ (Array.getElem?_eq_some_iff.1 HRw3.out).1).trans HRw3.out)
    have HOB6 := Lib.hid (own_keep HOB.out hB6)
    have hall := frC_ok HFC.out
    have KP := Lib.hid (frParse_any Ab cbb (frB F) a W6 (HVh.out.below HB6.out) (own_bytes HOB6.out) (own_cap HOB6.out).1 (own_cap HOB6.out).2 (frB_byte HOh.out) (by have := frB_len hall.2.2.2.2; omega))
    have HPF := Lib.hid (pr_fr HFC.out HOh.out)
    have HAl := Lib.hid hall
    clear hw'' hB6 x3 y0 y1 y2 y3 HRf3 HRw3 HB4 HOB KBd KK KN hall
    go_wp2_with fail
    refine KP.out.mono ?_
    rintro e w7 ⟨hok, _⟩
    obtain ⟨Bp, cp, rfl, hBp, hb7⟩ := hok HPF.out.1
    rw [HPF.out.2] at hBp ⊢
    have HBp := Lib.hid (bytesIn_below' hBp (alloc_below w7 (.cells (frA F Bp cp) 56)))
    have HR7 := Lib.hid (heap_alloc_last w7 (.cells (frA F Bp cp) 56))
    have hb8 := stepV hb7 (alloc_below w7 (.cells (frA F Bp cp) 56))
    have HRf7 := Lib.hid ((hb8.block _ (Array.getElem?_eq_some_iff.1 HRf6.out).1).trans HRf6.out)
    have HRw7 := Lib.hid ((hb8.block _ (Array.getElem?_eq_some_iff.1 HRw6.out).1).trans HRw6.out)
    have HB8 := Lib.hid (stepV HB6.out hb8)
    have HOB8 := Lib.hid (own_bytes (own_keep HOB6.out hb8))
    have r3 := who_range HAl.out.2.2.1
    have r4 := who_range HAl.out.2.2.2.1
    have KL := Lib.hid fun (W : World) (h : Below w.heap.size w W) => refLaid_any F B cb W ⟨HAl.out.1, HAl.out.2.1⟩ r3 r4 (bytesIn_below' HBh.out h) HOh.out (by have := HAl.out.2.2.2.2; omega)
    have KS := Lib.hid fun (W : World) (h : Below (w7.alloc (.cells (frA F Bp cp) 56)).heap.size (w7.alloc (.cells (frA F Bp cp) 56)) W) => frSame_any F F Bp B cp cb W (bytesIn_below' HBp.out h) (bytesIn_below' HBh.out (stepV HB8.out h))
    rw [sameF_self] at KS
    clear hok hBp hb7 hb8 KP HOB6 HB6 HRf6 HRw6 r3 r4
    unfold frA at HR7 HB8 HBp HRf7 HRw7 HOB8 KL KS ⊢
    go_wp2_with fail
    generalize hw8 : w7.alloc (.cells #[.int .i64 F.k, .int .i64 F.f, .int .i64 F.t, .slice Bp F.body.length cp] 56) = w8 at *
    clear hw8
    generalize w7.heap.size = g7 at *
    generalize w1.heap.size = gw at *
    obtain ⟨⟨a0, a1, a2, a3⟩, ⟨b0, b1, b2, b3⟩, ⟨c0, c1, c2, c3⟩, hcv, _⟩ := keepZ (cbb := cbb) HRf7.out HRw7.out HR7.out HOB8.out (Below.refl _ _).drew
    obtain ⟨⟨a0', a1', a2', a3'⟩, ⟨b0', b1', b2', b3'⟩, ⟨c0', c1', c2', c3'⟩, hcv', _⟩ := keepZ (cbb := cbb) HRf7.out HRw7.out HR7.out HOB8.out (Below.refl _ _)
    go_region_with (first
        | (go_at_call 34; refine (KL.out _ (stepV HB8.out (Below.refl _ _).drew)).mono ?_; rintro e wL ⟨AL, cL, rfl, hoL, hbL⟩; have hcL := (own_bytes hoL).convert (P := Tryd.prog) rfl cL 22 5 9 Tryd.underlying22 Tryd.underlying5 Tryd.underlying9; obtain ⟨⟨a0, a1, a2, a3⟩, ⟨b0, b1, b2, b3⟩, ⟨c0, c1, c2, c3⟩, hcv, _⟩ := keepZ (cbb := cbb) HRf7.out HRw7.out HR7.out HOB8.out (stepV (Below.refl _ _).drew hbL))
        | (go_at_call 35; refine (KS.out _ (stepV (Below.refl _ _).drew hbL)).mono ?_; rintro e wS ⟨rfl, hbS⟩)
        | fail "")
    all_goals (
      have HBS := Lib.hid (stepV (stepV (stepV HB8.out (Below.refl _ _).drew) hbL) hbS)
      clear hbL hbS hoL hcL hcv hcv' a0 a1 a2 a3 b0 b1 b2 b3 c0 c1 c2 c3 a0' a1' a2' a3' b0' b1' b2' b3' c0' c1' c2' c3'
      go_wp2_with fail
      go_ret
      exact ⟨rfl, HBS.out⟩)
  · have HFC := Lib.hid hfc
    have hne : ((frC F : Int) != 0) = true := by simp; omega
    clear hfc
    refine KF.out.mono ?_
    rintro e w3 ⟨_, hno⟩
    obtain ⟨rfl, hb3⟩ := hno HFC.out
    have hev : errV a (frC F) = .iface 198 (.pointer (some (a (frC F)))) := by unfold errV; rw [if_neg HFC.out]
    have KN := Lib.hid fun (W : World) (h : Below w3.heap.size w3 W) => num_any a (frC F) (frC_le F) W (HEh.out.below (stepV (stepV HB3.out hb3) h))
    rw [hev] at KN ⊢
    clear hno hev
    obtain ⟨p0, p1, p2, p3, _⟩ := keepF HRf2.out hb3
    obtain ⟨q0, q1, q2, q3, _⟩ := keepF HRw2.out hb3
    have HRf3 := Lib.hid ((hb3.block _ (Array.getElem?_eq_some_iff.1 HRf2.out).1).trans HRf2.out)
    have HRw3 := Lib.hid ((hb3.block _ (Array.getElem?_eq_some_iff.1 HRw2.out).1).trans HRw2.out)
    have HB4 := Lib.hid (stepV HB3.out hb3)
    have hgf : w.heap.size < w3.heap.size := (Array.getElem?_eq_some_iff.1 HRf3.out).1
    have hgw : w1.heap.size < w3.heap.size := (Array.getElem?_eq_some_iff.1 HRw3.out).1
    have x3 := fun (p : Regrown) => ((below_regrown w3 p.d p.os).cell (p := ⟨w.heap.size, 3, none⟩) hgf).trans p3
    have y0 := fun (p : Regrown) => ((below_regrown w3 p.d p.os).cell (p := ⟨w1.heap.size, 0, none⟩) hgw).trans q0
    have y1 := fun (p : Regrown) => ((below_regrown w3 p.d p.os).cell (p := ⟨w1.heap.size, 1, none⟩) hgw).trans q1
    have y2 := fun (p : Regrown) => ((below_regrown w3 p.d p.os).cell (p := ⟨w1.heap.size, 2, none⟩) hgw).trans q2
    have y3 := fun (p : Regrown) => ((below_regrown w3 p.d p.os).cell (p := ⟨w1.heap.size, 3, none⟩) hgw).trans q3
    have KBd := Lib.hid fun (W : World) => refBad_any F B cb W (by unfold maxLen; omega)
    have KK := Lib.hid fun (W : World) (h : Below w3.heap.size w3 W) => keptAid_any gi F.body.length ci B cb F.body W rfl (own_bytes (own_keep (own_keep HI.out hb3) h)) (bytesIn_below' HBh.out (stepV HB4.out h)) (own_cap HI.out).1 (own_cap HI.out).2
    unfold frA at KBd
    have hnn : ((frC F : Int) != (frC F : Int)) = false := by simp
    clear hb3 p0 p1 p2 q0 q1 q2 q3 HRf2 HRw2 HB3 KF
    go_wp2_with fail
    refine wp_region_quiet_below (by kernel_rfl) (by kernel_rfl) ?_
    iterate 12 (go_big_quiet_step (first
      | (go_at_call 20; exact Calls.regrown_of (KN.out _ (below_regrown _ _ _)))
      | (go_at_call 33; exact Calls.regrown_of (KBd.out _))
      | (go_at_call 30; exact Calls.regrown_of (KK.out _ (below_regrown _ _ _)))))
    refine wpQuiet_nil ?_
    intro W6 hw'
    obtain ⟨pq, hw''⟩ := hw'
    have hB6 := below_regrown w3 pq.d pq.os
    rw [← hw''] at hB6
    have HB6 := Lib.hid (stepV HB4.out hB6)
    clear hw'' hB6 x3 y0 y1 y2 y3
    go_wp2_with fail
    go_ret
    exact ⟨rfl, HB6.out⟩
end Go.Proofs.YtbapkamopelgpaaDoor

namespace Go.Proofs.YtbapkamopelgpaaDoor
open Go.RowKit Go.ChangeShapes Go.WideShapes Go.Ranges
set_option linter.unusedVariables false
set_option linter.unusedSimpArgs false
/-- How a slice of arrays or structs lies: each element's cells. -/
def Elems (w : World) (A : Option Addr) (n size : Nat) (f : Nat → Array Value) : Prop :=
  0 < n → ∃ b o, A = some ⟨b, o, none⟩ ∧ b < w.heap.size ∧ ∀ i, i < n → hasRange w b (o + i * size) size = true ∧ rangeOf w b (o + i * size) size = f i
section
variable {H : Type} {enc : TypeId × Value → H} {P : Program} {w : World} {base : Nat} {sp : Nat → Bool} {held : Bool}
/-- A slice whose elements are of so many cells. -/
theorem open_elems {t e : TypeId} {m fuel : Nat} {A : Option Addr} {n c : Nat} {x : DataW H × List MemPlace} {G : Array Value → Prop} (ht : P.underlying t = some (.slice e)) (hC : P.cellsOf e = m) (hm0 : 0 < m)
    (hG : ∀ fu cs y, DataW.trod enc P w base sp held fu e cs = some y → G cs.toArray)
    (h : DataW.trod enc P w base sp held fuel t [.slice A n c] = some x) : ∃ f : Nat → Array Value, n ≤ c ∧ c ≤ maxLen ∧ Elems w A n m f ∧ ∀ i, i < n → G (f i) := by
  rcases Deep.open_slice ht h with ⟨hv, _⟩ | ⟨a, len, cap, mm, fu, D, Pl, hv, hb, hl, hm, hmm, _, hi⟩
  · simp only [List.cons.injEq, and_true, Value.slice.injEq] at hv
    obtain ⟨rfl, rfl, rfl⟩ := hv
    exact ⟨fun _ => #[], Nat.le_refl _, Nat.zero_le _, fun h => absurd h (by omega), fun i hi => absurd hi (by omega)⟩
  · simp only [List.cons.injEq, and_true, Value.slice.injEq] at hv
    obtain ⟨rfl, rfl, rfl⟩ := hv
    have hnm : n ≤ mm := by rw [hmm]; split <;> omega
    have each : ∀ i, i < n → ∃ C : Array Value, C.size = m ∧ (∀ j, j < m → w.cell? (a.add (i * m + j)) = C[j]?) ∧ G C := by
      intro i hin
      obtain ⟨cs', hc, htr⟩ := hi i (by omega)
      rw [hC] at hc
      obtain ⟨_, hlen, hcell⟩ := World.cells?_some hc
      refine ⟨cs'.toArray, by simpa using hlen, fun j hj => ?_, hG _ _ _ htr⟩
      have := hcell j hj
      rw [Deep.add_add] at this
      simpa using this
    obtain ⟨f, hf⟩ := Deep.choose_lt each
    refine ⟨f, hl, hm, fun hn => ?_, fun i hi => (hf i hi).2.2⟩
    obtain ⟨b, o, s⟩ := a
    have h0 := (hf 0 hn).2.1 0 hm0
    have hsz := (hf 0 hn).1
    obtain rfl : s = none := by
      rw [Array.getElem?_eq_getElem (by omega)] at h0
      simpa [Addr.add] using World.cell?_spot h0
    have hblk : b < w.heap.size := by
      rw [Array.getElem?_eq_getElem (by omega), Go.WideShapes.add_plain] at h0
      exact World.block_lt_of_cell? w _ h0
    have hcell : ∀ i, i < n → ∀ j, j < m → w.cell? ⟨b, o + i * m + j, none⟩ = (f i)[j]? := fun i hi j hj => by
      have := (hf i hi).2.1 j hj
      rw [Go.WideShapes.add_plain] at this
      rw [Nat.add_assoc]; exact this
    refine ⟨b, o, rfl, hblk, fun i hi => ⟨?_, ?_⟩⟩
    · unfold hasRange
      rw [List.all_eq_true]
      intro j hj
      have hj' := List.mem_range.1 hj
      rw [hcell i hi j hj', Array.getElem?_eq_getElem (by rw [(hf i hi).1]; exact hj')]
      rfl
    · apply Array.ext_getElem?
      intro j
      by_cases hj : j < m
      · simp only [rangeOf, List.getElem?_toArray, List.getElem?_map, List.getElem?_range hj, Option.map_some]
        rw [hcell i hi j hj, Array.getElem?_eq_getElem (by rw [(hf i hi).1]; exact hj)]
        rfl
      · rw [Array.getElem?_eq_none (by rw [size_rangeOf]; omega), Array.getElem?_eq_none (by rw [(hf i hi).1]; omega)]
/-- A slice of bytes. -/
theorem open_bytes {t e : TypeId} {fuel : Nat} {A : Option Addr} {n c : Nat} {x : DataW H × List MemPlace} (ht : P.underlying t = some (.slice e)) (he : P.underlying e = some (.int .u8)) (hC : P.cellsOf e = 1)
    (h : DataW.trod enc P w base sp held fuel t [.slice A n c] = some x) : ∃ xs : List Int, xs.length = n ∧ n ≤ c ∧ c ≤ maxLen ∧ Lib.BytesIn w A n xs ∧ ∀ y ∈ xs, 0 ≤ y ∧ y < 256 := by
  obtain ⟨f, h1, h2, h3, h4⟩ := open_elems (G := fun C => ∃ y : Int, C[0]? = some (.int .u8 y) ∧ 0 ≤ y ∧ y < 256) ht hC (by decide) (fun fu cs y hy => by
    obtain ⟨v, hv, _, hw⟩ := DataW.trod_int he hy
    subst hv
    refine ⟨v, rfl, ?_⟩
    simp [Lit.wf, IntKind.min, IntKind.max, IntKind.signed, IntKind.bits] at hw
    omega) h
  obtain ⟨g, hg⟩ := Deep.choose_lt h4
  refine ⟨(List.range n).map g, by simp, h1, h2, fun hn => ?_, fun y hy => ?_⟩
  · obtain ⟨b, o, rfl, _, hc⟩ := h3 hn
    refine ⟨b, o, rfl, fun i hi => ?_⟩
    obtain ⟨k1, k2⟩ := hc i hi
    have e0 := (hg i hi).1
    rw [← k2] at e0
    obtain ⟨v, hv⟩ := has_at k1 (show 0 < 1 by decide)
    rw [rangeOf_get (by decide) hv] at e0
    rw [Nat.mul_one, Nat.add_zero] at hv
    rw [hv, e0]
    simp [List.getD, hi]
  · obtain ⟨i, hi, rfl⟩ := List.mem_map.1 hy
    exact (hg i (List.mem_range.1 hi)).2
theorem slice_one {t e : TypeId} {fuel : Nat} {cs : List Value} {x : DataW H × List MemPlace} (ht : P.underlying t = some (.slice e)) (h : DataW.trod enc P w base sp held fuel t cs = some x) : ∃ A n c, cs = [.slice A n c] := by
  rcases Deep.open_slice ht h with ⟨hv, _⟩ | ⟨a, len, cap, mm, fu, D, Pl, hv, _⟩
  · exact ⟨_, _, _, hv⟩
  · exact ⟨_, _, _, hv⟩
theorem take_one {cs : List Value} {o : Nat} {v : Value} (h : (cs.drop o).take 1 = [v]) : cs[o]? = some v := by
  have : ((cs.drop o).take 1)[0]? = some v := by rw [h]; rfl
  rw [List.getElem?_take_of_lt (by decide), List.getElem?_drop, Nat.add_zero] at this
  exact this
/-- A slice of slices of bytes that came in. -/
theorem open_parts {t e e2 : TypeId} {fuel : Nat} {A : Option Addr} {m c : Nat} {x : DataW H × List MemPlace} (ht : P.underlying t = some (.slice e)) (hC : P.cellsOf e = 1) (he : P.underlying e = some (.slice e2)) (he2 : P.underlying e2 = some (.int .u8)) (hC2 : P.cellsOf e2 = 1)
    (h : DataW.trod enc P w base sp held fuel t [.slice A m c] = some x) : ∃ f : Nat → List Int, m ≤ c ∧ c ≤ maxLen ∧ PartsAt w A m f ∧ ∀ i, i < m → ∀ y ∈ f i, isByte y := by
  obtain ⟨F, h1, h2, h3, h4⟩ := open_elems (G := fun C => ∃ B n c2 xs, C[0]? = some (.slice B n c2) ∧ xs.length = n ∧ Lib.BytesIn w B n xs ∧ ∀ y ∈ xs, isByte y) ht hC (by decide) (fun fu cs y hy => by
    obtain ⟨B, n, c2, rfl⟩ := slice_one he hy
    obtain ⟨xs, hx, _, _, hB, hb⟩ := open_bytes he he2 hC2 hy
    exact ⟨B, n, c2, xs, rfl, hx, hB, hb⟩) h
  have each : ∀ i, i < m → ∃ xs : List Int, ∃ B c2, (F i)[0]? = some (.slice B xs.length c2) ∧ Lib.BytesIn w B xs.length xs ∧ ∀ y ∈ xs, isByte y := fun i hi => by
    obtain ⟨B, n, c2, xs, e1, e2, e3, e4⟩ := h4 i hi
    subst e2
    exact ⟨xs, B, c2, e1, e3, e4⟩
  obtain ⟨f, hf⟩ := Deep.choose_lt each
  refine ⟨f, h1, h2, fun hm => ?_, fun i hi => by obtain ⟨B, c2, _, _, hb⟩ := hf i hi; exact hb⟩
  obtain ⟨b, o, rfl, hlt, hc⟩ := h3 hm
  refine ⟨b, o, rfl, hlt, fun i hi => ?_⟩
  obtain ⟨B, c2, e1, e2, _⟩ := hf i hi
  obtain ⟨k1, k2⟩ := hc i hi
  refine ⟨B, c2, ?_, e2⟩
  obtain ⟨v, hv⟩ := has_at k1 (show 0 < 1 by decide)
  rw [← k2, rangeOf_get (by decide) hv] at e1
  injection e1 with e1
  rw [Nat.mul_one, Nat.add_zero] at hv
  rw [hv, e1]
end
end Go.Proofs.YtbapkamopelgpaaDoor
