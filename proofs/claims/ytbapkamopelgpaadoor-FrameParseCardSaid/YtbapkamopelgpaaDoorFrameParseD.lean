/- FrameParse: plainly, and the walk. -/
import Derived.Test.YtbapkamopelgpaaDoorFrameParseC
namespace Go.Proofs.YtbapkamopelgpaaDoor
open Go.RowKit Go.Stop Go.Extern Go.Ranges Go.Rows2 Go.Sort
set_option linter.unusedVariables false
set_option linter.unusedSimpArgs false
set_option maxRecDepth 100000
def prG (xs : List Int) : Frm := if prC xs = 0 then prF xs else frm0
theorem pr_any {w w' : World} {a : Nat → Addr} {xs : List Int} {e : Ending} (h : PrEnd w a xs e w') : ∃ B cb, e = .returned (.tuple #[.agg (frA (prG xs) B cb), errV a (prC xs)]) ∧ Lib.BytesIn w' B (prG xs).body.length (prG xs).body ∧ Below w.heap.size w w' := by
  unfold prG
  by_cases h0 : prC xs = 0
  · obtain ⟨B, cb, rfl, h1, h2⟩ := h.1 h0
    rw [h0, if_pos rfl]
    exact ⟨B, cb, rfl, h1, h2⟩
  · obtain ⟨rfl, h2⟩ := h.2 h0
    rw [if_neg h0]
    exact ⟨none, 0, rfl, fun h => absurd h (by decide), h2⟩
theorem pf_any {w w' : World} {xs : List Int} {e : Ending} (h : PfEnd w xs e w') : ∃ B cb, e = .returned (.tuple #[.agg (frA (prG xs) B cb), .int .i64 (prC xs)]) ∧ Lib.BytesIn w' B (prG xs).body.length (prG xs).body ∧ Below w.heap.size w w' := h
theorem pr_zero {xs : List Int} (hb : BytesOk xs) (h : prC xs = 0) : frC (prF xs) = 0 ∧ frB (prF xs) = xs ∧ BytesOk (prF xs).body ∧ (prF xs).body.length ≤ 65535 := by
  unfold prC at h
  by_cases h4 : xs.length < 4
  · rw [if_pos h4] at h; cases h
  · rw [if_neg h4] at h
    by_cases hm : bytesEq (xs.take 4) magicL = false
    · rw [if_pos hm] at h; cases h
    · rw [if_neg hm] at h
      by_cases hr : readC frS5.data.toList (xs.drop 4) 5 ≠ 0
      · rw [if_pos hr] at h; exact absurd h hr
      · rw [if_neg hr] at h
        have hr0 : readC frS5.data.toList (xs.drop 4) 5 = 0 := by omega
        have hm1 : bytesEq (xs.take 4) magicL = true := by simpa using hm
        obtain ⟨p1, p2, p3, p4, p5, p6⟩ := pr_base hb h4 hm1 hr0
        by_cases hs : bytesEq (sumd (xs.take (xs.length - 4))) xs = false
        · rw [if_pos hs] at h; cases h
        · rw [if_neg hs] at h
          have hs1 : bytesEq (sumd (xs.take (xs.length - 4))) xs = true := by simpa using hs
          have hsm : frB (prF xs) = sumd (xs.take (xs.length - 4)) := by
            unfold frB sumd
            rw [p1]
          rw [← hsm] at hs1
          refine ⟨?_, (bytesEq_iff (frB_byte p5) hb).1 hs1, p5, p6⟩
          unfold frC
          rw [if_neg (by omega)]
          exact h
theorem rdC_le (c : UInt8) (xs : List Int) : rdC c xs ≤ 7 := by
  unfold rdC
  split
  · split <;> omega
  · split
    · split
      · omega
      · split <;> omega
    · split
      · omega
      · split
        · omega
        · split <;> omega
theorem rdErr_le (s : List UInt8) (xs : List Int) (k : Nat) : rdErr s xs k ≤ 7 := by
  induction k with
  | zero => exact Nat.zero_le _
  | succ k ih =>
    show (if rdErr s xs k ≠ 0 then rdErr s xs k else rdC (s.getD k 0) (rdLeft s xs k)) ≤ 7
    split
    · exact ih
    · exact rdC_le _ _
theorem prC_le (xs : List Int) : prC xs ≤ 22 := by
  have h1 := rdErr_le frS5.data.toList (xs.drop 4) 5
  have h2 : readC frS5.data.toList (xs.drop 4) 5 ≤ 7 := by
    unfold readC
    split
    · exact h1
    · split <;> omega
  unfold prC endC
  split
  · omega
  · split
    · omega
    · split
      · omega
      · split
        · omega
        · split
          · omega
          · split <;> omega
theorem prG_len (xs : List Int) (h : xs.length ≤ 4000) : (prG xs).body.length ≤ 4000 := by
  unfold prG
  split
  · exact prF_len xs h
  · exact Nat.zero_le _
set_option maxHeartbeats 8000000 in
theorem frameParse_walk (A : Option Addr) (c : Nat) (xs : List Int) (a : Nat → Addr) (w : World) (HV : PrV w a) (HE : Errs w a) (hB : Lib.BytesIn w A xs.length xs) (hb : BytesOk xs) (hc : xs.length ≤ c) (hcm : c ≤ maxLen) :
    Calls Tryd.prog 7 #[.slice A xs.length c] w fun e w' => e = .returned (.bool true) ∧ Below w.heap.size w w' := by
  have K := Lib.hid (alive15 a w HV.fr)
  have HVh := Lib.hid HV
  have HEh := Lib.hid HE
  have HBh := Lib.hid hB
  have HOh := Lib.hid hb
  have HC := Lib.hid hc
  have HCM := Lib.hid hcm
  clear HV HE hB hb hc hcm
  go_enter Tryd.func7, Tryd.ntmps7
  go_wp2_with fail
  refine K.out.mono ?_
  rintro e w1 ⟨rfl, hb1⟩
  have HB1 := Lib.hid hb1
  clear hb1 K
  by_cases h1 : 3500 < xs.length
  · have hd : decide ((3500 : Int) < (xs.length : Int)) = true := by simp; omega
    go_wp2_with fail
    go_ret
    exact ⟨rfl, HB1.out⟩
  have hd : decide ((3500 : Int) < (xs.length : Int)) = false := by simp; omega
  have KB := Lib.hid (bytesAid_any A xs.length c xs w1 rfl (bytesIn_below' HBh.out HB1.out) (by omega))
  go_wp2_with fail
  refine KB.out.mono ?_
  rintro e w2 ⟨gi, ci, rfl, hb2, hoi⟩
  have HB2 := Lib.hid (stepV HB1.out hb2)
  have HI := Lib.hid hoi
  have hBi : Lib.BytesIn w2 (some ⟨gi, 0, none⟩) xs.length xs := fun h0 => by
    obtain ⟨b, o, hbo, hcx⟩ := own_bytes hoi (by omega)
    refine ⟨b, o, hbo, fun i hi => ?_⟩
    rw [hcx i (by omega)]
    simp [List.getD_eq_getElem?_getD, List.getElem?_append_left hi]
  have hci := own_cap hoi
  have KP := Lib.hid (frParse_any (some ⟨gi, 0, none⟩) ci xs a w2 (HVh.out.below HB2.out) hBi (by omega) hci.2 HOh.out (by omega))
  have HCI := Lib.hid hci
  clear hb2 hoi KB hBi hci
  go_wp2_with fail
  refine KP.out.mono ?_
  intro e w3 hpe
  obtain ⟨B3, c3, rfl, hB3, hb3⟩ := pr_any hpe
  have hgl := prG_len xs (by omega)
  have HG3 := Lib.hid (bytesIn_below' hB3 (alloc_below w3 (.cells (frA (prG xs) B3 c3) 56)))
  have HR3 := Lib.hid (heap_alloc_last w3 (.cells (frA (prG xs) B3 c3) 56))
  have hb4 := stepV hb3 (alloc_below w3 (.cells (frA (prG xs) B3 c3) 56))
  have HB4 := Lib.hid (stepV HB2.out hb4)
  have HI4 := Lib.hid (own_keep HI.out hb4)
  have KQ := Lib.hid (refParse_any A c xs _ (bytesIn_below' HBh.out HB4.out) HC.out HCM.out HOh.out (by omega))
  clear hpe hB3 hb3 hb4 KP HI
  generalize hGq : prG xs = G at *
  have HGQ := Lib.hid hGq
  clear hGq
  unfold frA at HG3 HR3 HB4 HI4 KQ ⊢
  go_wp2_with fail
  refine KQ.out.mono ?_
  intro e w5 hpf
  obtain ⟨B5, c5, rfl, hB5, hb5⟩ := pf_any hpf
  rw [HGQ.out] at hB5 ⊢
  have hb6 := stepV hb5 (alloc_below w5 (.cells (frA G B5 c5) 59))
  have HR6 := Lib.hid ((hb6.block _ (Array.getElem?_eq_some_iff.1 HR3.out).1).trans HR3.out)
  have HQ6 := Lib.hid (heap_alloc_last w5 (.cells (frA G B5 c5) 59))
  have HG6 := Lib.hid (bytesIn_below' HG3.out hb6)
  have HH6 := Lib.hid (bytesIn_below' hB5 (alloc_below w5 (.cells (frA G B5 c5) 59)))
  have HB6 := Lib.hid (stepV HB4.out hb6)
  have HI6 := Lib.hid (own_keep HI4.out hb6)
  have KN := Lib.hid fun (W : World) (h : Below (w5.alloc (.cells (frA G B5 c5) 59)).heap.size (w5.alloc (.cells (frA G B5 c5) 59)) W) => num_any a (prC xs) (prC_le xs) W (HEh.out.below (stepV HB6.out h))
  have KK := Lib.hid fun (W : World) (h : Below (w5.alloc (.cells (frA G B5 c5) 59)).heap.size (w5.alloc (.cells (frA G B5 c5) 59)) W) => keptAid_any gi xs.length ci A c xs W rfl (own_bytes (own_keep HI6.out h)) (bytesIn_below' HBh.out (stepV HB6.out h)) HCI.out.1 HCI.out.2
  have KS := Lib.hid fun (W : World) (h : Below (w5.alloc (.cells (frA G B5 c5) 59)).heap.size (w5.alloc (.cells (frA G B5 c5) 59)) W) => frRefSame_any G G B3 B5 c3 c5 W (bytesIn_below' HG6.out h) (bytesIn_below' HH6.out h)
  rw [sameF_self] at KS
  clear hpf hB5 hb5 hb6 KQ HI4 HR3 HG3 HB4
  unfold frA at HR6 HQ6 HG6 HH6 HB6 HI6 KN KK KS ⊢
  have hnn : ((prC xs : Int) != (prC xs : Int)) = false := by simp
  go_wp2_with fail
  generalize (w5.alloc (.cells #[.int .i64 G.k, .int .i64 G.f, .int .i64 G.t, .slice B5 G.body.length c5] 59)) = w6 at *
  generalize w3.heap.size = g3 at *
  generalize w5.heap.size = g5 at *
  refine (KN.out _ (Below.refl _ _)).mono ?_
  rintro e w7 ⟨rfl, hb7⟩
  go_wp2_with fail
  refine (KK.out _ hb7).mono ?_
  rintro e w8 ⟨rfl, hb8⟩
  have hb68 := stepV hb7 hb8
  obtain ⟨p0, p1, p2, p3, _⟩ := keepF HR6.out hb68
  obtain ⟨q0, q1, q2, q3, _⟩ := keepF HQ6.out hb68
  go_wp2_with fail
  refine (KS.out _ hb68).mono ?_
  rintro e w9 ⟨rfl, hb9⟩
  have hb69 := stepV hb68 hb9
  have HB9 := Lib.hid (stepV HB6.out hb69)
  by_cases hn : prC xs = 0
  · obtain ⟨z1, z2, z3, z4⟩ := pr_zero HOh.out hn
    have hG : G = prF xs := by
      rw [← HGQ.out]
      unfold prG
      rw [if_pos hn]
    rw [← hG] at z1 z2 z3 z4
    have KF := Lib.hid (frBytes_any G B3 c3 a w9 (HVh.out.fr.below HB9.out) (bytesIn_below' HG6.out hb69) z3 (by unfold maxLen; omega))
    have HR9 := Lib.hid ((hb69.block _ (Array.getElem?_eq_some_iff.1 HR6.out).1).trans HR6.out)
    obtain ⟨m0, m1, m2, m3, _⟩ := keepF HR6.out hb69
    have Z1 := Lib.hid z1
    have Z2 := Lib.hid z2
    unfold frA at KF
    rw [hn]
    clear hb7 hb8 hb68 hb9 hb69 KN KK KS p0 p1 p2 p3 q0 q1 q2 q3 z1 z2 z3 z4 hG hn hnn HR6 HQ6 HG6 HH6 HI6
    go_wp2_with fail
    refine KF.out.mono ?_
    rintro e w10 ⟨hok, _⟩
    obtain ⟨Ab, cbb, rfl, hob, hb10⟩ := hok Z1.out
    rw [Z2.out] at hob ⊢
    have cv1 := (own_bytes hob).convert (P := Tryd.prog) rfl cbb 22 5 9 Tryd.underlying22 Tryd.underlying5 Tryd.underlying9
    have cv2 := (bytesIn_below' HBh.out (stepV HB9.out hb10)).convert (P := Tryd.prog) rfl c 22 5 9 Tryd.underlying22 Tryd.underlying5 Tryd.underlying9
    have HB10 := Lib.hid (stepV HB9.out hb10)
    generalize strOfNums xs = s2 at *
    have hss : (s2.toList == s2.toList) = true := by simp
    clear hok hob hb10 KF m0 m1 m2 m3
    go_wp2_with fail
    go_ret
    exact ⟨rfl, HB10.out⟩
  · have hne : ((prC xs : Int) != 0) = true := by simp; omega
    generalize prC xs = n at *
    go_wp2_with fail
    go_ret
    exact ⟨rfl, HB9.out⟩
end Go.Proofs.YtbapkamopelgpaaDoor
