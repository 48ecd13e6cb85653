/- Frames: the reference's Parse. -/
import Derived.Test.YtbapkamopelgpaaDoorFrameParseB
namespace Go.Proofs.YtbapkamopelgpaaDoor
open Go.RowKit Go.Stop Go.Extern Go.Ranges Go.Rows2
set_option linter.unusedVariables false
set_option linter.unusedSimpArgs false
set_option maxRecDepth 100000
/-- The box of the result. -/
structure BoxR (w w' : World) : Prop where
  row : w'.heap[w.heap.size]? = some (.cells #[.int .i64 0, .int .i64 0, .int .i64 0, .slice none 0 0] 59)
  below : Below w.heap.size w w'
theorem BoxR.step {w w' w2 : World} (h : BoxR w w') (hb : Below w'.heap.size w' w2) : BoxR w w2 :=
  ⟨(hb.block _ (Array.getElem?_eq_some_iff.1 h.row).1).trans h.row, stepV h.below hb⟩
theorem BoxR.cells {w w' : World} (h : BoxR w w') : w'.cell? ⟨w.heap.size, 0, none⟩ = some (.int .i64 0) ∧ w'.cell? ⟨w.heap.size, 1, none⟩ = some (.int .i64 0) ∧ w'.cell? ⟨w.heap.size, 2, none⟩ = some (.int .i64 0) ∧ w'.cell? ⟨w.heap.size, 3, none⟩ = some (.slice none 0 0) ∧
    w'.frozen? ⟨w.heap.size, 0, none⟩ = false ∧ w'.frozen? ⟨w.heap.size, 1, none⟩ = false ∧ w'.frozen? ⟨w.heap.size, 2, none⟩ = false ∧ w'.frozen? ⟨w.heap.size, 3, none⟩ = false := by
  refine ⟨?_, ?_, ?_, ?_, ?_, ?_, ?_, ?_⟩
  · exact (cell_of_row _ _ _ _ _ _ h.row).trans rfl
  · exact (cell_of_row _ _ _ _ _ _ h.row).trans rfl
  · exact (cell_of_row _ _ _ _ _ _ h.row).trans rfl
  · exact (cell_of_row _ _ _ _ _ _ h.row).trans rfl
  all_goals (unfold World.frozen?; rw [h.row]; rfl)
theorem BoxR.new (w : World) : BoxR w (w.alloc (.cells #[.int .i64 0, .int .i64 0, .int .i64 0, .slice none 0 0] 59)) := ⟨heap_alloc_last _ _, alloc_below _ _⟩
def PfEnd (w : World) (xs : List Int) (e : Ending) (w' : World) : Prop :=
  ∃ B cb, e = .returned (.tuple #[.agg (frA (if prC xs = 0 then prF xs else frm0) B cb), .int .i64 (prC xs)]) ∧ Lib.BytesIn w' B (if prC xs = 0 then prF xs else frm0).body.length (if prC xs = 0 then prF xs else frm0).body ∧ Below w.heap.size w w'
theorem pf_no {w w' : World} {xs : List Int} {n : Nat} {e : Ending} (h : prC xs = n) (hn : n ≠ 0) (he : e = .returned (.tuple #[.agg (frA frm0 none 0), .int .i64 n])) (hb : Below w.heap.size w w') : PfEnd w xs e w' := by
  unfold PfEnd
  rw [h, if_neg hn]
  exact ⟨none, 0, he, fun h => absurd h (by decide), hb⟩
theorem body_at {w : World} {A : Option Addr} {n c : Nat} {base : Nat} {vs : List Value} {xs : List Int} (h : RG w base (.slice A n c) n vs (rdFN frS5.data.toList (xs.drop 4)) (rdFB frS5.data.toList (xs.drop 4))) (hn : n = 5) :
    ∃ b D cd, A = some ⟨b, 0, none⟩ ∧ b < w.heap.size ∧ w.cell? ⟨b, 0, none⟩ = some (.int .i64 (prF xs).k) ∧ w.cell? ⟨b, 2, none⟩ = some (.int .i64 (prF xs).f) ∧ w.cell? ⟨b, 4, none⟩ = some (.int .i64 (prF xs).t) ∧ w.cell? ⟨b, 7, none⟩ = some (.slice D (prF xs).body.length cd) ∧ Lib.BytesIn w D (prF xs).body.length (prF xs).body := by
  subst hn
  rcases h.own.2 with ⟨_, h0⟩ | ⟨g, cap, cur, hv, _, hh, _, _, _, htk⟩
  · omega
  · injection hv with e1 _ _
    subst e1
    have hc : ∀ j, j < 10 → w.cell? ⟨g, j, none⟩ = vs[j]? := fun j hj => by
      rw [cell_of_row _ _ _ _ _ _ hh, ← Array.getElem?_toList, ← htk, List.getElem?_take_of_lt (by omega)]
    obtain ⟨_, _, k0, _, _⟩ := h.el 0 (by decide)
    obtain ⟨_, _, k1, _, _⟩ := h.el 1 (by decide)
    obtain ⟨_, _, k2, _, _⟩ := h.el 2 (by decide)
    obtain ⟨D, cd, _, k3, hD⟩ := h.el 3 (by decide)
    exact ⟨g, D, cd, rfl, (Array.getElem?_eq_some_iff.1 hh).1, (hc 0 (by decide)).trans k0, (hc 2 (by decide)).trans k1, (hc 4 (by decide)).trans k2, (hc 7 (by decide)).trans k3, hD.1⟩
theorem bytes_boxR {w W : World} (h : BoxR w W) {D : Option Addr} {ys : List Int} (hD : Lib.BytesIn W D ys.length ys) (u0 u1 u2 u3 : Value) :
    Lib.BytesIn ((((W.setCell ⟨w.heap.size, 0, none⟩ u0).setCell ⟨w.heap.size, 1, none⟩ u1).setCell ⟨w.heap.size, 2, none⟩ u2).setCell ⟨w.heap.size, 3, none⟩ u3) D ys.length ys := by
  have hS : ByteS W (fun k => k ≠ w.heap.size) D ys := ⟨hD, fun a e hn => by
    obtain ⟨b, o, rfl, hc⟩ := hD hn
    injection e with e
    subst e
    rintro rfl
    have h0 := hc 0 hn
    rw [cell_of_row _ _ _ _ _ _ h.row] at h0
    have : o + 0 = 0 ∨ o + 0 = 1 ∨ o + 0 = 2 ∨ o + 0 = 3 ∨ ∃ k, o + 0 = k + 4 := by
      by_cases h4 : 4 ≤ o
      · exact .inr (.inr (.inr (.inr ⟨o - 4, by omega⟩)))
      · omega
    rcases this with e | e | e | e | ⟨k, e⟩ <;> rw [e] at h0 <;> simp at h0⟩
  exact (hS.chg ((((chg_cell W w.heap.size 0 u0).trans (chg_cell _ w.heap.size 1 u1)).trans (chg_cell _ w.heap.size 2 u2)).trans (chg_cell _ w.heap.size 3 u3)) (fun k _ hk e => hk e)).1
theorem magic_str : (strOfNums magicL).toList = [99, 97, 114, 116] := by
  rw [Lib.toList_data, strOfNums_data]
  rfl
theorem keepX {W w' : World} {g7 : Nat} {F : Frm} {B A : Option Addr} {cb c : Nat} {t7 : TypeId} {xs : List Int} {s2 : ByteArray} (hs : strOfNums xs = s2)
    (h1 : W.heap[g7]? = some (.cells #[.int .i64 F.k, .int .i64 F.f, .int .i64 F.t, .slice B F.body.length cb] t7 (0, 0))) (h4 : Lib.BytesIn W A xs.length xs) (hb : Below W.heap.size W w') :
    (w'.cell? ⟨g7, 0, none⟩ = some (.int .i64 F.k) ∧ w'.cell? ⟨g7, 1, none⟩ = some (.int .i64 F.f) ∧ w'.cell? ⟨g7, 2, none⟩ = some (.int .i64 F.t) ∧ w'.cell? ⟨g7, 3, none⟩ = some (.slice B F.body.length cb)) ∧
        (convert 22 9 (.slice A xs.length c)).run Tryd.prog w' = .ok (.string s2) w' ∧ Below W.heap.size W w' := by
  subst hs
  obtain ⟨a0, a1, a2, a3, _⟩ := keepF h1 hb
  exact ⟨⟨a0, a1, a2, a3⟩, (bytesIn_below' h4 hb).convert (P := Tryd.prog) rfl c 22 5 9 Tryd.underlying22 Tryd.underlying5 Tryd.underlying9, hb⟩
theorem below_boxR {w w' : World} (h : Below w.heap.size w w') (u0 u1 u2 u3 : Value) : Below w.heap.size w ((((w'.setCell ⟨w.heap.size, 0, none⟩ u0).setCell ⟨w.heap.size, 1, none⟩ u1).setCell ⟨w.heap.size, 2, none⟩ u2).setCell ⟨w.heap.size, 3, none⟩ u3) := below_box4 h u0 u1 u2 u3
set_option maxHeartbeats 8000000 in
theorem refParse_any (A : Option Addr) (c : Nat) (xs : List Int) (w : World) (hB : Lib.BytesIn w A xs.length xs) (hc : xs.length ≤ c) (hcm : c ≤ maxLen) (hb : BytesOk xs) (hL : xs.length ≤ 4000) :
    Calls Tryd.prog 29 #[.slice A xs.length c] w (PfEnd w xs) := by
  have b0 := BoxR.new w
  have HBh := Lib.hid hB
  have HOh := Lib.hid hb
  clear hB hb
  by_cases h4 : xs.length < 4
  · have hp : prC xs = 2 := by unfold prC; rw [if_pos h4]
    have HP := Lib.hid hp
    have hd : decide ((xs.length : Int) < 4) = true := by simp; omega
    have HB0 := Lib.hid b0.below
    clear hp b0
    go_enter Tryd.func29, Tryd.ntmps29
    go_wp2_with fail
    refine bodyPost_ret (v := .tuple #[.agg (frA frm0 none 0), .int .i64 2]) (by simp [results, Tryd.results29, go_sem, frA, frm0]) rfl (pf_no HP.out (by decide) rfl ?_)
    first | exact HB0.out | exact below_box4 HB0.out _ _ _ _
  · have hd : decide ((xs.length : Int) < 4) = false := by simp; omega
    have hl : (xs.drop 4).length = xs.length - 4 := List.length_drop
    have hl4 : (xs.take 4).length = 4 := by rw [List.length_take]; omega
    have hh : ∀ W, (Instr.slice 22 (.slice A xs.length c) none (some (.int .i64 4)) none).run Tryd.prog W = .ok (.slice (cutB A 0 c) 4 c) W := run_head A xs.length c 4 (by omega)
    have hr4 : ∀ W, (Instr.slice 22 (.slice A xs.length c) (some (.int .i64 4)) none none).run Tryd.prog W = .ok (.slice (cutB A 4 c) (xs.length - 4) (c - 4)) W := run_rest A xs.length c 4 (by omega)
    have hB1 := bytesIn_below' HBh.out b0.below
    have hBt : Lib.BytesIn (w.alloc (.cells #[.int .i64 0, .int .i64 0, .int .i64 0, .slice none 0 0] 59)) (cutB A 0 c) 4 (xs.take 4) := by
      have := (cutS_head (S := fun _ => True) ⟨hB1, fun _ _ _ => trivial⟩ hc 4 (by omega)).1
      rw [hl4] at this
      exact this
    have cv4 := hBt.convert (P := Tryd.prog) hl4 c 22 5 9 Tryd.underlying22 Tryd.underlying5 Tryd.underlying9
    have hqq : bytesEq (xs.take 4) magicL = ((strOfNums (xs.take 4)).toList == [99, 97, 114, 116]) := by
      unfold bytesEq
      rw [magic_str]
    have hB4 : Lib.BytesIn (w.alloc (.cells #[.int .i64 0, .int .i64 0, .int .i64 0, .slice none 0 0] 59)) (cutB A 4 c) (xs.drop 4).length (xs.drop 4) := cut_rest hB1 hc 4 (by omega)
    have KR : Calls Tryd.prog 59 #[.string frS5, .slice (cutB A 4 c) (xs.drop 4).length (c - 4)] (w.alloc (.cells #[.int .i64 0, .int .i64 0, .int .i64 0, .slice none 0 0] 59)) (Rest2End (w.alloc (.cells #[.int .i64 0, .int .i64 0, .int .i64 0, .slice none 0 0] 59)) 5 frS5.data.toList (xs.drop 4)) := rest02_any (cutB A 4 c) (c - 4) frS5 (xs.drop 4) _ hB4 (by rw [hl]; omega) (by omega) (HOh.out.drop 4) (by decide) (by decide) (by decide)
    rw [hl] at KR
    have HKR := Lib.hid KR
    have HH0 := Lib.hid b0
    generalize strOfNums (xs.take 4) = s4 at *
    generalize cutB A 0 c = A0 at *
    generalize cutB A 4 c = A4 at *
    clear hB1 hBt b0 hB4 KR hl4
    cases hq : (s4.toList == [99, 97, 114, 116]) with
    | false =>
      have hp : prC xs = 4 := by unfold prC; rw [if_neg h4, if_pos (hqq.trans hq)]
      have HP := Lib.hid hp
      clear hp hqq HKR
      go_enter Tryd.func29, Tryd.ntmps29
      go_wp2_with fail
      refine bodyPost_ret (v := .tuple #[.agg (frA frm0 none 0), .int .i64 4]) (by simp [results, Tryd.results29, go_sem, frA, frm0]) rfl (pf_no HP.out (by decide) rfl ?_)
      first | exact HH0.out.below | exact below_box4 HH0.out.below _ _ _ _
    | true =>
      have HQ := Lib.hid (hqq.trans hq)
      have H4 := Lib.hid h4
      have HCM := Lib.hid hcm
      clear hqq h4 hcm
      go_enter Tryd.func29, Tryd.ntmps29
      go_wp2_with fail
      generalize w.alloc (.cells #[.int .i64 0, .int .i64 0, .int .i64 0, .slice none 0 0] 59) = W1 at *
      clear cv4 hq
      by_cases hrc : rdErr frS5.data.toList (xs.drop 4) 5 = 0
      · refine HKR.out.mono ?_
        rintro e w3 ⟨hok, _⟩
        obtain ⟨v, vs, B3, c3, rfl, hG, hBl, hb3⟩ := hok hrc
        obtain ⟨A9, c9, hv⟩ := own_slice hG.own
        subst hv
        have HRC := Lib.hid hrc
        have HB3 := Lib.hid (HH0.out.step hb3)
        have HG := Lib.hid hG
        have HB3b := Lib.hid hb3
        clear hok hG hb3 HKR hrc hBl
        by_cases hlf : (rdLeft frS5.data.toList (xs.drop 4) 5).length = 0
        · have hr0 : readC frS5.data.toList (xs.drop 4) 5 = 0 := by unfold readC; rw [HRC.out, if_neg (fun h => h rfl), if_pos hlf]
          have hdl : decide ((0 : Int) < ((0 : Nat) : Int)) = false := by decide
          obtain ⟨p1, p2, p3, p4, p5, p6⟩ := pr_base HOh.out H4.out HQ.out hr0
          have hsm : frB (prF xs) = sumd (xs.take (xs.length - 4)) := by
            unfold frB sumd
            rw [p1]
          have hp : prC xs = if bytesEq (frB (prF xs)) xs = false then 5 else frC (prF xs) := by
            rw [hsm]
            unfold prC frC
            rw [if_neg H4.out, HQ.out, if_neg (by decide), if_neg (fun h => h hr0), if_neg (show ¬ ((prF xs).k < 0 ∨ 255 < (prF xs).k) by omega)]
          obtain ⟨b9, D, cd, hv9, hlt9, k0, k1, k2, k3, hD⟩ := body_at HG.out rfl
          subst hv9
          have hFqx : prF xs = prF xs := rfl
          have HP := Lib.hid hp
          have K0 := Lib.hid k0
          have K1 := Lib.hid k1
          have K2 := Lib.hid k2
          have K3 := Lib.hid k3
          have HD := Lib.hid hD
          have HLT9 := Lib.hid hlt9
          have P2 := Lib.hid p2
          have P3 := Lib.hid p3
          have P4 := Lib.hid p4
          have P5 := Lib.hid p5
          have P6 := Lib.hid p6
          clear hp hr0 p1 p2 p3 p4 p5 p6 hsm k0 k1 k2 k3 hD hlt9 HG hFqx
          generalize hFq : prF xs = F at *
          have HFQ := Lib.hid hFq
          clear hFq
          rw [hlf]
          clear hlf
          go_wp2_with fail
          go_region_held3 (fun W => W.cell? ⟨b9, 0, none⟩ = some (.int .i64 F.k) ∧ W.cell? ⟨b9, 2, none⟩ = some (.int .i64 F.f) ∧ W.cell? ⟨b9, 4, none⟩ = some (.int .i64 F.t) ∧ W.cell? ⟨b9, 7, none⟩ = some (.slice D F.body.length cd) ∧ Below w3.heap.size w3 W)
            (first
              | exact keepG HLT9.out K0.out K1.out K2.out K3.out (Below.refl _ _)
              | exact keepG HLT9.out K0.out K1.out K2.out K3.out (Below.refl _ _).drew
              | exact keepG HLT9.out K0.out K1.out K2.out K3.out (((Below.refl _ _).drew).alloc (Nat.le_refl _) _)
              | assumption
              | fail "")
            (fail "")
          have hb7 := (alloc_below w3 (.cells #[.int .i64 F.k, .int .i64 F.f, .int .i64 F.t, .slice D F.body.length cd] 59)).drew
          have HR7 : Hid (((w3.alloc (.cells #[.int .i64 F.k, .int .i64 F.f, .int .i64 F.t, .slice D F.body.length cd] 59)).drew).heap[w3.heap.size]? = some (.cells #[.int .i64 F.k, .int .i64 F.f, .int .i64 F.t, .slice D F.body.length cd] 59 (0, 0))) := heap_alloc_last w3 _
          have HB7 := Lib.hid (HB3.out.step hb7)
          have HD7 := Lib.hid (bytesIn_below' HD.out hb7)
          have HX7 := Lib.hid (bytesIn_below' HBh.out HB7.out.below)
          clear hb7 HD K0 K1 K2 K3 HLT9 HB3 HB3b
          rename_i hHeld
          clear hHeld
          generalize (w3.alloc (.cells #[.int .i64 F.k, .int .i64 F.f, .int .i64 F.t, .slice D F.body.length cd] 59)).drew = w4 at *
          generalize w3.heap.size = g7 at *
          have hwz : w.heap.size < W1.heap.size := World.block_lt_of_cell? W1 _ HH0.out.cells.1
          have KL := Lib.hid fun (W : World) (h : Below w4.heap.size w4 W) => refLaid_any F D cd W P2.out P3.out P4.out (bytesIn_below' HD7.out h) P5.out P6.out
          have hq0 : ∀ r, bytesEq (frB F) xs = r → ((strOfNums (frB F)).toList == (strOfNums xs).toList) = r ∧ ((strOfNums (frB F)).toList != (strOfNums xs).toList) = !r := fun r hr => ⟨hr, by rw [bne, show ((strOfNums (frB F)).toList == (strOfNums xs).toList) = r from hr]⟩
          generalize hs1 : strOfNums (frB F) = s1 at *
          generalize hs2 : strOfNums xs = s2 at *
          have HS1 := Lib.hid hs1
          have HS2 := Lib.hid hs2
          clear hs1 hs2
          obtain ⟨⟨a0, a1, a2, a3⟩, hcv, _⟩ := keepX (c := c) HS2.out HR7.out HX7.out (Below.refl _ _).drew
          obtain ⟨⟨a0', a1', a2', a3'⟩, hcv', _⟩ := keepX (c := c) HS2.out HR7.out HX7.out (Below.refl _ _)
          cases hq : bytesEq (frB F) xs with
          | false =>
            obtain ⟨q1, q2⟩ := hq0 _ hq
            have hp5 := Lib.hid (HP.out.trans (if_pos hq))
            clear hq hq0 HP
            go_wp2_with fail
            go_region_with (first
              | (go_at_call 34; refine (KL.out _ (Below.refl _ _).drew).mono ?_; rintro e wL ⟨AL, cL, rfl, hoL, hbL⟩; have hcL := (own_bytes hoL).convert (P := Tryd.prog) rfl cL 22 5 9 Tryd.underlying22 Tryd.underlying5 Tryd.underlying9; rw [HS1.out] at hcL; obtain ⟨⟨a0, a1, a2, a3⟩, hcv, _⟩ := keepX (c := c) HS2.out HR7.out HX7.out (stepV (Below.refl _ _).drew hbL))
              | fail "")
            all_goals (
              have HBL := Lib.hid (HB7.out.step (stepV (Below.refl _ _).drew hbL))
              clear hbL hoL hcL hcv hcv' a0 a1 a2 a3 a0' a1' a2' a3'
              obtain ⟨c0, c1, c2, c3, f0, f1, f2, f3⟩ := HBL.out.cells
              go_wp2_with fail
              exact bodyPost_ret (v := .tuple #[.agg (frA frm0 none 0), .int .i64 5]) (by simp [results, Tryd.results29, go_sem, frA, frm0, c0, c1, c2, c3]) rfl (pf_no hp5.out (by decide) rfl (below_box4 HBL.out.below _ _ _ _)))
          | true =>
            obtain ⟨q1, q2⟩ := hq0 _ hq
            have hp6 := Lib.hid (HP.out.trans (if_neg (by rw [hq]; decide)))
            clear hq hq0 HP
            go_wp2_with fail
            go_region_with (first
              | (go_at_call 34; refine (KL.out _ (Below.refl _ _).drew).mono ?_; rintro e wL ⟨AL, cL, rfl, hoL, hbL⟩; have hcL := (own_bytes hoL).convert (P := Tryd.prog) rfl cL 22 5 9 Tryd.underlying22 Tryd.underlying5 Tryd.underlying9; rw [HS1.out] at hcL; obtain ⟨⟨a0, a1, a2, a3⟩, hcv, _⟩ := keepX (c := c) HS2.out HR7.out HX7.out (stepV (Below.refl _ _).drew hbL))
              | fail "")
            all_goals (
              have HBL := Lib.hid (HB7.out.step (stepV (Below.refl _ _).drew hbL))
              have HDL := Lib.hid (bytesIn_below' HD7.out (stepV (Below.refl _ _).drew hbL))
              obtain ⟨m0, m1, m2, m3, _⟩ := keepF HR7.out (stepV (Below.refl _ _).drew hbL)
              have HRL := Lib.hid (((stepV (Below.refl _ _).drew hbL).block _ (Array.getElem?_eq_some_iff.1 HR7.out).1).trans HR7.out)
              clear hbL hoL hcL hcv hcv' a0 a1 a2 a3 a0' a1' a2' a3'
              have KBd := Lib.hid (refBad_any F D cd wL (by have := P6.out; unfold maxLen; omega))
              unfold frA at KBd
              go_wp2_with fail
              refine KBd.out.mono ?_
              rintro e w8 ⟨rfl, hb8⟩
              have HB8 := Lib.hid (HBL.out.step hb8)
              have HD8 := Lib.hid (bytesIn_below' HDL.out hb8)
              obtain ⟨c0, c1, c2, c3, f0, f1, f2, f3⟩ := HB8.out.cells
              obtain ⟨m0, m1, m2, m3, _⟩ := keepF HRL.out hb8
              clear hb8 KBd
              by_cases hfc : frC F = 0
              · have hp0 : prC xs = 0 := hp6.out.trans hfc
                have HP0 := Lib.hid hp0
                rw [hfc]
                clear hp0 hfc hp6
                go_wp2_with fail
                refine bodyPost_ret (v := .tuple #[.agg (frA F D cd), .int .i64 0]) (by simp [results, Tryd.results29, go_sem, frA, c0, c1, c2, c3]) rfl ⟨D, cd, by rw [HP0.out, if_pos rfl, HFQ.out]; rfl, ?_, below_box4 HB8.out.below _ _ _ _⟩
                rw [HP0.out, if_pos rfl, HFQ.out]
                exact bytes_boxR HB8.out HD8.out _ _ _ _
              · generalize frC F = n at *
                have hne : ((n : Int) != 0) = true := by simp; omega
                go_wp2_with fail
                exact bodyPost_ret (v := .tuple #[.agg (frA frm0 none 0), .int .i64 n]) (by simp [results, Tryd.results29, go_sem, frA, frm0, c0, c1, c2, c3]) rfl (pf_no hp6.out hfc rfl (below_box4 HB8.out.below _ _ _ _)))
        · have hp : prC xs = 3 := by unfold prC; rw [if_neg H4.out, HQ.out, if_neg (by decide), show readC frS5.data.toList (xs.drop 4) 5 = 3 by unfold readC; rw [HRC.out, if_neg (fun h => h rfl), if_neg hlf], if_pos (by decide)]
          have HP := Lib.hid hp
          clear hp
          generalize (rdLeft frS5.data.toList (xs.drop 4) 5).length = m at *
          have hdl : decide ((0 : Int) < (m : Int)) = true := by simp; omega
          have hml : 0 < m := by omega
          obtain ⟨c0, c1, c2, c3, f0, f1, f2, f3⟩ := HB3.out.cells
          go_wp2_with fail
          exact bodyPost_ret (v := .tuple #[.agg (frA frm0 none 0), .int .i64 3]) (by simp [results, Tryd.results29, go_sem, frA, frm0, c0, c1, c2, c3]) rfl (pf_no HP.out (by decide) rfl (below_box4 HB3.out.below _ _ _ _))
      · have hp : prC xs = rdErr frS5.data.toList (xs.drop 4) 5 := by
          unfold prC
          rw [if_neg H4.out, HQ.out, if_neg (by decide), show readC frS5.data.toList (xs.drop 4) 5 = rdErr frS5.data.toList (xs.drop 4) 5 by unfold readC; rw [if_pos hrc], if_pos hrc]
        refine HKR.out.mono ?_
        rintro e w3 ⟨_, hno⟩
        obtain ⟨rfl, hb3⟩ := hno hrc
        have HB3 := Lib.hid (HH0.out.step hb3)
        have HP := Lib.hid hp
        obtain ⟨c0, c1, c2, c3, f0, f1, f2, f3⟩ := HB3.out.cells
        clear hno hp hb3 HKR
        generalize rdErr frS5.data.toList (xs.drop 4) 5 = n at *
        have hne : ((n : Int) != 0) = true := by simp; omega
        go_wp2_with fail
        exact bodyPost_ret (v := .tuple #[.agg (frA frm0 none 0), .int .i64 n]) (by simp [results, Tryd.results29, go_sem, frA, frm0, c0, c1, c2, c3]) rfl (pf_no HP.out hrc rfl (below_box4 HB3.out.below _ _ _ _))
end Go.Proofs.YtbapkamopelgpaaDoor
