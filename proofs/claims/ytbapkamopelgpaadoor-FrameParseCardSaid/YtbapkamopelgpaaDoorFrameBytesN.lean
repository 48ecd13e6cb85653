/- Frames: Bytes, the walk. -/
import Derived.Test.YtbapkamopelgpaaDoorFrameBytesM
namespace Go.Proofs.YtbapkamopelgpaaDoor
open Go.RowKit Go.Stop Go.Extern Go.Ranges Go.Rows2
set_option linter.unusedVariables false
set_option linter.unusedSimpArgs false
set_option maxRecDepth 100000
/-- What frames ask of the world. -/
structure FrV (w : World) (a : Nat → Addr) : Prop where
  e1 : ErrC w a 1
  e13 : ErrC w a 13
  g : Grains w
  s : Start w
theorem FrV.below {w w' : World} {a : Nat → Addr} (h : FrV w a) (hb : Below w.heap.size w w') : FrV w' a := ⟨h.e1.below hb, h.e13.below hb, h.g.below hb, h.s.below hb⟩
theorem keepF {W w' : World} {b : Nat} {C : Array Value} {t : TypeId} (h : W.heap[b]? = some (.cells C t (0, 0))) (hb : Below W.heap.size W w') :
    w'.cell? ⟨b, 0, none⟩ = C[0]? ∧ w'.cell? ⟨b, 1, none⟩ = C[1]? ∧ w'.cell? ⟨b, 2, none⟩ = C[2]? ∧ w'.cell? ⟨b, 3, none⟩ = C[3]? ∧ Below W.heap.size W w' := by
  have hlt := (Array.getElem?_eq_some_iff.1 h).1
  have h2 := (hb.block b hlt).trans h
  refine ⟨?_, ?_, ?_, ?_, hb⟩ <;> exact cell_of_row _ _ _ _ _ _ h2
theorem own_mono {w : World} {base base' : Nat} {e : TypeId} {m : Nat} {v : Value} {n : Nat} {xs : List Value} (hb : base' ≤ base) (h : w.ownsRow base e m v n xs) : w.ownsRow base' e m v n xs := by
  refine ⟨h.1, ?_⟩
  rcases h.2 with h2 | ⟨g, cap, cur, hv, hg, r⟩
  · exact .inl h2
  · exact .inr ⟨g, cap, cur, hv, Nat.le_trans hb hg, r⟩
theorem cell_of_marked (w : World) (C : Array Value) (t : TypeId) (j : Nat) (m : Nat × Nat) : (w.alloc (.cells C t m)).cell? ⟨w.heap.size, j, none⟩ = C[j]? := by
  unfold World.cell?
  rw [show (w.alloc (.cells C t m)).heap[w.heap.size]? = some (.cells C t m) from by show (w.heap.push _)[w.heap.size]? = _; simp]
  simp
theorem one_pos (F : Frm) : 0 < (cat (fun i => ocB (frS.data.toList.getD i 0) (frN F i) (frF F i)) 1).length := by
  show 0 < ([] ++ ocB 98 F.k []).length
  unfold ocB
  rw [if_pos (by decide), List.nil_append, ocNum_len]
  decide
theorem lastF {W w : World} {p q r s : Prop} (h : p ∧ q ∧ r ∧ s ∧ Below W.heap.size W w) : Below W.heap.size W w := h.2.2.2.2
set_option maxHeartbeats 4000000 in
theorem frBytes_any (F : Frm) (B : Option Addr) (cb : Nat) (a : Nat → Addr) (w : World) (HV : FrV w a) (hB : Lib.BytesIn w B F.body.length F.body) (hb : ∀ x ∈ F.body, isByte x) (hL : F.body.length ≤ maxLen) :
    Calls Tryd.prog 32 #[.agg (frA F B cb)] w (FrEnd w a F) := by
  have b0 := alloc_below w (.cells (frA F B cb) 56)
  have HVh := Lib.hid HV
  have h1 := HV.e1.below b0
  simp only [ErrC, gErr] at h1
  have hends := Lib.hid fun (W : World) (h : Below w.heap.size w W) => ends_any F B cb a W (HV.e1.below h) (HV.e13.below h) hL
  have HBh := Lib.hid hB
  have Hby := Lib.hid hb
  clear HV hB hb
  by_cases hk : F.k < 0 ∨ 255 < F.k
  · have hc : frC F = 1 := by unfold frC; rw [if_pos hk]
    have HC := Lib.hid hc
    clear hc hends
    have hd : decide (F.k < 0) = true ∨ (decide (F.k < 0) = false ∧ decide (255 < F.k) = true) := by
      by_cases h : F.k < 0
      · exact .inl (by simpa using h)
      · exact .inr ⟨by simpa using h, by simp; omega⟩
    clear hk
    unfold frA at h1 b0 ⊢
    rcases hd with hd | ⟨hd, hd2⟩
    · go_enter Tryd.func32, Tryd.ntmps32
      go_wp2_with fail
      go_quiet (fail)
      go_wp2_with fail
      go_ret2
      exact ⟨fun h => absurd (HC.out.symm.trans h) (by decide), fun _ => ⟨by rw [HC.out]; rfl, stepV b0 (below_drewN _ _)⟩⟩
    · go_enter Tryd.func32, Tryd.ntmps32
      go_wp2_with fail
      go_quiet (fail)
      go_wp2_with fail
      go_ret2
      exact ⟨fun h => absurd (HC.out.symm.trans h) (by decide), fun _ => ⟨by rw [HC.out]; rfl, stepV b0 (below_drewN _ _)⟩⟩
  · have hd : decide (F.k < 0) = false := by simp; omega
    have hd2 : decide (255 < F.k) = false := by simp; omega
    have hc : frC F = endC F := by unfold frC; rw [if_neg hk]
    by_cases he : endC F = 0
    · have hall := frC_ok (hc.trans he)
      rw [he] at hends
      simp only [show errV a 0 = Value.nilIface from rfl] at hends
      have HAll := Lib.hid hall
      have HC := Lib.hid (hc.trans he)
      have HV0 := Lib.hid (heap_alloc_last w (.cells (frA F B cb) 56))
      clear hk hc he hall h1
      have kc := fun (w : World) (C : Array Value) (n c : Nat) => Lib.run_convert_bytes_const (P := Tryd.prog) w 22 5 C n c Tryd.underlying22 Tryd.underlying5
      unfold frA at hends b0 HV0 ⊢
      go_enter Tryd.func32, Tryd.ntmps32
      go_wp2_with fail
      refine (hends.out _ b0).mono ?_
      rintro e w1 ⟨rfl, hb1⟩
      obtain ⟨m0, m1, m2, m3, _⟩ := keepF HV0.out hb1
      have HV1 := Lib.hid ((hb1.block _ (Array.getElem?_eq_some_iff.1 HV0.out).1).trans HV0.out)
      have HB1 := Lib.hid (stepV b0 hb1)
      have hz1 := hb1.size
      have hAll : Below w1.heap.size w1 w1.drew := (Below.refl _ _).drew
      clear hb1 hends HV0
      go_wp2_with fail
      go_region_held3 (fun W => W.cell? ⟨w.heap.size, 0, none⟩ = some (.int .i64 F.k) ∧ W.cell? ⟨w.heap.size, 1, none⟩ = some (.int .i64 F.f) ∧ W.cell? ⟨w.heap.size, 2, none⟩ = some (.int .i64 F.t) ∧ W.cell? ⟨w.heap.size, 3, none⟩ = some (.slice B F.body.length cb) ∧ Below w1.heap.size w1 W)
        (first
          | exact keepF HV1.out (Below.refl _ _)
          | exact keepF HV1.out (Below.refl _ _).drew
          | exact keepF HV1.out (stepV (lastF (by assumption)) (by assumption))
          | exact keepF HV1.out (stepV (lastF (by assumption)) (alloc_below _ _))
          | exact keepF HV1.out (stepV hAll hb')
          | exact keepF HV1.out (stepV (stepV hAll (alloc_below _ _)) hb')
          | assumption
          | fail "")
        (first
          | (go_at_call 61; refine (mkNum_any _ _).mono ?_; rintro e w' ⟨rfl, hb'⟩; replace hAll := stepV hAll hb')
          | (go_at_call 62; refine (mkBytes_any _ _ _ _).mono ?_; rintro e w' ⟨rfl, hb'⟩; replace hAll := stepV hAll hb')
          | (go_at_call 60; refine (fr_write cb a (bytesIn_below' HBh.out (stepV HB1.out hAll)) HAll.out (HVh.out.e1.below (stepV HB1.out hAll))).mono ?_; rintro e w' ⟨Aw, cw, rfl, how, hb'⟩)
          | fail "")
      have hW := stepV (stepV hAll (alloc_below _ (.cells (frRow F B cb) 97))) hb'
      have hlen := fr_len HAll.out.2.2.2.2
      have hbw := frF_byte Hby.out
      have hfb : frBase F = [99, 97, 114, 116] ++ ocAll frS.data.toList (frN F) (frF F) 4 := rfl
      generalize hlq : ocAll frS.data.toList (frN F) (frF F) 4 = l at *
      have hm := alloc_below w' (.cells #[.int .u8 99, .int .u8 97, .int .u8 114, .int .u8 116] 5 (4, 5))
      have hlp : 0 < l.length := by rw [← hlq]; exact Nat.lt_of_lt_of_le (one_pos F) (cat_mono _ (show 1 ≤ 4 by decide))
      have hBw := own_bytes how
      obtain ⟨bw, ow, hAw, hcw⟩ := hBw hlp
      subst hAw
      obtain ⟨it, j1, j2, j3, j4⟩ := of_row1 row5
      obtain ⟨v9, w9, hr9, ho9, hg9⟩ := run_append_arg_grows (P := Tryd.prog) (w'.alloc (.cells #[.int .u8 99, .int .u8 97, .int .u8 114, .int .u8 116] 5 (4, 5))) 22 22 5 it (.int .u8 0) 1 1 Tryd.underlying22 j1 j2 j3 j4 rfl (by decide)
        ⟨w'.heap.size, 0, none⟩ 4 4 (bV [99, 97, 114, 116]) rfl (fun j u hu => by
          obtain ⟨hj, rfl⟩ := bV_get hu
          rw [Go.WideShapes.add_plain, Nat.zero_add, cell_of_marked]
          rw [← Array.getElem?_toList]
          exact hu)
        ⟨bw, ow, none⟩ l.length cw (bV l) (by rw [bV_len, Nat.mul_one]) (fun j u hu => by
          obtain ⟨hj, rfl⟩ := bV_get hu
          rw [Go.WideShapes.add_plain]
          exact (hm.cell (p := ⟨bw, ow + j, none⟩) (World.block_lt_of_cell? _ _ (hcw j hj))).trans (hcw j hj)) (by omega) (by unfold maxLen; omega) (by omega)
      rw [← bV_append] at ho9
      have hb9 : Below w.heap.size w w9 := (stepV HB1.out (stepV hW hm)).grown hg9 (stepV HB1.out (stepV hW hm)).size (fun k hk => by cases hk)
      obtain ⟨A9, c9, hv⟩ := own_slice ho9
      subst hv
      rw [← hfb] at ho9
      have hfl : (frBase F).length = 4 + l.length := own_len ho9
      have hsz9 : (w'.alloc (.cells #[.int .u8 99, .int .u8 97, .int .u8 114, .int .u8 116] 5 (4, 5))).heap.size ≤ w9.heap.size := hg9.size
      have HS := Lib.hid (summed_any ho9 hbw hsz9 (by omega) (HVh.out.g.below hb9) (HVh.out.s.below hb9))
      have HB9 := Lib.hid hb9
      have HO9 := Lib.hid ho9
      have HW := Lib.hid (stepV (stepV HB1.out hW) hm)
      have HFL := Lib.hid hfl
      clear hW hbw hfb hm hb9 ho9 hfl how hg9 hAll hb' m0 m1 m2 m3 hBw hcw hlq hlp
      go_wp2_with (at_builtin; go_loud (refine Lib.wpList_append_run _ rfl (.tmp 42) (.tmp 43) 22 22 rfl _ _ rfl rfl _ _ hr9 ?_))
      refine HS.out.mono ?_
      rintro e w10 ⟨A10, c10, rfl, ho10, hc10⟩
      have HO10 := Lib.hid ho10
      have HC10 := Lib.hid hc10
      clear ho10 hc10 HS
      go_wp2_with fail
      go_ret2
      have hfin : (frB F).length = 4 + l.length + 4 := by
        unfold frB
        rw [List.length_append, HFL.out, List.length_take, sum_len]
        rfl
      refine ⟨fun _ => ⟨A10, c10, by rw [hfin]; rfl, ?_, ?_⟩, fun h => absurd HC.out h⟩
      · rw [hfin]
        exact own_mono (by exact HW.out.size) HO10.out
      · exact HB9.out.trans (HC10.out.below (Nat.le_trans HB9.out.size (Nat.le_refl _)) (fun k hk => by
          have := (HO9.out.lt k hk.symm).1
          exact Nat.le_trans HW.out.size this))
    · have hends' := hends
      have HC := Lib.hid hc
      have hn := he
      generalize endC F = n at *
      have hev : errV a n = .iface 198 (.pointer (some (a n))) := by unfold errV; rw [if_neg hn]
      rw [hev] at hends
      have HEV := Lib.hid hev
      clear hev hends' hk hc he h1
      unfold frA at hends b0 ⊢
      go_enter Tryd.func32, Tryd.ntmps32
      go_wp2_with fail
      refine (hends.out _ b0).mono ?_
      rintro e w1 ⟨rfl, hb1⟩
      have HB1 := Lib.hid (stepV b0 hb1)
      clear hb1 hends
      go_wp2_with fail
      go_ret2
      exact ⟨fun h => absurd (HC.out.symm.trans h) hn, fun _ => ⟨by rw [HC.out, HEV.out]; rfl, HB1.out⟩⟩
end Go.Proofs.YtbapkamopelgpaaDoor
