/- octets, the reference: Rest. -/
import Derived.Test.YtmmiimcodbjnmaaDoorRfC
namespace Go.Proofs.YtmmiimcodbjnmaaDoor
open Go.RowKit Go.Stop Go.Extern Go.Ranges Go.Rows2
set_option linter.unusedVariables false
set_option linter.unusedSimpArgs false
set_option maxRecDepth 20000
theorem at_all (s : ByteArray) : ∀ k (h : k < s.size), s[k] = s.data.toList.getD k 0 := fun k h => at_u8 s k h
theorem BytesOk.nat {xs : List Int} (h : BytesOk xs) (i : Nat) : ∃ u : Nat, xs.getD i 0 = u ∧ u < 256 := by
  have := h.getD i
  exact ⟨(xs.getD i 0).toNat, by omega, by omega⟩
theorem be_two (xs : List Int) (h : 2 ≤ xs.length) : rdBE (xs.take 2) = xs.getD 0 0 * 256 + xs.getD 1 0 := by
  match xs, h with
  | a :: b :: t, _ => simp [rdBE]
theorem u8_ne {c d : UInt8} (h : c ≠ d) : ((c.toNat : Int) == (d.toNat : Int)) = false := by
  have : c.toNat ≠ d.toNat := fun e => h (UInt8.toNat_inj.1 e)
  rw [beq_eq_false_iff_ne]; omega
theorem size_some {c : UInt8} (hk : ocKnown c = true) (h1 : c ≠ 111) (h2 : c ≠ 116) : ocSize c = 1 ∨ ocSize c = 4 ∨ ocSize c = 8 := by
  unfold ocKnown at hk
  simp [h1, h2] at hk
  rcases hk with (rfl | rfl) | rfl
  · exact .inl (by decide)
  · exact .inr (.inl (by decide))
  · exact .inr (.inr (by decide))
set_option maxHeartbeats 16000000 in
theorem rest02_any (A : Option Addr) (c : Nat) (s : ByteArray) (xs : List Int) (w : World) (hB : Lib.BytesIn w A xs.length xs) (hc : xs.length ≤ c) (hcm : c ≤ maxLen) (hb : BytesOk xs) (hs : s.size ≤ 100000) (hk : s.data.toList.all ocKnown = true) :
    Calls Tryd.prog 28 #[.string s, .slice A xs.length c] w (Rest2End w s.size s.data.toList xs) := by
  obtain ⟨it, j1, j2, j3, j4⟩ := of_row1 rowField2
  have KK := Lib.hid (known02_any s w hs hk)
  have hkc : ∀ k, k < s.size → ocKnown (s.data.toList.getD k 0) = true := fun k hlt => List.all_eq_true.1 hk _ (by
    rw [List.getD_eq_getElem?_getD, List.getElem?_eq_getElem (by simpa using hlt)]
    exact List.getElem_mem _)
  have hI0 : RI w (w.alloc (.cells #[] 57)) s.data.toList xs 0 (.slice (some ⟨w.heap.size, 0, none⟩) 0 0) [] A c := ⟨rfl, RG.new w _ (Nat.le_refl _) _ _, ByteS.old hB (alloc_below _ _), hc, hcm, alloc_below _ _⟩
  have hat := at_all s
  generalize hcs : s.data.toList = cs at *
  have HAT := Lib.hid hat
  have HKC := Lib.hid hkc
  have HI0 := Lib.hid hI0
  have HB := Lib.hid hb
  clear hB hb hk hkc hI0 hat hcs
  go_enter Tryd.func28, Tryd.ntmps28
  go_wp2_with fail
  refine KK.out.mono ?_
  rintro e w1 ⟨rfl, rfl⟩
  go_wp2_with fail
  go_loopw [1, 7, 8] (fun b y x wr => ∃ (k : Nat) (v : Value) (vs : List Value) (A' : Option Addr) (cb : Nat), k ≤ s.size ∧ x = .int .i64 k ∧ b = .slice A' (rdLeft cs xs k).length cb ∧ v = y ∧ RI w wr cs xs k v vs A' cb) (fun b v x wr => s.size - (intOf x).toNat)
  case atStart => exact ⟨0, _, [], A, c, Nat.zero_le _, rfl, rfl, rfl, HI0.out⟩
  case round =>
    obtain ⟨k, v, vs, A', cb, hk, rfl, rfl, rfl, hI⟩ := hrel
    have hle := hI.le
    have hmx := hI.max
    unfold maxLen at hmx
    by_cases hkn : k < s.size
    · have hkd : decide ((k : Int) < (s.size : Int)) = true := by simp; omega
      have i0 : (0 : Int) ≤ (k : Int) := by omega
      have i1 : (k : Int) < (s.size : Int) := by omega
      have hat := HAT.out k hkn
      have hkc := HKC.out k hkn
      have hS1 : rdLeft cs xs (k + 1) = (rdLeft cs xs k).drop (rdLen (cs.getD k 0) (rdLeft cs xs k)) := rfl
      have hS2 : rdErr cs xs (k + 1) = if rdErr cs xs k ≠ 0 then rdErr cs xs k else rdC (cs.getD k 0) (rdLeft cs xs k) := rfl
      rw [hI.err, if_neg (fun h => h rfl)] at hS2
      have hN1 : rdFN cs xs k = rdN (cs.getD k 0) (rdLeft cs xs k) := rfl
      have hB1 : rdFB cs xs k = rdB (cs.getD k 0) (rdLeft cs xs k) := rfl
      have hbk := rdLeft_ok (s := cs) HB.out k
      have hfail : rdErr cs xs (k + 1) ≠ 0 → rdErr cs xs s.size = rdErr cs xs (k + 1) := fun h => rdErr_mono h s.size (by omega)
      generalize cs.getD k 0 = d at *
      have hT := hI.at_
      generalize hLq : rdLeft cs xs k = L at *
      have HI := Lib.hid hI
      have HS1 := Lib.hid hS1
      have HS2 := Lib.hid hS2
      have HF := Lib.hid hfail
      have HN1 := Lib.hid hN1
      have HB1 := Lib.hid hB1
      have HBK := Lib.hid hbk
      have HLq := Lib.hid hLq
      have HBel := Lib.hid hI.below
      clear hI hS1 hS2 hfail hN1 hB1 hbk hLq
      have KS := Lib.hid fun W => size02_any d W
      rw [rfSize_known hkc] at KS
      by_cases hno : d = 111
      · subst hno
        have hz : ocSize 111 = 0 := by decide
        rw [hz] at KS
        clear hz
        rw [rdC, if_pos rfl] at HS2
        rw [rdLen, if_pos rfl] at HS1
        rw [rdN, if_pos (.inl rfl)] at HN1
        rw [rdB, if_pos rfl] at HB1
        by_cases h32 : L.length < 32
        · have hd2 : decide ((L.length : Int) < 32) = true := by simp; omega
          rw [if_pos h32] at HS2
          have HE := Lib.hid ((HF.out (by rw [HS2.out]; decide)).trans HS2.out)
          clear HS2 HF hkc
          go_wp2_with fail
          refine (KS.out _).mono ?_
          rintro e w2 ⟨rfl, rfl⟩
          go_wp2_with fail
          exact bodyPost_ret (v := .tuple #[.slice none 0 0, .slice none 0 0, .int .i64 2]) (by simp [results, Tryd.results28, go_sem]) rfl ⟨fun h => absurd (HE.out.symm.trans h) (by decide), fun _ => ⟨by rw [HE.out]; rfl, HBel.out⟩⟩
        · have hd2 : decide ((L.length : Int) < 32) = false := by simp; omega
          rw [if_neg h32] at HS2
          have hh : ∀ W, (Instr.slice 34 (.slice A' L.length cb) none (some (.int .i64 32)) none).run Tryd.prog W = .ok (.slice (cutB A' 0 cb) 32 cb) W := run_head A' L.length cb 32 (by omega)
          have hrr : ∀ W, (Instr.slice 34 (.slice A' L.length cb) (some (.int .i64 32)) none none).run Tryd.prog W = .ok (.slice (cutB A' 32 cb) (L.length - 32) (cb - 32)) W := run_rest A' L.length cb 32 (by omega)
          have hTh := cutS_head hT hle 32 (by omega)
          have hTr := cutS_rest hT hle 32 (by omega)
          rw [← HB1.out] at hTh
          rw [← HS1.out] at hTr
          have hlB : (rdFB cs xs k).length = 32 := by rw [HB1.out, List.length_take]; omega
          have hlR : (rdLeft cs xs (k + 1)).length = L.length - 32 := by rw [HS1.out, List.length_drop]
          have HTh2 := Lib.hid hTh
          have HTr2 := Lib.hid hTr
          have HlB := Lib.hid hlB
          have HlR := Lib.hid hlR
          clear hTh hTr hlB hlR hT hkc
          generalize cutB A' 0 cb = E2 at *
          generalize cutB A' 32 cb = G2 at *
          have hz1 : (wr.alloc (.cells #[.int .i64 0, .slice E2 32 cb] 57)).heap.size = wr.heap.size + 1 := by simp
          have hn3 := World.news_of_block (heap_alloc_last (wr.alloc (.cells #[.int .i64 0, .slice E2 32 cb] 57)) (.cells #[.int .i64 0, .slice E2 32 cb] 57))
          rw [hz1] at hn3
          have B3 := Lib.hid (stepV (alloc_below wr (.cells #[.int .i64 0, .slice E2 32 cb] 57)) (alloc_below (wr.alloc (.cells #[.int .i64 0, .slice E2 32 cb] 57)) (.cells #[.int .i64 0, .slice E2 32 cb] 57)))
          have HOWN := Lib.hid (HI.out.rg.below B3.out).own
          have HN3 := Lib.hid hn3
          have hzq := HI.out.below.size
          have he2 : [Value.int .i64 0, .slice E2 32 cb] = [.int .i64 (rdFN cs xs k), .slice E2 (rdFB cs xs k).length cb] := by rw [HN1.out, HlB.out]
          have HE2 := Lib.hid he2
          clear hz1 hn3 he2
          go_wp2_with fail
          refine (KS.out _).mono ?_
          rintro e w2 ⟨rfl, rfl⟩
          go_wp2_with fail
          refine (KS.out _).mono ?_
          rintro e w2 ⟨rfl, rfl⟩
          go_wp2_with (at_builtin; go_loud (refine wpList_append_lies _ rfl (.tmp 88) (.tmp 90) 53 rfl w.heap.size 57 it (.agg #[.int .i64 0, .slice none 0 0]) 2 32 Tryd.underlying53 j1 j2 j3 j4 rfl (by decide) v k vs rfl HOWN.out ⟨wr.heap.size + 1, 0, none⟩ 1 1 [.int .i64 0, .slice E2 32 cb] rfl rfl HN3.out (two_one _ _ _ _) (by decide) (by unfold maxLen; omega) (by omega) (by simp; omega) _ rfl ?_); intro gn cn w6 hown hgrow hatg hltn)
          rw [HE2.out] at hown
          have HR := Lib.hid (HI.out.next (cb' := cb - 32) B3.out (HTh2.out.below B3.out) (HTr2.out.below B3.out) (by rw [HlR.out]; omega) (by unfold maxLen; omega) HS2.out hown hgrow (by simpa using hatg))
          clear hown hgrow hatg hltn HOWN HN3
          go_round
          case rel => exact ⟨k + 1, _, _, _, _, by omega, by go_num, by rw [HlR.out], rfl, HR.out⟩
          case measure => simp only [intOf]; omega
      by_cases h116 : d = 116
      · subst h116
        have hz : ocSize 116 = 0 := by decide
        rw [hz] at KS
        clear hz
        rw [rdC] at HS2
        rw [rdLen] at HS1
        rw [rdN] at HN1
        rw [rdB] at HB1
        rw [if_neg (by decide), if_pos rfl] at HS2 HS1 HB1
        rw [if_pos (.inr rfl)] at HN1
        by_cases h2 : L.length < 2
        · have hd2 : decide ((L.length : Int) < 2) = true := by simp; omega
          rw [if_pos h2] at HS2
          have HE := Lib.hid ((HF.out (by rw [HS2.out]; decide)).trans HS2.out)
          clear h2 HS2 HF hno hkc
          go_wp2_with fail
          refine (KS.out _).mono ?_
          rintro e w2 ⟨rfl, rfl⟩
          go_wp2_with fail
          exact bodyPost_ret (v := .tuple #[.slice none 0 0, .slice none 0 0, .int .i64 2]) (by simp [results, Tryd.results28, go_sem]) rfl ⟨fun h => absurd (HE.out.symm.trans h) (by decide), fun _ => ⟨by rw [HE.out]; rfl, HBel.out⟩⟩
        · have hd2 : decide ((L.length : Int) < 2) = false := by simp; omega
          rw [if_neg h2] at HS2
          obtain ⟨b, o, rfl, hcl⟩ := hT.1 (by omega)
          have hc0 : wr.cell? ⟨b, o, none⟩ = some (.int .u8 (L.getD 0 0)) := hcl 0 (by omega)
          have hc1 : wr.cell? ⟨b, o + 1, none⟩ = some (.int .u8 (L.getD 1 0)) := hcl 1 (by omega)
          have hd2b : (0 : Int) < (L.length : Int) := by omega
          have hd2c : (1 : Int) < (L.length : Int) := by omega
          obtain ⟨u0, e0, l0⟩ := HBK.out.nat 0
          obtain ⟨u1, e1, l1⟩ := HBK.out.nat 1
          have hbe := be_two L (by omega)
          rw [e0, e1] at hbe
          rw [e0] at hc0
          rw [e1] at hc1
          have htn : (rdBE (L.take 2)).toNat = u0 * 256 + u1 := by rw [hbe]; omega
          have hr2 : ∀ W, (Instr.slice 34 (.slice (some ⟨b, o, none⟩) L.length cb) (some (.int .i64 2)) none none).run Tryd.prog W = .ok (.slice (cutB (some ⟨b, o, none⟩) 2 cb) (L.length - 2) (cb - 2)) W := run_rest _ L.length cb 2 (by omega)
          have hT2 := cutS_rest hT hle 2 (by omega)
          rw [htn] at HS1 HB1
          rw [hbe] at HS2
          have hl2 : (L.drop 2).length = L.length - 2 := List.length_drop
          have hm2 : cb - 2 ≤ 9223372036854775807 := by omega
          have hlm : L.length - 2 ≤ cb - 2 := by omega
          have hlm2 : ((L.length - 2 : Nat) : Int) = (L.length : Int) - 2 := by omega
          rw [← hlm2] at HS2
          have HL2 := Lib.hid hl2
          have HT2 := Lib.hid hT2
          have HLM := Lib.hid hlm2
          clear hcl hT hT2 hbe htn e0 e1 hl2 hlm2
          generalize cutB (some ⟨b, o, none⟩) 2 cb = D2 at *
          generalize L.length - 2 = m at *
          generalize cb - 2 = c2 at *
          have b2 : ((u0 : Int) * 256 + (u1 : Int)) = ((u0 * 256 + u1 : Nat) : Int) := by omega
          have p0 : (0 : Int) ≤ (u0 : Int) := by omega
          have p1 : (u0 : Int) < 256 := by omega
          have p2 : (0 : Int) ≤ (u1 : Int) := by omega
          have p3 : (u1 : Int) < 256 := by omega
          by_cases hmn : (m : Int) < (u0 : Int) * 256 + (u1 : Int)
          · have hd3 : decide ((m : Int) < (u0 : Int) * 256 + (u1 : Int)) = true := by simpa using hmn
            rw [if_pos hmn] at HS2
            have HE := Lib.hid ((HF.out (by rw [HS2.out]; decide)).trans HS2.out)
            clear hmn HS2 HF hno hkc b2
            go_wp2_with fail
            refine (KS.out _).mono ?_
            rintro e w2 ⟨rfl, rfl⟩
            go_wp2_with fail
            go_quiet (fail)
            go_wp2_with fail
            exact bodyPost_ret (v := .tuple #[.slice none 0 0, .slice none 0 0, .int .i64 2]) (by simp [results, Tryd.results28, go_sem]) rfl ⟨fun h => absurd (HE.out.symm.trans h) (by decide), fun _ => ⟨by rw [HE.out]; rfl, stepV HBel.out (below_drewN _ _)⟩⟩
          · have hd3 : decide ((m : Int) < (u0 : Int) * 256 + (u1 : Int)) = false := by simpa using hmn
            rw [if_neg hmn] at HS2
            have hnm : u0 * 256 + u1 ≤ m := by omega
            have HNM := Lib.hid hnm
            have HB2 := Lib.hid b2
            have hh : ∀ W, (Instr.slice 34 (.slice D2 m c2) none (some (.int .i64 ((u0 : Int) * 256 + (u1 : Int)))) none).run Tryd.prog W = .ok (.slice (cutB D2 0 c2) (u0 * 256 + u1) c2) W := by rw [b2]; exact run_head D2 m c2 _ (by omega)
            have hrr : ∀ W, (Instr.slice 34 (.slice D2 m c2) (some (.int .i64 ((u0 : Int) * 256 + (u1 : Int)))) none none).run Tryd.prog W = .ok (.slice (cutB D2 (u0 * 256 + u1) c2) (m - (u0 * 256 + u1)) (c2 - (u0 * 256 + u1))) W := by rw [b2]; exact run_rest D2 m c2 _ (by omega)
            have hTh := cutS_head HT2.out (by rw [HL2.out]; exact hlm) (u0 * 256 + u1) (by rw [HL2.out]; exact hnm)
            have hTr := cutS_rest HT2.out (by rw [HL2.out]; exact hlm) (u0 * 256 + u1) (by rw [HL2.out]; exact hnm)
            rw [← HB1.out] at hTh
            rw [List.drop_drop, ← HS1.out] at hTr
            have hlB : (rdFB cs xs k).length = u0 * 256 + u1 := by rw [HB1.out, List.length_take, HL2.out]; omega
            have hlR : (rdLeft cs xs (k + 1)).length = m - (u0 * 256 + u1) := by rw [HS1.out, ← List.drop_drop, List.length_drop, HL2.out]
            have HTh := Lib.hid hTh
            have HTr := Lib.hid hTr
            have HlB := Lib.hid hlB
            have HlR := Lib.hid hlR
            clear hTh hTr hlB hlR hmn b2 hno hkc
            generalize cutB D2 0 c2 = E2 at *
            generalize cutB D2 (u0 * 256 + u1) c2 = G2 at *
            go_wp2_with fail
            refine (KS.out _).mono ?_
            rintro e w2 ⟨rfl, rfl⟩
            go_wp2_with fail
            go_quiet (fail)
            have hbq : Below wr.heap.size wr (wr.drewN nq) := below_drewN _ _
            have HIq := Lib.hid (HI.out.step hbq)
            have HTh2 := Lib.hid (HTh.out.below hbq)
            have HTr2 := Lib.hid (HTr.out.below hbq)
            clear hbq HTh HTr HI HT2 hc0 hc1
            generalize wr.drewN nq = wq at *
            have hz1 : (wq.alloc (.cells #[.int .i64 0, .slice E2 (u0 * 256 + u1) c2] 57)).heap.size = wq.heap.size + 1 := by simp
            have hn3 := World.news_of_block (heap_alloc_last (wq.alloc (.cells #[.int .i64 0, .slice E2 (u0 * 256 + u1) c2] 57)) (.cells #[.int .i64 0, .slice E2 (u0 * 256 + u1) c2] 57))
            rw [hz1] at hn3
            have B3 := Lib.hid (stepV (alloc_below wq (.cells #[.int .i64 0, .slice E2 (u0 * 256 + u1) c2] 57)) (alloc_below (wq.alloc (.cells #[.int .i64 0, .slice E2 (u0 * 256 + u1) c2] 57)) (.cells #[.int .i64 0, .slice E2 (u0 * 256 + u1) c2] 57)))
            have HOWN := Lib.hid (HIq.out.rg.below B3.out).own
            have HN3 := Lib.hid hn3
            have hzq := HIq.out.below.size
            have he2 : [Value.int .i64 0, .slice E2 (u0 * 256 + u1) c2] = [.int .i64 (rdFN cs xs k), .slice E2 (rdFB cs xs k).length c2] := by rw [HN1.out, HlB.out]
            have HE2 := Lib.hid he2
            clear hz1 hn3 he2
            go_wp2_with fail
            refine (KS.out _).mono ?_
            rintro e w2 ⟨rfl, rfl⟩
            go_wp2_with (at_builtin; go_loud (refine wpList_append_lies _ rfl (.tmp 88) (.tmp 90) 53 rfl w.heap.size 57 it (.agg #[.int .i64 0, .slice none 0 0]) 2 32 Tryd.underlying53 j1 j2 j3 j4 rfl (by decide) v k vs rfl HOWN.out ⟨wq.heap.size + 1, 0, none⟩ 1 1 [.int .i64 0, .slice E2 (u0 * 256 + u1) c2] rfl rfl HN3.out (two_one _ _ _ _) (by decide) (by unfold maxLen; omega) (by omega) (by simp; omega) _ rfl ?_); intro gn cn w6 hown hgrow hatg hltn)
            rw [HE2.out] at hown
            have HR := Lib.hid (HIq.out.next (cb' := c2 - (u0 * 256 + u1)) B3.out (HTh2.out.below B3.out) (HTr2.out.below B3.out) (by rw [HlR.out]; omega) (by unfold maxLen; omega) HS2.out hown hgrow (by simpa using hatg))
            clear hown hgrow hatg hltn HOWN HN3
            go_round
            case rel => exact ⟨k + 1, _, _, _, _, by omega, by go_num, by rw [HlR.out], rfl, HR.out⟩
            case measure => simp only [intOf]; omega
      · have hz4 : ocSize d = 1 ∨ ocSize d = 4 ∨ ocSize d = 8 := size_some hkc hno h116
        have n1 : ((d.toNat : Int) == 111) = false := u8_ne hno
        have n2 : ((d.toNat : Int) == 116) = false := u8_ne h116
        rw [rdC, if_neg hno, if_neg h116, if_neg (by omega)] at HS2
        rw [rdLen, if_neg hno, if_neg h116] at HS1
        rw [rdN, if_neg (by rintro (e | e); exact hno e; exact h116 e)] at HN1
        rw [rdB, if_neg hno, if_neg h116] at HB1
        generalize ocSize d = z at *
        have hz0 : ((z : Int) == 0) = false := by rw [beq_eq_false_iff_ne]; omega
        by_cases hsz : L.length < z
        · have hd3 : decide ((L.length : Int) < (z : Int)) = true := by simp; omega
          rw [if_pos hsz] at HS2
          have HE := Lib.hid ((HF.out (by rw [HS2.out]; decide)).trans HS2.out)
          clear HS2 HF hno hkc h116 hz4
          go_wp2_with fail
          refine (KS.out _).mono ?_
          rintro e w2 ⟨rfl, rfl⟩
          go_wp2_with fail
          exact bodyPost_ret (v := .tuple #[.slice none 0 0, .slice none 0 0, .int .i64 2]) (by simp [results, Tryd.results28, go_sem]) rfl ⟨fun h => absurd (HE.out.symm.trans h) (by decide), fun _ => ⟨by rw [HE.out]; rfl, HBel.out⟩⟩
        · have hd3 : decide ((L.length : Int) < (z : Int)) = false := by simp; omega
          rw [if_neg hsz] at HS2
          obtain ⟨b, o, rfl, hcl⟩ := hT.1 (by omega)
          have hc0 : wr.cell? ⟨b, o, none⟩ = some (.int .u8 (L.getD 0 0)) := hcl 0 (by omega)
          have hlb : b < wr.heap.size := World.block_lt_of_cell? wr _ hc0
          obtain ⟨u0, e0, l0⟩ := HBK.out.nat 0
          have hlz : (L.take z).length = z := by rw [List.length_take]; omega
          have hLp : (0 : Int) < (L.length : Int) := by omega
          by_cases hbg : 4611686018427387903 < rdBE (L.take z)
          · have hz8 : z = 8 := by
              rcases hz4 with h | h | h
              · have := (rdBE_bd _ (HBK.out.take z)).2
                rw [hlz, h] at this
                have e : (256 : Int) ^ 1 = 256 := by decide
                rw [e] at this
                rw [h] at hbg
                omega
              · have := (rdBE_bd _ (HBK.out.take z)).2
                rw [hlz, h] at this
                have e : (256 : Int) ^ 4 = 4294967296 := by decide
                rw [e] at this
                rw [h] at hbg
                omega
              · exact h
            have hfi : (L.take z).getD 0 0 = L.getD 0 0 := by
              rw [List.getD_eq_getElem?_getD, List.getD_eq_getElem?_getD, List.getElem?_take_of_lt (by omega)]
            have hge : decide ((64 : Int) ≤ (u0 : Int)) = true := by
              have := (be_big _ (hlz.trans hz8) (HBK.out.take z)).2 hbg
              rw [hfi, e0] at this
              simpa using this
            have hq8 : ((z : Int) == 8) = true := by rw [beq_iff_eq]; omega
            rw [if_pos hbg] at HS2
            have HE := Lib.hid ((HF.out (by rw [HS2.out]; decide)).trans HS2.out)
            rw [e0] at hc0
            have hc1 := ((alloc_below wr (.cells #[.int .i64 0, .slice none 0 0] 57)).cell (p := ⟨b, o, none⟩) hlb).trans hc0
            have hg2 : 64 ≤ u0 := by have := hge; simp at this; omega
            clear HS2 HF hno hkc h116 hz4 hfi e0 hlz hbg hcl hz8
            go_wp2_with fail
            refine (KS.out _).mono ?_
            rintro e w2 ⟨rfl, rfl⟩
            go_wp2_with fail
            refine (KS.out _).mono ?_
            rintro e w2 ⟨rfl, rfl⟩
            go_wp2_with fail
            exact bodyPost_ret (v := .tuple #[.slice none 0 0, .slice none 0 0, .int .i64 1]) (by simp [results, Tryd.results28, go_sem]) rfl ⟨fun h => absurd (HE.out.symm.trans h) (by decide), fun _ => ⟨by rw [HE.out]; rfl, stepV HBel.out (alloc_below _ _)⟩⟩
          · rw [if_neg hbg] at HS2
            have hcase : (((z : Int) == 8) = true ∧ decide ((64 : Int) ≤ (u0 : Int)) = false) ∨ (((z : Int) == 8) = false) := by
              by_cases hz8 : z = 8
              · refine .inl ⟨by rw [beq_iff_eq]; omega, ?_⟩
                have hfi : (L.take z).getD 0 0 = L.getD 0 0 := by
                  rw [List.getD_eq_getElem?_getD, List.getD_eq_getElem?_getD, List.getElem?_take_of_lt (by omega)]
                have := fun h => hbg ((be_big _ (hlz.trans hz8) (HBK.out.take z)).1 h)
                rw [hfi, e0] at this
                simpa using this
              · exact .inr (by rw [beq_eq_false_iff_ne]; omega)
            have hm : rdBE (L.take z) ≤ 4611686018427387903 := by omega
            rw [e0] at hc0
            have hc1 := ((alloc_below wr (.cells #[.int .i64 0, .slice none 0 0] 57)).cell (p := ⟨b, o, none⟩) hlb).trans hc0
            have hcut : cutB (some ⟨b, o, none⟩) 0 cb = some ⟨b, o, none⟩ := by
              unfold cutB
              split
              · rfl
              · rfl
            have hh : ∀ W, (Instr.slice 34 (.slice (some ⟨b, o, none⟩) L.length cb) none (some (.int .i64 (z : Int))) none).run Tryd.prog W = .ok (.slice (some ⟨b, o, none⟩) z cb) W := by rw [← hcut]; exact fun W => (by rw [hcut]; have := run_head (some ⟨b, o, none⟩) L.length cb z (by omega) W; rw [hcut] at this; exact this)
            have hrr : ∀ W, (Instr.slice 34 (.slice (some ⟨b, o, none⟩) L.length cb) (some (.int .i64 (z : Int))) none none).run Tryd.prog W = .ok (.slice (cutB (some ⟨b, o, none⟩) z cb) (L.length - z) (cb - z)) W := run_rest _ L.length cb z (by omega)
            have hTr := cutS_rest hT hle z (by omega)
            rw [← HS1.out] at hTr
            have hlR : (rdLeft cs xs (k + 1)).length = L.length - z := by rw [HS1.out, List.length_drop]
            have HTr := Lib.hid hTr
            have HlR := Lib.hid hlR
            have HCL := Lib.hid hcl
            have HM := Lib.hid hm
            have HLZ := Lib.hid hlz
            have hcm2 : L.length - z ≤ cb - z := by omega
            have hzL : z ≤ L.length := by omega
            have hz8 : z ≤ 8 := by omega
            have hcz : ∀ j, j < z → (L.take z).getD j 0 = L.getD j 0 := fun j hj => by
              rw [List.getD_eq_getElem?_getD, List.getD_eq_getElem?_getD, List.getElem?_take_of_lt hj]
            have HCZ := Lib.hid hcz
            have HYB := Lib.hid (HBK.out.take z)
            generalize cutB (some ⟨b, o, none⟩) z cb = G2 at *
            clear hno hkc h116 hz4 e0 hlz hbg hcl hcut hm hTr hlR hcz hT HF
            obtain ⟨W0, rfl⟩ : ∃ x, x = wr := ⟨_, rfl⟩
            have hcase2 : (((z : Int) == 8) = true ∧ decide ((64 : Int) ≤ (u0 : Int)) = false ∧ u0 < 64) ∨ (((z : Int) == 8) = false) := hcase.imp_left fun h => ⟨h.1, h.2, by have := h.2; simp at this; omega⟩
            clear hcase
            rcases hcase2 with ⟨hq8, hge, hg2⟩ | hq8
            all_goals (
              go_wp2_with fail
              refine (KS.out _).mono ?_
              rintro e w2 ⟨rfl, rfl⟩
              go_wp2_with fail
              refine (KS.out _).mono ?_
              rintro e w2 ⟨rfl, rfl⟩
              go_wp2_with fail
              clear hc0 hc1
              generalize hys : L.take z = ys at *
              go_loopw [12, 76] (fun y i wr => ∃ j : Nat, j ≤ z ∧ i = .int .i64 j ∧ Box2 W0 wr (rdBE (ys.take j)) none 0 0) (fun y i wr => z - (intOf i).toNat)
              case atStart => exact ⟨0, Nat.zero_le _, rfl, Box2.new W0⟩
              case round =>
                obtain ⟨j, hj, rfl, hX⟩ := hrel
                obtain ⟨q0, q1, f0, f1⟩ := hX.cells
                have HX := Lib.hid hX
                clear hX
                by_cases hjz : j < z
                · have hjd : decide ((j : Int) < (z : Int)) = true := by simp; omega
                  have jj0 : (0 : Int) ≤ (j : Int) := by omega
                  have jj1 : (j : Int) < (z : Int) := by omega
                  have hcj := (HX.out.below.cell (p := ⟨b, o + j, none⟩) hlb).trans (HCL.out j (by omega))
                  rw [← HCZ.out j hjz] at hcj
                  obtain ⟨uj, ej, lj⟩ := HYB.out.nat j
                  obtain ⟨p1, p2, p3, p4⟩ := be_part ys HYB.out j (by rw [HLZ.out]; exact hjz) (by rw [HLZ.out]; omega) HM.out
                  rw [ej] at hcj p1
                  have HP1 := Lib.hid p1
                  clear ej p1
                  generalize rdBE (ys.take j) = X at *
                  generalize hYq : rdBE (ys.take (j + 1)) = Y at *
                  have HYq := Lib.hid hYq
                  clear hYq
                  have hXu : X * 256 + (uj : Int) ≤ 4611686018427387903 := by rw [HP1.out]; exact p4
                  go_wp2_with fail
                  go_round
                  case rel => exact ⟨j + 1, by omega, by go_num, by rw [HYq.out, ← HP1.out]; exact HX.out.num _⟩
                  case measure => simp only [intOf]; omega
                · obtain rfl : j = z := by omega
                  have hjd : decide ((j : Int) < (j : Int)) = false := by simp
                  have hyl : ys.take j = ys := List.take_of_length_le (by rw [HLZ.out]; exact Nat.le_refl _)
                  rw [hyl] at HX q0
                  have HN2 := Lib.hid HN1.out
                  clear hyl
                  generalize rdBE ys = N at *
                  have hn3 := Lib.hid (World.news_of_block (heap_alloc_last wr (.cells #[.int .i64 N, .slice none 0 0] 57)))
                  have B3 := Lib.hid (stepV HX.out.below (alloc_below wr (.cells #[.int .i64 N, .slice none 0 0] 57)))
                  have HOWN := Lib.hid (HI.out.rg.below B3.out).own
                  have hzq := HI.out.below.size
                  have hzx := HX.out.below.size
                  have he2 : [Value.int .i64 N, .slice none 0 0] = [.int .i64 (rdFN cs xs k), .slice none (rdFB cs xs k).length 0] := by rw [HN2.out, HB1.out]; rfl
                  have HE2 := Lib.hid he2
                  clear he2
                  go_wp2_with (at_builtin; go_loud (refine wpList_append_lies _ rfl (.tmp 88) (.tmp 90) 53 rfl w.heap.size 57 it (.agg #[.int .i64 0, .slice none 0 0]) 2 32 Tryd.underlying53 j1 j2 j3 j4 rfl (by decide) v k vs rfl HOWN.out ⟨wr.heap.size, 0, none⟩ 1 1 [.int .i64 N, .slice none 0 0] rfl rfl hn3.out (two_one _ _ _ _) (by decide) (by unfold maxLen; omega) (by omega) (by simp; omega) _ rfl ?_); intro gn cn w6 hown hgrow hatg hltn)
                  rw [HE2.out] at hown
                  have HR := Lib.hid (HI.out.next (cb' := cb - j) B3.out (by rw [HB1.out]; exact ⟨fun hn => absurd hn (Nat.lt_irrefl _), fun a e => by cases e⟩) (HTr.out.below B3.out) (by rw [HlR.out]; omega) (by unfold maxLen; omega) HS2.out hown hgrow (by simpa using hatg))
                  clear hown hgrow hatg hltn HOWN hn3
                  go_round
                  case rel => exact ⟨k + 1, _, _, _, _, by omega, by go_num, by rw [HlR.out], rfl, HR.out⟩
                  case measure => simp only [intOf]; omega)
    · obtain rfl : k = s.size := by omega
      have hkd : decide ((s.size : Int) < (s.size : Int)) = false := by simp
      have HI := Lib.hid hI
      clear hI
      go_wp2_with fail
      exact bodyPost_ret (v := .tuple #[_, .slice A' (rdLeft cs xs s.size).length cb, .int .i64 0]) (by simp [results, Tryd.results28, go_sem]) rfl ⟨fun _ => ⟨_, _, _, _, rfl, HI.out.rg, HI.out.at_.1, HI.out.below⟩, fun h => absurd HI.out.err h⟩
end Go.Proofs.YtmmiimcodbjnmaaDoor
