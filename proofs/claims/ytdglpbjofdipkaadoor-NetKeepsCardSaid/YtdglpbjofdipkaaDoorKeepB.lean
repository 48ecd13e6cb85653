/- The law NetKeeps, walked. -/
import Derived.Test.YtdglpbjofdipkaaDoorKeepA
import Derived.Deep.DeepCutAuto
import Derived.Deep.CutBlock
import Derived.Deep.RegionHeld3
namespace Go.Proofs.YtdglpbjofdipkaaDoor
open Go.RowKit Go.Stop Go.Extern Go.Ranges Go.Rows2 Go.Sort Go.BigFrame
set_option linter.unusedVariables false
set_option linter.unusedSimpArgs false
set_option maxRecDepth 100000
attribute [-go_sem] loadVar storeVar
attribute [local go_sem] loadVar_one storeVar_one
theorem kld86 (w : World) (b o : Nat) (h : hasRange w b o 4 = true) : (loadVar 86 ⟨b, o, none⟩).run Tryd.prog w = .ok (.agg (rangeOf w b o 4)) w :=
  var_range 4 Tryd.underlying86 rfl (by kernel_rfl) w b o h
theorem kst86n (w : World) (C C' : Array Value) (g : Nat) (hg : g = w.heap.size) (h1 : C.size = 4) (h2 : C'.size = 4) (h3 : ones C' = true) :
    (storeVar 86 ⟨g, 0, none⟩ (.agg C')).run Tryd.prog (w.alloc (.cells C 86)) = .ok () (w.alloc (.cells C' 86)) :=
  var_new 4 (by kernel_rfl) w C C' g hg h1 h2 h3
theorem kones4 (a b c : Int) (B : Option Addr) (n d : Nat) : ones #[.int .i64 a, .int .i64 b, .int .i64 c, .slice B n d] = true := by
  unfold ones
  rw [Array.all_eq_true]
  intro i hi
  have : i = 0 ∨ i = 1 ∨ i = 2 ∨ i = 3 := by simp at hi; omega
  rcases this with rfl | rfl | rfl | rfl <;> rfl
theorem takeT_len {S : NS} {k : Nat} (h : S.ok k) (i : Int) : (takeT S i).length ≤ maxLen := by
  unfold takeT maxLen
  split
  · rename_i hi
    have := h.short _ (has_mem hi)
    omega
  · simp
theorem room_of (room : Int) : ∃ r : Int, wrap64 (1 + wrap64 ((IntKind.u64.wrap room).tmod 64)) = r ∧ 1 ≤ r ∧ r ≤ 64 := by
  have h0 : 0 ≤ IntKind.u64.wrap room := by rw [IntKind.wrap_u64]; omega
  have h1 : 0 ≤ (IntKind.u64.wrap room).tmod 64 ∧ (IntKind.u64.wrap room).tmod 64 < 64 := ⟨Int.tmod_nonneg 64 h0, Int.tmod_lt_of_pos _ (by decide)⟩
  refine ⟨_, rfl, ?_⟩
  generalize (IntKind.u64.wrap room).tmod 64 = t at *
  have e1 : wrap64 t = t := by unfold wrap64; omega
  rw [e1]
  have e2 : wrap64 (1 + t) = 1 + t := by unfold wrap64; omega
  rw [e2]
  omega
set_option maxHeartbeats 16000000 in
theorem netKeeps_walk (a : Nat → Addr) (room : Int) (A : Option Addr) (n c : Nat) (kd fi ft : Nat → Int) (f : Nat → List Int) (w : World) (hP : ActsAt w A n kd fi ft f) (hn : n ≤ maxLen) (H : Errs w a) :
    Calls Tryd.prog 11 #[.int .i64 room, .slice A n c] w fun x w' => x = .returned (.bool true) ∧ Below w.heap.size w w' := by
  have KP := Lib.hid hP
  have HE := Lib.hid H
  have hn2 : (n : Int) ≤ 9223372036854775807 := by have := hn; unfold maxLen at this; omega
  have hmm := @run_makeMap Tryd.prog
  clear hP H hn
  go_enter Tryd.func11, Tryd.ntmps11
  go_wp2_with fail
  refine (alive17 a w HE.out).mono ?_
  rintro e w1 ⟨rfl, hb1⟩
  have HB1 := Lib.hid hb1
  have hsz1 := hb1.size
  clear hb1
  by_cases h100 : 100 < n
  · have h100' : (100 : Int) < (n : Int) := by omega
    go_wp2_with fail
    go_ret
    exact ⟨rfl, HB1.out⟩
  have h100' : ¬ (100 : Int) < (n : Int) := by omega
  obtain ⟨r, hr, r1, r2⟩ := room_of room
  have hr' := Lib.hid hr
  clear hr
  go_wp2_with fail
  rw [hr'.out]
  refine (new_ok r w1 r1 r2 (fun k => k = w1.heap.size) (fun k hk => by have hk' : k = w1.heap.size := hk; omega) rfl w.heap.size hsz1).mono ?_
  rintro e w2 ⟨rfl, hN2, hb2⟩
  have HB2 := Lib.hid (HB1.out.trans (hb2.mono hsz1))
  have HK0 := Lib.hid (Keeps.start (p := w1.heap.size) r1 r2 hN2 HB2.out)
  clear hN2 hb2
  go_wp2_with fail
  go_loopw [37] (fun x wr => ∃ (k : Nat), k ≤ n ∧ x = .int .i64 k ∧ Keeps w wr w1.heap.size w2.heap.size k) (fun x wr => n - (intOf x).toNat)
  case atStart => exact ⟨0, Nat.zero_le _, rfl, HK0.out⟩
  case round =>
    obtain ⟨k, hk, rfl, hT⟩ := hrel
    have HT := Lib.hid hT
    have HB := Lib.hid hT.1
    have hsz := hT.1.size
    clear hT HK0 HB2 HB1 hsz1
    generalize w1.heap.size = p at *
    generalize w2.heap.size = q at *
    by_cases hlt : k < n
    · obtain ⟨b, o, rfl, hbl, hc⟩ := KP.out (by omega)
      obtain ⟨B, cc, h1, h2, h3, h4, h5, h6⟩ := hc k hlt
      have hp1 : hasRange wr b (o + k * 4) 4 = true := (range_below HB.out b (o + k * 4) 4 hbl).2.trans h1
      have hp2 : rangeOf wr b (o + k * 4) 4 = #[.int .i64 (kd k), .int .i64 (fi k), .int .i64 (ft k), .slice B (f k).length cc] := (range_below HB.out b (o + k * 4) 4 hbl).1.trans h2
      have hld := kld86 wr b (o + k * 4) hp1
      rw [hp2] at hld
      have HX := Lib.hid (And.intro h3 (And.intro h4 (And.intro h5 h6)))
      clear hc h1 h2 h3 h4 h5 h6 hp1 hp2
      have hst : (storeVar 86 ⟨wr.heap.size, 0, none⟩ (.agg #[.int .i64 (kd k), .int .i64 (fi k), .int .i64 (ft k), .slice B (f k).length cc])).run Tryd.prog (wr.alloc (.cells #[.int .i64 0, .int .i64 0, .int .i64 0, .slice none 0 0] 86)) = .ok () (wr.alloc (.cells #[.int .i64 (kd k), .int .i64 (fi k), .int .i64 (ft k), .slice B (f k).length cc] 86)) :=
        kst86n wr _ _ _ rfl rfl rfl (kones4 _ _ _ _ _ _)
      by_cases h7 : 3500 < (f k).length
      · have h7' : (3500 : Int) < ((f k).length : Int) := by omega
        go_wp2_with fail
        go_ret
        exact ⟨rfl, HB.out.alloc hsz _⟩
      have h7' : ¬ (3500 : Int) < ((f k).length : Int) := by omega
      go_upto_block 2 with fail
      go_cut [10, 11] from 45 to 129 (fun x10 x11 wc => Keeps w wc p q (k + 1))
      case first =>
        obtain ⟨S, D, m, hm, hS, he, hQ, hP⟩ := HT.out.act #[.int .i64 (kd k), .int .i64 (fi k), .int .i64 (ft k), .slice B (f k).length cc]
        have HP := Lib.hid hP
        have HS := Lib.hid hS
        have HEv := Lib.hid he
        have HQ := Lib.hid hQ
        have hk1000 : k ≤ 1000 := by omega
        clear hP hS he hQ hst hld HT HB
        generalize (wr.alloc (.cells #[.int .i64 (kd k), .int .i64 (fi k), .int .i64 (ft k), .slice B (f k).length cc] 86)) = w3 at *
        generalize wr.heap.size = bk at *
        generalize kd k = K at *
        generalize fi k = FI at *
        generalize ft k = FT at *
        generalize f k = T at *
        obtain ⟨e1, e2, e3⟩ := HP.out.cells
        have hK : K = 0 ∨ K = 1 ∨ K = 2 ∨ K = 3 ∨ (¬ K = 0 ∧ ¬ K = 1 ∧ ¬ K = 2 ∧ ¬ K = 3) := by omega
        rcases hK with rfl | rfl | rfl | rfl | hK
        · have hsd := HP.out.send a HS.out hk1000 HE.out B cc T HX.out.1
          have hq := (texts_all (Q := HasT D) HQ.out T 0 0)
          by_cases h0 : sendC S T = 0
          · rw [show errV a (sendC S T) = .nilIface from by rw [h0]; rfl] at hsd
            have HSd := Lib.hid hsd
            have Hq := Lib.hid hq.2.1
            have hTl : T.length ≤ maxLen := by unfold maxLen; omega
            have hm1 : m < maxLen := by unfold maxLen; omega
            have Hk := Lib.hid (keyT_of T hTl)
            clear hsd hq h0 hTl
            go_wp2_with (first
              | (go_at_call 46
                 (with_reducible refine HSd.out.mono ?_)
                 rintro e w4 ⟨rfl, hP4⟩
                 obtain ⟨f1, f2, f3⟩ := hP4.cells
                 have cv := (bytesIn_below' HX.out.1 hP4.1).convert (P := Tryd.prog) rfl cc 55 5 9 Tryd.underlying55 Tryd.underlying5 Tryd.underlying9
                 have HP4 := Lib.hid hP4
                 clear hP4)
              | (at_mapUpdate
                 go_loud (refine wpList_mapUpdate_own _ rfl _ _ _ 84 rfl 9 4 keyed_s Tryd.underlying84 (plainElem Tryd.prog 4) q m D rfl HP4.out.map.own hm1 (.string (strOfNums T)) (.bool true) (keyT T) rfl rfl Hk.out (.lit (.bool true)) [] (plainElem_bool Tryd.underlying4 true) ?_)
                 intro w5 ho5 hg5))
            go_meet
            case rel =>
              refine (HP4.out.put ho5 (HP4.out.map.is.put _ _) hg5).keeps (by omega) (sendS_ok HS.out T) (even_all HEv.out T 0 0).1 (fun u hu => ?_)
              rcases Hq.out u hu with h | h
              · exact HasT.put HP4.out.map.is T u h
              · subst h; exact HasT.put_same HP4.out.map.is u
          · rw [errV_pos a _ h0] at hsd
            have HSd := Lib.hid hsd
            have Hq := Lib.hid (hq.1 h0)
            clear hsd hq h0
            go_wp2_with (first
              | (go_at_call 46
                 (with_reducible refine HSd.out.mono ?_)
                 rintro e w4 ⟨rfl, hP4⟩
                 have HP4 := Lib.hid hP4
                 clear hP4))
            go_meet
            case rel => exact HP4.out.keeps (by omega) (sendS_ok HS.out T) (even_all HEv.out T 0 0).1 Hq.out
        · have htk := HP.out.take a HS.out hk1000 HE.out FI
          have hq := (texts_all (Q := HasT D) HQ.out [] FI 0)
          by_cases h0 : takeC S FI = 0
          · rw [show errV a (takeC S FI) = .nilIface from by rw [h0]; rfl] at htk
            have HTk := Lib.hid htk
            have hTl : (takeT S FI).length ≤ maxLen := takeT_len HS.out FI
            have HL := Lib.hid (And.intro hTl (hq.2.2.2.2.2.2 h0))
            have Hq := Lib.hid hq.2.2.2.1
            clear htk hq h0 hTl
            go_wp2_with (first
              | (go_at_call 50
                 (with_reducible refine HTk.out.mono ?_)
                 rintro e w4 ⟨x, rfl, ht4, hP4⟩
                 obtain ⟨A1, c1, rfl, hB1, _⟩ := ht4
                 have cv := hB1.convert (P := Tryd.prog) rfl c1 55 5 9 Tryd.underlying55 Tryd.underlying5 Tryd.underlying9
                 have lk := hP4.map.look HL.out.1 HL.out.2
                 have HP4 := Lib.hid hP4
                 clear hP4 hB1))
            go_meet
            case rel => exact HP4.out.keeps (by omega) (takeS_ok HS.out FI) (even_all HEv.out [] FI 0).2.2.1 Hq.out
          · rw [errV_pos a _ h0] at htk
            have HTk := Lib.hid htk
            have Hq := Lib.hid hq.2.2.2.1
            clear htk hq h0
            go_wp2_with (first
              | (go_at_call 50
                 (with_reducible refine HTk.out.mono ?_)
                 rintro e w4 ⟨x, rfl, ht4, hP4⟩
                 have HP4 := Lib.hid hP4
                 clear hP4 ht4))
            go_meet
            case rel => exact HP4.out.keeps (by omega) (takeS_ok HS.out FI) (even_all HEv.out [] FI 0).2.2.1 Hq.out
        · have hq := Lib.hid (texts_all (Q := HasT D) HQ.out [] FI FT).2.2.1
          go_wp2_with (first
            | (go_at_call 51
               (with_reducible refine (HP.out.lose a HS.out hk1000 HE.out FI).mono ?_)
               rintro e w4 ⟨rfl, hP4⟩
               have HP4 := Lib.hid hP4
               clear hP4))
          go_meet
          case rel => exact HP4.out.keeps (by omega) (loseS_ok HS.out FI) (even_all HEv.out [] FI FT).2.1 hq.out
        · have hq := Lib.hid (texts_all (Q := HasT D) HQ.out [] FI FT).2.2.2.2.1
          go_wp2_with (first
            | (go_at_call 52
               (with_reducible refine (HP.out.double a HS.out hk1000 HE.out FI).mono ?_)
               rintro e w4 ⟨rfl, hP4⟩
               have HP4 := Lib.hid hP4
               clear hP4))
          go_meet
          case rel => exact HP4.out.keeps (by omega) (doubleS_ok HS.out FI) (even_all HEv.out [] FI FT).2.2.2.1 hq.out
        · obtain ⟨hK0, hK1, hK2, hK3⟩ := hK
          have hq := Lib.hid (texts_all (Q := HasT D) HQ.out [] FI FT).2.2.2.2.2.1
          go_wp2_with (first
            | (go_at_call 48
               (with_reducible refine (HP.out.move a HS.out HE.out FI FT).mono ?_)
               rintro e w4 ⟨rfl, hP4⟩
               have HP4 := Lib.hid hP4
               clear hP4))
          go_meet
          case rel => exact HP4.out.keeps (by omega) (moveS_ok HS.out FI FT) (even_all HEv.out [] FI FT).2.2.2.2 hq.out
      case rest =>
        obtain ⟨hb0, S, v, xs, D, m, hN, hM, hq1, hq2, hm, hS, he, hQ⟩ := hcut
        have hl0 : (S.L.length : Int) ≤ S.room := hS.len
        have hl1 : S.L.length ≤ 1000 := by have := hS.room; omega
        have hr0 := hS.room0
        have hr64 := hS.room
        have s1 := hS.s
        have s2 := hS.t
        have s3 := hS.l
        have s4 := hS.d
        have q1 : ((S.L.length : Int) + S.t + S.l != S.s + S.d) = false := by rw [bne_eq_false_iff_eq]; exact he
        have q2 : ¬ (S.room - (S.L.length : Int) < 0) := by omega
        have HNN := Lib.hid hN
        have HMM := Lib.hid hM
        have HSS := Lib.hid (And.intro hq1 (And.intro hq2 (And.intro hm (And.intro hS (And.intro he hQ)))))
        have HBC := Lib.hid hb0
        have hszc := hb0.size
        clear hN hM hq1 hq2 hm hS he hQ hb0
        go_wp2_with (first
          | (go_at_call 53
             (with_reducible refine (counts_any HNN.out).mono ?_)
             rintro e w4 ⟨rfl, m4, h4⟩
             have hb4 : Below wc.heap.size wc w4 := h4 ▸ below_drewN _ _
             have HB4 := Lib.hid hb4
             clear h4 hb4)
          | (go_at_call 54
             (with_reducible refine (len_any (HNN.out.below HB4.out)).mono ?_)
             rintro e w' ⟨rfl, rfl⟩)
          | (go_at_call 55
             (with_reducible refine (room_any (HNN.out.below HB4.out) (by omega) (by omega) hl1).mono ?_)
             rintro e w5 ⟨rfl, m5, h5⟩
             have hb5 : Below w4.heap.size w4 w5 := h5 ▸ below_drewN _ _
             have HB5 := Lib.hid (HB4.out.trans (hb5.mono HB4.out.size))
             clear h5 hb5)
          | (go_at_call 47
             (with_reducible refine (all_any (HNN.out.below HB5.out) hl1 (fun t ht => Nat.le_trans (HSS.out.2.2.2.1.short t ht) (show 3100 ≤ 100000 by decide))).mono ?_)
             rintro e w6 ⟨v6, rfl, hl6, hb6⟩
             obtain ⟨A6, c6, hv6, d1, d2, r6⟩ := hl6.opened rfl
             subst hv6
             have HB6 := Lib.hid (HB5.out.trans (hb6.mono HB5.out.size))
             have HL6 := Lib.hid hl6
             clear hl6 hb6 r6))
        have hNl : (S.L.length : Int) ≤ 9223372036854775807 := by omega
        go_loopw [119] (fun x wr => ∃ (j : Nat), j ≤ S.L.length ∧ x = .int .i64 j ∧ Below w6.heap.size w6 wr) (fun x wr => S.L.length - (intOf x).toNat)
        case atStart => exact ⟨0, Nat.zero_le _, rfl, Below.refl _ _⟩
        case round =>
          obtain ⟨j, hj, rfl, hbj⟩ := hrel
          have HBj := Lib.hid hbj
          have HBw := Lib.hid (HB6.out.trans (hbj.mono HB6.out.size))
          clear hbj
          by_cases hjl : j < S.L.length
          · obtain ⟨A7, c7, hv7, _, _, r7⟩ := (HL6.out.below HBj.out).opened rfl
            obtain ⟨b7, o7, hA7, hx7⟩ := r7 (by omega)
            obtain ⟨B7, d7, x7, y7⟩ := hx7 j hjl
            injection hv7 with hv7
            rw [hA7] at hv7
            subst hv7
            have hmem : S.L.getD j [] ∈ S.L := by
              rw [List.getD_eq_getElem?_getD, List.getElem?_eq_getElem hjl]
              exact List.getElem_mem _
            have hlen := HSS.out.2.2.2.1.short _ hmem
            have lk := (HMM.out.below HBw.out).look (t := S.L.getD j []) (by unfold maxLen; omega) (HSS.out.2.2.2.2.2 _ hmem)
            generalize S.L.getD j [] = t at *
            have cv := y7.convert (P := Tryd.prog) rfl d7 55 5 9 Tryd.underlying55 Tryd.underlying5 Tryd.underlying9
            clear y7 hx7 r7 hA7 hmem hlen
            go_wp2_with fail
            go_round
            case rel => exact ⟨j + 1, by omega, by go_num, HBj.out⟩
            case measure => simp only [intOf]; omega
          · obtain rfl : j = S.L.length := by omega
            go_wp2_with fail
            go_round
            case rel => exact ⟨k + 1, by omega, by go_num, (show Keeps w wc p q (k + 1) from ⟨HBC.out, S, v, xs, D, m, HNN.out, HMM.out, HSS.out⟩).below HBw.out⟩
            case measure => simp only [intOf]; omega
    · obtain rfl : k = n := by omega
      go_wp2_with fail
      go_ret
      exact ⟨rfl, HB.out⟩
end Go.Proofs.YtdglpbjofdipkaaDoor
