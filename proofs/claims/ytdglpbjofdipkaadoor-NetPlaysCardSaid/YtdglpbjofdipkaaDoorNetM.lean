/- The law NetPlays, walked. -/
import Derived.Test.YtdglpbjofdipkaaDoorNetO
import Derived.Test.YtdglpbjofdipkaaDoorNetG
import Derived.Deep.DeepCutAuto
import Derived.Deep.CutBlock
import Derived.Deep.RegionHeld3
namespace Go.Proofs.YtdglpbjofdipkaaDoor
open Go.RowKit Go.Stop Go.Extern Go.Ranges Go.Rows2 Go.Sort Go.BigFrame
set_option linter.unusedVariables false
set_option linter.unusedSimpArgs false
set_option maxRecDepth 100000
attribute [-go_sem] loadVar storeVar
attribute [local go_sem] loadVar_one storeVar_one
theorem ld86 (w : World) (b o : Nat) (h : hasRange w b o 4 = true) : (loadVar 86 ⟨b, o, none⟩).run Tryd.prog w = .ok (.agg (rangeOf w b o 4)) w :=
  var_range 4 Tryd.underlying86 rfl (by kernel_rfl) w b o h
theorem st86n (w : World) (C C' : Array Value) (g : Nat) (hg : g = w.heap.size) (h1 : C.size = 4) (h2 : C'.size = 4) (h3 : ones C' = true) :
    (storeVar 86 ⟨g, 0, none⟩ (.agg C')).run Tryd.prog (w.alloc (.cells C 86)) = .ok () (w.alloc (.cells C' 86)) :=
  var_new 4 (by kernel_rfl) w C C' g hg h1 h2 h3
theorem ones4 (a b c : Int) (B : Option Addr) (n d : Nat) : ones #[.int .i64 a, .int .i64 b, .int .i64 c, .slice B n d] = true := by
  unfold ones
  rw [Array.all_eq_true]
  intro i hi
  have : i = 0 ∨ i = 1 ∨ i = 2 ∨ i = 3 := by simp at hi; omega
  rcases this with rfl | rfl | rfl | rfl <;> rfl
set_option maxHeartbeats 16000000 in
theorem netPlays_walk (a : Nat → Addr) (room : Int) (A : Option Addr) (n c : Nat) (kd fi ft : Nat → Int) (f : Nat → List Int) (w : World) (hP : ActsAt w A n kd fi ft f) (hn : n ≤ maxLen) (H : Errs w a) :
    Calls Tryd.prog 12 #[.int .i64 room, .slice A n c] w fun x w' => x = .returned (.bool true) ∧ Below w.heap.size w w' := by
  have KP := Lib.hid hP
  have HE := Lib.hid H
  have hn2 : (n : Int) ≤ 9223372036854775807 := by have := hn; unfold maxLen at this; omega
  clear hP H hn
  go_enter Tryd.func12, Tryd.ntmps12
  go_wp2_with fail
  refine (alive17 a w HE.out).mono ?_
  rintro e w1 ⟨rfl, hb1⟩
  have HB1 := Lib.hid hb1
  have hsz1 := hb1.size
  clear hb1
  by_cases h100 : 100 < n
  · have h100' : (100 : Int) < (n : Int) := by omega
    go_wp2_with fail
    go_ret
    exact ⟨rfl, HB1.out⟩
  have h100' : ¬ (100 : Int) < (n : Int) := by omega
  by_cases hr : room < 1 ∨ 64 < room
  · go_wp2_with fail
    refine (new_no a room w1 hr (HE.out.below HB1.out)).mono ?_
    rintro e w2 ⟨rfl, hb2⟩
    have HB2 := Lib.hid (HB1.out.trans (hb2.mono hsz1))
    have hnum := Lib.hid (num_some a 1 (by decide) (by decide) w2 (HE.out.below HB2.out))
    clear hb2
    by_cases h1 : room < 1
    · clear hr
      go_wp2_with fail
      refine hnum.out.mono ?_
      rintro e w3 ⟨rfl, hb3⟩
      go_wp2_with fail
      go_ret
      exact ⟨rfl, HB2.out.trans (hb3.mono HB2.out.size)⟩
    · have h2 : 64 < room := by omega
      clear hr
      go_wp2_with fail
      refine hnum.out.mono ?_
      rintro e w3 ⟨rfl, hb3⟩
      go_wp2_with fail
      go_ret
      exact ⟨rfl, HB2.out.trans (hb3.mono HB2.out.size)⟩
  have r1 : ¬ room < 1 := by omega
  have r2 : ¬ 64 < room := by omega
  clear hr
  go_wp2_with fail
  refine (new_ok room w1 (by omega) (by omega) (fun k => k = w1.heap.size) (fun k hk => by have hk' : k = w1.heap.size := hk; omega) rfl w.heap.size hsz1).mono ?_
  rintro e w2 ⟨rfl, hN2, hb2⟩
  have HB2 := Lib.hid (HB1.out.trans (hb2.mono hsz1))
  have HN2 := Lib.hid hN2
  clear hN2 hb2
  go_wp2_with fail
  have HS0 := Lib.hid (Both.start (p := w1.heap.size) (room := room) (by omega) (by omega) HN2.out HB2.out.size rfl)
  have HBq := Lib.hid (HB2.out.alloc HB2.out.size (.cells #[.int .i64 room, .slice none 0 0, .int .i64 0, .int .i64 0, .int .i64 0, .int .i64 0] 92))
  go_loopw [55, 5] (fun x y wr => ∃ (k p : Nat), k ≤ n ∧ x = .int .i64 k ∧ y = .pointer (some ⟨p, 0, none⟩) ∧ Below w.heap.size w wr ∧ Both wr w.heap.size p w2.heap.size room k) (fun x y wr => n - (intOf x).toNat)
  case atStart => exact ⟨0, _, Nat.zero_le _, rfl, rfl, HBq.out, HS0.out⟩
  case round =>
    obtain ⟨k, p, hk, rfl, rfl, hB, hT⟩ := hrel
    have HB := Lib.hid hB
    have HT := Lib.hid hT
    have hsz := hB.size
    clear hB hT HS0 HBq HN2 HB2 HB1 hsz1
    generalize w2.heap.size = q at *
    by_cases hlt : k < n
    · obtain ⟨b, o, rfl, hbl, hc⟩ := KP.out (by omega)
      obtain ⟨B, cc, h1, h2, h3, h4, h5, h6⟩ := hc k hlt
      have hp1 : hasRange wr b (o + k * 4) 4 = true := (range_below HB.out b (o + k * 4) 4 hbl).2.trans h1
      have hp2 : rangeOf wr b (o + k * 4) 4 = #[.int .i64 (kd k), .int .i64 (fi k), .int .i64 (ft k), .slice B (f k).length cc] := (range_below HB.out b (o + k * 4) 4 hbl).1.trans h2
      have hld := ld86 wr b (o + k * 4) hp1
      rw [hp2] at hld
      have HX := Lib.hid (And.intro h3 (And.intro h4 (And.intro h5 h6)))
      clear hc h1 h2 h3 h4 h5 h6 hp1 hp2
      have hst : (storeVar 86 ⟨wr.heap.size, 0, none⟩ (.agg #[.int .i64 (kd k), .int .i64 (fi k), .int .i64 (ft k), .slice B (f k).length cc])).run Tryd.prog (wr.alloc (.cells #[.int .i64 0, .int .i64 0, .int .i64 0, .slice none 0 0] 86)) = .ok () (wr.alloc (.cells #[.int .i64 (kd k), .int .i64 (fi k), .int .i64 (ft k), .slice B (f k).length cc] 86)) :=
        st86n wr _ _ _ rfl rfl rfl (ones4 _ _ _ _ _ _)
      by_cases h7 : 3500 < (f k).length
      · have h7' : (3500 : Int) < ((f k).length : Int) := by omega
        go_wp2_with fail
        go_ret
        exact ⟨rfl, HB.out.alloc hsz _⟩
      have h7' : ¬ (3500 : Int) < ((f k).length : Int) := by omega
      go_upto_block 2 with fail
      go_cut [5, 10, 55] from 55 to 234 (fun x5 x10 x55 wc => ∃ p', x5 = .pointer (some ⟨p', 0, none⟩) ∧ x10 = .bool true ∧ x55 = .int .i64 k ∧ Below w.heap.size w wc ∧ Both wc w.heap.size p' q room (k + 1))
      case first =>
        obtain ⟨S, v, v2, xs, xs2, hS, hr, hP⟩ := HT.out.act #[.int .i64 (kd k), .int .i64 (fi k), .int .i64 (ft k), .slice B (f k).length cc]
        have hP3 : PB w _ p q S S wr.heap.size #[.int .i64 (kd k), .int .i64 (fi k), .int .i64 (ft k), .slice B (f k).length cc] := ⟨HB.out.alloc hsz _, v, v2, xs, xs2, hP⟩
        have HP := Lib.hid hP3
        have HSk := Lib.hid hS
        have HR := Lib.hid hr
        have hk1000 : k ≤ 1000 := by omega
        clear hP hP3 hS hr hst hld HT HB
        generalize (wr.alloc (.cells #[.int .i64 (kd k), .int .i64 (fi k), .int .i64 (ft k), .slice B (f k).length cc] 86)) = w3 at *
        generalize wr.heap.size = bk at *
        generalize kd k = K at *
        generalize fi k = FI at *
        generalize ft k = FT at *
        generalize f k = T at *
        obtain ⟨e1, e2, e3⟩ := HP.out.cells
        have hK : K = 0 ∨ K = 1 ∨ K = 2 ∨ K = 3 ∨ K = 4 ∨ (¬ K = 0 ∧ ¬ K = 1 ∧ ¬ K = 2 ∧ ¬ K = 3 ∧ ¬ K = 4) := by omega
        rcases hK with rfl | rfl | rfl | rfl | rfl | hK
        · as_aux_lemma =>
            have HBB := Lib.hid (bytesAid_any B T.length cc T w3 rfl (bytesIn_below' HX.out.1 HP.out.1) (by omega))
            go_wp2_with (go_at_call 37
                         (with_reducible refine HBB.out.mono ?_)
                         rintro e w4 ⟨g, cap, rfl, hb4, ho4⟩
                         have HG := Lib.hid (HP.out.fresh hb4 (own_ge ho4 (by omega)) (own_bytes ho4))
                         have hcap := own_cap ho4
                         obtain ⟨f1, f2, f3⟩ := HG.out.pb.cells
                         clear ho4 hb4)
            go_region_law (first
              | (go_simp
                 go_at_call 46
                 refine (HG.out.drew.send a HSk.out hk1000 HE.out cap).mono ?_
                 rintro e w5 ⟨rfl, hG5⟩
                 obtain ⟨f4, f5, f6⟩ := hG5.pb.cells)
              | (go_simp
                 go_at_call 16
                 refine (hG5.num a HE.out _ (code_le S T 0 0).1).mono ?_
                 rintro e w6 ⟨rfl, hG6⟩
                 obtain ⟨f7, f8, f9⟩ := hG6.pb.cells)
              | (go_simp
                 go_at_call 56
                 refine (hG6.refSend HSk.out hk1000 B cc HX.out.1 HX.out.2.1 HX.out.2.2.1).mono ?_
                 rintro e w7 ⟨rfl, hP7, hB7⟩
                 obtain ⟨f10, f11, f12⟩ := hP7.cells)
              | (go_simp
                 go_at_call 39
                 refine (keptAid_any g T.length cap B cc T _ rfl hB7 (bytesIn_below' HX.out.1 hP7.1) hcap.1 hcap.2).mono ?_
                 rintro e w8 ⟨rfl, hb8⟩))
            all_goals
              go_wp2_with fail
              go_meet
              case rel => exact ⟨p, rfl, by simp, rfl, (hP7.below hb8).1, (hP7.below hb8).both (sendS_ok HSk.out T) ((room_same S T 0 0).1.trans HR.out)⟩
        · as_aux_lemma =>
            go_wp2_with (first
              | (go_at_call 50
                 (with_reducible refine (HP.out.take a HSk.out hk1000 HE.out FI).mono ?_)
                 rintro e w4 ⟨x, rfl, ht4, hP4⟩
                 obtain ⟨f1, f2, f3⟩ := hP4.cells
                 have HT4 := Lib.hid ht4
                 have HP4 := Lib.hid hP4
                 clear ht4 hP4)
              | (go_at_call 57
                 (with_reducible refine (HP4.out.refTake HSk.out hk1000 FI HT4.out).mono ?_)
                 rintro e w5 ⟨y, rfl, hy5, hx5, hP5⟩
                 obtain ⟨A1, c1, rfl, hB1, _⟩ := hx5
                 obtain ⟨A2, c2, rfl, hB2, _⟩ := hy5
                 have cv1 := hB1.convert (P := Tryd.prog) rfl c1 55 5 9 Tryd.underlying55 Tryd.underlying5 Tryd.underlying9
                 have cv2 := hB2.convert (P := Tryd.prog) rfl c2 55 5 9 Tryd.underlying55 Tryd.underlying5 Tryd.underlying9
                 have HP5 := Lib.hid hP5
                 clear hP5 hB1 hB2)
              | (go_at_call 16
                 (with_reducible refine (HP5.out.num a HE.out _ (code_le S [] FI 0).2.1).mono ?_)
                 rintro e w6 ⟨rfl, hP6, hb6⟩))
            go_meet
            case rel => exact ⟨p, rfl, by simp, rfl, hP6.1, hP6.both (takeS_ok HSk.out FI) ((room_same S [] FI 0).2.2.1.trans HR.out)⟩
        · as_aux_lemma =>
            go_wp2_with fail
            go_region_law (first
              | (go_simp
                 go_at_call 51
                 refine (HP.out.drew.lose a HSk.out hk1000 HE.out FI).mono ?_
                 rintro e w4 ⟨rfl, hP4⟩
                 obtain ⟨f1, f2, f3⟩ := hP4.cells)
              | (go_simp
                 go_at_call 16
                 refine (hP4.num a HE.out _ (code_le S [] FI 0).2.1).mono ?_
                 rintro e w5 ⟨rfl, hP5, hb5⟩
                 obtain ⟨f4, f5, f6⟩ := hP5.cells)
              | (go_simp
                 go_at_call 58
                 refine (hP5.refLose HSk.out hk1000 FI).mono ?_
                 rintro e w6 ⟨rfl, hP6⟩
                 obtain ⟨f7, f8, f9⟩ := hP6.cells))
            all_goals
              go_wp2_with fail
              go_meet
              case rel => exact ⟨p, rfl, by simp, rfl, hP6.1, hP6.both (loseS_ok HSk.out FI) ((room_same S [] FI 0).2.1.trans HR.out)⟩
        · as_aux_lemma =>
            go_wp2_with fail
            go_region_law (first
              | (go_simp
                 go_at_call 52
                 refine (HP.out.drew.double a HSk.out hk1000 HE.out FI).mono ?_
                 rintro e w4 ⟨rfl, hP4⟩
                 obtain ⟨f1, f2, f3⟩ := hP4.cells)
              | (go_simp
                 go_at_call 16
                 refine (hP4.num a HE.out _ (code_le S [] FI 0).2.2.1).mono ?_
                 rintro e w5 ⟨rfl, hP5, hb5⟩
                 obtain ⟨f4, f5, f6⟩ := hP5.cells)
              | (go_simp
                 go_at_call 59
                 refine (hP5.refDouble HSk.out hk1000 FI).mono ?_
                 rintro e w6 ⟨rfl, hP6⟩
                 obtain ⟨f7, f8, f9⟩ := hP6.cells))
            all_goals
              go_wp2_with fail
              go_meet
              case rel => exact ⟨p, rfl, by simp, rfl, hP6.1, hP6.both (doubleS_ok HSk.out FI) ((room_same S [] FI 0).2.2.2.1.trans HR.out)⟩
        · as_aux_lemma =>
            go_wp2_with fail
            have hP3 := HP.out
            have hP3d := HP.out.drew
            go_region_held3 (fun w' => w'.cell? ⟨bk, 1, none⟩ = some (.int .i64 FI) ∧ w'.cell? ⟨bk, 2, none⟩ = some (.int .i64 FT))
              (first
                | exact PB.cells12 (by assumption)
                | exact PB.cells12 HP.out
                | exact PB.cells12 HP.out.drew)
              (first
                | (go_at_call 48; refine (HP.out.move a HSk.out HE.out FI FT).mono ?_; rintro e w4 ⟨rfl, hP4⟩)
                | (go_at_call 48; refine (HP.out.drew.move a HSk.out HE.out FI FT).mono ?_; rintro e w4 ⟨rfl, hP4⟩)
                | (go_at_call 16; refine (hP4.num a HE.out _ (code_le S [] FI FT).2.2.2).mono ?_; rintro e w5 ⟨rfl, hP5, hb5⟩)
                | (go_at_call 60; refine (hP5.refMove HSk.out FI FT).mono ?_; rintro e w6 ⟨rfl, hP6⟩))
            all_goals
              go_wp2_with fail
              go_meet
              case rel => exact ⟨p, rfl, by simp, rfl, hP6.1, hP6.both (moveS_ok HSk.out FI FT) ((room_same S [] FI FT).2.2.2.2.trans HR.out)⟩
        · as_aux_lemma =>
            obtain ⟨hb3, v, v2, xs, xs2, hP⟩ := HP.out
            have HQ := Lib.hid hP
            have HB3 := Lib.hid hb3
            have hsz3 := hb3.size
            have HCP := Lib.hid (copy_ok (Y := fun k => k = q ∨ writes p v k) hP.net HSk.out hsz3 (fun k hk => by
              rcases hk with hk | hk
              · rw [hk]; exact hP.ref.qlt
              · exact writes_lt hP.net k hk))
            clear hP hb3
            obtain ⟨hK0, hK1, hK2, hK3, hK4⟩ := hK
            go_wp2_with (first
              | (go_at_call 61
                 (with_reducible refine HCP.out.mono ?_)
                 rintro e w4 ⟨p', v', xs', rfl, hp', hN4, ho4, hb4⟩
                 have HN4 := Lib.hid (And.intro hN4 ho4)
                 have HB4 := Lib.hid hb4
                 have HQ4 := Lib.hid (HQ.out.below hb4)
                 have HW4 := Lib.hid (HB3.out.trans (hb4.mono hsz3))
                 clear hN4 ho4 hb4)
              | (go_at_call 51
                 (with_reducible refine (lose_all a HQ4.out.net HSk.out hk1000 (HE.out.below HW4.out) 0).mono ?_)
                 rintro e w5 ⟨v3, xs3, rfl, hN5, hr5, hC5⟩
                 have HN5 := Lib.hid hN5
                 have HC5 := Lib.hid (And.intro hr5 hC5)
                 have hkc := kconst w5 w5.heap.size rfl #[.int .u8 111, .int .u8 108, .int .u8 100] 3 3
                 have HW5 := Lib.hid (HW4.out.trans (hC5.below HW4.out.size (writes_ge HQ4.out.net)))
                 clear hN5 hr5 hC5)
              | (go_at_call 46
                 (with_reducible refine (send_old a HN5.out (loseS_ok HSk.out 0) (by omega) HE.out HW5.out HW5.out.size _ _).mono ?_)
                 rintro e w6 ⟨⟨r6, rfl⟩, hC6⟩))
            go_meet
            case rel =>
              have hC := chg_two HC5.out.2 HC5.out.1 hC6
              exact ⟨p', rfl, by simp, rfl, HW4.out.trans (hC.below HW4.out.size (writes_ge HQ4.out.net)), HQ.out.copied HSk.out HR.out HN4.out.1 hp' HN4.out.2 HB4.out hC⟩
      case rest =>
        as_aux_lemma =>
          obtain ⟨p', rfl, rfl, rfl, hB, hT⟩ := hcut
          obtain ⟨S, v, xs, A2, c2, xs2, hN, hR, hS, hr⟩ := hT.opened
          have hl0 : (S.L.length : Int) ≤ room := by have := hS.len; omega
          have hl1 : S.L.length ≤ 1000 := by omega
          have hwr : IntKind.i64.wrap (room - (S.L.length : Int)) = room - (S.L.length : Int) := by rw [IntKind.wrap_i64]; omega
          have HTT := Lib.hid hT
          have HNN := Lib.hid hN
          have HRR := Lib.hid hR
          have HSS := Lib.hid hS
          have HR' := Lib.hid hr
          have HBC := Lib.hid hB
          have hszc := hB.size
          clear hT hN hR hS hr hB
          go_wp2_with (first
            | (go_at_call 53
               (with_reducible refine (counts_any HNN.out).mono ?_)
               rintro e w4 ⟨rfl, m4, h4⟩
               have hb4 : Below wc.heap.size wc w4 := h4 ▸ below_drewN _ _
               have HB4 := Lib.hid hb4
               clear h4 hb4))
          have HN4 := Lib.hid (HNN.out.below HB4.out)
          have HR4 := Lib.hid (HRR.out.below HB4.out)
          have HL4 := Lib.hid (fun t (ht : t ∈ S.L) => Nat.le_trans (HSS.out.short t ht) (show 3100 ≤ 100000 by decide))
          have hro := HR'.out
          have HRm := Lib.hid (show ∀ W : World, Below w4.heap.size w4 W → Calls Tryd.prog 55 #[.pointer (some ⟨p', 0, none⟩)] W (fun e w' => e = .returned (.int .i64 (room - (S.L.length : Int))) ∧ Below W.heap.size W w') from fun W hW =>
            (room_any (HN4.out.below hW) (by omega) (by omega) hl1).mono (fun e w' ⟨h1, m, h2⟩ => ⟨by rw [h1, hro], h2 ▸ below_drewN _ _⟩))
          clear hro
          dsimp only [List.append]
          go_region_held3 (fun w' => w'.cell? ⟨q, 1, none⟩ = some (.slice A2 S.L.length c2) ∧ w'.cell? ⟨q, 2, none⟩ = some (.int .i64 S.s) ∧ w'.cell? ⟨q, 3, none⟩ = some (.int .i64 S.t) ∧ w'.cell? ⟨q, 4, none⟩ = some (.int .i64 S.l) ∧ w'.cell? ⟨q, 5, none⟩ = some (.int .i64 S.d) ∧ Below w4.heap.size w4 w')
            (first
              | exact refS HR4.out (Below.refl _ _)
              | exact refS HR4.out (Below.refl _ _).drew
              | exact refS HR4.out (below_step (And.right (And.right (And.right (And.right (And.right (by assumption)))))) (by assumption))
              | assumption)
            (first
              | (go_at_call 47; refine (all_any (HN4.out.below (And.right (And.right (And.right (And.right (And.right (by assumption))))))) hl1 HL4.out).mono ?_; rintro e w5 ⟨vl, rfl, hl5, hb5⟩)
              | (go_at_call 49; refine (sameLists_same hl5 (HR4.out.below (And.right (And.right (And.right (And.right (And.right (by assumption))))))).list).mono ?_; rintro e w6 ⟨rfl, hb6⟩)
              | (go_at_call 54; refine (len_any (HN4.out.below (And.right (And.right (And.right (And.right (And.right (by assumption)))))))).mono ?_; rintro e w' ⟨rfl, rfl⟩)
              | (go_at_call 55; refine (HRm.out _ (And.right (And.right (And.right (And.right (And.right (by assumption))))))).mono ?_; rintro e w7 ⟨rfl, hb7⟩))
          all_goals
            have hB7 := HB4.out.trans (Below.mono (And.right (And.right (And.right (And.right (And.right (by assumption)))))) HB4.out.size)
            go_wp2_with fail
            go_round
            case rel => exact ⟨k + 1, p', by omega, by go_num, rfl, HBC.out.trans (hB7.mono hszc), HTT.out.below hB7⟩
            case measure => simp only [intOf]; omega
    · obtain rfl : k = n := by omega
      go_wp2_with fail
      go_ret
      exact ⟨rfl, HB.out⟩
end Go.Proofs.YtdglpbjofdipkaaDoor
