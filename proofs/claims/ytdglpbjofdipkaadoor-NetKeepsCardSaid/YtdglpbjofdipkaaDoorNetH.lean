/- The law NetMoves, walked. -/
import Derived.Test.YtdglpbjofdipkaaDoorNetG
import Derived.StillTailTactics
namespace Go.Proofs.YtdglpbjofdipkaaDoor
open Go.RowKit Go.Stop Go.Extern Go.Ranges Go.Rows2 Go.Sort Go.BigFrame
set_option linter.unusedVariables false
set_option linter.unusedSimpArgs false
theorem moved_at {L : List (List Int)} {i tt : Nat} (hi : i < L.length) (ht : tt < L.length) : (moved L i tt).getD tt [] = L.getD i [] := by
  have hl : (L.eraseIdx i).length = L.length - 1 := by rw [List.length_eraseIdx, if_pos hi]
  have l2 : ((L.eraseIdx i).take tt).length = tt := by rw [List.length_take]; omega
  unfold moved
  rw [List.getD_eq_getElem?_getD, List.getElem?_append_right (by omega), l2, Nat.sub_self]
  rfl
theorem moved_erase {L : List (List Int)} {i tt : Nat} (hi : i < L.length) (ht : tt < L.length) : (moved L i tt).eraseIdx tt = L.eraseIdx i := by
  have hl : (L.eraseIdx i).length = L.length - 1 := by rw [List.length_eraseIdx, if_pos hi]
  have l2 : ((L.eraseIdx i).take tt).length = tt := by rw [List.length_take]; omega
  unfold moved
  rw [List.eraseIdx_append_of_length_le (by omega), l2, Nat.sub_self, List.eraseIdx_cons_zero, List.take_append_drop]
theorem moved_back {L : List (List Int)} {i tt : Nat} (hi : i < L.length) (ht : tt < L.length) : moved (moved L i tt) tt i = L := by
  have e : moved (moved L i tt) tt i = (L.eraseIdx i).take i ++ L.getD i [] :: (L.eraseIdx i).drop i := by
    show ((moved L i tt).eraseIdx tt).take i ++ (moved L i tt).getD tt [] :: ((moved L i tt).eraseIdx tt).drop i = _
    rw [moved_erase hi ht, moved_at hi ht]
  rw [e, List.eraseIdx_eq_take_drop_succ]
  have l2 : (L.take i).length = i := by rw [List.length_take]; omega
  rw [List.take_append_of_le_length (by omega), List.take_of_length_le (by omega), List.drop_append_of_le_length (by omega), List.drop_of_length_le (by omega), List.nil_append, List.getD_eq_getElem?_getD, List.getElem?_eq_getElem hi]
  simp
/-- The first so many of the parts that came in. -/
def firstP (f : Nat → List Int) (k : Nat) : List (List Int) := (List.range k).map f
theorem firstP_len (f : Nat → List Int) (k : Nat) : (firstP f k).length = k := by simp [firstP]
theorem firstP_succ (f : Nat → List Int) (k : Nat) : firstP f (k + 1) = firstP f k ++ [f k] := by simp [firstP, List.range_succ]
theorem firstP_mem {f : Nat → List Int} {k m : Nat} (h : ∀ j, j < k → (f j).length ≤ m) : ∀ t ∈ firstP f k, t.length ≤ m := fun t ht => by
  obtain ⟨j, hj, rfl⟩ := List.mem_map.1 ht
  exact h j (List.mem_range.1 hj)
theorem writes_ge {w : World} {base p : Nat} {X : Nat → Prop} {S : NS} {v : Value} {xs : List Value} (h : NetV w base p X S v xs) : ∀ k, writes p v k → base ≤ k := fun k hk => by
  rcases hk with rfl | hk
  · exact h.hp
  · rcases h.own.2 with ⟨hv, _⟩ | ⟨g, _, _, hv, hg, _⟩
    · rw [hv] at hk; cases hk
    · rw [hv] at hk; injection hk with hk
      have e : k = g := hk
      omega
theorem writes_lt {w : World} {base p : Nat} {X : Nat → Prop} {S : NS} {v : Value} {xs : List Value} (h : NetV w base p X S v xs) : ∀ k, writes p v k → k < w.heap.size := fun k hk => by
  rcases hk with rfl | hk
  · exact h.plt
  · rcases h.own.2 with ⟨hv, _⟩ | ⟨g, _, _, hv, _, hh, _⟩
    · rw [hv] at hk; cases hk
    · rw [hv] at hk; injection hk with hk
      have e : k = g := hk
      rw [e]; exact (Array.getElem?_eq_some_iff.1 hh).1
theorem ListIs.opened {w : World} {P : Nat → Prop} {v : Value} {L : List (List Int)} (h : ListIs w P v L) {N : Nat} (hN : L.length = N) :
    ∃ A c, v = .slice A N c ∧ N ≤ c ∧ c ≤ maxLen ∧ (0 < N → ∃ b o, A = some ⟨b, o, none⟩ ∧ ∀ i, i < N → ∃ B d, w.cell? ⟨b, o + i, none⟩ = some (.slice B (L.getD i []).length d) ∧ Lib.BytesIn w B (L.getD i []).length (L.getD i [])) := by
  subst hN
  obtain ⟨A, c, rfl, h1, h2, h3⟩ := h
  refine ⟨A, c, rfl, h1, h2, fun hn => ?_⟩
  obtain ⟨b, o, rfl, _, _, hx⟩ := h3 hn
  refine ⟨b, o, rfl, fun i hi => ?_⟩
  obtain ⟨x, e, B, d, rfl, hB, _⟩ := hx i hi
  exact ⟨B, d, e, hB⟩
set_option maxRecDepth 100000 in
set_option maxHeartbeats 8000000 in
theorem netMoves_walk (a : Nat → Addr) (A : Option Addr) (n c : Nat) (f : Nat → List Int) (i to' : Int) (w : World) (hP : PartsAt w A n f) (hn : n ≤ maxLen) (H : Errs w a) :
    Calls Tryd.prog 10 #[.slice A n c, .int .i64 i, .int .i64 to'] w fun x w' => x = .returned (.bool true) ∧ Below w.heap.size w w' := by
  have KP := Lib.hid hP
  have HE := Lib.hid H
  have hn2 : (n : Int) ≤ 9223372036854775807 := by have := hn; unfold maxLen at this; omega
  clear hP H hn
  go_enter Tryd.func10, Tryd.ntmps10
  go_wp2_with fail
  refine (alive17 a w HE.out).mono ?_
  rintro e w1 ⟨rfl, hb1⟩
  have HB1 := Lib.hid hb1
  have hsz1 := hb1.size
  clear hb1
  by_cases h40 : 40 < n
  · have h40' : (40 : Int) < (n : Int) := by omega
    go_wp2_with fail
    go_ret
    exact ⟨rfl, HB1.out⟩
  have h40' : ¬ (40 : Int) < (n : Int) := by omega
  go_wp2_with fail
  refine (new_ok 40 w1 (by decide) (by decide) (fun k => k = w1.heap.size) (fun k hk => by have hk' : k = w1.heap.size := hk; omega) rfl w.heap.size hsz1).mono ?_
  rintro e w2 ⟨rfl, hN2, hb2⟩
  have HB2 := Lib.hid (HB1.out.trans (hb2.mono hsz1))
  have HN2 := Lib.hid hN2
  clear hN2 hb2
  go_wp2_with fail
  go_loopw [26] (fun x wr => ∃ (k : Nat) (v : Value) (xs : List Value), k ≤ n ∧ x = .int .i64 k ∧ Below w.heap.size w wr ∧ NetV wr w.heap.size w1.heap.size (fun k => k = w1.heap.size) ⟨40, k, 0, 0, 0, firstP f k⟩ v xs ∧ ∀ j, j < k → (f j).length ≤ 3000) (fun x _ => n - (intOf x).toNat)
  case atStart => exact ⟨0, _, _, Nat.zero_le _, rfl, HB2.out, HN2.out, fun j hj => absurd hj (by omega)⟩
  case round =>
    obtain ⟨k, v, xs, hk, rfl, hB, hN, hl⟩ := hrel
    have HB := Lib.hid hB
    have HN := Lib.hid hN
    have HL := Lib.hid hl
    have hsz := hB.size
    clear hB hN hl
    by_cases hlt : k < n
    · obtain ⟨b, o, rfl, hbl, hc⟩ := KP.out (by omega)
      obtain ⟨B, cc, h1, h2⟩ := hc k hlt
      clear hc
      have h1' : wr.cell? ⟨b, o + k, none⟩ = some (.slice B (f k).length cc) := (HB.out.cell (p := ⟨b, o + k, none⟩) hbl).trans h1
      by_cases h3 : 3000 < (f k).length
      · have h3' : (3000 : Int) < ((f k).length : Int) := by omega
        clear h1 h2
        go_wp2_with fail
        go_ret
        exact ⟨rfl, HB.out⟩
      · have h3' : ¬ (3000 : Int) < ((f k).length : Int) := by omega
        have hsd := send_ok HN.out B (f k).length cc (f k) rfl (bytesIn_below' h2 HB.out) (fun e => by
          rcases Nat.eq_zero_or_pos (f k).length with h0 | h0
          · exact h0
          · obtain ⟨_, _, he, _⟩ := h2 h0
            rw [e] at he; cases he) (by omega) (by show (0 : Int) ≤ 40; decide) (by show (40 : Int) ≤ 64; decide) (by show ((firstP f k).length : Int) < 40; rw [firstP_len]; omega) (by show (0 : Int) ≤ (k : Int); omega) (by show (k : Int) < 1000000; omega) hsz
        have HS := Lib.hid hsd
        clear hsd h1 h2
        go_wp2_with (go_at_call 46
                     (with_reducible refine HS.out.mono ?_)
                     rintro e w3 ⟨v', xs', rfl, hN3, _, hC3⟩)
        have hB3 : Below w.heap.size w w3 := HB.out.trans (hC3.below hsz (writes_ge HN.out))
        go_round
        case rel =>
          refine ⟨k + 1, v', xs', by omega, by go_num, hB3, ?_, fun j hj => ?_⟩
          · rw [firstP_succ]
            have e : ((k + 1 : Nat) : Int) = (k : Int) + 1 := by omega
            rw [e]
            exact hN3
          · by_cases e : j = k
            · subst e; omega
            · exact HL.out j (by omega)
        case measure => simp only [intOf]; omega
    · obtain rfl : k = n := by omega
      have hall := all_any HN.out (by show (firstP f k).length ≤ 1000; rw [firstP_len]; omega) (firstP_mem (m := 100000) (fun j hj => Nat.le_trans (HL.out j hj) (by decide)))
      have HA := Lib.hid hall
      clear hall
      go_wp2_with (go_at_call 47
                   (with_reducible refine HA.out.mono ?_)
                   rintro e w3 ⟨v1, rfl, hl1, hb3⟩)
      have HB3 := Lib.hid (HB.out.trans (hb3.mono hsz))
      have HN3 := Lib.hid (HN.out.below hb3)
      have HL1 := Lib.hid hl1
      have hsz3 := hb3.size
      clear hl1 hb3
      have hi3 : i < 0 ∨ (¬ i < 0 ∧ (k : Int) ≤ i) ∨ (¬ i < 0 ∧ ¬ (k : Int) ≤ i) := by omega
      have ht3 : to' < 0 ∨ (¬ to' < 0 ∧ (k : Int) ≤ to') ∨ (¬ to' < 0 ∧ ¬ (k : Int) ≤ to') := by omega
      by_cases hok : (¬ i < 0 ∧ ¬ (k : Int) ≤ i) ∧ (¬ to' < 0 ∧ ¬ (k : Int) ≤ to')
      · obtain ⟨⟨hi1, hi2⟩, ht1, ht2⟩ := hok
        obtain ⟨ii, rfl⟩ : ∃ t : Nat, i = t := ⟨i.toNat, by omega⟩
        obtain ⟨tt, rfl⟩ : ∃ t : Nat, to' = t := ⟨to'.toNat, by omega⟩
        have hil : ii < (firstP f k).length := by rw [firstP_len]; omega
        have htl : tt < (firstP f k).length := by rw [firstP_len]; omega
        have hml := moved_len hil htl
        have hmb := moved_back hil htl
        have hma := moved_at hil htl
        have hlong : ∀ t ∈ firstP f k, t.length ≤ 100000 := firstP_mem (m := 100000) (fun j hj => Nat.le_trans (HL.out j hj) (by decide))
        have hlong2 : ∀ t ∈ moved (firstP f k) ii tt, t.length ≤ 100000 := fun t ht => by
          unfold moved at ht
          rcases List.mem_append.1 ht with h | h
          · exact hlong t (List.mem_of_mem_eraseIdx (List.mem_of_mem_take h))
          · rcases List.mem_cons.1 h with h | h
            · rw [h, List.getD_eq_getElem?_getD, List.getElem?_eq_getElem hil]
              exact hlong _ (List.getElem_mem _)
            · exact hlong t (List.mem_of_mem_eraseIdx (List.mem_of_mem_drop h))
        have hmv := move_ok HN3.out ii tt hil htl (by show (firstP f k).length ≤ 1000; rw [firstP_len]; omega)
        have HM := Lib.hid hmv
        have HIL := Lib.hid hil
        have HTL := Lib.hid htl
        have HML := Lib.hid (hml.trans (firstP_len f k))
        have HMB := Lib.hid hmb
        have HMA := Lib.hid hma
        have HG1 := Lib.hid hlong
        have HG2 := Lib.hid hlong2
        clear hmv hil htl hml hmb hma hlong hlong2 hi3 ht3
        have hiN : ii < k := by omega
        have htN : tt < k := by omega
        go_wp2_with (first
          | (go_at_call 48
             (with_reducible refine HM.out.mono ?_)
             rintro e w4 ⟨v', xs', rfl, hN4, hv4, hC4⟩
             have HN4 := Lib.hid hN4
             have HV4 := Lib.hid hv4
             have HC4 := Lib.hid hC4
             have HB4 := Lib.hid (HB3.out.trans (hC4.below HB3.out.size (writes_ge HN3.out)))
             have HL4 := Lib.hid (HL1.out.chg hC4 (fun j _ hj hw => by have := writes_lt HN.out j hw; have hj' : wr.heap.size ≤ j := hj; omega))
             clear hN4 hv4 hC4)
          | (go_at_call 47
             (with_reducible refine (all_any HN4.out (by show (moved (firstP f k) ii tt).length ≤ 1000; rw [HML.out]; omega) HG2.out).mono ?_)
             rintro e w5 ⟨v2, rfl, hl2, hb5⟩
             have HL2 := Lib.hid hl2
             have HN5 := Lib.hid (HN4.out.below hb5)
             have HB5 := Lib.hid (HB4.out.trans (hb5.mono HB4.out.size))
             have HL5 := Lib.hid (HL4.out.below hb5)
             clear hl2 hb5))
        obtain ⟨A1, c1, hv1, d1, d2, r1⟩ := HL5.out.opened (firstP_len f k)
        obtain ⟨A2, c2, hv2, d3, d4, r2⟩ := HL2.out.opened HML.out
        obtain ⟨b1, o1, rfl, q1⟩ := r1 (by omega)
        obtain ⟨b2, o2, rfl, q2⟩ := r2 (by omega)
        obtain ⟨B1, e1, x1, y1⟩ := q1 ii hiN
        obtain ⟨B2, e2, x2, y2⟩ := q2 tt htN
        rw [HMA.out] at x2 y2
        generalize (firstP f k).getD ii [] = t at *
        subst hv1
        subst hv2
        have y1' : Lib.BytesIn w5.drew B1 t.length t := y1
        have y2' : Lib.BytesIn w5.drew B2 t.length t := y2
        have x1' : w5.drew.cell? ⟨b1, o1 + ii, none⟩ = some (.slice B1 t.length e1) := x1
        have x2' : w5.drew.cell? ⟨b2, o2 + tt, none⟩ = some (.slice B2 t.length e2) := x2
        have cv1 := y1'.convert (P := Tryd.prog) rfl e1 55 5 9 Tryd.underlying55 Tryd.underlying5 Tryd.underlying9
        have cv2 := y2'.convert (P := Tryd.prog) rfl e2 55 5 9 Tryd.underlying55 Tryd.underlying5 Tryd.underlying9
        have hd5 : Below w5.heap.size w5 w5.drew := (Below.refl _ _).drew
        have HNd := Lib.hid (HN5.out.below hd5)
        have HLd := Lib.hid (HL5.out.below hd5)
        have HBd := Lib.hid (HB5.out.trans (hd5.mono HB5.out.size))
        clear q1 q2 r1 r2 x1 x2 y1 y2 y1' y2' d2 d4 hd5
        go_wp2_with fail
        refine wp_region_still_tail 22 (by kernel_rfl) (by kernel_rfl) ?_
        change wpStill _ _ w5.drew (fun a => wpList _ _ _ _ a w5.drew) _ _
        generalize w5.drew = V at *
        simp only [List.take_succ_cons, List.take_zero, List.drop_succ_cons, List.drop_zero]
        repeat still_step
        refine wpStill_nil ?_
        have hmv2 := move_ok HNd.out tt ii (by show tt < (moved (firstP f k) ii tt).length; rw [HML.out]; exact htN) (by show ii < (moved (firstP f k) ii tt).length; rw [HML.out]; exact hiN) (by show (moved (firstP f k) ii tt).length ≤ 1000; rw [HML.out]; omega)
        have HM2 := Lib.hid hmv2
        clear hmv2 cv1 cv2 x1' x2'
        go_wp2_with (first
          | (go_at_call 48
             (with_reducible refine HM2.out.mono ?_)
             rintro e w6 ⟨v6, xs6, rfl, hN6, hv6, hC6⟩
             have hN6' : NetV w6 w.heap.size w1.heap.size (fun k => k = w1.heap.size) ⟨40, k, 0, 0, 0, firstP f k⟩ v6 xs6 := by
               have h := hN6
               dsimp only at h
               rw [HMB.out] at h
               exact h
             have HN6 := Lib.hid hN6'
             have HB6 := Lib.hid (HBd.out.trans (hC6.below HBd.out.size (writes_ge HNd.out)))
             have HL6 := Lib.hid (HLd.out.chg hC6 (fun j _ hj hw => by
               have hw2 : writes w1.heap.size v j := by
                 rcases hw with h | h
                 · exact .inl h
                 · exact .inr (h.trans HV4.out)
               have := writes_lt HN.out j hw2
               have hj' : wr.heap.size ≤ j := hj
               omega))
             clear hN6 hN6' hv6 hC6)
          | (go_at_call 47
             (with_reducible refine (all_any HN6.out (by show (firstP f k).length ≤ 1000; rw [firstP_len]; omega) HG1.out).mono ?_)
             rintro e w7 ⟨v7, rfl, hl7, hb7⟩
             have HL7 := Lib.hid hl7
             have HB7 := Lib.hid (HB6.out.trans (hb7.mono HB6.out.size))
             have HLw := Lib.hid (HL6.out.below hb7)
             clear hl7 hb7)
          | (go_at_call 49
             (with_reducible refine (sameLists_same HL7.out HLw.out).mono ?_)
             rintro e w8 ⟨rfl, hb8⟩))
        go_ret
        exact ⟨rfl, HB7.out.trans (hb8.mono HB7.out.size)⟩
      · have hmv : Calls Tryd.prog 48 #[.pointer (some ⟨w1.heap.size, 0, none⟩), .int .i64 i, .int .i64 to'] w3 fun e w' => e = .returned (.iface 143 (.pointer (some (a 21)))) ∧ Below w3.heap.size w3 w' := by
          have hkl : ((firstP f k).length : Int) = k := by rw [firstP_len]
          by_cases ht : to' < 0 ∨ (k : Int) ≤ to'
          · exact move_no1 a HN3.out i to' (by rw [hkl]; exact ht) (HE.out.below HB3.out)
          · obtain ⟨tt, rfl⟩ : ∃ t : Nat, to' = t := ⟨to'.toNat, by omega⟩
            exact move_no2 a HN3.out i tt (by show tt < (firstP f k).length; rw [firstP_len]; omega) (by rw [hkl]; omega) (HE.out.below HB3.out)
        have HM := Lib.hid hmv
        have hafter : ∀ w4, Below w3.heap.size w3 w4 → Calls Tryd.prog 47 #[.pointer (some ⟨w1.heap.size, 0, none⟩)] w4 fun e w' => ∃ v', e = .returned v' ∧ ListIs w' (fun k => w4.heap.size ≤ k) v' (firstP f k) ∧ Below w4.heap.size w4 w' := fun w4 h4 =>
          all_any (HN3.out.below h4) (by show (firstP f k).length ≤ 1000; rw [firstP_len]; omega) (firstP_mem (m := 100000) (fun j hj => Nat.le_trans (HL.out j hj) (by decide)))
        have HAf := Lib.hid hafter
        clear hmv hafter
        rcases hi3 with hi1 | ⟨hi1, hi2⟩ | ⟨hi1, hi2⟩ <;> rcases ht3 with ht1 | ⟨ht1, ht2⟩ | ⟨ht1, ht2⟩
        all_goals
          first
            | (exfalso; exact hok ⟨⟨hi1, hi2⟩, ht1, ht2⟩)
            | (clear hok
               go_wp2_with (first
                 | (go_at_call 48
                    (with_reducible refine HM.out.mono ?_)
                    rintro e w4 ⟨rfl, hb4⟩
                    have HB4 := Lib.hid hb4
                    clear hb4)
                 | (go_at_call 47
                    (with_reducible refine (HAf.out w4 HB4.out).mono ?_)
                    rintro e w5 ⟨v2, rfl, hl2, hb5⟩
                    have HL2 := Lib.hid hl2
                    have HB5 := Lib.hid hb5
                    clear hl2 hb5)
                 | (go_at_call 49
                    (with_reducible refine (sameLists_same HL2.out ((HL1.out.below HB4.out).below HB5.out)).mono ?_)
                    rintro e w6 ⟨rfl, hb6⟩
                    have HB6 := Lib.hid hb6
                    clear hb6))
               go_ret
               have hq4 := HB3.out.trans (HB4.out.mono HB3.out.size)
               have hq5 := hq4.trans (HB5.out.mono hq4.size)
               exact ⟨rfl, hq5.trans (HB6.out.mono hq5.size)⟩)
end Go.Proofs.YtdglpbjofdipkaaDoor
