/- octets, the reference: Write. -/
import Derived.Test.YtmmiimcodbjnmaaDoorWrB
import Derived.Test.YtmmiimcodbjnmaaDoorOctE
import Derived.Test.YtmmiimcodbjnmaaDoorRdU
import Derived.BigQuiet
namespace Go.Proofs.YtmmiimcodbjnmaaDoor
open Go.RowKit Go.Stop Go.Extern Go.Ranges Go.Rows2
set_option linter.unusedVariables false
set_option linter.unusedSimpArgs false
set_option maxRecDepth 100000
theorem new_bytes (w : World) (l : List Int) (t : TypeId) : Lib.BytesIn (w.alloc (.cells (bV l).toArray t)) (some ⟨w.heap.size, 0, none⟩) l.length l := fun _ =>
  ⟨w.heap.size, 0, rfl, fun i hi => by
    rw [cell_of_row _ _ _ _ _ _ (heap_alloc_last w _)]
    simp [bV, List.getD_eq_getElem?_getD, List.getElem?_eq_getElem hi]⟩
theorem ocNum_1 (n : Int) : ocNum 1 n = [n % 256] := by
  have h : ocNum 1 n = [n / 1 % 256] := rfl
  rw [h, Int.ediv_one]
theorem ocNum_2 (n : Int) : ocNum 2 n = [n / 256 % 256, n % 256] := by
  have h : ocNum 2 n = [n / 256 % 256, n / 1 % 256] := rfl
  rw [h, Int.ediv_one]
theorem ocNum_4 (n : Int) : ocNum 4 n = [n / 256 / 256 / 256 % 256, n / 256 / 256 % 256, n / 256 % 256, n % 256] := by
  have h : ocNum 4 n = [n / 16777216 % 256, n / 65536 % 256, n / 256 % 256, n / 1 % 256] := rfl
  have h1 : n / 256 / 256 = n / 65536 := by omega
  have h2 : n / 65536 / 256 = n / 16777216 := by omega
  rw [h, Int.ediv_one, h1, h2]
theorem ocNum_8 (n : Int) : ocNum 8 n = [n / 256 / 256 / 256 / 256 / 256 / 256 / 256 % 256, n / 256 / 256 / 256 / 256 / 256 / 256 % 256, n / 256 / 256 / 256 / 256 / 256 % 256, n / 256 / 256 / 256 / 256 % 256, n / 256 / 256 / 256 % 256, n / 256 / 256 % 256, n / 256 % 256, n % 256] := by
  have h : ocNum 8 n = [n / 72057594037927936 % 256, n / 281474976710656 % 256, n / 1099511627776 % 256, n / 4294967296 % 256, n / 16777216 % 256, n / 65536 % 256, n / 256 % 256, n / 1 % 256] := rfl
  have h1 : n / 256 / 256 = n / 65536 := by omega
  have h2 : n / 65536 / 256 = n / 16777216 := by omega
  have h3 : n / 16777216 / 256 = n / 4294967296 := by omega
  have h4 : n / 4294967296 / 256 = n / 1099511627776 := by omega
  have h5 : n / 1099511627776 / 256 = n / 281474976710656 := by omega
  have h6 : n / 281474976710656 / 256 = n / 72057594037927936 := by omega
  rw [h, Int.ediv_one, h1, h2, h3, h4, h5, h6]
/-- A number's bytes, made. -/
def NumEnd (w : World) (m : Nat) (n : Int) (e : Ending) (w' : World) : Prop :=
  e = .returned (.slice (some ⟨w.heap.size, 0, none⟩) m m) ∧ Lib.BytesIn w' (some ⟨w.heap.size, 0, none⟩) m (ocNum m n) ∧ Below w.heap.size w w'
theorem numEnd_of {w w' : World} {m : Nat} {n : Int} {l : List Int} {e : Ending} (hm : l.length = m) (hl : ocNum m n = l) (he : e = .returned (.slice (some ⟨w.heap.size, 0, none⟩) m m)) (hw : w' = w.alloc (.cells (bV l).toArray 5)) : NumEnd w m n e w' := by
  subst hm hw he
  refine ⟨rfl, ?_, alloc_below _ _⟩
  rw [hl]
  exact new_bytes w l _
theorem num02_w (n : Int) (w : World) (h0 : 0 ≤ n) (h1 : n ≤ 9223372036854775807) : Calls Tryd.prog 65 #[.int .i64 n, .int .i64 2] w (NumEnd w 2 n) :=
  (num02_2 n w h0 h1).mono fun e w' h => numEnd_of rfl (ocNum_2 n) h.1 h.2
theorem num02_any (c : UInt8) (n : Int) (w : World) (h0 : 0 ≤ n) (h1 : n ≤ 9223372036854775807) (hs : ocSize c = 1 ∨ ocSize c = 4 ∨ ocSize c = 8) : Calls Tryd.prog 65 #[.int .i64 n, .int .i64 (ocSize c)] w (NumEnd w (ocSize c) n) := by
  rcases hs with h | h | h
  · rw [h]; exact (num02_1 n w h0 h1).mono fun e w' h => numEnd_of rfl (ocNum_1 n) h.1 h.2
  · rw [h]; exact (num02_4 n w h0 h1).mono fun e w' h => numEnd_of rfl (ocNum_4 n) h.1 h.2
  · rw [h]; exact (num02_8 n w h0 h1).mono fun e w' h => numEnd_of rfl (ocNum_8 n) h.1 h.2
/-- How the reference's Write ends. -/
def W2End (w : World) (r : Option (List Int)) (e : Ending) (w' : World) : Prop :=
  match r with
  | some l => ∃ A c, e = .returned (.tuple #[.slice A l.length c, .int .i64 0]) ∧ w'.ownsRow w.heap.size 5 1 (.slice A l.length c) l.length (bV l) ∧ Below w.heap.size w w'
  | none => e = .returned (.tuple #[.slice none 0 0, .int .i64 1]) ∧ Below w.heap.size w w'
theorem w2_none {w w' : World} {e : Ending} {r : Option (List Int)} (hr : r = none) (he : e = .returned (.tuple #[.slice none 0 0, .int .i64 1])) (hb : Below w.heap.size w w') : W2End w r e w' := by
  subst hr
  exact ⟨he, hb⟩
theorem refWrite_unknown (s : ByteArray) (A : Option Addr) (n c : Nat) (w : World) (hs : s.size ≤ 100000) (hk : s.data.toList.all ocKnown = false) :
    Calls Tryd.prog 33 #[.string s, .slice A n c] w fun e w' => e = .returned (.tuple #[.slice none 0 0, .int .i64 7]) ∧ Below w.heap.size w w' := by
  have K := Lib.hid (known02_no s w hs hk)
  clear hk
  go_enter Tryd.func33, Tryd.ntmps33
  go_wp2_with fail
  refine K.out.mono ?_
  rintro e w1 ⟨rfl, rfl⟩
  go_wp2_with fail
  go_ret2
  exact ⟨rfl, Below.refl _ _⟩
theorem refWrite_many (s : ByteArray) (A : Option Addr) (n c : Nat) (w : World) (hs : s.size ≤ 100000) (hk : s.data.toList.all ocKnown = true) (hn : s.size ≠ n) :
    Calls Tryd.prog 33 #[.string s, .slice A n c] w fun e w' => e = .returned (.tuple #[.slice none 0 0, .int .i64 1]) ∧ Below w.heap.size w w' := by
  have K := Lib.hid (known02_any s w hs hk)
  have hne : ((s.size : Int) != (n : Int)) = true := by rw [bne_iff_ne]; omega
  have hne2 : (s.size != n) = true := by rw [bne_iff_ne]; omega
  clear hk hn
  go_enter Tryd.func33, Tryd.ntmps33
  go_wp2_with fail
  refine K.out.mono ?_
  rintro e w1 ⟨rfl, rfl⟩
  go_wp2_with fail
  go_ret2
  exact ⟨rfl, Below.refl _ _⟩
theorem wq_one {P : Program} {f : FuncId} {args : Array Value} {w : World} {n : Nat} {v : Value} (h : Calls P f args (w.drewN n) fun e w' => e = .returned v ∧ w.drewN n = w') :
    Calls P f args (w.drewN n) fun e w'' => e = .returned v ∧ ∃ m, w'' = w.drewN m := h.mono fun _ _ ⟨h1, h2⟩ => ⟨h1, n, h2.symm⟩
set_option maxHeartbeats 8000000 in
theorem refWrite_go (s : ByteArray) (A : Option Addr) (n c : Nat) (N : Nat → Int) (B : Nat → List Int) (w : World) (hs : s.size = n) (hn : n ≤ 1000) (hk : s.data.toList.all ocKnown = true) (hF : FieldsAt w A n N B) (hB : ∀ i, i < n → (B i).length ≤ 100000) :
    Calls Tryd.prog 33 #[.string s, .slice A n c] w (W2End w (if ocFits s.data.toList N B n = true then some (ocAll s.data.toList N B n) else none)) := by
  have K := Lib.hid (known02_any s w (by omega) hk)
  have HF := Lib.hid hF
  have HKN := Lib.hid (fun i (hi : i < s.size) => List.all_eq_true.1 hk _ (by
    rw [List.getD_eq_getElem?_getD, List.getElem?_eq_getElem (by simpa using hi)]
    exact List.getElem_mem _ : s.data.toList.getD i 0 ∈ s.data.toList))
  have HL := Lib.hid (fun k hk => ocAll_len (s := s.data.toList) (N := N) hB k hk)
  have HBL := Lib.hid hB
  have hne : ((s.size : Int) != (n : Int)) = false := by rw [bne_eq_false_iff_eq]; omega
  have hne2 : (s.size != n) = false := by rw [bne_eq_false_iff_eq]; omega
  have hat := at_all s
  have Hs := Lib.hid hs
  generalize hcs : s.data.toList = cs at *
  obtain ⟨r, hr⟩ : ∃ r, r = (if ocFits cs N B n = true then some (ocAll cs N B n) else none) := ⟨_, rfl⟩
  have HR := Lib.hid hr
  have HNO := Lib.hid fun (k : Nat) (hkn : k < n) (h : ocFit (cs.getD k 0) (N k) (B k) = false) => (show r = none by
    rw [hr, if_neg (fun hh => by rw [ocFits_at.1 hh k hkn] at h; cases h)])
  rw [← hr]
  have HAT := Lib.hid hat
  have ho0 : (w.alloc (.cells #[] 5)).ownsRow w.heap.size 5 1 (.slice (some ⟨w.heap.size, 0, none⟩) 0 0) 0 (bV []) :=
    ⟨rfl, .inr ⟨_, 0, #[], rfl, Nat.le_refl _, heap_alloc_last w _, Nat.le_refl _, Nat.zero_le _, rfl, rfl⟩⟩
  have HO0 := Lib.hid ho0
  have HB0 := Lib.hid (alloc_below w (.cells #[] 5))
  clear hr hF hB hs hk hcs hat ho0
  go_enter Tryd.func33, Tryd.ntmps33
  go_wp2_with fail
  refine K.out.mono ?_
  rintro e w1 ⟨rfl, rfl⟩
  go_wp2_with fail
  go_loopw [6, 21] (fun y x wr => ∃ (k : Nat) (v : Value), k ≤ n ∧ x = .int .i64 k ∧ v = y ∧ Below w.heap.size w wr ∧ wr.ownsRow w.heap.size 5 1 v (ocAll cs N B k).length (bV (ocAll cs N B k)) ∧ ∀ i, i < k → ocFit (cs.getD i 0) (N i) (B i) = true) (fun y x _ => n - (intOf x).toNat)
  case atStart => exact ⟨0, _, Nat.zero_le _, rfl, rfl, HB0.out, HO0.out, fun i hi => absurd hi (by omega)⟩
  case round =>
    obtain ⟨k, v, hk, rfl, rfl, hb, ho, hfit⟩ := hrel
    have HB := Lib.hid hb
    have HO := Lib.hid ho
    have HT := Lib.hid hfit
    have hsz := hb.size
    clear hb ho hfit
    by_cases hlt : k < n
    · obtain ⟨b, o, rfl, hbl, hc⟩ := HF.out (by omega)
      obtain ⟨D, cc, h1, h2, h3⟩ := hc k hlt
      have c1 : wr.cell? ⟨b, o + k * 2, none⟩ = some (.int .i64 (N k)) := (HB.out.cell (p := ⟨b, o + k * 2, none⟩) hbl).trans h1
      have c2 : wr.cell? ⟨b, o + k * 2 + 1, none⟩ = some (.slice D (B k).length cc) := (HB.out.cell (p := ⟨b, o + k * 2 + 1, none⟩) hbl).trans h2
      have HD := Lib.hid (ByteS.old h3 HB.out)
      have hks : k < s.size := by rw [Hs.out]; exact hlt
      have hk0 : (0 : Int) ≤ (k : Int) := by omega
      have i1 : (k : Int) < (s.size : Int) := by omega
      have hat := HAT.out k hks
      have hkc := HKN.out k hks
      have hS : ocAll cs N B (k + 1) = ocAll cs N B k ++ ocB (cs.getD k 0) (N k) (B k) := rfl
      have hno := HNO.out k hlt
      have hll := HL.out (k + 1) (by omega)
      have hbk := HBL.out k hlt
      have hfitk : ocFit (cs.getD k 0) (N k) (B k) = true → ∀ i, i < k + 1 → ocFit (cs.getD i 0) (N i) (B i) = true := fun h i hi => by
        by_cases e : i = k
        · subst e; exact h
        · exact HT.out i (by omega)
      generalize cs.getD k 0 = d at *
      generalize N k = Nk at *
      generalize B k = Bk at *
      have HS := Lib.hid hS
      have HNOk := Lib.hid hno
      have HFk := Lib.hid hfitk
      have HLL := Lib.hid hll
      have HKC := Lib.hid hkc
      have hmul : (k + 1) * (100000 + 8) ≤ 1000 * (100000 + 8) := Nat.mul_le_mul_right _ (by omega)
      have hV0 : (wr.alloc (.cells #[.int .i64 Nk, .slice D Bk.length cc] 57)).cell? ⟨wr.heap.size, 0, none⟩ = some (.int .i64 Nk) := (cell_of_row _ _ _ _ _ _ (heap_alloc_last wr _)).trans rfl
      have hV1 : (wr.alloc (.cells #[.int .i64 Nk, .slice D Bk.length cc] 57)).cell? ⟨wr.heap.size, 1, none⟩ = some (.slice D Bk.length cc) := (cell_of_row _ _ _ _ _ _ (heap_alloc_last wr _)).trans rfl
      have hVb := alloc_below wr (.cells #[.int .i64 Nk, .slice D Bk.length cc] 57)
      have hVl : wr.heap.size < (wr.alloc (.cells #[.int .i64 Nk, .slice D Bk.length cc] 57)).heap.size := by simp
      clear hc h1 h2 h3 hS hno hfitk hll hkc
      have KS := Lib.hid fun W => size02_any d W
      rw [rfSize_known HKC.out] at KS
      go_wp2_with fail
      generalize wr.alloc (.cells #[.int .i64 Nk, .slice D Bk.length cc] 57) = V at *
      have HVb := Lib.hid (stepV HB.out hVb)
      have HDV := Lib.hid (HD.out.below hVb)
      have HBV := Lib.hid HDV.out.1
      have HOV := Lib.hid (own_keep HO.out hVb)
      have HVB := Lib.hid hVb
      clear hVb c1 c2
      refine (KS.out _).mono ?_
      rintro e w2 ⟨rfl, rfl⟩
      clear KS
      by_cases hno1 : d = 111
      · subst hno1
        have hz : ((ocSize 111 : Nat) : Int) = 0 := rfl
        rw [hz]
        clear hz
        have e16 : ((111 : Int) == 116) = false := by decide
        by_cases h32 : Bk.length = 32
        · have d1 : ((Bk.length : Int) != 32) = false := by rw [h32]; rfl
          have d2 : decide ((65535 : Int) < (Bk.length : Int)) = false := by rw [h32]; rfl
          have hfk : ocFit 111 Nk Bk = true := by
            unfold ocFit
            rw [if_neg (by decide), h32]
            decide
          have hob : ocB 111 Nk Bk = Bk := rfl
          have hlen := HLL.out
          rw [HS.out, hob, List.length_append] at hlen
          obtain ⟨v6, w6, hr6, ho6, hg6⟩ := app_bytes HOV.out D Bk.length cc Bk rfl HBV.out HVb.out.size (by omega)
          have HO6 := Lib.hid ho6
          have HG6 := Lib.hid hg6
          have HFK := Lib.hid hfk
          clear hlen ho6 hg6 hfk hob h32
          go_wp2_with (at_builtin; go_loud (refine Lib.wpList_append_run _ rfl (.tmp 74) (.tmp 76) 34 34 rfl _ _ rfl rfl _ _ hr6 ?_))
          go_round
          case rel =>
            refine ⟨k + 1, v6, by omega, by go_num, rfl, HVb.out.grown HG6.out HVb.out.size (fun j hj => (HO.out.lt j hj).1), ?_, HFk.out HFK.out⟩
            rw [HS.out, show ocB 111 Nk Bk = Bk from rfl, List.length_append]
            exact HO6.out
          case measure => simp only [intOf]; omega
        · have d1 : ((Bk.length : Int) != 32) = true := by rw [bne_iff_ne]; omega
          have hfk : ocFit 111 Nk Bk = false := by
            unfold ocFit
            rw [if_neg (by decide)]
            simp [h32]
          have HN := Lib.hid (HNOk.out hfk)
          clear hfk h32
          go_wp2_with fail
          go_ret2
          exact w2_none HN.out rfl HVb.out
      by_cases hno2 : d = 116
      · subst hno2
        have hz : ((ocSize 116 : Nat) : Int) = 0 := rfl
        rw [hz]
        clear hz hno1
        have e11 : ((116 : Int) == 111) = false := by decide
        by_cases h655 : Bk.length ≤ 65535
        · have d2 : decide ((65535 : Int) < (Bk.length : Int)) = false := by rw [decide_eq_false_iff_not]; omega
          have hfk : ocFit 116 Nk Bk = true := by
            unfold ocFit
            rw [if_neg (by decide)]
            simp only [Bool.and_eq_true, Bool.not_eq_true', decide_eq_true_eq]
            exact ⟨rfl, h655⟩
          have hob : ocB 116 Nk Bk = ocNum 2 (Bk.length : Int) ++ Bk := rfl
          have hlen := HLL.out
          rw [HS.out, hob, List.length_append, List.length_append, ocNum_len] at hlen
          have KN := Lib.hid (num02_w (Bk.length : Int) V (by omega) (by omega))
          have HFK := Lib.hid hfk
          have HLN := Lib.hid hlen
          clear hfk hob hlen
          go_wp2_with fail
          refine KN.out.mono ?_
          rintro e w5 ⟨rfl, hN5, hb5⟩
          obtain ⟨m0, m1, _⟩ := keepV2 hVl hV0 hV1 hb5
          have HV5 := Lib.hid (stepV HVb.out hb5)
          have hBV5 := bytesIn_below' HBV.out hb5
          have hl2 : (ocNum 2 (Bk.length : Int)).length = 2 := ocNum_len _ _
          generalize hl2q : ocNum 2 (Bk.length : Int) = L2 at *
          have HL2Q := Lib.hid hl2q
          have HL2 := Lib.hid hl2
          clear hl2q
          obtain ⟨v6, w6, hr6, ho6, hg6⟩ := app_bytes (own_keep HOV.out hb5) (some ⟨V.heap.size, 0, none⟩) 2 2 L2 hl2 hN5 HV5.out.size (by have := HLN.out; omega)
          have hown : ∀ j, v.ownBlock = some j → w.heap.size ≤ j ∧ j < wr.heap.size := fun j hj => HO.out.lt j hj
          have hC6 : Chg (fun j => some j = v.ownBlock) w5 w6 := Chg.of_grown hg6 (fun j hj => hj.symm)
          have hB6 : Below w.heap.size w w6 := HV5.out.grown hg6 HV5.out.size (fun j hj => (hown j hj).1)
          have hD6 : Lib.BytesIn w6 D Bk.length Bk := ((HDV.out.below hb5).chg hC6 (fun j _ hj e => by have := (hown j e.symm).1; omega)).1
          have q1 : w6.cell? ⟨wr.heap.size, 1, none⟩ = some (.slice D Bk.length cc) := (World.cell?_of_block (a := ⟨wr.heap.size, 1, none⟩) (hC6.block wr.heap.size (by have := hb5.size; omega) (fun e => by have := (hown wr.heap.size e.symm).2; omega))).trans m1
          have hrow : ∀ j, v6.ownBlock = some j → w.heap.size ≤ j := fun j hj => (ho6.lt j hj).1
          obtain ⟨v7, w7, hr7, ho7, hg7⟩ := app_bytes ho6 D Bk.length cc Bk rfl hD6 hB6.size (by have := HLN.out; omega)
          have HO7 := Lib.hid ho7
          have HB7 := Lib.hid (hB6.grown hg7 hB6.size hrow)
          have HR6 := Lib.hid hr6
          have HR7 := Lib.hid hr7
          clear hl2 hr6 hr7 ho6 hg6 ho7 hg7 hC6 hB6 hD6 hrow hown m0 m1 hBV5 hN5 hb5 h655
          go_wp2_with (first
            | (have hr6 := HR6.out; at_builtin; refine Lib.wpList_append_run _ rfl (.tmp 68) (.tmp 72) 34 34 rfl _ _ rfl rfl _ _ hr6 ?_; clear hr6 HR6)
            | (at_builtin; refine Lib.wpList_append_run _ rfl (.tmp 74) (.tmp 76) 34 34 rfl _ _ rfl rfl _ _ HR7.out ?_))
          go_round
          case rel =>
            refine ⟨k + 1, v7, by omega, by go_num, rfl, HB7.out, ?_, HFk.out HFK.out⟩
            rw [HS.out, show ocB 116 Nk Bk = ocNum 2 (Bk.length : Int) ++ Bk from rfl, HL2Q.out, ← List.append_assoc, List.length_append, List.length_append, HL2.out]
            exact HO7.out
          case measure => simp only [intOf]; omega
        · have d2 : decide ((65535 : Int) < (Bk.length : Int)) = true := by rw [decide_eq_true_eq]; omega
          have hfk : ocFit 116 Nk Bk = false := by
            unfold ocFit
            rw [if_neg (by decide)]
            simp [h655]
          have HN := Lib.hid (HNOk.out hfk)
          clear hfk h655
          go_wp2_with fail
          go_ret2
          exact w2_none HN.out rfl HVb.out
      have hs3 := size_some HKC.out hno1 hno2
      have hz0 : 0 < ocSize d := by omega
      have KM := Lib.hid fun W => most02_any d W hz0
      have hml : ocMost d ≤ 4611686018427387903 := by
        unfold ocMost
        split
        · omega
        · split
          · omega
          · split <;> omega
      have KN := Lib.hid fun (W : World) (h0 : 0 ≤ Nk) (h1 : Nk ≤ ocMost d) => num02_any d Nk W h0 (by omega) hs3
      have hob : ocB d Nk Bk = ocNum (ocSize d) Nk := by unfold ocB; rw [if_pos hz0]
      have hof : ocFit d Nk Bk = (decide (0 ≤ Nk) && decide (Nk ≤ ocMost d)) := by unfold ocFit; rw [if_pos hz0]
      have hdz : decide ((0 : Int) < (ocSize d : Int)) = true := by rw [decide_eq_true_eq]; omega
      have hzp : (0 : Int) < (ocSize d : Int) := by omega
      have HOB := Lib.hid hob
      have HOF := Lib.hid hof
      have hsl := ocSize_le d
      generalize ocSize d = m at *
      generalize ocMost d = M at *
      clear hno1 hno2 hs3 hob hof
      by_cases hneg : Nk < 0
      · have d1 : decide (Nk < 0) = true := by rw [decide_eq_true_eq]; exact hneg
        have HN := Lib.hid (HNOk.out (by rw [HOF.out]; have : decide (0 ≤ Nk) = false := by rw [decide_eq_false_iff_not]; omega
                                         rw [this]; rfl))
        clear hneg
        go_wp2_with fail
        go_quiet (fail)
        go_wp2_with fail
        go_ret2
        exact w2_none HN.out rfl (stepV HVb.out (below_drewN _ _))
      · have d1 : decide (Nk < 0) = false := by rw [decide_eq_false_iff_not]; exact hneg
        by_cases hbig : M < Nk
        · have d2 : decide (M < Nk) = true := by rw [decide_eq_true_eq]; exact hbig
          have HN := Lib.hid (HNOk.out (by rw [HOF.out]; have : decide (Nk ≤ M) = false := by rw [decide_eq_false_iff_not]; omega
                                           rw [this, Bool.and_false]))
          clear hneg hbig
          go_wp2_with fail
          go_quiet ((go_at_call 64; exact wq_one (KM.out _)))
          go_wp2_with fail
          go_ret2
          exact w2_none HN.out rfl (stepV HVb.out (below_drewN _ _))
        · have d2 : decide (M < Nk) = false := by rw [decide_eq_false_iff_not]; exact hbig
          have hfk : ocFit d Nk Bk = true := by
            rw [HOF.out]
            simp only [Bool.and_eq_true, decide_eq_true_eq]
            exact ⟨by omega, by omega⟩
          have HFK := Lib.hid hfk
          have KNN := Lib.hid fun W => KN.out W (by omega) (by omega)
          have hlen := HLL.out
          rw [HS.out, HOB.out, List.length_append, ocNum_len] at hlen
          have HLN := Lib.hid hlen
          clear hneg hbig hfk hlen
          go_wp2_with fail
          go_quiet ((go_at_call 64; exact wq_one (KM.out _)))
          go_wp2_with fail
          refine (KNN.out _).mono ?_
          rintro e w5 ⟨rfl, hN5, hb5⟩
          have hb5' := stepV (below_drewN _ _) hb5
          have HV5 := Lib.hid (stepV HVb.out hb5')
          obtain ⟨v6, w6, hr6, ho6, hg6⟩ := app_bytes (own_keep HOV.out hb5') (some ⟨_, 0, none⟩) m m (ocNum m Nk) (ocNum_len _ _) hN5 HV5.out.size (by have := HLN.out; omega)
          have HO6 := Lib.hid ho6
          have HG6 := Lib.hid hg6
          clear ho6 hg6 hN5 hb5 hb5'
          go_wp2_with (at_builtin; go_loud (refine Lib.wpList_append_run _ rfl (.tmp 42) (.tmp 46) 34 34 rfl _ _ rfl rfl _ _ hr6 ?_))
          go_round
          case rel =>
            refine ⟨k + 1, v6, by omega, by go_num, rfl, HV5.out.grown HG6.out HV5.out.size (fun j hj => (HO.out.lt j hj).1), ?_, HFk.out HFK.out⟩
            rw [HS.out, HOB.out, List.length_append, ocNum_len]
            exact HO6.out
          case measure => simp only [intOf]; omega
    · obtain rfl : k = n := by omega
      have hall : ocFits cs N B k = true := ocFits_at.2 HT.out
      have hr := HR.out
      rw [if_pos hall] at hr
      subst hr
      have Hz := Lib.hid hall
      clear hall
      go_wp2_with fail
      go_ret2
      obtain ⟨A2, c2, hv⟩ := own_slice HO.out
      subst hv
      exact ⟨A2, c2, rfl, HO.out, HB.out⟩
end Go.Proofs.YtmmiimcodbjnmaaDoor
