/- octets: Write. -/
import Derived.Test.YtmmiimcodbjnmaaDoorOctD
import Derived.StillTailTactics
namespace Go.Proofs.YtmmiimcodbjnmaaDoor
open Go.RowKit Go.Stop Go.Extern Go.Ranges Go.Rows2
set_option linter.unusedVariables false
set_option linter.unusedSimpArgs false
set_option maxRecDepth 20000
/-- How fields lie: each a number and a slice of bytes. -/
def FieldsAt (w : World) (A : Option Addr) (n : Nat) (N : Nat → Int) (B : Nat → List Int) : Prop :=
  0 < n → ∃ b o, A = some ⟨b, o, none⟩ ∧ b < w.heap.size ∧ ∀ i, i < n → ∃ D c, w.cell? ⟨b, o + i * 2, none⟩ = some (.int .i64 (N i)) ∧ w.cell? ⟨b, o + i * 2 + 1, none⟩ = some (.slice D (B i).length c) ∧ Lib.BytesIn w D (B i).length (B i)
theorem FieldsAt.below {w w' : World} {A : Option Addr} {n : Nat} {N : Nat → Int} {B : Nat → List Int} (h : FieldsAt w A n N B) (hb : Below w.heap.size w w') : FieldsAt w' A n N B := fun hn => by
  obtain ⟨b, o, rfl, hlt, hc⟩ := h hn
  refine ⟨b, o, rfl, Nat.lt_of_lt_of_le hlt hb.size, fun i hi => ?_⟩
  obtain ⟨D, c, h1, h2, h3⟩ := hc i hi
  exact ⟨D, c, (hb.cell (p := ⟨b, o + i * 2, none⟩) hlt).trans h1, (hb.cell (p := ⟨b, o + i * 2 + 1, none⟩) hlt).trans h2, bytesIn_below' h3 hb⟩
def ocFits (s : List UInt8) (N : Nat → Int) (B : Nat → List Int) (n : Nat) : Bool := (List.range n).all fun i => ocFit (s.getD i 0) (N i) (B i)
def ocAll (s : List UInt8) (N : Nat → Int) (B : Nat → List Int) (k : Nat) : List Int := cat (fun i => ocB (s.getD i 0) (N i) (B i)) k
theorem ocFits_at {s : List UInt8} {N : Nat → Int} {B : Nat → List Int} {n : Nat} : ocFits s N B n = true ↔ ∀ i, i < n → ocFit (s.getD i 0) (N i) (B i) = true := by
  unfold ocFits
  rw [List.all_eq_true]
  constructor
  · intro h i hi; exact h i (List.mem_range.2 hi)
  · intro h i hi; exact h i (List.mem_range.1 hi)
theorem ocAll_len {s : List UInt8} {N : Nat → Int} {B : Nat → List Int} {n m : Nat} (hB : ∀ i, i < n → (B i).length ≤ m) : ∀ k, k ≤ n → (ocAll s N B k).length ≤ k * (m + 8)
  | 0, _ => by simp [ocAll, cat]
  | k + 1, hk => by
    have h1 := ocAll_len (s := s) (N := N) hB k (by omega)
    have h2 := ocB_len (s.getD k 0) (N k) (B k)
    have h3 := hB k (by omega)
    have e : ocAll s N B (k + 1) = ocAll s N B k ++ ocB (s.getD k 0) (N k) (B k) := rfl
    rw [e, List.length_append, Nat.add_mul, Nat.one_mul]
    omega
theorem at_shape (s : ByteArray) (k : Nat) (h : k < s.size) : s.data.toList.getD k 0 = s[k] := by
  rw [List.getD_eq_getElem?_getD, List.getElem?_eq_getElem (by simpa using h)]
  rfl
/-- How a call of Write ends. -/
def WriteEnd (w : World) (r : Option (List Int)) (err : Value) (e : Ending) (w' : World) : Prop :=
  match r with
  | some l => ∃ A c, e = .returned (.tuple #[.slice A l.length c, .nilIface]) ∧ w'.ownsRow w.heap.size 5 1 (.slice A l.length c) l.length (bV l) ∧ Below w.heap.size w w'
  | none => e = .returned (.tuple #[.slice none 0 0, err]) ∧ Below w.heap.size w w'
theorem ocWrite_unknown (s : ByteArray) (A : Option Addr) (n c : Nat) (a : Nat → Addr) (w : World) (H : ErrC w a 7) (hs : s.size ≤ maxLen) (hk : s.data.toList.all ocKnown = false) :
    Calls Tryd.prog 25 #[.string s, .slice A n c] w (WriteEnd w none (.iface 199 (.pointer (some (a 7))))) := by
  have hkn := ocKnown_any s w hs
  rw [hk] at hkn
  have HK := Lib.hid hkn
  have HE := Lib.hid H
  clear hkn hk H
  go_enter Tryd.func25, Tryd.ntmps25
  go_wp2_with (go_at_call 49; refine HK.out.mono ?_; rintro e w1 ⟨rfl, hb1⟩; have e7 := HE.out.below hb1; have e7' : w1.cell? ⟨2, 0, none⟩ = _ := e7; clear e7)
  go_quiet (fail)
  go_wp2
  go_ret2
  exact ⟨rfl, hb1.trans (Below.mono (below_drewN _ _) hb1.size)⟩
theorem ocWrite_many (s : ByteArray) (A : Option Addr) (n c : Nat) (a : Nat → Addr) (w : World) (H : ErrC w a 1) (hs : s.size ≤ maxLen) (hk : s.data.toList.all ocKnown = true) (hn : s.size ≠ n) :
    Calls Tryd.prog 25 #[.string s, .slice A n c] w (WriteEnd w none (.iface 199 (.pointer (some (a 1))))) := by
  have hkn := ocKnown_any s w hs
  rw [hk] at hkn
  have HK := Lib.hid hkn
  have HE := Lib.hid H
  have hne : ((s.size : Int) != (n : Int)) = true := by rw [bne_iff_ne]; omega
  have hne2 : (s.size != n) = true := by rw [bne_iff_ne]; omega
  clear hkn hk H hn
  go_enter Tryd.func25, Tryd.ntmps25
  go_wp2_with (go_at_call 49; refine HK.out.mono ?_; rintro e w1 ⟨rfl, hb1⟩; have e1 := HE.out.below hb1; have e1' : w1.cell? ⟨3, 0, none⟩ = _ := e1; clear e1)
  go_quiet (fail)
  go_wp2
  go_ret2
  exact ⟨rfl, hb1.trans (Below.mono (below_drewN _ _) hb1.size)⟩
theorem keepV2 {V W : World} {b : Nat} {x y : Value} (hb0 : b < V.heap.size) (hx : V.cell? ⟨b, 0, none⟩ = some x) (hy : V.cell? ⟨b, 1, none⟩ = some y) (hb : Below V.heap.size V W) : W.cell? ⟨b, 0, none⟩ = some x ∧ W.cell? ⟨b, 1, none⟩ = some y ∧ Below V.heap.size V W := ⟨(hb.cell (p := ⟨b, 0, none⟩) hb0).trans hx, (hb.cell (p := ⟨b, 1, none⟩) hb0).trans hy, hb⟩
set_option maxHeartbeats 4000000 in
theorem ocWrite_go (s : ByteArray) (A : Option Addr) (n c : Nat) (N : Nat → Int) (B : Nat → List Int) (a : Nat → Addr) (w : World) (H : ErrC w a 1) (hs : s.size = n) (hn : n ≤ 1000) (hk : s.data.toList.all ocKnown = true) (hF : FieldsAt w A n N B) (hB : ∀ i, i < n → (B i).length ≤ 100000) :
    Calls Tryd.prog 25 #[.string s, .slice A n c] w (WriteEnd w (if ocFits s.data.toList N B n = true then some (ocAll s.data.toList N B n) else none) (.iface 199 (.pointer (some (a 1))))) := by
  have hkn := ocKnown_any s w (by unfold maxLen; omega)
  rw [hk] at hkn
  have HKN := Lib.hid hkn
  have HE := Lib.hid H
  have HF := Lib.hid hF
  have HK := Lib.hid hk
  have HL := Lib.hid (fun k hk => ocAll_len (s := s.data.toList) (N := N) hB k hk)
  have Hs := Lib.hid hs
  have hne : ((s.size : Int) != (n : Int)) = false := by rw [bne_eq_false_iff_eq]; omega
  have hne2 : (s.size != n) = false := by rw [bne_eq_false_iff_eq]; omega
  obtain ⟨r, hr⟩ : ∃ r, r = (if ocFits s.data.toList N B n = true then some (ocAll s.data.toList N B n) else none) := ⟨_, rfl⟩
  have HR := Lib.hid hr
  rw [← hr]
  clear hr
  clear hkn hk H hF hB hs
  go_enter Tryd.func25, Tryd.ntmps25
  go_wp2_with (go_at_call 49; refine HKN.out.mono ?_; rintro e w1 ⟨rfl, hb1⟩; have HB1 := Lib.hid hb1; clear hb1)
  go_loopw [25, 6] (fun x y wr => ∃ (k : Nat) (v : Value), k ≤ n ∧ x = .int .i64 k ∧ v = y ∧ Below w.heap.size w wr ∧ wr.ownsRow w.heap.size 5 1 v (ocAll s.data.toList N B k).length (bV (ocAll s.data.toList N B k)) ∧ ∀ i, i < k → ocFit (s.data.toList.getD i 0) (N i) (B i) = true) (fun x _ _ => n - (intOf x).toNat)
  case atStart => exact ⟨0, _, Nat.zero_le _, rfl, rfl, HB1.out, World.ownsRow_nil _ _ _ _, fun i hi => absurd hi (by omega)⟩
  case round =>
    obtain ⟨k, v, hk, rfl, rfl, hb, ho, hfit⟩ := hrel
    have HB := Lib.hid hb
    have HO := Lib.hid ho
    have HT := Lib.hid hfit
    have hsz := hb.size
    clear hb ho hfit
    by_cases hlt : k < n
    · obtain ⟨b, o, rfl, hbl, hc⟩ := HF.out (by omega)
      obtain ⟨D, cc, h1, h2, h3⟩ := hc k hlt
      have c1 : wr.cell? ⟨b, o + k * 2, none⟩ = some (.int .i64 (N k)) := (HB.out.cell (p := ⟨b, o + k * 2, none⟩) hbl).trans h1
      have c2 : wr.cell? ⟨b, o + k * 2 + 1, none⟩ = some (.slice D (B k).length cc) := (HB.out.cell (p := ⟨b, o + k * 2 + 1, none⟩) hbl).trans h2
      have HD := Lib.hid h3
      have hks : k < s.size := by rw [Hs.out]; exact hlt
      have hks2 : (k : Int) < (s.size : Int) := by omega
      clear hc h1 h2 h3
      have hV0 : (wr.alloc (.cells #[.int .i64 (N k), .slice D (B k).length cc] 60)).cell? ⟨wr.heap.size, 0, none⟩ = some (.int .i64 (N k)) := (cell_of_row _ _ _ _ _ _ (heap_alloc_last wr _)).trans rfl
      have hV1 : (wr.alloc (.cells #[.int .i64 (N k), .slice D (B k).length cc] 60)).cell? ⟨wr.heap.size, 1, none⟩ = some (.slice D (B k).length cc) := (cell_of_row _ _ _ _ _ _ (heap_alloc_last wr _)).trans rfl
      have hVb := alloc_below wr (.cells #[.int .i64 (N k), .slice D (B k).length cc] 60)
      have hVl : wr.heap.size < (wr.alloc (.cells #[.int .i64 (N k), .slice D (B k).length cc] 60)).heap.size := by simp
      have hat := at_shape s k hks
      have hkn : ocKnown (s.data.toList.getD k 0) = true := by
        refine List.all_eq_true.1 HK.out _ ?_
        rw [List.getD_eq_getElem?_getD, List.getElem?_eq_getElem (by simpa using hks)]
        exact List.getElem_mem _
      have hk0 : (0 : Int) ≤ (k : Int) := by omega
      go_wp2_with fail
      generalize wr.alloc (.cells #[.int .i64 (N k), .slice D (B k).length cc] 60) = V at *
      have HVb := Lib.hid (stepV HB.out hVb)
      have HBV := Lib.hid (bytesIn_below' HD.out HVb.out)
      have hVbb := hVb
      clear hVb
      by_cases hfit : ocFit (s.data.toList.getD k 0) (N k) (B k) = true
      · have hfd := fun W (hW : Lib.BytesIn W D (B k).length (B k)) => ocField_ok (s.data.toList.getD k 0) (N k) (B k) D cc W hW hfit
        have Hsucc := Lib.hid (show ocAll s.data.toList N B (k + 1) = ocAll s.data.toList N B k ++ ocB (s.data.toList.getD k 0) (N k) (B k) from rfl)
        generalize ocB (s.data.toList.getD k 0) (N k) (B k) = L at *
        simp only [hat] at hfd
        have HFD := Lib.hid hfd
        have HFit := Lib.hid hfit
        have HO2 := Lib.hid (own_keep HO.out hVbb)
        clear hfd hfit hVbb
        clear hat hkn
        go_region_held3 (fun w' => w'.cell? ⟨wr.heap.size, 0, none⟩ = some (.int .i64 (N k)) ∧ w'.cell? ⟨wr.heap.size, 1, none⟩ = some (.slice D (B k).length cc) ∧ Below V.heap.size V w')
          (first
            | exact keepV2 hVl hV0 hV1 (Below.refl _ _)
            | exact keepV2 hVl hV0 hV1 (Below.refl _ _).drew
            | exact keepV2 hVl hV0 hV1 (stepV (And.right (And.right (by assumption))) (by assumption))
            | exact keepV2 hVl hV0 hV1 (stepV (Below.refl _ _).drew hb5)
            | assumption)
          (first
            | (go_at_call 53; refine (HFD.out _ (bytesIn_below' HBV.out (Below.refl _ _).drew)).mono ?_; rintro e w5 ⟨A5, c5, rfl, hB5, hb5⟩))
        have HV5 := Lib.hid (stepV (stepV HVb.out (Below.refl _ _).drew) hb5)
        have hlen := HL.out (k + 1) (by omega)
        rw [Hsucc.out, List.length_append] at hlen
        obtain ⟨v6, w6, hr6, ho6, hg6⟩ := app_bytes (own_keep (own_keep HO2.out (Below.refl _ _).drew) hb5) A5 L.length c5 L rfl hB5 (by have := HV5.out.size; omega) (by have : (k + 1) * (100000 + 8) ≤ 1000 * (100000 + 8) := Nat.mul_le_mul_right _ (by omega); omega)
        have HO6 := Lib.hid ho6
        have HG6 := Lib.hid hg6
        clear hlen ho6 hg6
        go_wp2_with (at_builtin; go_loud (refine Lib.wpList_append_run _ rfl (.tmp 41) (.tmp 42) 34 34 rfl _ _ rfl rfl _ _ hr6 ?_))
        go_round
        case rel =>
          refine ⟨k + 1, v6, by omega, by go_num, rfl, HV5.out.grown HG6.out HV5.out.size (fun j hj => (HO.out.lt j hj).1), ?_, fun i hi => ?_⟩
          · rw [Hsucc.out, List.length_append]; exact HO6.out
          · by_cases e : i = k
            · subst e; exact HFit.out
            · exact HT.out i (by omega)
        case measure => simp only [intOf]; omega
      · have hfd := fun W (hW : ErrC W a 1) => ocField_no (s.data.toList.getD k 0) (N k) (B k) D cc a W hW hkn (by simpa using hfit)
        simp only [hat] at hfd
        have HFD := Lib.hid hfd
        have HFit := Lib.hid hfit
        clear hfd hfit hVbb
        clear hat hkn
        go_region_held3 (fun w' => w'.cell? ⟨wr.heap.size, 0, none⟩ = some (.int .i64 (N k)) ∧ w'.cell? ⟨wr.heap.size, 1, none⟩ = some (.slice D (B k).length cc) ∧ Below V.heap.size V w')
          (first
            | exact keepV2 hVl hV0 hV1 (Below.refl _ _)
            | exact keepV2 hVl hV0 hV1 (Below.refl _ _).drew
            | exact keepV2 hVl hV0 hV1 (stepV (And.right (And.right (by assumption))) (by assumption))
            | exact keepV2 hVl hV0 hV1 (stepV (Below.refl _ _).drew hb5)
            | assumption)
          (first
            | (go_at_call 53; refine (HFD.out _ (HE.out.below (stepV HVb.out (Below.refl _ _).drew))).mono ?_; rintro e w5 ⟨rfl, hb5⟩))
        have HV5 := Lib.hid (stepV (stepV HVb.out (Below.refl _ _).drew) hb5)
        go_wp2_with fail
        go_ret2
        have hno : ¬ ocFits s.data.toList N B n = true := fun h => HFit.out (ocFits_at.1 h k hlt)
        have hr := HR.out
        rw [if_neg hno] at hr
        subst hr
        exact ⟨rfl, HV5.out⟩
    · obtain rfl : k = n := by omega
      have hall : ocFits s.data.toList N B k = true := ocFits_at.2 HT.out
      have hr := HR.out
      rw [if_pos hall] at hr
      subst hr
      have Hz := Lib.hid hall
      clear hall
      go_wp2_with fail
      go_ret2
      obtain ⟨A2, c2, hv⟩ := own_slice HO.out
      subst hv
      exact ⟨A2, c2, rfl, HO.out, HB.out⟩
end Go.Proofs.YtmmiimcodbjnmaaDoor
