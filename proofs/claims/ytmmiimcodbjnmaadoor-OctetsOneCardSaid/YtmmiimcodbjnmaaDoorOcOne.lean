/- OctetsOne: the walk. -/
import Derived.Test.YtmmiimcodbjnmaaDoorOcAl
import Derived.Test.YtmmiimcodbjnmaaDoorRdQ
import Derived.Test.YtmmiimcodbjnmaaDoorRdU
namespace Go.Proofs.YtmmiimcodbjnmaaDoor
open Go.RowKit Go.Stop Go.Extern Go.Ranges Go.Rows2
set_option linter.unusedVariables false
set_option linter.unusedSimpArgs false
set_option maxRecDepth 100000
theorem strOf_app (l m : List Int) : strOfNums l ++ strOfNums m = strOfNums (l ++ m) := by
  apply ByteArray.ext
  simp [strOfNums]
theorem known_at {s : ByteArray} (hk : s.data.toList.all ocKnown = true) (i : Nat) (hi : i < s.size) : ocKnown (s.data.toList.getD i 0) = true := by
  refine List.all_eq_true.1 hk _ ?_
  rw [List.getD_eq_getElem?_getD, List.getElem?_eq_getElem (by simpa using hi)]
  exact List.getElem_mem _
theorem rdFB_len {s : List UInt8} {xs : List Int} (hb : BytesOk xs) (i : Nat) : (rdFB s xs i).length ≤ xs.length := by
  have hl : ∀ k, (rdLeft s xs k).length ≤ xs.length := fun k => by
    induction k with
    | zero => exact Nat.le_refl _
    | succ k ih =>
      show ((rdLeft s xs k).drop _).length ≤ _
      rw [List.length_drop]
      omega
  have := hl i
  unfold rdFB rdB
  split
  · rw [List.length_take]; omega
  · split
    · rw [List.length_take, List.length_drop]; omega
    · exact Nat.zero_le _
set_option maxHeartbeats 4000000 in
theorem octetsOne_walk (s : ByteArray) (A : Option Addr) (c : Nat) (xs : List Int) (a : Nat → Addr) (w : World) (HE : Err3 w a) (hB : Lib.BytesIn w A xs.length xs) (hb : BytesOk xs) :
    Calls Tryd.prog 6 #[.string s, .slice A xs.length c] w fun e w' => e = .returned (.bool true) ∧ Below w.heap.size w w' := by
  have K := Lib.hid (alive02 a w HE.1)
  have hA : A = none → xs.length = 0 := fun e => by
    by_cases h0 : xs.length = 0
    · exact h0
    · obtain ⟨b, o, e2, _⟩ := hB (by omega)
      rw [e] at e2
      cases e2
  have HEh := Lib.hid HE
  have HBh := Lib.hid hB
  have HAh := Lib.hid hA
  have HOh := Lib.hid hb
  clear HE hB hA hb
  go_enter Tryd.func6, Tryd.ntmps6
  go_wp2_with fail
  refine K.out.mono ?_
  rintro e w1 ⟨rfl, hb1⟩
  have HB1 := Lib.hid hb1
  clear hb1 K
  by_cases h1 : 60 < s.size
  · have hd : decide ((60 : Int) < (s.size : Int)) = true := by simp; omega
    go_wp2_with fail
    go_ret
    exact ⟨rfl, HB1.out⟩
  have hd : decide ((60 : Int) < (s.size : Int)) = false := by simp; omega
  by_cases h2 : 1000 < xs.length
  · have hd2 : decide ((1000 : Int) < (xs.length : Int)) = true := by simp; omega
    go_wp2_with fail
    go_ret
    exact ⟨rfl, HB1.out⟩
  have hd2 : decide ((1000 : Int) < (xs.length : Int)) = false := by simp; omega
  cases hk : s.data.toList.all ocKnown with
  | false =>
    have KR := Lib.hid (rest_no A xs.length c s a w1 (HEh.out.below HB1.out).2.2 (by omega) hk)
    have hev : errV a 7 = .iface 199 (.pointer (some (a 7))) := rfl
    rw [hev] at KR
    clear hk hev
    go_wp2_with fail
    refine KR.out.mono ?_
    rintro e w2 ⟨rfl, hb2⟩
    have HB2 := Lib.hid (stepV HB1.out hb2)
    clear hb2 KR
    go_wp2_with fail
    go_ret
    exact ⟨rfl, HB2.out⟩
  | true =>
    have HK := Lib.hid hk
    have KR := Lib.hid (rest_any A c s xs a w1 (bytesIn_below' HBh.out HB1.out) HAh.out (by omega) HOh.out (HEh.out.below HB1.out) (by omega) hk)
    clear hk
    go_wp2_with fail
    by_cases hr : rdErr s.data.toList xs s.size = 0
    · have HR := Lib.hid hr
      clear hr
      refine KR.out.mono ?_
      rintro e w2 ⟨hok, _⟩
      obtain ⟨v, vs, B, cb, rfl, hF, hB2, hb2⟩ := hok HR.out
      obtain ⟨A2, c2, hv⟩ := own_slice hF.own
      subst hv
      have HF := Lib.hid hF
      have HL := Lib.hid hB2
      have HB2 := Lib.hid (stepV HB1.out hb2)
      have hfit := rd_fits HOh.out s.size (fun i hi => known_at HK.out i hi) HR.out
      have hall := oc_rd_all HOh.out s.size (fun i hi => known_at HK.out i hi) HR.out
      have KW := ocWrite_go s A2 s.size c2 (rdFN s.data.toList xs) (rdFB s.data.toList xs) a w2 (HEh.out.1.below HB2.out) rfl (by omega) HK.out hF.fields (fun i hi => by
        have := rdFB_len (s := s.data.toList) HOh.out i
        omega)
      rw [if_pos hfit] at KW
      generalize ocAll s.data.toList (rdFN s.data.toList xs) (rdFB s.data.toList xs) s.size = l at *
      generalize rdLeft s.data.toList xs s.size = left at *
      have KWh := Lib.hid KW
      have HALL := Lib.hid hall
      clear hok hF hB2 hb2 hfit hall KW KR
      go_wp2_with fail
      refine KWh.out.mono ?_
      rintro e w3 ⟨A3, c3, rfl, ho3, hb3⟩
      have HB3 := Lib.hid (stepV HB2.out hb3)
      have cv1 := (own_bytes ho3).convert (P := Tryd.prog) rfl c3 34 5 9 Tryd.underlying34 Tryd.underlying5 Tryd.underlying9
      have cv2 := (bytesIn_below' HL.out hb3).convert (P := Tryd.prog) rfl cb 34 5 9 Tryd.underlying34 Tryd.underlying5 Tryd.underlying9
      have cv3 := (bytesIn_below' HBh.out HB3.out).convert (P := Tryd.prog) rfl c 34 5 9 Tryd.underlying34 Tryd.underlying5 Tryd.underlying9
      have happ : strOfNums l ++ strOfNums left = strOfNums xs := by rw [strOf_app, HALL.out]
      have hsz : ¬ (maxLen < (strOfNums l).size + (strOfNums left).size) := by
        have h3 : l.length + left.length = xs.length := by rw [← HALL.out, List.length_append]
        rw [strOfNums_size, strOfNums_size]
        unfold maxLen
        omega
      generalize strOfNums l = s1 at *
      generalize strOfNums left = s2 at *
      generalize strOfNums xs = s3 at *
      subst happ
      have hss : ((s1 ++ s2).toList == (s1 ++ s2).toList) = true := by simp
      clear ho3 hb3 KWh
      go_wp2_with fail
      go_ret
      exact ⟨rfl, HB3.out⟩
    · have HR := Lib.hid hr
      clear hr
      refine KR.out.mono ?_
      rintro e w2 ⟨_, hno⟩
      obtain ⟨rfl, hb2⟩ := hno HR.out
      have HB2 := Lib.hid (stepV HB1.out hb2)
      have hn := HR.out
      generalize rdErr s.data.toList xs s.size = n at *
      have hev : errV a n = .iface 199 (.pointer (some (a n))) := by unfold errV; rw [if_neg hn]
      rw [hev]
      clear hno hb2 KR hev hn HR
      go_wp2_with fail
      go_ret
      exact ⟨rfl, HB2.out⟩
end Go.Proofs.YtmmiimcodbjnmaaDoor
