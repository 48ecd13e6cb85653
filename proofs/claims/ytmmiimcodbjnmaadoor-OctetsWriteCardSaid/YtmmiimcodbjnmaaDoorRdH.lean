/- octets, reading: Rest, Read. -/
import Derived.Test.YtmmiimcodbjnmaaDoorRdG
namespace Go.Proofs.YtmmiimcodbjnmaaDoor
open Go.RowKit Go.Stop Go.Extern Go.Ranges Go.Rows2
set_option linter.unusedVariables false
set_option linter.unusedSimpArgs false
set_option maxRecDepth 20000
set_option maxHeartbeats 4000000 in
theorem rest_any (A : Option Addr) (c : Nat) (s : ByteArray) (xs : List Int) (a : Nat → Addr) (w : World) (hB : Lib.BytesIn w A xs.length xs) (hA : A = none → xs.length = 0) (hL : xs.length ≤ 1000000) (hb : BytesOk xs) (hE : Err3 w a) (hs : s.size ≤ 100000) (hk : s.data.toList.all ocKnown = true) :
    Calls Tryd.prog 24 #[.string s, .slice A xs.length c] w (BegunEnd w a s.size s.data.toList xs) := by
  have hmf : ∀ (fn : Fn) (first cap : Array Value) (w : World), (Instr.makeFunc fn first cap).run Tryd.prog w = .ok (.func fn first cap) w := fun _ _ _ _ => rfl
  have b0 := alloc_below w (.cells #[.string s] 9)
  have hB0 := bytesIn_below' hB b0
  have hE0 := hE.below b0
  have K := Lib.hid fun (W : World) (h : Below (w.alloc (.cells #[.string s] 9)).heap.size (w.alloc (.cells #[.string s] 9)) W) => begunF_any A c w.heap.size s xs a W (bytesIn_below' hB0 h) hA hL hb (hE0.below h) ((h.cell (p := ⟨w.heap.size, 0, none⟩) (by simp)).trans (by simp [go_sem])) hs
  have hka := fun W => ocKnown_any s W (by unfold maxLen; omega)
  rw [hk] at hka
  clear hB hA hb hE hB0 hE0
  go_enter Tryd.func24, Tryd.ntmps24
  go_wp2_with fail
  refine (hka _).mono ?_
  rintro e w1 ⟨rfl, hb1⟩
  have HB1 := Lib.hid hb1
  have HB1' := Lib.hid (stepV b0 hb1)
  clear hb1 hka
  go_wp2_with fail
  by_cases hr : rdErr s.data.toList xs s.size = 0
  · have HR := Lib.hid hr
    clear hr
    refine (K.out _ HB1.out).mono ?_
    rintro e w3 ⟨hok, _⟩
    obtain ⟨v, vs, B, cb, rfl, hF, hB, hb⟩ := hok HR.out
    have HF := Lib.hid hF
    have HB := Lib.hid hB
    have HW := Lib.hid (stepV HB1'.out hb)
    obtain ⟨A9, c9, hv⟩ := own_slice hF.own
    subst hv
    clear hF hB hb hok
    generalize hle : rdLeft s.data.toList xs s.size = left at *
    have HLE := Lib.hid hle
    clear hle
    have HZ := Lib.hid HB1'.out.size
    go_wp2_with fail
    go_ret3
    exact ⟨fun _ => ⟨_, vs, B, cb, by rw [HLE.out]; rfl, HF.out.mono HZ.out, by rw [HLE.out]; exact HB.out, HW.out⟩, fun h => absurd HR.out h⟩
  · have HR := Lib.hid hr
    clear hr
    refine (K.out _ HB1.out).mono ?_
    rintro e w3 ⟨_, hno⟩
    obtain ⟨rfl, hb⟩ := hno HR.out
    have HW := Lib.hid (stepV HB1'.out hb)
    have hn := HR.out
    clear hb hno
    generalize hne : rdErr s.data.toList xs s.size = n at *
    have HNE := Lib.hid hne
    clear hne
    have hev : errV a n = .iface 199 (.pointer (some (a n))) := by unfold errV; rw [if_neg hn]
    rw [hev]
    have HEV := Lib.hid hev
    clear hev
    go_wp2_with fail
    go_ret3
    exact ⟨fun h => absurd (HNE.out.symm.trans h) hn, fun _ => ⟨by rw [HNE.out, HEV.out]; rfl, HW.out⟩⟩
/-- How Read ends. -/
def readC (s : List UInt8) (xs : List Int) (n : Nat) : Nat := if rdErr s xs n ≠ 0 then rdErr s xs n else if (rdLeft s xs n).length = 0 then 0 else 3
def ReadEnd (w : World) (a : Nat → Addr) (n : Nat) (s : List UInt8) (xs : List Int) (e : Ending) (w' : World) : Prop :=
  (readC s xs n = 0 → ∃ v vs, e = .returned (.tuple #[v, .nilIface]) ∧ RF w' w.heap.size v n vs (rdFN s xs) (rdFB s xs) ∧ Below w.heap.size w w') ∧
    (readC s xs n ≠ 0 → e = .returned (.tuple #[.slice none 0 0, errV a (readC s xs n)]) ∧ Below w.heap.size w w')
set_option maxHeartbeats 4000000 in
theorem read_any (A : Option Addr) (c : Nat) (s : ByteArray) (xs : List Int) (a : Nat → Addr) (w : World) (hB : Lib.BytesIn w A xs.length xs) (hA : A = none → xs.length = 0) (hL : xs.length ≤ 1000000) (hb : BytesOk xs) (hE : Err3 w a) (hE3 : ErrC w a 3) (hs : s.size ≤ 100000) (hk : s.data.toList.all ocKnown = true) :
    Calls Tryd.prog 34 #[.string s, .slice A xs.length c] w (ReadEnd w a s.size s.data.toList xs) := by
  have K := Lib.hid (rest_any A c s xs a w hB hA hL hb hE hs hk)
  have HE3 := Lib.hid hE3
  clear hB hA hb hE hE3
  go_enter Tryd.func34, Tryd.ntmps34
  go_wp2_with fail
  by_cases hr : rdErr s.data.toList xs s.size = 0
  · have HR := Lib.hid hr
    clear hr
    refine K.out.mono ?_
    rintro e w3 ⟨hok, _⟩
    obtain ⟨v, vs, B, cb, rfl, hF, hB, hb⟩ := hok HR.out
    have HF := Lib.hid hF
    have HW := Lib.hid hb
    have h3 := HE3.out.below hb
    simp only [ErrC, gErr] at h3
    obtain ⟨A9, c9, hv⟩ := own_slice hF.own
    subst hv
    clear hF hB hb hok
    have hC : readC s.data.toList xs s.size = if (rdLeft s.data.toList xs s.size).length = 0 then 0 else 3 := by
      unfold readC
      rw [if_neg (fun h => h HR.out)]
    have HC := Lib.hid hC
    clear hC
    generalize (rdLeft s.data.toList xs s.size).length = m at *
    by_cases h0 : m = 0
    · have hd : decide ((0 : Int) < (m : Int)) = false := by simp; omega
      have hd2 : decide (0 < m) = false := by simp; omega
      have hC0 : readC s.data.toList xs s.size = 0 := by rw [HC.out, if_pos h0]
      have HC0 := Lib.hid hC0
      clear hC0 h0
      go_wp2_with fail
      go_ret2
      exact ⟨fun _ => ⟨_, vs, rfl, HF.out, HW.out⟩, fun h => absurd HC0.out h⟩
    · have hd : decide ((0 : Int) < (m : Int)) = true := by simp; omega
      have hd2 : decide (0 < m) = true := by simp; omega
      have hC0 : readC s.data.toList xs s.size = 3 := by rw [HC.out, if_neg h0]
      have HC0 := Lib.hid hC0
      clear hC0 h0
      go_wp2_with fail
      go_quiet (fail)
      all_goals (
        go_wp2_with fail
        go_ret2
        exact ⟨fun h => absurd (HC0.out.symm.trans h) (by decide), fun _ => ⟨by rw [HC0.out]; rfl, stepV HW.out (below_drewN _ _)⟩⟩)
  · have HR := Lib.hid hr
    clear hr
    refine K.out.mono ?_
    rintro e w3 ⟨_, hno⟩
    obtain ⟨rfl, hb⟩ := hno HR.out
    have HW := Lib.hid hb
    have hn := HR.out
    have hC : readC s.data.toList xs s.size = rdErr s.data.toList xs s.size := by
      unfold readC
      rw [if_pos hn]
    have HC := Lib.hid hC
    clear hb hno hC
    generalize hne : rdErr s.data.toList xs s.size = n at *
    clear hne
    have hev : errV a n = .iface 199 (.pointer (some (a n))) := by unfold errV; rw [if_neg hn]
    rw [hev]
    have HEV := Lib.hid hev
    clear hev
    go_wp2_with fail
    go_ret2
    exact ⟨fun h => absurd (HC.out.symm.trans h) hn, fun _ => ⟨by rw [HC.out, HEV.out]; rfl, HW.out⟩⟩
end Go.Proofs.YtmmiimcodbjnmaaDoor
