/- octets, reading a number by a function: begun, Take. -/
import Derived.Test.YtmmiimcodbjnmaaDoorTkB
import Derived.Test.YtmmiimcodbjnmaaDoorRdF
namespace Go.Proofs.YtmmiimcodbjnmaaDoor
open Go.RowKit Go.Stop Go.Extern Go.Ranges Go.Rows2
set_option linter.unusedVariables false
set_option linter.unusedSimpArgs false
set_option maxRecDepth 20000
def BegunI (w : World) (a : Nat → Addr) (n : Nat) (z : Int) (left : List Int) (e : Ending) (w' : World) : Prop :=
  (n = 0 → ∃ B cb, e = .returned (.tuple #[.int .i64 z, .slice B left.length cb, .nilIface]) ∧ Lib.BytesIn w' B left.length left ∧ Below w.heap.size w w') ∧
    (n ≠ 0 → e = .returned (.tuple #[.int .i64 0, .slice none 0 0, errV a n]) ∧ Below w.heap.size w w')
set_option maxHeartbeats 4000000 in
theorem begunI_any (F n : Nat) (eg : ∀ args w, (callFunc F args).run Tryd.prog w = .ok (.enter F args) w) (z : Int) (left : List Int) (A : Option Addr) (c : Nat) (xs : List Int) (a : Nat → Addr) (w : World) (hB : Lib.BytesIn w A xs.length xs) (hA : A = none → xs.length = 0) (hL : xs.length ≤ 1000000) (hE : Errs w a) (hF : ∀ I T W, InAt W I T xs → Errs W a → Calls Tryd.prog F #[.pointer (some ⟨I, 0, none⟩)] W (IntEnd W a I T n z left)) :
    Calls Tryd.prog 54 #[.slice A xs.length c, .func (.func F) #[] #[]] w (BegunI w a n z left) := by
  have b0 : Below w.heap.size w (w.alloc (.cells #[.nilIface] 44)) := alloc_below _ _
  have K := Lib.hid (clone_any A xs.length c xs _ rfl (bytesIn_below' hB b0) (by omega) hA)
  have HE := Lib.hid hE
  have HFn := Lib.hid hF
  clear hB hA hE hF
  go_enter_defers Tryd.func54, Tryd.ntmps54
  go_wp2_with fail
  refine K.out.mono ?_
  rintro e w1 ⟨v, rfl, ⟨A1, c1, rfl, hB1, hl1, hm1, hs1⟩, hb1⟩
  have HB1 := Lib.hid hb1
  have HT1 := Lib.hid (And.intro hB1 (And.intro hl1 (And.intro hm1 hs1)))
  have hz1 := hb1.size
  simp at hz1
  clear hb1 hB1 hl1 hm1 hs1 K
  go_wp2_with fail
  have hTT : ∃ T, (T < w1.heap.size ∧ T ≠ w.heap.size) ∧ ∀ x, A1 = some x → 0 < xs.length → x.block = T := by
    by_cases h0 : 0 < xs.length
    · obtain ⟨b, o, rfl, hc⟩ := HT1.out.1 h0
      exact ⟨b, ⟨World.block_lt_of_cell? _ _ (hc 0 h0), by have := (HT1.out.2.2.2 _ rfl h0).2; simp at this; omega⟩, fun x e _ => by injection e with e; rw [← e]⟩
    · exact ⟨gErr 2, by have := World.block_lt_of_cell? _ _ (HE.out.c 2 (by decide) (by decide)); have h2 : gErr 2 < w.heap.size := this; omega, fun x _ h => absurd h h0⟩
  obtain ⟨T, ⟨hT1, hTE⟩, hT2⟩ := hTT
  have hbw : Below w.heap.size w w1 := b0.trans (HB1.out.mono (by simp))
  have hb2 := alloc_below w1 (.cells #[.slice A1 xs.length c1] 123)
  have hIn : InAt (w1.alloc (.cells #[.slice A1 xs.length c1] 123)) w1.heap.size T xs :=
    ⟨⟨A1, c1, by simp [go_sem], by simp [go_sem], (⟨HT1.out.1, HT1.out.2.1, HT1.out.2.2.1, hT2⟩ : Txt w1 T A1 c1 xs).below hb2⟩, by omega, by simp; omega⟩
  have K2 := Lib.hid (HFn.out w1.heap.size T _ hIn ((HE.out.below hbw).below hb2))
  have he1 : w1.cell? ⟨w.heap.size, 0, none⟩ = some .nilIface := (HB1.out.cell (p := ⟨w.heap.size, 0, none⟩) (by simp)).trans (by simp [go_sem])
  have he2 : w1.frozen? ⟨w.heap.size, 0, none⟩ = false := (HB1.out.frozen (p := ⟨w.heap.size, 0, none⟩) (by simp)).trans (by simp [go_sem])
  have HEB := Lib.hid fun (W : World) (hc : Chg (fun k => k = w1.heap.size) (w1.alloc (.cells #[.slice A1 xs.length c1] 123)) W) => (show W.cell? ⟨w.heap.size, 0, none⟩ = some .nilIface ∧ W.frozen? ⟨w.heap.size, 0, none⟩ = false from
    ⟨(World.cell?_of_block (a := ⟨w.heap.size, 0, none⟩) (hc.block w.heap.size (by simp; omega) (by show ¬ w.heap.size = w1.heap.size; omega))).trans ((hb2.cell (p := ⟨w.heap.size, 0, none⟩) (by show w.heap.size < _; omega)).trans he1),
     (World.frozen?_of_block (a := ⟨w.heap.size, 0, none⟩) (hc.block w.heap.size (by simp; omega) (by show ¬ w.heap.size = w1.heap.size; omega))).trans ((hb2.frozen (p := ⟨w.heap.size, 0, none⟩) (by show w.heap.size < _; omega)).trans he2)⟩)
  have HBW := Lib.hid (And.intro hbw hb2)
  clear he1 he2 hbw hb2 hIn hT2
  by_cases hr : n = 0
  · have HR := Lib.hid hr
    clear hr
    refine K2.out.mono ?_
    rintro e w3 ⟨hok, _⟩
    obtain ⟨rfl, hI, hC⟩ := hok HR.out
    obtain ⟨f1, f2⟩ := HEB.out _ hC
    obtain ⟨⟨B, cb, g1, g2, g3⟩, g4, g5⟩ := hI
    have HG := Lib.hid g3
    have HC := Lib.hid hC
    have hI3 : w1.heap.size < w3.heap.size := World.block_lt_of_cell? _ _ g1
    have hne : w1.heap.size ≠ w.heap.size := by omega
    clear g2 g3 g5 hC hok
    go_wp2_with fail
    go_region
    all_goals
      go_wp2_with fail
      refine leaves_cons (f := 76) (args := #[.pointer (some ⟨w.heap.size, 0, none⟩)]) (by simp) (by simp [go_sem]) ?_
      refine (caught_idle w.heap.size _).mono ?_
      rintro e u' w'' ⟨rfl, rfl, rfl⟩
      refine ⟨.tuple #[.int .i64 z, .slice B left.length cb, .nilIface], by simp [results, Tryd.results54, go_sem, f1], fun _ => ⟨B, cb, rfl, ?_, ?_⟩, fun h => absurd HR.out h⟩
      · exact ((HG.out.chg (chg_cell w3 w.heap.size 0 .nilIface) hTE).below (Below.refl _ _).drew).at_
      · exact (HBW.out.1.trans ((HBW.out.2.mono (by omega)).trans ((HC.out.below (by simp; omega) (fun k hk => by omega)).trans ((chg_cell w3 w.heap.size 0 .nilIface).below (by omega) (fun k hk => by omega))))).drew
  · have HR := Lib.hid hr
    clear hr
    refine K2.out.mono ?_
    rintro e w3 ⟨_, hno⟩
    obtain ⟨rfl, hC⟩ := hno HR.out
    obtain ⟨f1, f2⟩ := HEB.out _ hC
    have HC := Lib.hid hC
    have hn := HR.out
    clear hC hno
    have hev : errV a n = .iface 199 (.pointer (some (a n))) := by unfold errV; rw [if_neg hn]
    rw [hev]
    refine leaves_cons (f := 76) (args := #[.pointer (some ⟨w.heap.size, 0, none⟩)]) (by simp) (by simp [go_sem]) ?_
    refine (caught_halt w.heap.size (a n) .nilIface _ f1 f2).mono ?_
    rintro e u' w'' ⟨rfl, hu, hc, hC2⟩
    simp only [hu]
    refine ⟨.tuple #[.int .i64 0, .slice none 0 0, errV a n], by simp [results, Tryd.results54, go_sem, hc, hev], ?_⟩
    exact ⟨fun h => absurd h hn, fun _ => ⟨rfl, HBW.out.1.trans ((HBW.out.2.mono (by omega)).trans ((HC.out.below (by simp; omega) (fun k hk => by omega)).trans (hC2.below (by have := HC.out.size; simp at this; omega) (fun k hk => by omega))))⟩⟩

/-- How Take ends. -/
def tkC (n : Nat) (left : List Int) : Nat := if n ≠ 0 then n else if left.length = 0 then 0 else 3
def TakeI (w : World) (a : Nat → Addr) (n : Nat) (z : Int) (left : List Int) (e : Ending) (w' : World) : Prop :=
  e = .returned (.tuple #[.int .i64 (if tkC n left = 0 then z else 0), errV a (tkC n left)]) ∧ Below w.heap.size w w'
set_option maxHeartbeats 4000000 in
theorem takeI_any (F n : Nat) (eg : ∀ args w, (callFunc F args).run Tryd.prog w = .ok (.enter F args) w) (z : Int) (left : List Int) (A : Option Addr) (c : Nat) (xs : List Int) (a : Nat → Addr) (w : World) (hB : Lib.BytesIn w A xs.length xs) (hA : A = none → xs.length = 0) (hL : xs.length ≤ 1000000) (hE : Errs w a) (hF : ∀ I T W, InAt W I T xs → Errs W a → Calls Tryd.prog F #[.pointer (some ⟨I, 0, none⟩)] W (IntEnd W a I T n z left)) :
    Calls Tryd.prog 26 #[.slice A xs.length c, .func (.func F) #[] #[]] w (TakeI w a n z left) := by
  have K := Lib.hid (begunI_any F n eg z left A c xs a w hB hA hL hE hF)
  have HE := Lib.hid hE
  clear hB hA hE hF
  go_enter Tryd.func26, Tryd.ntmps26
  go_wp2_with fail
  by_cases hr : n = 0
  · refine K.out.mono ?_
    rintro e w3 ⟨hok, _⟩
    obtain ⟨B, cb, rfl, hB, hb⟩ := hok hr
    have HW := Lib.hid hb
    have h3 := (HE.out.below hb).at 3 (by decide) (by decide)
    simp only [gErr] at h3
    clear hB hb hok
    have hC : tkC n left = if left.length = 0 then 0 else 3 := by
      unfold tkC
      rw [if_neg (fun h => h hr)]
    have HC := Lib.hid hC
    clear hC hr K
    generalize left.length = m at *
    by_cases h0 : m = 0
    · have hd : decide ((0 : Int) < (m : Int)) = false := by simp; omega
      have hd2 : decide (0 < m) = false := by simp; omega
      have HC0 := Lib.hid (HC.out.trans (if_pos h0))
      clear h0
      go_wp2_with fail
      go_ret2
      exact ⟨by rw [HC0.out]; rfl, HW.out⟩
    · have hd : decide ((0 : Int) < (m : Int)) = true := by simp; omega
      have hd2 : decide (0 < m) = true := by simp; omega
      have HC0 := Lib.hid (HC.out.trans (if_neg h0))
      clear h0
      go_wp2_with fail
      go_quiet (fail)
      all_goals (
        go_wp2_with fail
        go_ret2
        exact ⟨by rw [HC0.out]; rfl, stepV HW.out (below_drewN _ _)⟩)
  · refine K.out.mono ?_
    rintro e w3 ⟨_, hno⟩
    obtain ⟨rfl, hb⟩ := hno hr
    have HW := Lib.hid hb
    have HR := Lib.hid hr
    have hC : tkC n left = n := by
      unfold tkC
      rw [if_pos hr]
    have HC := Lib.hid hC
    have hev : errV a n = .iface 199 (.pointer (some (a n))) := by unfold errV; rw [if_neg hr]
    rw [hev]
    have HEV := Lib.hid hev
    clear hb hno hC hr K hev
    go_wp2_with fail
    go_ret2
    exact ⟨by rw [HC.out, if_neg HR.out, HEV.out]; rfl, HW.out⟩
end Go.Proofs.YtmmiimcodbjnmaaDoor
