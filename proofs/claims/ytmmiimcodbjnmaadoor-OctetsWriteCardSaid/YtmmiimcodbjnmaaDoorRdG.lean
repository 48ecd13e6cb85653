/- octets, reading: begun, Rest, Read. -/
import Derived.Test.YtmmiimcodbjnmaaDoorRdF
namespace Go.Proofs.YtmmiimcodbjnmaaDoor
open Go.RowKit Go.Stop Go.Extern Go.Ranges Go.Rows2
set_option linter.unusedVariables false
set_option linter.unusedSimpArgs false
set_option maxRecDepth 20000
def BegunEnd (w : World) (a : Nat → Addr) (n : Nat) (s : List UInt8) (xs : List Int) (e : Ending) (w' : World) : Prop :=
  (rdErr s xs n = 0 → ∃ v vs B cb, e = .returned (.tuple #[v, .slice B (rdLeft s xs n).length cb, .nilIface]) ∧ RF w' w.heap.size v n vs (rdFN s xs) (rdFB s xs) ∧ Lib.BytesIn w' B (rdLeft s xs n).length (rdLeft s xs n) ∧ Below w.heap.size w w') ∧
    (rdErr s xs n ≠ 0 → e = .returned (.tuple #[.slice none 0 0, .slice none 0 0, errV a (rdErr s xs n)]) ∧ Below w.heap.size w w')
set_option maxHeartbeats 4000000 in
theorem begunF_any (A : Option Addr) (c S : Nat) (s : ByteArray) (xs : List Int) (a : Nat → Addr) (w : World) (hB : Lib.BytesIn w A xs.length xs) (hA : A = none → xs.length = 0) (hL : xs.length ≤ 1000000) (hb : BytesOk xs) (hE : Err3 w a) (hS : w.cell? ⟨S, 0, none⟩ = some (.string s)) (hs : s.size ≤ 100000) :
    Calls Tryd.prog 50 #[.slice A xs.length c, .func (.func 51) #[] #[.pointer (some ⟨S, 0, none⟩)]] w (BegunEnd w a s.size s.data.toList xs) := by
  have b0 : Below w.heap.size w (w.alloc (.cells #[.nilIface] 44)) := alloc_below _ _
  have K := Lib.hid (clone_any A xs.length c xs _ rfl (bytesIn_below' hB b0) (by omega) hA)
  have HB := Lib.hid hb
  have HE := Lib.hid hE
  have HS := Lib.hid hS
  clear hB hA hb hE hS
  go_enter_defers Tryd.func50, Tryd.ntmps50
  go_wp2_with fail
  refine K.out.mono ?_
  rintro e w1 ⟨v, rfl, ⟨A1, c1, rfl, hB1, hl1, hm1, hs1⟩, hb1⟩
  have HB1 := Lib.hid hb1
  have HT1 := Lib.hid (And.intro hB1 (And.intro hl1 (And.intro hm1 hs1)))
  have hz1 := hb1.size
  simp at hz1
  clear hb1 hB1 hl1 hm1 hs1 K
  go_wp2_with fail
  have hTT : ∃ T, (T < w1.heap.size ∧ T ≠ w.heap.size) ∧ ∀ x, A1 = some x → 0 < xs.length → x.block = T := by
    by_cases h0 : 0 < xs.length
    · obtain ⟨b, o, rfl, hc⟩ := HT1.out.1 h0
      exact ⟨b, ⟨World.block_lt_of_cell? _ _ (hc 0 h0), by have := (HT1.out.2.2.2 _ rfl h0).2; simp at this; omega⟩, fun x e _ => by injection e with e; rw [← e]⟩
    · exact ⟨gErr 2, by have := World.block_lt_of_cell? _ _ HE.out.2.1; have h2 : gErr 2 < w.heap.size := this; omega, fun x _ h => absurd h h0⟩
  obtain ⟨T, ⟨hT1, hTE⟩, hT2⟩ := hTT
  have hbw : Below w.heap.size w w1 := b0.trans (HB1.out.mono (by simp))
  have hb2 := alloc_below w1 (.cells #[.slice A1 xs.length c1] 123)
  have hIn : InAt (w1.alloc (.cells #[.slice A1 xs.length c1] 123)) w1.heap.size T xs :=
    ⟨⟨A1, c1, by simp [go_sem], by simp [go_sem], (⟨HT1.out.1, HT1.out.2.1, HT1.out.2.2.1, hT2⟩ : Txt w1 T A1 c1 xs).below hb2⟩, by omega, by simp; omega⟩
  have K2 := Lib.hid (rest1_any w1.heap.size T S s xs a _ hIn HB.out ((HE.out.below hbw).below hb2) ((hb2.cell (p := ⟨S, 0, none⟩) (Nat.lt_of_lt_of_le (World.block_lt_of_cell? _ _ HS.out) hbw.size)).trans ((hbw.cell (p := ⟨S, 0, none⟩) (World.block_lt_of_cell? _ _ HS.out)).trans HS.out)) hs)
  have he1 : w1.cell? ⟨w.heap.size, 0, none⟩ = some .nilIface := (HB1.out.cell (p := ⟨w.heap.size, 0, none⟩) (by simp)).trans (by simp [go_sem])
  have he2 : w1.frozen? ⟨w.heap.size, 0, none⟩ = false := (HB1.out.frozen (p := ⟨w.heap.size, 0, none⟩) (by simp)).trans (by simp [go_sem])
  have HEB := Lib.hid fun (W : World) (hc : Chg (fun k => k = w1.heap.size) (w1.alloc (.cells #[.slice A1 xs.length c1] 123)) W) => (show W.cell? ⟨w.heap.size, 0, none⟩ = some .nilIface ∧ W.frozen? ⟨w.heap.size, 0, none⟩ = false from
    ⟨(World.cell?_of_block (a := ⟨w.heap.size, 0, none⟩) (hc.block w.heap.size (by simp; omega) (by show ¬ w.heap.size = w1.heap.size; omega))).trans ((hb2.cell (p := ⟨w.heap.size, 0, none⟩) (by show w.heap.size < _; omega)).trans he1),
     (World.frozen?_of_block (a := ⟨w.heap.size, 0, none⟩) (hc.block w.heap.size (by simp; omega) (by show ¬ w.heap.size = w1.heap.size; omega))).trans ((hb2.frozen (p := ⟨w.heap.size, 0, none⟩) (by show w.heap.size < _; omega)).trans he2)⟩)
  have HBW := Lib.hid (And.intro hbw hb2)
  clear he1 he2 hbw hb2 hIn hT2
  by_cases hr : rdErr s.data.toList xs s.size = 0
  · have HR := Lib.hid hr
    clear hr
    refine K2.out.mono ?_
    rintro e w3 ⟨hok, _⟩
    obtain ⟨v, vs, rfl, hF, hI, hC⟩ := hok HR.out
    obtain ⟨f1, f2⟩ := HEB.out _ hC
    obtain ⟨⟨B, cb, g1, g2, g3⟩, g4, g5⟩ := hI
    have HF := Lib.hid hF
    have HG := Lib.hid g3
    have HC := Lib.hid hC
    have hI3 : w1.heap.size < w3.heap.size := World.block_lt_of_cell? _ _ g1
    have hne : w1.heap.size ≠ w.heap.size := by omega
    clear hF g2 g3 g5 hC hok
    generalize hle : rdLeft s.data.toList xs s.size = left at *
    have HLE := Lib.hid hle
    clear hle
    go_wp2_with fail
    go_region
    all_goals
      go_wp2_with fail
      refine leaves_cons (f := 76) (args := #[.pointer (some ⟨w.heap.size, 0, none⟩)]) (by simp) (by simp [go_sem]) ?_
      refine (caught_idle w.heap.size _).mono ?_
      rintro e u' w'' ⟨rfl, rfl, rfl⟩
      refine ⟨.tuple #[v, .slice B left.length cb, .nilIface], by simp [results, Tryd.results50, go_sem, f1], fun _ => ⟨v, vs, B, cb, by rw [HLE.out], ?_, ?_, ?_⟩, fun h => absurd HR.out h⟩
      · exact (((HF.out.chg (chg_cell w3 w.heap.size 0 .nilIface) (by simp; omega)).below (Below.refl _ _).drew)).mono (by simp; omega)
      · rw [HLE.out]
        exact ((HG.out.chg (chg_cell w3 w.heap.size 0 .nilIface) hTE).below (Below.refl _ _).drew).at_
      · exact (HBW.out.1.trans ((HBW.out.2.mono (by omega)).trans ((HC.out.below (by simp; omega) (fun k hk => by omega)).trans ((chg_cell w3 w.heap.size 0 .nilIface).below (by omega) (fun k hk => by omega))))).drew
  · have HR := Lib.hid hr
    clear hr
    refine K2.out.mono ?_
    rintro e w3 ⟨_, hno⟩
    obtain ⟨rfl, hC⟩ := hno HR.out
    obtain ⟨f1, f2⟩ := HEB.out _ hC
    have HC := Lib.hid hC
    have hn := HR.out
    clear hC hno
    generalize hne : rdErr s.data.toList xs s.size = n at *
    have HNE := Lib.hid hne
    clear hne
    have hev : errV a n = .iface 199 (.pointer (some (a n))) := by unfold errV; rw [if_neg hn]
    rw [hev]
    refine leaves_cons (f := 76) (args := #[.pointer (some ⟨w.heap.size, 0, none⟩)]) (by simp) (by simp [go_sem]) ?_
    refine (caught_halt w.heap.size (a n) .nilIface _ f1 f2).mono ?_
    rintro e u' w'' ⟨rfl, hu, hc, hC2⟩
    simp only [hu]
    refine ⟨.tuple #[.slice none 0 0, .slice none 0 0, errV a n], by simp [results, Tryd.results50, go_sem, hc, hev], ?_⟩
    exact ⟨fun h => absurd (HNE.out.symm.trans h) hn, fun _ => ⟨by rw [HNE.out], HBW.out.1.trans ((HBW.out.2.mono (by omega)).trans ((HC.out.below (by simp; omega) (fun k hk => by omega)).trans (hC2.below (by have := HC.out.size; simp at this; omega) (fun k hk => by omega))))⟩⟩
end Go.Proofs.YtmmiimcodbjnmaaDoor
