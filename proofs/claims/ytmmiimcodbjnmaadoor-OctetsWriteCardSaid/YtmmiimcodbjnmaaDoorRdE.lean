/- octets, reading: the fields of a shape, one by one. -/
import Derived.Test.YtmmiimcodbjnmaaDoorRdO
import Derived.Test.YtmmiimcodbjnmaaDoorFld
import Derived.Lib.ConvBytes
namespace Go.Proofs.YtmmiimcodbjnmaaDoor
open Go.RowKit Go.Stop Go.Extern Go.Ranges Go.Rows2
set_option linter.unusedVariables false
set_option linter.unusedSimpArgs false
set_option maxRecDepth 20000
/-- What is left ahead of letter k. -/
def rdLeft (s : List UInt8) (xs : List Int) : Nat → List Int
  | 0 => xs
  | k + 1 => (rdLeft s xs k).drop (rdLen (s.getD k 0) (rdLeft s xs k))
/-- The error's number after k letters. -/
def rdErr (s : List UInt8) (xs : List Int) : Nat → Nat
  | 0 => 0
  | k + 1 => if rdErr s xs k ≠ 0 then rdErr s xs k else rdC (s.getD k 0) (rdLeft s xs k)
def rdFN (s : List UInt8) (xs : List Int) (k : Nat) : Int := rdN (s.getD k 0) (rdLeft s xs k)
def rdFB (s : List UInt8) (xs : List Int) (k : Nat) : List Int := rdB (s.getD k 0) (rdLeft s xs k)
theorem rdLeft_ok {s : List UInt8} {xs : List Int} (h : BytesOk xs) (k : Nat) : BytesOk (rdLeft s xs k) := by
  induction k with
  | zero => exact h
  | succ k ih => exact ih.drop _
theorem rdErr_mono {s : List UInt8} {xs : List Int} {k : Nat} (h : rdErr s xs k ≠ 0) (n : Nat) (hn : k ≤ n) : rdErr s xs n = rdErr s xs k := by
  induction n with
  | zero =>
    have e : k = 0 := by omega
    rw [e]
  | succ n ih =>
    by_cases e : k = n + 1
    · rw [e]
    · have := ih (by omega)
      show (if rdErr s xs n ≠ 0 then rdErr s xs n else _) = _
      rw [if_pos (by rw [this]; exact h), this]
theorem rdErr_zero {s : List UInt8} {xs : List Int} {n : Nat} (h : rdErr s xs n = 0) (k : Nat) (hk : k ≤ n) : rdErr s xs k = 0 := by
  by_cases e : rdErr s xs k = 0
  · exact e
  · have := rdErr_mono e n hk
    rw [h] at this
    exact absurd this.symm e
/-- The fields read, or why not. -/
def RestEnd (w : World) (a : Nat → Addr) (I T n : Nat) (s : List UInt8) (xs : List Int) (e : Ending) (w' : World) : Prop :=
  (rdErr s xs n = 0 → ∃ v vs, e = .returned v ∧ RF w' w.heap.size v n vs (rdFN s xs) (rdFB s xs) ∧ InAt w' I T (rdLeft s xs n) ∧ Chg (fun k => k = I) w w') ∧
    (rdErr s xs n ≠ 0 → Halts w a I (rdErr s xs n) e w')
theorem RF.mono {w : World} {base base' : Nat} {v : Value} {n : Nat} {xs : List Value} {N : Nat → Int} {B : Nat → List Int} (h : RF w base v n xs N B) (hb : base' ≤ base) : RF w base' v n xs N B := by
  refine ⟨⟨h.own.1, ?_⟩, fun i hi => ?_⟩
  · rcases h.own.2 with h2 | ⟨g, cap, cur, hv, hg, r⟩
    · exact .inl h2
    · exact .inr ⟨g, cap, cur, hv, Nat.le_trans hb hg, r⟩
  · obtain ⟨D, c, h1, h2, h3⟩ := h.el i hi
    exact ⟨D, c, h1, h2, h3.mono fun k _ hk => ⟨Nat.le_trans hb hk.1, hk.2⟩⟩
/-- The three errors that reading has. -/
def Err3 (w : World) (a : Nat → Addr) : Prop := ErrC w a 1 ∧ ErrC w a 2 ∧ ErrC w a 7
theorem Err3.chg {w w' : World} {a : Nat → Addr} {I T : Nat} {xs : List Int} (he : Err3 w a) (h : InAt w I T xs) (hc : Chg (fun k => k = I) w w') : Err3 w' a := ⟨he.1.chg h hc, he.2.1.chg h hc, he.2.2.chg h hc⟩
theorem Err3.below {w w' : World} {a : Nat → Addr} (he : Err3 w a) (hb : Below w.heap.size w w') : Err3 w' a := ⟨he.1.below hb, he.2.1.below hb, he.2.2.below hb⟩
theorem conv_bel (w : World) (e : TypeId) (s : ByteArray) : Below w.heap.size w (Lib.bytesWorld w e s) :=
  ⟨rfl, rfl, rfl, by rw [Lib.bytesWorld_size]; omega, fun k hk => Lib.bytesWorld_at_old w e s k hk⟩
set_option maxHeartbeats 4000000 in
theorem rest1_any (I T S : Nat) (s : ByteArray) (xs : List Int) (a : Nat → Addr) (w : World) (h : InAt w I T xs) (hb : BytesOk xs) (hE : Err3 w a) (hS : w.cell? ⟨S, 0, none⟩ = some (.string s)) (hs : s.size ≤ 100000) :
    Calls Tryd.prog 51 #[.pointer (some ⟨I, 0, none⟩), .pointer (some ⟨S, 0, none⟩)] w (RestEnd w a I T s.size s.data.toList xs) := by
  obtain ⟨it, j1, j2, j3, j4⟩ := of_row1 rowField
  have hcv := Lib.run_convert_string_bytes (P := Tryd.prog) w 9 34 5 s (u := .string) Tryd.underlying9 Tryd.underlying34 Tryd.underlying5
  have hb1 := conv_bel w 5 s
  have hby := fun j hj => Lib.bytesWorld_cell w 5 s j hj
  have hz1 : w.heap.size < (Lib.bytesWorld w 5 s).heap.size := by rw [Lib.bytesWorld_size]; omega
  generalize grownCap w s.size 0 5 = gc at *
  generalize Lib.bytesWorld w 5 s = W1 at *
  generalize hcs : s.data.toList = cs at *
  have hlt := h.lt
  have htl := h.tlt
  have HI := Lib.hid (h.below hb1)
  have HB := Lib.hid hb
  have HE := Lib.hid (hE.below hb1)
  have HBY := Lib.hid hby
  have HB1 := Lib.hid hb1
  clear h hb hE hby hb1 hcs
  go_enter Tryd.func51, Tryd.ntmps51
  go_wp2_with fail
  go_loopw [10, 4] (fun x y wr => ∃ (k : Nat) (v : Value) (vs : List Value), k ≤ s.size ∧ x = .int .i64 k ∧ v = y ∧ rdErr cs xs k = 0 ∧ RF wr W1.heap.size v k vs (rdFN cs xs) (rdFB cs xs) ∧ InAt wr I T (rdLeft cs xs k) ∧ Chg (fun j => j = I) W1 wr) (fun x y wr => s.size - (intOf x).toNat)
  case atStart => exact ⟨0, _, [], Nat.zero_le _, rfl, rfl, rfl, RF.nil _ _ _ _, HI.out, Chg.refl _ _⟩
  case round =>
    obtain ⟨k, v, vs, hk, rfl, rfl, he, hF, hI, hC⟩ := hrel
    have HER := Lib.hid he
    have HF := Lib.hid hF
    have HIk := Lib.hid hI
    have HC := Lib.hid hC
    have hzr := hC.size
    clear he hF hI hC
    by_cases hkn : k < s.size
    · have hkd : decide ((k : Int) < (s.size : Int)) = true := by simp; omega
      have i0 : (0 : Int) ≤ (k : Int) := by omega
      have i1 : (k : Int) < (s.size : Int) := by omega
      have hcell : wr.cell? ⟨w.heap.size, k, none⟩ = some (.int .u8 (cs.getD k 0).toNat) := (World.cell?_of_block (a := ⟨w.heap.size, k, none⟩) (HC.out.block w.heap.size hz1 (by show ¬ w.heap.size = I; omega))).trans (HBY.out k hkn)
      have hS1 : rdLeft cs xs (k + 1) = (rdLeft cs xs k).drop (rdLen (cs.getD k 0) (rdLeft cs xs k)) := rfl
      have hS2 : rdErr cs xs (k + 1) = if rdErr cs xs k ≠ 0 then rdErr cs xs k else rdC (cs.getD k 0) (rdLeft cs xs k) := rfl
      rw [HER.out, if_neg (fun h => h rfl)] at hS2
      have hN1 : rdFN cs xs k = rdN (cs.getD k 0) (rdLeft cs xs k) := rfl
      have hB1 : rdFB cs xs k = rdB (cs.getD k 0) (rdLeft cs xs k) := rfl
      have hbk := Lib.hid (rdLeft_ok (s := cs) HB.out k)
      have HS := Lib.hid (And.intro hS1 hS2)
      have HNB := Lib.hid (And.intro hN1 hB1)
      generalize cs.getD k 0 = c at *
      clear hS1 hS2 hN1 hB1
      by_cases hrc : rdC c (rdLeft cs xs k) = 0
      · have K := Lib.hid (one_okA c I T _ wr HIk.out hbk.out hrc)
        have HRC := Lib.hid hrc
        rw [← HS.out.1, ← HNB.out.1, ← HNB.out.2] at K
        clear hrc
        go_wp2_with fail
        refine K.out.mono ?_
        rintro e w2 ⟨A2, c2, rfl, hB2, hl2, hm2, hs2, hI2, hC2⟩
        generalize hfB : rdFB cs xs k = ys at *
        generalize hfN : rdFN cs xs k = N at *
        have HFN := Lib.hid (And.intro hfN hfB)
        have hF2 := HF.out.chg hC2 (by omega)
        have hsz2 := hC2.size
        have hF3 := hF2.below (alloc_below w2 (.cells #[.int .i64 N, .slice A2 ys.length c2] 60))
        have hD2 : ByteS w2 (fun j => W1.heap.size ≤ j ∧ some j ≠ v.ownBlock) A2 ys := ⟨hB2, fun x e1 e2 => ⟨by have := (hs2 x e1 e2).1; omega, fun hx => by
          have h1 := (hs2 x e1 e2).1
          have h2 := HF.out.own.lt _ hx.symm
          omega⟩⟩
        have HF3 := Lib.hid hF3
        have HD3 := Lib.hid (hD2.below (alloc_below w2 (.cells #[.int .i64 N, .slice A2 ys.length c2] 60)))
        have HI2 := Lib.hid hI2
        have HC2 := Lib.hid hC2
        clear hF2 hF3 hD2 hB2 hl2 hm2 hs2 hI2 hC2 hfN hfB K
        go_wp2_with (at_builtin; go_loud (refine wpList_append_lies _ rfl (.tmp 14) (.tmp 18) 42 rfl W1.heap.size 60 it (.agg #[.int .i64 0, .slice none 0 0]) 2 32 Tryd.underlying42 j1 j2 j3 j4 rfl (by decide) v k vs rfl HF3.out.own ⟨w2.heap.size, 0, none⟩ 1 1 [.int .i64 N, .slice A2 ys.length c2] rfl rfl (World.news_of_block (heap_alloc_last w2 _)) (two_one _ _ _ _) (by decide) (by unfold maxLen; omega) (by omega) (by simp; omega) _ rfl ?_); intro gn cn w6 hown hgrow hat hltn)
        obtain ⟨hfN, hfB⟩ := HFN.out
        subst hfN
        subst hfB
        have hP := HF3.out.push HD3.out hown hgrow (by simpa using hat)
        have hrow : ∀ g, v.ownBlock = some g → W1.heap.size ≤ g := fun g hg => (HF3.out.own.lt g hg).1
        have hCa : Chg (fun j => some j = v.ownBlock) (w2.alloc (.cells #[.int .i64 (rdFN cs xs k), .slice A2 (rdFB cs xs k).length c2] 60)) w6 := Chg.of_grown hgrow (fun g hg => hg.symm)
        have hI6 : InAt w6 I T (rdLeft cs xs (k + 1)) := (HI2.out.below (alloc_below w2 _)).chg hCa (fun e => by have := hrow _ e.symm; omega) (fun e => by have := hrow _ e.symm; omega)
        have hC6 : Chg (fun j => j = I) W1 w6 := ((HC.out.trans HC2.out).trans (Chg.of_below (alloc_below w2 _))).trans2 hCa (fun j hj => .inr (hrow j hj.symm))
        have HP := Lib.hid hP
        have HI6 := Lib.hid hI6
        have HC6 := Lib.hid hC6
        have HEk := Lib.hid (HS.out.2.trans HRC.out)
        clear hP hI6 hC6 hCa hrow hown hgrow hat hltn HF3 HD3 HI2 HC2
        go_round
        case rel => exact ⟨k + 1, _, _, by omega, by go_num, rfl, HEk.out, HP.out, HI6.out, HC6.out⟩
        case measure => simp only [intOf]; omega
      · have K := Lib.hid (one_noA c I T _ a wr HIk.out hbk.out (HE.out.chg HI.out HC.out) hrc)
        have hne : rdErr cs xs s.size = rdC c (rdLeft cs xs k) := by
          have h1 : rdErr cs xs (k + 1) = rdC c (rdLeft cs xs k) := HS.out.2
          rw [rdErr_mono (by rw [h1]; exact hrc) s.size (by omega), h1]
        have HN := Lib.hid hne
        have HRC := Lib.hid hrc
        clear hne hrc
        go_wp2_with fail
        refine K.out.mono ?_
        rintro e w2 ⟨rfl, hC2⟩
        go_wp2_with fail
        exact ⟨rfl, fun h => absurd (HN.out.symm.trans h) HRC.out, fun _ => ⟨by rw [HN.out], ((Chg.of_below HB1.out).trans HC.out).trans hC2⟩⟩
    · obtain rfl : k = s.size := by omega
      have hkd : decide ((s.size : Int) < (s.size : Int)) = false := by simp
      go_wp2_with fail
      go_ret
      exact ⟨fun _ => ⟨_, _, rfl, HF.out.mono (by omega), HIk.out, (Chg.of_below HB1.out).trans HC.out⟩, fun h => absurd HER.out h⟩
end Go.Proofs.YtmmiimcodbjnmaaDoor
