/- octets, reading: one field, by a letter of a text or a number. -/
import Derived.Test.YtmmiimcodbjnmaaDoorRdC
namespace Go.Proofs.YtmmiimcodbjnmaaDoor
open Go.RowKit Go.Stop Go.Extern Go.Ranges Go.Rows2
set_option linter.unusedVariables false
set_option linter.unusedSimpArgs false
set_option maxRecDepth 20000
/-- How reading a field ends: 0, or the number of an error. -/
def rdC (c : UInt8) (xs : List Int) : Nat :=
  if c = 111 then (if xs.length < 32 then 2 else 0)
  else if c = 116 then (if xs.length < 2 then 2 else if (xs.length : Int) - 2 < rdBE (xs.take 2) then 2 else 0)
  else if ocSize c = 0 then 7 else if xs.length < ocSize c then 2 else if 4611686018427387903 < rdBE (xs.take (ocSize c)) then 1 else 0
/-- How many bytes a field takes. -/
def rdLen (c : UInt8) (xs : List Int) : Nat := if c = 111 then 32 else if c = 116 then 2 + (rdBE (xs.take 2)).toNat else ocSize c
def rdN (c : UInt8) (xs : List Int) : Int := if c = 111 ∨ c = 116 then 0 else rdBE (xs.take (ocSize c))
def rdB (c : UInt8) (xs : List Int) : List Int := if c = 111 then xs.take 32 else if c = 116 then (xs.drop 2).take (rdBE (xs.take 2)).toNat else []
theorem row_chg {w w' : World} {I : Nat} {b n : Nat} (hc : Chg (fun k => k = I) w w') (hlt : b < w.heap.size) (hne : b ≠ I) : w'.heap[b]? = w.heap[b]? := hc.block b hlt hne
/-- A field read. -/
def OneEnd (w : World) (I T : Nat) (N : Int) (ys zs : List Int) (e : Ending) (w' : World) : Prop :=
  ∃ A c, e = .returned (.agg #[.int .i64 N, .slice A ys.length c]) ∧ Lib.BytesIn w' A ys.length ys ∧ ys.length ≤ c ∧ c ≤ maxLen ∧ (∀ x, A = some x → 0 < ys.length → w.heap.size ≤ x.block ∧ x.block < w'.heap.size) ∧ InAt w' I T zs ∧ Chg (fun k => k = I) w w'
/-- What the call's own box turned besides. -/
theorem chg_box {w w1 : World} {I : Nat} {o : Obj} {u v : Value} (hC : Chg (fun k => k = I) (w.alloc o) w1) : Chg (fun k => k = I) w ((w1.setCell ⟨w.heap.size, 0, none⟩ u).setCell ⟨w.heap.size, 1, none⟩ v) :=
  (((Chg.of_below (alloc_below w o)).trans hC).trans2 (chg_cell w1 w.heap.size 0 u) (fun k hk => .inr (by omega))).trans2 (chg_cell _ w.heap.size 1 v) (fun k hk => .inr (by omega))
theorem in_box {w1 : World} {I T b : Nat} {xs : List Int} {u v : Value} (h : InAt w1 I T xs) (h1 : I ≠ b) (h2 : T ≠ b) : InAt ((w1.setCell ⟨b, 0, none⟩ u).setCell ⟨b, 1, none⟩ v) I T xs :=
  h.chg ((chg_cell w1 b 0 u).trans (chg_cell _ b 1 v)) h1 h2
theorem bytes_box {w1 : World} {b : Nat} {A : Option Addr} {ys : List Int} {u v : Value} (h : Lib.BytesIn w1 A ys.length ys) (hs : ∀ x, A = some x → 0 < ys.length → x.block ≠ b) : Lib.BytesIn ((w1.setCell ⟨b, 0, none⟩ u).setCell ⟨b, 1, none⟩ v) A ys.length ys := fun hn => by
  obtain ⟨b2, o, rfl, hc⟩ := h hn
  have hlt := World.block_lt_of_cell? _ _ (hc 0 hn)
  exact ⟨b2, o, rfl, fun i hi => (World.cell?_of_block (a := ⟨b2, o + i, none⟩) (((chg_cell w1 b 0 u).trans (chg_cell _ b 1 v)).block b2 hlt (hs _ rfl hn))).trans (hc i hi)⟩
set_option maxHeartbeats 1000000 in
theorem one_text (I T : Nat) (xs : List Int) (w : World) (h2 : 2 ≤ xs.length) (h : InAt w I T xs) (hb : BytesOk xs) (hk : (rdBE (xs.take 2)).toNat ≤ xs.length - 2) :
    Calls Tryd.prog 52 #[.pointer (some ⟨I, 0, none⟩), .int .u8 116] w (OneEnd w I T 0 ((xs.drop 2).take (rdBE (xs.take 2)).toNat) (xs.drop (2 + (rdBE (xs.take 2)).toNat))) := by
  have hlt := h.lt
  have htl := h.tlt
  have b0 : Below w.heap.size w (w.alloc (.cells #[.int .i64 0, .slice none 0 0] 60)) := (Below.refl _ _).alloc (Nat.le_refl _) _
  have K := Lib.hid (text_ok I T xs _ h2 (h.below b0) hb hk)
  generalize (xs.drop 2).take (rdBE (xs.take 2)).toNat = ys at *
  generalize xs.drop (2 + (rdBE (xs.take 2)).toNat) = zs at *
  clear h2 h hb hk
  go_enter Tryd.func52, Tryd.ntmps52
  go_wp2_with fail
  refine K.out.mono ?_
  rintro e w1 ⟨A, c, rfl, hB, hl, hm, hs, hI, hC⟩
  have hq := hC.block w.heap.size (by simp) (by omega)
  obtain ⟨k1, k2, k3, k4⟩ : w1.cell? ⟨w.heap.size, 0, none⟩ = some (.int .i64 0) ∧ w1.cell? ⟨w.heap.size, 1, none⟩ = some (.slice none 0 0) ∧ w1.frozen? ⟨w.heap.size, 0, none⟩ = false ∧ w1.frozen? ⟨w.heap.size, 1, none⟩ = false := by
    refine ⟨(World.cell?_of_block (a := ⟨w.heap.size, 0, none⟩) hq).trans (by simp [go_sem]), (World.cell?_of_block (a := ⟨w.heap.size, 1, none⟩) hq).trans (by simp [go_sem]), (World.frozen?_of_block (a := ⟨w.heap.size, 0, none⟩) hq).trans (by simp [go_sem]), (World.frozen?_of_block (a := ⟨w.heap.size, 1, none⟩) hq).trans (by simp [go_sem])⟩
  have hz := hC.size
  simp at hz
  have HB := Lib.hid hB
  have HLM := Lib.hid (And.intro hl hm)
  have HS := Lib.hid hs
  have HI := Lib.hid hI
  have HC := Lib.hid hC
  clear hB hl hm hs hI hC K hq
  go_wp2_with fail
  refine bodyPost_ret (v := .agg #[.int .i64 0, .slice A ys.length c]) (by simp [results, Tryd.results52, go_sem, k1, k2]) rfl ⟨A, c, rfl, bytes_box HB.out (fun x e1 e2 => ?_), HLM.out.1, HLM.out.2, fun x e1 e2 => ?_, in_box HI.out (by omega) (by omega), chg_box HC.out⟩
  · have := (HS.out x e1 e2).1
    simp at this
    omega
  · have := HS.out x e1 e2
    simp [World.setCell] at this ⊢
    omega
theorem one_num (c : UInt8) (I T : Nat) (xs : List Int) (w : World) (hz : 0 < ocSize c) (hN : ocSize c ≤ xs.length) (h : InAt w I T xs) (hb : BytesOk xs) (hm : rdBE (xs.take (ocSize c)) ≤ 4611686018427387903) :
    Calls Tryd.prog 52 #[.pointer (some ⟨I, 0, none⟩), .int .u8 c.toNat] w (OneEnd w I T (rdBE (xs.take (ocSize c))) [] (xs.drop (ocSize c))) := by
  have hlt := h.lt
  have htl := h.tlt
  have b0 : Below w.heap.size w (w.alloc (.cells #[.int .i64 0, .slice none 0 0] 60)) := (Below.refl _ _).alloc (Nat.le_refl _) _
  have K := Lib.hid (num_ok c I T xs _ hz hN (h.below b0) hb hm)
  have n1 : ((c.toNat : Int) == 111) = false := by
    have : c ≠ 111 := fun e => by rw [e] at hz; exact absurd hz (by decide)
    have : c.toNat ≠ 111 := fun e => this (UInt8.toNat_inj.1 e)
    simp; omega
  have n2 : ((c.toNat : Int) == 116) = false := by
    have : c ≠ 116 := fun e => by rw [e] at hz; exact absurd hz (by decide)
    have : c.toNat ≠ 116 := fun e => this (UInt8.toNat_inj.1 e)
    simp; omega
  unfold PlainEnd at K
  generalize rdBE (xs.take (ocSize c)) = N at *
  generalize xs.drop (ocSize c) = zs at *
  clear h hb hm hN
  go_enter Tryd.func52, Tryd.ntmps52
  go_wp2_with fail
  refine K.out.mono ?_
  rintro e w1 ⟨rfl, hI, hC⟩
  have hq := hC.block w.heap.size (by simp) (by omega)
  obtain ⟨k1, k2, k3, k4⟩ : w1.cell? ⟨w.heap.size, 0, none⟩ = some (.int .i64 0) ∧ w1.cell? ⟨w.heap.size, 1, none⟩ = some (.slice none 0 0) ∧ w1.frozen? ⟨w.heap.size, 0, none⟩ = false ∧ w1.frozen? ⟨w.heap.size, 1, none⟩ = false := by
    refine ⟨(World.cell?_of_block (a := ⟨w.heap.size, 0, none⟩) hq).trans (by simp [go_sem]), (World.cell?_of_block (a := ⟨w.heap.size, 1, none⟩) hq).trans (by simp [go_sem]), (World.frozen?_of_block (a := ⟨w.heap.size, 0, none⟩) hq).trans (by simp [go_sem]), (World.frozen?_of_block (a := ⟨w.heap.size, 1, none⟩) hq).trans (by simp [go_sem])⟩
  have HI := Lib.hid hI
  have HC := Lib.hid hC
  clear hI hC K hq
  go_wp2_with fail
  refine bodyPost_ret (v := .agg #[.int .i64 N, .slice none 0 0]) (by simp [results, Tryd.results52, go_sem, k1, k2]) rfl ⟨none, 0, rfl, fun h => absurd h (by decide), Nat.le_refl _, Nat.zero_le _, fun x e1 e2 => (by cases e1), in_box HI.out (by omega) (by omega), chg_box HC.out⟩
/-- Reading a field fails. -/
theorem one_no (c : UInt8) (I T : Nat) (xs : List Int) (a : Nat → Addr) (w : World) (hc : c ≠ 111) (h : InAt w I T xs) (hb : BytesOk xs) (hE : ErrC w a 1 ∧ ErrC w a 2 ∧ ErrC w a 7) (hn : rdC c xs ≠ 0) :
    Calls Tryd.prog 52 #[.pointer (some ⟨I, 0, none⟩), .int .u8 c.toNat] w (Halts w a I (rdC c xs)) := by
  have b0 : Below w.heap.size w (w.alloc (.cells #[.int .i64 0, .slice none 0 0] 60)) := (Below.refl _ _).alloc (Nat.le_refl _) _
  have n1 : ((c.toNat : Int) == 111) = false := by
    have : c.toNat ≠ 111 := fun e => hc (UInt8.toNat_inj.1 e)
    simp; omega
  have h0 := h.below b0
  by_cases ht : c = 116
  · have hr : rdC c xs = 2 ∧ (xs.length < 2 ∨ (2 ≤ xs.length ∧ (xs.length : Int) - 2 < rdBE (xs.take 2))) := by
      unfold rdC at hn ⊢
      rw [if_neg hc, if_pos ht] at hn ⊢
      split
      · exact ⟨rfl, .inl ‹_›⟩
      · rename_i hx
        rw [if_neg hx] at hn
        split
        · exact ⟨rfl, .inr ⟨by omega, ‹_›⟩⟩
        · rename_i hy
          rw [if_neg hy] at hn
          exact absurd rfl hn
    rw [hr.1]
    have K := Lib.hid (text_short I T xs a _ h0 hb (hE.2.1.below b0) hr.2)
    subst ht
    clear hr h h0 hb hE hn n1 hc
    go_enter Tryd.func52, Tryd.ntmps52
    go_wp2_with fail
    refine K.out.mono ?_
    rintro e w1 ⟨rfl, hC⟩
    exact ⟨rfl, rfl, (Chg.of_below b0).trans hC⟩
  · have n2 : ((c.toNat : Int) == 116) = false := by
      have : c.toNat ≠ 116 := fun e => ht (UInt8.toNat_inj.1 e)
      simp; omega
    have K0 : Calls Tryd.prog 55 #[.pointer (some ⟨I, 0, none⟩), .int .u8 c.toNat] (w.alloc (.cells #[.int .i64 0, .slice none 0 0] 60)) (Halts (w.alloc (.cells #[.int .i64 0, .slice none 0 0] 60)) a I (rdC c xs)) := by
      unfold rdC at hn ⊢
      rw [if_neg hc, if_neg ht] at hn ⊢
      split
      · exact num_kind c I a _ ‹_› (hE.2.2.below b0)
      · rename_i hz
        rw [if_neg hz] at hn
        split
        · exact num_short c I T xs a _ ‹_› h0 (hE.2.1.below b0)
        · rename_i hx
          rw [if_neg hx] at hn
          split
          · exact num_big c I T xs a _ (by omega) (by omega) h0 hb ‹_› (hE.1.below b0)
          · rename_i hy
            rw [if_neg hy] at hn
            exact absurd rfl hn
    have K := Lib.hid K0
    clear K0 h h0 hb hE
    generalize rdC c xs = n at *
    clear hn
    go_enter Tryd.func52, Tryd.ntmps52
    go_wp2_with fail
    refine K.out.mono ?_
    rintro e w1 ⟨rfl, hC⟩
    exact ⟨rfl, rfl, (Chg.of_below b0).trans hC⟩
theorem one_ok (c : UInt8) (I T : Nat) (xs : List Int) (w : World) (hc : c ≠ 111) (h : InAt w I T xs) (hb : BytesOk xs) (hn : rdC c xs = 0) :
    Calls Tryd.prog 52 #[.pointer (some ⟨I, 0, none⟩), .int .u8 c.toNat] w (OneEnd w I T (rdN c xs) (rdB c xs) (xs.drop (rdLen c xs))) := by
  unfold rdC at hn
  unfold rdN rdB rdLen
  rw [if_neg hc] at hn
  rw [if_neg hc, if_neg hc]
  by_cases ht : c = 116
  · subst ht
    rw [if_pos rfl] at hn
    rw [if_pos (.inr rfl), if_pos rfl, if_pos rfl]
    by_cases h2 : xs.length < 2
    · rw [if_pos h2] at hn; cases hn
    · rw [if_neg h2] at hn
      by_cases h3 : (xs.length : Int) - 2 < rdBE (xs.take 2)
      · rw [if_pos h3] at hn; cases hn
      · exact one_text I T xs w (by omega) h hb (by omega)
  · rw [if_neg ht] at hn
    rw [if_neg (by rintro (e | e); exact hc e; exact ht e), if_neg ht, if_neg ht]
    by_cases hz : ocSize c = 0
    · rw [if_pos hz] at hn; cases hn
    · rw [if_neg hz] at hn
      by_cases h2 : xs.length < ocSize c
      · rw [if_pos h2] at hn; cases hn
      · rw [if_neg h2] at hn
        by_cases h3 : 4611686018427387903 < rdBE (xs.take (ocSize c))
        · rw [if_pos h3] at hn; cases hn
        · exact one_num c I T xs w (by omega) (by omega) h hb (by omega)
end Go.Proofs.YtmmiimcodbjnmaaDoor
