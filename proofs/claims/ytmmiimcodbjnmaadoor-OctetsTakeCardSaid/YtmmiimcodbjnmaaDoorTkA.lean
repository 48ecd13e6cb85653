/- octets, reading a number by a function of one's own: the functions. -/
import Derived.Test.YtmmiimcodbjnmaaDoorRdN
namespace Go.Proofs.YtmmiimcodbjnmaaDoor
open Go.RowKit Go.Stop Go.Extern Go.Ranges Go.Rows2
set_option linter.unusedVariables false
set_option linter.unusedSimpArgs false
set_option maxRecDepth 100000
/-- A number read by a function, or why not. -/
def IntEnd (w : World) (a : Nat → Addr) (I T n : Nat) (v : Int) (left : List Int) (e : Ending) (w' : World) : Prop :=
  (n = 0 → e = .returned (.int .i64 v) ∧ InAt w' I T left ∧ Chg (fun k => k = I) w w') ∧ (n ≠ 0 → Halts w a I n e w')
def tkS : ByteArray := ⟨#[98, 116, 111]⟩
def tkV (xs : List Int) : Int := rdFN tkS.data.toList xs 0 + ((rdFB tkS.data.toList xs 1).length : Int) + (rdFB tkS.data.toList xs 2).getD 0 0
theorem left_any (I T : Nat) (xs : List Int) (w : World) (h : InAt w I T xs) :
    Calls Tryd.prog 58 #[.pointer (some ⟨I, 0, none⟩)] w fun e w' => e = .returned (.int .i64 xs.length) ∧ w = w' := by
  obtain ⟨⟨A, c, h1, h2, h3⟩, h4, h5⟩ := h
  clear h2 h3 h4 h5
  go_enter Tryd.func58, Tryd.ntmps58
  go_wp2_with fail
  go_ret
  exact ⟨rfl, rfl⟩
theorem strange_any (I T : Nat) (xs : List Int) (a : Nat → Addr) (w : World) (hE : ErrC w a 7) :
    Calls Tryd.prog 31 #[.pointer (some ⟨I, 0, none⟩)] w (IntEnd w a I T 7 0 []) := by
  have K := Lib.hid (num_kind 120 I a w (by decide) hE)
  clear hE
  go_enter Tryd.func31, Tryd.ntmps31
  go_wp2_with fail
  refine K.out.mono ?_
  rintro e w1 ⟨rfl, hC⟩
  exact ⟨rfl, fun h => absurd h (by decide), fun _ => ⟨rfl, hC⟩⟩
theorem err19_any (a : Nat → Addr) (w : World) (HE : ∀ n, 1 ≤ n → n ≤ 22 → ErrC w a n) :
    Calls Tryd.prog 63 #[.int .i64 19] w fun e w' => e = .returned (errV a 19) ∧ Below w.heap.size w w' := by
  have e1 := HE 1 (by decide) (by decide)
  have e2 := HE 2 (by decide) (by decide)
  have e3 := HE 3 (by decide) (by decide)
  have e4 := HE 4 (by decide) (by decide)
  have e5 := HE 5 (by decide) (by decide)
  have e6 := HE 6 (by decide) (by decide)
  have e7 := HE 7 (by decide) (by decide)
  have e8 := HE 8 (by decide) (by decide)
  have e9 := HE 9 (by decide) (by decide)
  have e10 := HE 10 (by decide) (by decide)
  have e11 := HE 11 (by decide) (by decide)
  have e12 := HE 12 (by decide) (by decide)
  have e13 := HE 13 (by decide) (by decide)
  have e14 := HE 14 (by decide) (by decide)
  have e15 := HE 15 (by decide) (by decide)
  have e16 := HE 16 (by decide) (by decide)
  have e17 := HE 17 (by decide) (by decide)
  have e18 := HE 18 (by decide) (by decide)
  have e19 := HE 19 (by decide) (by decide)
  have e20 := HE 20 (by decide) (by decide)
  have e21 := HE 21 (by decide) (by decide)
  have e22 := HE 22 (by decide) (by decide)
  simp only [ErrC, gErr] at e1 e2 e3 e4 e5 e6 e7 e8 e9 e10 e11 e12 e13 e14 e15 e16 e17 e18 e19 e20 e21 e22
  have hev : errV a 19 = .iface 199 (.pointer (some (a 19))) := rfl
  rw [hev]
  clear HE hev
  go_enter Tryd.func63, Tryd.ntmps63
  go_wp2_with fail
  first
    | (go_ret; exact ⟨rfl, alloc_below _ _⟩)
    | (go_quiet (fail)
       all_goals (
         go_wp2_with fail
         go_ret
         exact ⟨rfl, (alloc_below _ _).drew⟩))
theorem broken_any (I T : Nat) (xs : List Int) (a : Nat → Addr) (w : World) (h : InAt w I T xs) (hb : BytesOk xs) (HE : Errs w a) :
    Calls Tryd.prog 30 #[.pointer (some ⟨I, 0, none⟩)] w (IntEnd w a I T (if xs.length = 0 then 2 else 19) 0 []) := by
  have hE3 : Err3 w a := ⟨HE.c 1 (by decide) (by decide), HE.c 2 (by decide) (by decide), HE.c 7 (by decide) (by decide)⟩
  by_cases h0 : xs.length = 0
  · have hc : rdC 98 xs = 2 := by
      unfold rdC
      rw [if_neg (by decide), if_neg (by decide), if_neg (by decide), if_pos (by show xs.length < 1; omega)]
    have K := Lib.hid (numX 98 I T xs a w (by decide) h hb hE3 (by rw [hc]; decide))
    rw [hc] at K
    rw [if_pos h0]
    clear h HE hE3 hc
    go_enter Tryd.func30, Tryd.ntmps30
    go_wp2_with fail
    refine K.out.mono ?_
    rintro e w1 ⟨rfl, hC⟩
    exact ⟨rfl, fun h => absurd h (by decide), fun _ => ⟨rfl, hC⟩⟩
  · have hl1 : (xs.take (ocSize 98)).length = 1 := by rw [List.length_take]; show min 1 _ = 1; omega
    have hbd := rdBE_bd (xs.take (ocSize 98)) (hb.take _)
    rw [hl1] at hbd
    have hc : rdC 98 xs = 0 := by
      unfold rdC
      rw [if_neg (by decide), if_neg (by decide), if_neg (by decide), if_neg (by show ¬ xs.length < 1; omega), if_neg (by have : (256 : Int) ^ 1 = 256 := rfl; omega)]
    have K := Lib.hid (numR 98 I T xs w (by decide) h hb hc)
    have HEh := Lib.hid HE
    have HI := Lib.hid h
    rw [if_neg h0]
    clear h HE hE3 hc hl1 hbd
    go_enter Tryd.func30, Tryd.ntmps30
    go_wp2_with fail
    refine K.out.mono ?_
    rintro e w1 ⟨rfl, hI1, hC⟩
    have hE1 : ∀ n, 1 ≤ n → n ≤ 22 → ErrC w1 a n := fun n h1 h2 => (HEh.out.c n h1 h2).chg HI.out hC
    have K2 := Lib.hid (err19_any a w1 hE1)
    have HC := Lib.hid hC
    have hev : errV a 19 = .iface 199 (.pointer (some (a 19))) := rfl
    rw [hev] at K2
    clear hI1 hC hE1
    go_wp2_with fail
    refine K2.out.mono ?_
    rintro e w2 ⟨rfl, hb2⟩
    go_wp2_with fail
    refine (fail_any _ (a 19) _).mono ?_
    rintro e w3 ⟨rfl, rfl⟩
    exact ⟨rfl, fun h => absurd h (by decide), fun _ => ⟨rfl, HC.out.trans (Chg.of_below hb2)⟩⟩
end Go.Proofs.YtmmiimcodbjnmaaDoor
