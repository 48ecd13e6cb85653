/- Frames: the ends, the sum behind. -/
import Derived.Test.YtbapkamopelgpaaDoorFrB
import Derived.Test.YtbapkamopelgpaaDoorMsgA
import Derived.Test.YtbapkamopelgpaaDoorHaG
import Derived.Deep.RegionHeld3
namespace Go.Proofs.YtbapkamopelgpaaDoor
open Go.RowKit Go.Stop Go.Extern Go.Ranges Go.Rows2
set_option linter.unusedVariables false
set_option linter.unusedSimpArgs false
set_option maxRecDepth 20000
structure Frm where
  k : Int
  f : Int
  t : Int
  body : List Int
def frA (F : Frm) (B : Option Addr) (cb : Nat) : Array Value := #[.int .i64 F.k, .int .i64 F.f, .int .i64 F.t, .slice B F.body.length cb]
/-- Why a frame's ends are none; 0: they are ones. -/
def endC (F : Frm) : Nat := if whoB F.f = false ∨ whoB F.t = false then 1 else if 3000 < F.body.length then 13 else 0
theorem ends_any (F : Frm) (B : Option Addr) (cb : Nat) (a : Nat → Addr) (w : World) (h1 : ErrC w a 1) (h13 : ErrC w a 13) (hL : F.body.length ≤ maxLen) :
    Calls Tryd.prog 58 #[.agg (frA F B cb)] w fun e w' => e = .returned (errV a (endC F)) ∧ Below w.heap.size w w' := by
  have K1 := fun W => who_any F.f W
  have K2 := fun W => who_any F.t W
  simp only [ErrC, gErr] at h1 h13
  have b1 := World.block_lt_of_cell? w _ h1
  have b13 := World.block_lt_of_cell? w _ h13
  have e1 : ∀ o, (w.alloc o).cell? ⟨1, 0, none⟩ = some (.iface 198 (.pointer (some (a 1)))) := fun o => ((alloc_below w o).cell b1).trans h1
  have e13 : ∀ o, (w.alloc o).cell? ⟨13, 0, none⟩ = some (.iface 198 (.pointer (some (a 13)))) := fun o => ((alloc_below w o).cell b13).trans h13
  unfold maxLen at hL
  unfold endC frA
  obtain ⟨k, f, t, body⟩ := F
  simp only at *
  clear h1 h13 b1 b13
  cases hf : whoB f with
  | false =>
    rw [hf] at K1
    have K1h := Lib.hid K1
    clear K1 K2 hf
    rw [if_pos (.inl rfl)]
    go_enter Tryd.func58, Tryd.ntmps58
    go_wp2_with fail
    refine (K1h.out _).mono ?_
    rintro e w1 ⟨rfl, rfl⟩
    go_wp2_with fail
    go_ret
    exact ⟨rfl, alloc_below _ _⟩
  | true =>
    rw [hf] at K1
    cases ht : whoB t with
    | false =>
      rw [ht] at K2
      have K1h := Lib.hid K1
      have K2h := Lib.hid K2
      clear K1 K2 hf ht
      rw [if_pos (.inr rfl)]
      go_enter Tryd.func58, Tryd.ntmps58
      go_wp2_with fail
      refine (K1h.out _).mono ?_
      rintro e w1 ⟨rfl, rfl⟩
      go_wp2_with fail
      refine (K2h.out _).mono ?_
      rintro e w1 ⟨rfl, rfl⟩
      go_wp2_with fail
      go_ret
      exact ⟨rfl, alloc_below _ _⟩
    | true =>
      rw [ht] at K2
      have K1h := Lib.hid K1
      have K2h := Lib.hid K2
      clear K1 K2 hf ht
      by_cases hb : 3000 < body.length
      · have hd : decide ((3000 : Int) < (body.length : Int)) = true := by simp; omega
        rw [if_neg (by decide), if_pos hb]
        go_enter Tryd.func58, Tryd.ntmps58
        go_wp2_with fail
        refine (K1h.out _).mono ?_
        rintro e w1 ⟨rfl, rfl⟩
        go_wp2_with fail
        refine (K2h.out _).mono ?_
        rintro e w1 ⟨rfl, rfl⟩
        go_wp2_with fail
        go_ret
        exact ⟨rfl, alloc_below _ _⟩
      · have hd : decide ((3000 : Int) < (body.length : Int)) = false := by simp; omega
        rw [if_neg (by decide), if_neg hb]
        go_enter Tryd.func58, Tryd.ntmps58
        go_wp2_with fail
        refine (K1h.out _).mono ?_
        rintro e w1 ⟨rfl, rfl⟩
        go_wp2_with fail
        refine (K2h.out _).mono ?_
        rintro e w1 ⟨rfl, rfl⟩
        go_wp2_with fail
        go_ret
        exact ⟨rfl, alloc_below _ _⟩
end Go.Proofs.YtbapkamopelgpaaDoor
