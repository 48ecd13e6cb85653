/- Numbers of parts of 32 bits: a part, a product. -/
import Derived.Test.YtdpiplllcinieaaDoorShaG
import Derived.Laws.MakeOwn
namespace Go.Proofs.YtdpiplllcinieaaDoor
open Go.RowKit Go.Stop Go.Extern Go.Ranges
set_option linter.unusedVariables false
set_option linter.unusedSimpArgs false
/-- A slice of words of 64 bits. -/
def U64At (w : World) (A : Option Addr) (n : Nat) (xs : List Int) : Prop :=
  0 < n → ∃ b o, A = some ⟨b, o, none⟩ ∧ b < w.heap.size ∧ ∀ i, i < n → w.cell? ⟨b, o + i, none⟩ = some (.int .u64 (xs.getD i 0))
theorem U64At.below {w w' : World} {A : Option Addr} {n : Nat} {xs : List Int} (h : U64At w A n xs) (hb : Below w.heap.size w w') : U64At w' A n xs := fun hn => by
  obtain ⟨b, o, rfl, hlt, hc⟩ := h hn
  exact ⟨b, o, rfl, Nat.lt_of_lt_of_le hlt hb.size, fun i hi => (hb.cell (p := ⟨b, o + i, none⟩) hlt).trans (hc i hi)⟩
theorem part_any (A : Option Addr) (n c : Nat) (xs : List Int) (i : Nat) (w : World) (hn : xs.length = n) (h : U64At w A n xs) :
    Calls Tryd.prog 83 #[.slice A n c, .int .i64 i] w fun e w' => e = .returned (.int .u64 (xs.getD i 0)) ∧ w = w' := by
  by_cases hlt : i < n
  · obtain ⟨b, o, rfl, _, hc⟩ := h (by omega)
    have c1 := hc i hlt
    clear hc h
    have K := Lib.hid hn
    clear hn
    go_enter Tryd.func83, Tryd.ntmps83
    go_wp2
    go_ret
    exact ⟨by simp, rfl⟩
  · have hv : Hid (xs.getD i 0 = 0) := by
      show _ = _
      rw [List.getD_eq_getElem?_getD, List.getElem?_eq_none (by omega)]
      rfl
    clear h hn
    go_enter Tryd.func83, Tryd.ntmps83
    go_wp2
    go_ret
    exact ⟨by rw [hv.out]; rfl, rfl⟩
def stepT (x y o c : Int) : Int := ((x * y % 18446744073709551616 + o) % 18446744073709551616 + c) % 18446744073709551616
/-- A row times one part: the row so far, what is carried. -/
def rowT (ys : List Int) (x : Int) (i : Nat) : Nat → List Int → List Int × Int
  | 0, out => (out, 0)
  | j + 1, out => (fun (s : List Int × Int) => (fun t => (s.1.set (i + j) (t % 4294967296), t / 4294967296)) (stepT x (ys.getD j 0) (s.1.getD (i + j) 0) s.2)) (rowT ys x i j out)
def rowsT (xs ys : List Int) : Nat → List Int
  | 0 => List.replicate (xs.length + ys.length + 1) 0
  | i + 1 => (fun (s : List Int × Int) => s.1.set (i + ys.length) ((s.1.getD (i + ys.length) 0 + s.2) % 18446744073709551616)) (rowT ys (xs.getD i 0) i ys.length (rowsT xs ys i))
def timesT (xs ys : List Int) : List Int := rowsT xs ys xs.length
theorem and32 (t : Int) (h0 : 0 ≤ t) (h1 : t < 18446744073709551616) : bits .and .u64 t 4294967295 = t % 4294967296 := by
  obtain ⟨m, rfl⟩ := Int.eq_ofNat_of_zero_le h0
  have e : bits .and .u64 (m : Int) 4294967295 = IntKind.u64.wrap ((BitVec.ofInt 64 (m : Int) &&& BitVec.ofInt 64 (4294967295 : Int)).toNat : Int) := rfl
  have e2 : BitVec.ofInt 64 (4294967295 : Int) = BitVec.ofNat 64 4294967295 := by decide
  rw [e, e2, BitVec.ofInt_natCast, BitVec.toNat_and, BitVec.toNat_ofNat, BitVec.toNat_ofNat, Nat.mod_eq_of_lt (show m < 2 ^ 64 by omega)]
  have e3 : m &&& 4294967295 % 2 ^ 64 = m % 4294967296 := Nat.and_two_pow_sub_one_eq_mod m 32
  rw [e3, IntKind.wrap_u64]
  omega
end Go.Proofs.YtdpiplllcinieaaDoor
