/- bytes.Equal. -/
import Derived.Test.YtmmiimcodbjnmaaDoorByt
import Derived.BigQuiet
import Derived.Deep.QuietTactic
import Derived.Lib.QuietBelow
namespace Go.Proofs.YtmmiimcodbjnmaaDoor
open Go.RowKit Go.Stop Go.Extern Go.Ranges Go.Sort
set_option linter.unusedVariables false
set_option linter.unusedSimpArgs false
set_option maxRecDepth 100000
def strEq (a b : ByteArray) : Bool := a.toList == b.toList
def bytesEq (xs ys : List Int) : Bool := (strOfNums xs).toList == (strOfNums ys).toList
theorem strEq_self (a : ByteArray) : strEq a a = true := by simp [strEq]
theorem bytesEq_self (a : List Int) : bytesEq a a = true := by simp [bytesEq]
theorem bytes_any (p q : Option Addr) (n m c d : Nat) (xs ys : List Int) (w : World) (hx : xs.length = n) (hy : ys.length = m) (h1 : Lib.BytesIn w p n xs) (h2 : Lib.BytesIn w q m ys) :
    Calls Tryd.prog 45 #[.slice p n c, .slice q m d] w fun e w' => e = .returned (.bool (bytesEq xs ys)) ∧ w = w' := by
  have c1 := h1.convert (P := Tryd.prog) hx c 34 5 9 Tryd.underlying34 Tryd.underlying5 Tryd.underlying9
  have c2 := h2.convert (P := Tryd.prog) hy d 34 5 9 Tryd.underlying34 Tryd.underlying5 Tryd.underlying9
  clear h1 h2
  go_enter Tryd.func45, Tryd.ntmps45
  go_wp2_with fail
  go_ret
  exact ⟨rfl, rfl⟩
theorem u8_inj {x y : Int} (hx : isByte x) (hy : isByte y) (h : UInt8.ofNat x.toNat = UInt8.ofNat y.toNat) : x = y := by
  have h2 := congrArg UInt8.toNat h
  simp only [UInt8.toNat_ofNat'] at h2
  unfold isByte at hx hy
  omega
theorem nums_inj : ∀ {xs ys : List Int}, (∀ x ∈ xs, isByte x) → (∀ y ∈ ys, isByte y) → (xs.map fun n => UInt8.ofNat n.toNat) = (ys.map fun n => UInt8.ofNat n.toNat) → xs = ys
  | [], [], _, _, _ => rfl
  | [], _ :: _, _, _, h => by cases h
  | _ :: _, [], _, _, h => by cases h
  | x :: xs, y :: ys, hx, hy, h => by
    simp only [List.map_cons, List.cons.injEq] at h
    rw [u8_inj (hx x (by simp)) (hy y (by simp)) h.1, nums_inj (fun z hz => hx z (by simp [hz])) (fun z hz => hy z (by simp [hz])) h.2]
theorem bytesEq_iff {xs ys : List Int} (hx : ∀ x ∈ xs, isByte x) (hy : ∀ y ∈ ys, isByte y) : bytesEq xs ys = true ↔ xs = ys := by
  unfold bytesEq
  rw [beq_iff_eq, Lib.toList_data, Lib.toList_data, strOfNums_data, strOfNums_data]
  exact ⟨fun h => nums_inj hx hy h, fun h => by rw [h]⟩
theorem bytesEq_ne {xs ys : List Int} (hx : ∀ x ∈ xs, isByte x) (hy : ∀ y ∈ ys, isByte y) (h : xs ≠ ys) : bytesEq xs ys = false := by
  cases e : bytesEq xs ys with
  | false => rfl
  | true => exact absurd ((bytesEq_iff hx hy).1 e) h
end Go.Proofs.YtmmiimcodbjnmaaDoor
