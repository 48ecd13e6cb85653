/- Fields as bytes, told plainly. -/
import Derived.Test.YtmmiimcodbjnmaaDoorClone
namespace Go.Proofs.YtmmiimcodbjnmaaDoor
set_option linter.unusedVariables false
set_option linter.unusedSimpArgs false
/-- A number's bytes, the high one first. -/
def ocNum (m : Nat) (N : Int) : List Int := (List.range m).map fun i => N / 2 ^ (8 * (m - 1 - i)) % 256
def ocUp (m : Nat) (N : Int) (k : Nat) : List Int := (List.range k).map fun i => N / 2 ^ (8 * (m - 1 - i)) % 256
theorem ocUp_succ (N : Int) (m k : Nat) : ocUp m N (k + 1) = ocUp m N k ++ [N / 2 ^ (8 * (m - 1 - k)) % 256] := by
  simp [ocUp, List.range_succ]
theorem ocNum_len (m : Nat) (N : Int) : (ocNum m N).length = m := by simp [ocNum]
theorem ocNum_byte (m : Nat) (N : Int) : ∀ x ∈ ocNum m N, isByte x := fun x hx => by
  obtain ⟨i, _, rfl⟩ := List.mem_map.1 hx
  unfold isByte
  omega
/-- How many bytes a number of a letter has. -/
def ocSize (c : UInt8) : Nat := if c = 98 then 1 else if c = 119 then 4 else if c = 113 then 8 else 0
def ocMost (c : UInt8) : Int := if c = 98 then 255 else if c = 119 then 4294967295 else if c = 113 then 4611686018427387903 else 0
def ocKnown (c : UInt8) : Bool := c == 98 || c == 119 || c == 113 || c == 111 || c == 116
/-- May a field be written by a letter? -/
def ocFit (c : UInt8) (N : Int) (B : List Int) : Bool :=
  if 0 < ocSize c then decide (0 ≤ N) && decide (N ≤ ocMost c) else !(c == 111 && decide (B.length ≠ 32)) && decide (B.length ≤ 65535)
def ocB (c : UInt8) (N : Int) (B : List Int) : List Int :=
  if 0 < ocSize c then ocNum (ocSize c) N else if c = 111 then B else ocNum 2 (B.length : Int) ++ B
theorem ocSize_le (c : UInt8) : ocSize c ≤ 8 := by
  unfold ocSize
  split
  · decide
  · split
    · decide
    · split <;> decide
theorem ocB_len (c : UInt8) (N : Int) (B : List Int) : (ocB c N B).length ≤ B.length + 8 := by
  unfold ocB
  have := ocSize_le c
  split
  · rw [ocNum_len]; omega
  · split
    · omega
    · simp [ocNum_len]; omega
end Go.Proofs.YtmmiimcodbjnmaaDoor
