/- Frames: Bytes. -/
import Derived.Test.YtbapkamopelgpaaDoorFrD
namespace Go.Proofs.YtbapkamopelgpaaDoor
open Go.RowKit Go.Stop Go.Extern Go.Ranges Go.Rows2
set_option linter.unusedVariables false
set_option linter.unusedSimpArgs false
set_option maxRecDepth 20000
def frS : ByteArray := ⟨#[98, 98, 98, 116]⟩
def frN (F : Frm) (i : Nat) : Int := if i = 0 then F.k else if i = 1 then F.f else if i = 2 then F.t else 0
def frF (F : Frm) (i : Nat) : List Int := if i = 3 then F.body else []
/-- A frame's bytes without the sum. -/
def frBase (F : Frm) : List Int := [99, 97, 114, 116] ++ ocAll frS.data.toList (frN F) (frF F) 4
def frB (F : Frm) : List Int := frBase F ++ (Sha.sum (frBase F)).take 4
/-- Why a frame has no bytes; 0: it has some. -/
def frC (F : Frm) : Nat := if F.k < 0 ∨ 255 < F.k then 1 else endC F
theorem who_range {n : Int} (h : whoB n = true) : 0 ≤ n ∧ n ≤ 255 := by
  rcases who_cases n with ⟨rfl, _⟩ | ⟨rfl, _⟩ | ⟨h1, _⟩ | ⟨h1, _⟩ | ⟨_, h1⟩
  · decide
  · decide
  · omega
  · omega
  · rw [h] at h1; cases h1
theorem frC_ok {F : Frm} (h : frC F = 0) : 0 ≤ F.k ∧ F.k ≤ 255 ∧ whoB F.f = true ∧ whoB F.t = true ∧ F.body.length ≤ 3000 := by
  unfold frC endC at h
  split at h
  · cases h
  · split at h
    · cases h
    · split at h
      · cases h
      · rename_i h1 h2 h3
        refine ⟨by omega, by omega, ?_, ?_, by omega⟩
        · cases e : whoB F.f with
          | true => rfl
          | false => exact absurd (.inl e) h2
        · cases e : whoB F.t with
          | true => rfl
          | false => exact absurd (.inr e) h2
theorem fr_fit {F : Frm} (h : 0 ≤ F.k ∧ F.k ≤ 255 ∧ whoB F.f = true ∧ whoB F.t = true ∧ F.body.length ≤ 3000) : ocFits frS.data.toList (frN F) (frF F) 4 = true := by
  obtain ⟨h1, h2, h3, h4, h5⟩ := h
  have r3 := who_range h3
  have r4 := who_range h4
  have hb : ∀ N : Int, 0 ≤ N → N ≤ 255 → ocFit 98 N [] = true := fun N a b => by
    unfold ocFit
    rw [if_pos (by decide)]
    have : ocMost 98 = 255 := rfl
    rw [this]
    simp [a, b]
  rw [ocFits_at]
  intro i hi
  have : i = 0 ∨ i = 1 ∨ i = 2 ∨ i = 3 := by omega
  rcases this with rfl | rfl | rfl | rfl
  · exact hb _ h1 h2
  · exact hb _ r3.1 r3.2
  · exact hb _ r4.1 r4.2
  · show ocFit 116 0 F.body = true
    unfold ocFit
    rw [if_neg (by decide)]
    simp
    omega
theorem frF_len {F : Frm} (hL : F.body.length ≤ 3000) : ∀ i, i < 4 → (frF F i).length ≤ 100000 := fun i _ => by
  unfold frF
  split
  · omega
  · simp
theorem frF_byte {F : Frm} (hb : ∀ x ∈ F.body, isByte x) : ∀ x ∈ frBase F, isByte x := by
  have hB : ∀ (c : UInt8) (N : Int) (B : List Int), (∀ x ∈ B, isByte x) → ∀ x ∈ ocB c N B, isByte x := fun c N B h x hx => by
    unfold ocB at hx
    split at hx
    · exact ocNum_byte _ _ x hx
    · split at hx
      · exact h x hx
      · rcases List.mem_append.1 hx with h2 | h2
        · exact ocNum_byte _ _ x h2
        · exact h x h2
  have key : ∀ k, ∀ x ∈ ocAll frS.data.toList (frN F) (frF F) k, isByte x := fun k => by
    induction k with
    | zero => intro x hx; cases hx
    | succ k ih =>
      intro x hx
      rcases List.mem_append.1 (show x ∈ ocAll frS.data.toList (frN F) (frF F) k ++ ocB _ _ _ from hx) with h | h
      · exact ih x h
      · refine hB _ _ _ (fun y hy => ?_) x h
        unfold frF at hy
        split at hy
        · exact hb y hy
        · cases hy
  intro x hx
  rcases List.mem_append.1 (show x ∈ [99, 97, 114, 116] ++ ocAll frS.data.toList (frN F) (frF F) 4 from hx) with h | h
  · simp only [List.mem_cons, List.not_mem_nil, or_false] at h
    unfold isByte
    omega
  · exact key 4 x h
theorem fr_len {F : Frm} (hL : F.body.length ≤ 3000) : (ocAll frS.data.toList (frN F) (frF F) 4).length ≤ 3032 := by
  have key : ∀ k, k ≤ 4 → (ocAll frS.data.toList (frN F) (frF F) k).length ≤ k * 8 + (if 3 < k then F.body.length else 0) := fun k => by
    induction k with
    | zero => intro _; exact Nat.zero_le _
    | succ k ih =>
      intro hk
      have h1 := ih (by omega)
      have h2 := ocB_len (frS.data.toList.getD k 0) (frN F k) (frF F k)
      have h3 : (ocAll frS.data.toList (frN F) (frF F) (k + 1)).length = (ocAll frS.data.toList (frN F) (frF F) k).length + (ocB (frS.data.toList.getD k 0) (frN F k) (frF F k)).length := by
        show (cat _ k ++ _).length = _
        rw [List.length_append]; rfl
      have h4 : (frF F k).length ≤ if k = 3 then F.body.length else 0 := by
        unfold frF
        split <;> simp
      rw [h3]
      split <;> split at h1 <;> split at h4 <;> omega
  have := key 4 (by decide)
  rw [if_pos (by decide)] at this
  omega
def frRow (F : Frm) (B : Option Addr) (cb : Nat) : Array Value := #[.int .i64 F.k, .slice none 0 0, .int .i64 F.f, .slice none 0 0, .int .i64 F.t, .slice none 0 0, .int .i64 0, .slice B F.body.length cb]
theorem fr_fields {w : World} {F : Frm} {B : Option Addr} (cb : Nat) (hB : Lib.BytesIn w B F.body.length F.body) : FieldsAt (w.alloc (.cells (frRow F B cb) 97)) (some ⟨w.heap.size, 0, none⟩) 4 (frN F) (frF F) := fun _ => by
  have hb := alloc_below w (.cells (frRow F B cb) 97)
  have hc : ∀ j, (w.alloc (.cells (frRow F B cb) 97)).cell? ⟨w.heap.size, 0 + j, none⟩ = (frRow F B cb)[j]? := fun j => by
    rw [cell_of_row _ _ _ _ _ _ (heap_alloc_last w _), Nat.zero_add]
  refine ⟨w.heap.size, 0, rfl, by simp, fun i hi => ?_⟩
  have : i = 0 ∨ i = 1 ∨ i = 2 ∨ i = 3 := by omega
  rcases this with rfl | rfl | rfl | rfl
  · exact ⟨none, 0, hc 0, hc 1, fun h => absurd h (Nat.lt_irrefl 0)⟩
  · exact ⟨none, 0, hc 2, hc 3, fun h => absurd h (Nat.lt_irrefl 0)⟩
  · exact ⟨none, 0, hc 4, hc 5, fun h => absurd h (Nat.lt_irrefl 0)⟩
  · exact ⟨B, cb, hc 6, hc 7, bytesIn_below' hB hb⟩
def WrEnd (w : World) (l : List Int) (e : Ending) (w' : World) : Prop := ∃ A c, e = .returned (.tuple #[.slice A l.length c, .nilIface]) ∧ w'.ownsRow w.heap.size 5 1 (.slice A l.length c) l.length (bV l) ∧ Below w.heap.size w w'
theorem fr_write {w : World} {F : Frm} {B : Option Addr} (cb : Nat) (a : Nat → Addr) (hB : Lib.BytesIn w B F.body.length F.body) (h : 0 ≤ F.k ∧ F.k ≤ 255 ∧ whoB F.f = true ∧ whoB F.t = true ∧ F.body.length ≤ 3000) (h1 : ErrC w a 1) :
    Calls Tryd.prog 60 #[.string frS, .slice (some ⟨w.heap.size, 0, none⟩) 4 4] (w.alloc (.cells (frRow F B cb) 97)) (WrEnd (w.alloc (.cells (frRow F B cb) 97)) (ocAll frS.data.toList (frN F) (frF F) 4)) := by
  have K := ocWrite_go frS (some ⟨w.heap.size, 0, none⟩) 4 4 (frN F) (frF F) a _ (h1.below (alloc_below w _)) rfl (by decide) (by decide) (fr_fields cb hB) (frF_len h.2.2.2.2)
  rw [if_pos (fr_fit h)] at K
  exact K
def FrEnd (w : World) (a : Nat → Addr) (F : Frm) (e : Ending) (w' : World) : Prop :=
  (frC F = 0 → ∃ A c, e = .returned (.tuple #[.slice A (frB F).length c, .nilIface]) ∧ w'.ownsRow w.heap.size 5 1 (.slice A (frB F).length c) (frB F).length (bV (frB F)) ∧ Below w.heap.size w w') ∧
    (frC F ≠ 0 → e = .returned (.tuple #[.slice none 0 0, errV a (frC F)]) ∧ Below w.heap.size w w')
end Go.Proofs.YtbapkamopelgpaaDoor
