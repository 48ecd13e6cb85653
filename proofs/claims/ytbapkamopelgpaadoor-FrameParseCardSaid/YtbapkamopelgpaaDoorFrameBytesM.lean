/- A digest's figures: Hex; the chapter's example. Frames: the ends, the sum behind. Frames: bytes and their sum's first four behind. Frames: Bytes. -/
import Derived.Test.YtbapkamopelgpaaDoorFrameBytesL
import Derived.Deep.RegionLaw
import Derived.Lib.SlBytesConst
import Derived.Deep.RegionHeld3
namespace Go.Proofs.YtbapkamopelgpaaDoor
open Go.RowKit Go.Stop Go.Extern Go.Ranges
set_option linter.unusedVariables false
set_option linter.unusedSimpArgs false
attribute [-go_sem] loadVar storeVar
attribute [local go_sem] loadVar_one storeVar_one
theorem sum_len (xs : List Int) : (Sha.sum xs).length = 32 := rfl
theorem four_byte (x : Sha.W) : ∀ y ∈ Sha.four x, isByte y := fun y hy => by
  unfold Sha.four at hy
  simp only [List.mem_cons, List.not_mem_nil, or_false] at hy
  unfold isByte
  rcases hy with rfl | rfl | rfl | rfl <;> omega
theorem sum_byte (xs : List Int) : ∀ y ∈ Sha.sum xs, isByte y := fun y hy => by
  unfold Sha.sum Sha.out at hy
  simp only [List.mem_append] at hy
  rcases hy with ((((((h | h) | h) | h) | h) | h) | h) | h <;> exact four_byte _ y h
end Go.Proofs.YtbapkamopelgpaaDoor

namespace Go.Proofs.YtbapkamopelgpaaDoor
open Go.RowKit Go.Stop Go.Extern Go.Ranges Go.Rows2
set_option linter.unusedVariables false
set_option linter.unusedSimpArgs false
set_option maxRecDepth 20000
structure Frm where
  k : Int
  f : Int
  t : Int
  body : List Int
def frA (F : Frm) (B : Option Addr) (cb : Nat) : Array Value := #[.int .i64 F.k, .int .i64 F.f, .int .i64 F.t, .slice B F.body.length cb]
/-- Why a frame's ends are none; 0: they are ones. -/
def endC (F : Frm) : Nat := if whoB F.f = false ∨ whoB F.t = false then 1 else if 3000 < F.body.length then 13 else 0
theorem ends_any (F : Frm) (B : Option Addr) (cb : Nat) (a : Nat → Addr) (w : World) (h1 : ErrC w a 1) (h13 : ErrC w a 13) (hL : F.body.length ≤ maxLen) :
    Calls Tryd.prog 58 #[.agg (frA F B cb)] w fun e w' => e = .returned (errV a (endC F)) ∧ Below w.heap.size w w' := by
  have K1 := fun W => who_any F.f W
  have K2 := fun W => who_any F.t W
  simp only [ErrC, gErr] at h1 h13
  have b1 := World.block_lt_of_cell? w _ h1
  have b13 := World.block_lt_of_cell? w _ h13
  have e1 : ∀ o, (w.alloc o).cell? ⟨1, 0, none⟩ = some (.iface 198 (.pointer (some (a 1)))) := fun o => ((alloc_below w o).cell b1).trans h1
  have e13 : ∀ o, (w.alloc o).cell? ⟨13, 0, none⟩ = some (.iface 198 (.pointer (some (a 13)))) := fun o => ((alloc_below w o).cell b13).trans h13
  unfold maxLen at hL
  unfold endC frA
  obtain ⟨k, f, t, body⟩ := F
  simp only at *
  clear h1 h13 b1 b13
  cases hf : whoB f with
  | false =>
    rw [hf] at K1
    have K1h := Lib.hid K1
    clear K1 K2 hf
    rw [if_pos (.inl rfl)]
    go_enter Tryd.func58, Tryd.ntmps58
    go_wp2_with fail
    refine (K1h.out _).mono ?_
    rintro e w1 ⟨rfl, rfl⟩
    go_wp2_with fail
    go_ret
    exact ⟨rfl, alloc_below _ _⟩
  | true =>
    rw [hf] at K1
    cases ht : whoB t with
    | false =>
      rw [ht] at K2
      have K1h := Lib.hid K1
      have K2h := Lib.hid K2
      clear K1 K2 hf ht
      rw [if_pos (.inr rfl)]
      go_enter Tryd.func58, Tryd.ntmps58
      go_wp2_with fail
      refine (K1h.out _).mono ?_
      rintro e w1 ⟨rfl, rfl⟩
      go_wp2_with fail
      refine (K2h.out _).mono ?_
      rintro e w1 ⟨rfl, rfl⟩
      go_wp2_with fail
      go_ret
      exact ⟨rfl, alloc_below _ _⟩
    | true =>
      rw [ht] at K2
      have K1h := Lib.hid K1
      have K2h := Lib.hid K2
      clear K1 K2 hf ht
      by_cases hb : 3000 < body.length
      · have hd : decide ((3000 : Int) < (body.length : Int)) = true := by simp; omega
        rw [if_neg (by decide), if_pos hb]
        go_enter Tryd.func58, Tryd.ntmps58
        go_wp2_with fail
        refine (K1h.out _).mono ?_
        rintro e w1 ⟨rfl, rfl⟩
        go_wp2_with fail
        refine (K2h.out _).mono ?_
        rintro e w1 ⟨rfl, rfl⟩
        go_wp2_with fail
        go_ret
        exact ⟨rfl, alloc_below _ _⟩
      · have hd : decide ((3000 : Int) < (body.length : Int)) = false := by simp; omega
        rw [if_neg (by decide), if_neg hb]
        go_enter Tryd.func58, Tryd.ntmps58
        go_wp2_with fail
        refine (K1h.out _).mono ?_
        rintro e w1 ⟨rfl, rfl⟩
        go_wp2_with fail
        refine (K2h.out _).mono ?_
        rintro e w1 ⟨rfl, rfl⟩
        go_wp2_with fail
        go_ret
        exact ⟨rfl, alloc_below _ _⟩
end Go.Proofs.YtbapkamopelgpaaDoor

namespace Go.Proofs.YtbapkamopelgpaaDoor
open Go.RowKit Go.Stop Go.Extern Go.Ranges Go.Rows2
set_option linter.unusedVariables false
set_option linter.unusedSimpArgs false
set_option maxRecDepth 20000
attribute [-go_sem] loadVar storeVar
attribute [local go_sem] loadVar_one storeVar_one zero32b_lit zero32b_size
attribute [local go_sem] World.setRow_alloc_new
theorem oid_ones {D : Array Value} {xs : List Int} (h : isOid D xs) : ones D = true := by
  unfold ones
  rw [← Array.all_toList, List.all_eq_true]
  intro u hu
  obtain ⟨j, hj, e⟩ := List.getElem_of_mem hu
  have hj' : j < 32 := by rw [← h.size]; simpa using hj
  have h2 := h.at_ j hj'
  rw [← Array.getElem?_toList, List.getElem?_eq_getElem hj, e] at h2
  injection h2 with h2
  rw [h2]
  rfl
theorem oid_four {w1 : World} {D : Array Value} {xs : List Int} (h : isOid D xs) (t : TypeId) (hl : xs.length = 32) : Lib.BytesIn (w1.alloc (.cells D t)) (some ⟨w1.heap.size, 0, none⟩) (xs.take 4).length (xs.take 4) := fun hn => by
  have hl4 : (xs.take 4).length = 4 := by rw [List.length_take]; omega
  refine ⟨w1.heap.size, 0, rfl, fun i hi => ?_⟩
  rw [hl4] at hi
  rw [cell_of_row _ _ _ _ _ _ (heap_alloc_last w1 _), Nat.zero_add, h.at_ i (by omega)]
  simp [List.getD_eq_getElem?_getD, List.getElem?_take, hi]
set_option maxHeartbeats 2000000 in
/-- Bytes, and their sum's first four behind. -/
theorem summed_any {w : World} {base : Nat} {A : Option Addr} {n c : Nat} {xs : List Int} (ho : w.ownsRow base 5 1 (.slice A n c) n (bV xs)) (hb : ∀ x ∈ xs, isByte x) (hbase : base ≤ w.heap.size) (hL : n ≤ 100000) (hG : Grains w) (hS : Start w) :
    Calls Tryd.prog 56 #[.slice A n c] w fun e w' => ∃ A' c', e = .returned (.slice A' (n + 4) c') ∧ w'.ownsRow base 5 1 (.slice A' (n + 4) c') (n + 4) (bV (xs ++ (Sha.sum xs).take 4)) ∧ Chg (fun k => some k = (Value.slice A n c).ownBlock) w w' := by
  have hlen := own_len ho
  have hB := own_bytes ho
  have b0 := alloc_below w (.cells #[.slice A n c] 22)
  have hP : PartsAt (w.alloc (.cells #[.slice A n c] 22)) (some ⟨w.heap.size, 0, none⟩) 1 (fun _ => xs) := fun _ => ⟨w.heap.size, 0, rfl, by simp, fun i hi => ⟨A, c, by
    obtain rfl : i = 0 := by omega
    rw [hlen]; simp [go_sem], by rw [hlen]; exact bytesIn_below' hB b0⟩⟩
  have K := Lib.hid (sum_any (some ⟨w.heap.size, 0, none⟩) 1 1 (fun _ => xs) _ hP (fun _ _ => hb) (by simp [cat]; omega) (by decide) (hG.below b0) (hS.below b0))
  have HO := Lib.hid ho
  clear ho hb hB hP hG hS hlen
  go_enter Tryd.func56, Tryd.ntmps56
  go_wp2_with fail
  refine K.out.mono ?_
  rintro e w1 ⟨D, rfl, hD, hb1⟩
  have hD' : isOid D (Sha.sum xs) := by simpa [cat] using hD
  have s25 := fun (W : World) (b : Nat) (h : isRow W b 32 = true) => st25r W b D h hD'.size (oid_ones hD')
  have HD := Lib.hid hD'
  have hdz := hD'.size
  have hl4 : ((Sha.sum xs).take 4).length = 4 := by rw [List.length_take, sum_len]; rfl
  have b2 : Below w.heap.size w (w1.alloc (.cells D 118)) := (b0.trans (hb1.mono b0.size)).alloc (Nat.le_trans b0.size hb1.size) _
  have hB4 := oid_four (w1 := w1) hD' 118 (sum_len xs)
  obtain ⟨v9, w9, hr9, ho9, hg9⟩ := app_bytes (own_keep HO.out b2) (some ⟨w1.heap.size, 0, none⟩) 4 32 ((Sha.sum xs).take 4) hl4 (by rw [hl4] at hB4; exact hB4) (Nat.le_trans hbase b2.size) (by omega)
  have HO9 := Lib.hid ho9
  have HG9 := Lib.hid hg9
  clear hD hD' ho9 hg9 hB4 hl4
  go_wp2_with (at_builtin; go_loud (refine Lib.wpList_append_run _ rfl (.tmp 7) (.tmp 8) 22 22 rfl _ _ rfl rfl _ _ hr9 ?_))
  obtain ⟨A9, c9, hv⟩ := own_slice HO9.out
  subst hv
  go_ret
  exact ⟨A9, c9, rfl, HO9.out, (Chg.of_below b2).trans (Chg.of_grown HG9.out (fun g hg => hg.symm))⟩
end Go.Proofs.YtbapkamopelgpaaDoor

namespace Go.Proofs.YtbapkamopelgpaaDoor
open Go.RowKit Go.Stop Go.Extern Go.Ranges Go.Rows2
set_option linter.unusedVariables false
set_option linter.unusedSimpArgs false
set_option maxRecDepth 20000
def frS : ByteArray := ⟨#[98, 98, 98, 116]⟩
def frN (F : Frm) (i : Nat) : Int := if i = 0 then F.k else if i = 1 then F.f else if i = 2 then F.t else 0
def frF (F : Frm) (i : Nat) : List Int := if i = 3 then F.body else []
/-- A frame's bytes without the sum. -/
def frBase (F : Frm) : List Int := [99, 97, 114, 116] ++ ocAll frS.data.toList (frN F) (frF F) 4
def frB (F : Frm) : List Int := frBase F ++ (Sha.sum (frBase F)).take 4
/-- Why a frame has no bytes; 0: it has some. -/
def frC (F : Frm) : Nat := if F.k < 0 ∨ 255 < F.k then 1 else endC F
theorem who_range {n : Int} (h : whoB n = true) : 0 ≤ n ∧ n ≤ 255 := by
  rcases who_cases n with ⟨rfl, _⟩ | ⟨rfl, _⟩ | ⟨h1, _⟩ | ⟨h1, _⟩ | ⟨_, h1⟩
  · decide
  · decide
  · omega
  · omega
  · rw [h] at h1; cases h1
theorem frC_ok {F : Frm} (h : frC F = 0) : 0 ≤ F.k ∧ F.k ≤ 255 ∧ whoB F.f = true ∧ whoB F.t = true ∧ F.body.length ≤ 3000 := by
  unfold frC endC at h
  split at h
  · cases h
  · split at h
    · cases h
    · split at h
      · cases h
      · rename_i h1 h2 h3
        refine ⟨by omega, by omega, ?_, ?_, by omega⟩
        · cases e : whoB F.f with
          | true => rfl
          | false => exact absurd (.inl e) h2
        · cases e : whoB F.t with
          | true => rfl
          | false => exact absurd (.inr e) h2
theorem fr_fit {F : Frm} (h : 0 ≤ F.k ∧ F.k ≤ 255 ∧ whoB F.f = true ∧ whoB F.t = true ∧ F.body.length ≤ 3000) : ocFits frS.data.toList (frN F) (frF F) 4 = true := by
  obtain ⟨h1, h2, h3, h4, h5⟩ := h
  have r3 := who_range h3
  have r4 := who_range h4
  have hb : ∀ N : Int, 0 ≤ N → N ≤ 255 → ocFit 98 N [] = true := fun N a b => by
    unfold ocFit
    rw [if_pos (by decide)]
    have : ocMost 98 = 255 := rfl
    rw [this]
    simp [a, b]
  rw [ocFits_at]
  intro i hi
  have : i = 0 ∨ i = 1 ∨ i = 2 ∨ i = 3 := by omega
  rcases this with rfl | rfl | rfl | rfl
  · exact hb _ h1 h2
  · exact hb _ r3.1 r3.2
  · exact hb _ r4.1 r4.2
  · show ocFit 116 0 F.body = true
    unfold ocFit
    rw [if_neg (by decide)]
    simp
    omega
theorem frF_len {F : Frm} (hL : F.body.length ≤ 3000) : ∀ i, i < 4 → (frF F i).length ≤ 100000 := fun i _ => by
  unfold frF
  split
  · omega
  · simp
theorem frF_byte {F : Frm} (hb : ∀ x ∈ F.body, isByte x) : ∀ x ∈ frBase F, isByte x := by
  have hB : ∀ (c : UInt8) (N : Int) (B : List Int), (∀ x ∈ B, isByte x) → ∀ x ∈ ocB c N B, isByte x := fun c N B h x hx => by
    unfold ocB at hx
    split at hx
    · exact ocNum_byte _ _ x hx
    · split at hx
      · exact h x hx
      · rcases List.mem_append.1 hx with h2 | h2
        · exact ocNum_byte _ _ x h2
        · exact h x h2
  have key : ∀ k, ∀ x ∈ ocAll frS.data.toList (frN F) (frF F) k, isByte x := fun k => by
    induction k with
    | zero => intro x hx; cases hx
    | succ k ih =>
      intro x hx
      rcases List.mem_append.1 (show x ∈ ocAll frS.data.toList (frN F) (frF F) k ++ ocB _ _ _ from hx) with h | h
      · exact ih x h
      · refine hB _ _ _ (fun y hy => ?_) x h
        unfold frF at hy
        split at hy
        · exact hb y hy
        · cases hy
  intro x hx
  rcases List.mem_append.1 (show x ∈ [99, 97, 114, 116] ++ ocAll frS.data.toList (frN F) (frF F) 4 from hx) with h | h
  · simp only [List.mem_cons, List.not_mem_nil, or_false] at h
    unfold isByte
    omega
  · exact key 4 x h
theorem fr_len {F : Frm} (hL : F.body.length ≤ 3000) : (ocAll frS.data.toList (frN F) (frF F) 4).length ≤ 3032 := by
  have key : ∀ k, k ≤ 4 → (ocAll frS.data.toList (frN F) (frF F) k).length ≤ k * 8 + (if 3 < k then F.body.length else 0) := fun k => by
    induction k with
    | zero => intro _; exact Nat.zero_le _
    | succ k ih =>
      intro hk
      have h1 := ih (by omega)
      have h2 := ocB_len (frS.data.toList.getD k 0) (frN F k) (frF F k)
      have h3 : (ocAll frS.data.toList (frN F) (frF F) (k + 1)).length = (ocAll frS.data.toList (frN F) (frF F) k).length + (ocB (frS.data.toList.getD k 0) (frN F k) (frF F k)).length := by
        show (cat _ k ++ _).length = _
        rw [List.length_append]; rfl
      have h4 : (frF F k).length ≤ if k = 3 then F.body.length else 0 := by
        unfold frF
        split <;> simp
      rw [h3]
      split <;> split at h1 <;> split at h4 <;> omega
  have := key 4 (by decide)
  rw [if_pos (by decide)] at this
  omega
def frRow (F : Frm) (B : Option Addr) (cb : Nat) : Array Value := #[.int .i64 F.k, .slice none 0 0, .int .i64 F.f, .slice none 0 0, .int .i64 F.t, .slice none 0 0, .int .i64 0, .slice B F.body.length cb]
theorem fr_fields {w : World} {F : Frm} {B : Option Addr} (cb : Nat) (hB : Lib.BytesIn w B F.body.length F.body) : FieldsAt (w.alloc (.cells (frRow F B cb) 97)) (some ⟨w.heap.size, 0, none⟩) 4 (frN F) (frF F) := fun _ => by
  have hb := alloc_below w (.cells (frRow F B cb) 97)
  have hc : ∀ j, (w.alloc (.cells (frRow F B cb) 97)).cell? ⟨w.heap.size, 0 + j, none⟩ = (frRow F B cb)[j]? := fun j => by
    rw [cell_of_row _ _ _ _ _ _ (heap_alloc_last w _), Nat.zero_add]
  refine ⟨w.heap.size, 0, rfl, by simp, fun i hi => ?_⟩
  have : i = 0 ∨ i = 1 ∨ i = 2 ∨ i = 3 := by omega
  rcases this with rfl | rfl | rfl | rfl
  · exact ⟨none, 0, hc 0, hc 1, fun h => absurd h (Nat.lt_irrefl 0)⟩
  · exact ⟨none, 0, hc 2, hc 3, fun h => absurd h (Nat.lt_irrefl 0)⟩
  · exact ⟨none, 0, hc 4, hc 5, fun h => absurd h (Nat.lt_irrefl 0)⟩
  · exact ⟨B, cb, hc 6, hc 7, bytesIn_below' hB hb⟩
def WrEnd (w : World) (l : List Int) (e : Ending) (w' : World) : Prop := ∃ A c, e = .returned (.tuple #[.slice A l.length c, .nilIface]) ∧ w'.ownsRow w.heap.size 5 1 (.slice A l.length c) l.length (bV l) ∧ Below w.heap.size w w'
theorem fr_write {w : World} {F : Frm} {B : Option Addr} (cb : Nat) (a : Nat → Addr) (hB : Lib.BytesIn w B F.body.length F.body) (h : 0 ≤ F.k ∧ F.k ≤ 255 ∧ whoB F.f = true ∧ whoB F.t = true ∧ F.body.length ≤ 3000) (h1 : ErrC w a 1) :
    Calls Tryd.prog 60 #[.string frS, .slice (some ⟨w.heap.size, 0, none⟩) 4 4] (w.alloc (.cells (frRow F B cb) 97)) (WrEnd (w.alloc (.cells (frRow F B cb) 97)) (ocAll frS.data.toList (frN F) (frF F) 4)) := by
  have K := ocWrite_go frS (some ⟨w.heap.size, 0, none⟩) 4 4 (frN F) (frF F) a _ (h1.below (alloc_below w _)) rfl (by decide) (by decide) (fr_fields cb hB) (frF_len h.2.2.2.2)
  rw [if_pos (fr_fit h)] at K
  exact K
def FrEnd (w : World) (a : Nat → Addr) (F : Frm) (e : Ending) (w' : World) : Prop :=
  (frC F = 0 → ∃ A c, e = .returned (.tuple #[.slice A (frB F).length c, .nilIface]) ∧ w'.ownsRow w.heap.size 5 1 (.slice A (frB F).length c) (frB F).length (bV (frB F)) ∧ Below w.heap.size w w') ∧
    (frC F ≠ 0 → e = .returned (.tuple #[.slice none 0 0, errV a (frC F)]) ∧ Below w.heap.size w w')
end Go.Proofs.YtbapkamopelgpaaDoor
