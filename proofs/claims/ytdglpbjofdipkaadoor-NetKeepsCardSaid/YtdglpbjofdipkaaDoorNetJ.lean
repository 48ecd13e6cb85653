/- What a net and the reference's net answer, call by call, in one form. -/
import Derived.Test.YtdglpbjofdipkaaDoorNetI
import Derived.Test.YtdglpbjofdipkaaDoorRefD
import Derived.Test.YtdglpbjofdipkaaDoorRefE
namespace Go.Proofs.YtdglpbjofdipkaaDoor
open Go.RowKit Go.Stop Go.Extern Go.Ranges Go.Rows2 Go.Sort Go.BigFrame
set_option linter.unusedVariables false
set_option linter.unusedSimpArgs false
set_option maxRecDepth 20000
def NS.has (S : NS) (i : Int) : Prop := 0 ≤ i ∧ i < (S.L.length : Int)
instance (S : NS) (i : Int) : Decidable (S.has i) := by unfold NS.has; exact inferInstance
def sendC (S : NS) (t : List Int) : Nat := if 3100 < t.length then 13 else if S.room ≤ (S.L.length : Int) then 12 else 0
def sendS (S : NS) (t : List Int) : NS := if sendC S t = 0 then { S with L := S.L ++ [t], s := S.s + 1 } else S
def takeC (S : NS) (i : Int) : Nat := if S.has i then 0 else 21
def loseS (S : NS) (i : Int) : NS := if S.has i then { S with L := S.L.eraseIdx i.toNat, l := S.l + 1 } else S
def takeS (S : NS) (i : Int) : NS := if S.has i then { S with L := S.L.eraseIdx i.toNat, t := S.t + 1 } else S
def doubleC (S : NS) (i : Int) : Nat := if S.has i then (if S.room ≤ (S.L.length : Int) then 12 else 0) else 21
def doubleS (S : NS) (i : Int) : NS := if doubleC S i = 0 then { S with L := S.L ++ [S.L.getD i.toNat []], d := S.d + 1 } else S
def moveC (S : NS) (i j : Int) : Nat := if S.has i ∧ S.has j then 0 else 21
def moveS (S : NS) (i j : Int) : NS := if S.has i ∧ S.has j then { S with L := moved S.L i.toNat j.toNat } else S
/-- What holds of the numbers. -/
structure NS.ok (S : NS) (k : Nat) : Prop where
  room0 : 1 ≤ S.room
  room : S.room ≤ 64
  len : (S.L.length : Int) ≤ S.room
  s : 0 ≤ S.s ∧ S.s ≤ k
  t : 0 ≤ S.t ∧ S.t ≤ k
  l : 0 ≤ S.l ∧ S.l ≤ k
  d : 0 ≤ S.d ∧ S.d ≤ k
  short : ∀ t ∈ S.L, t.length ≤ 3100
theorem errV_pos (a : Nat → Addr) (n : Nat) (h : n ≠ 0) : errV a n = .iface 143 (.pointer (some (a n))) := if_neg h
theorem NetV.same {w w' : World} {base p : Nat} {X : Nat → Prop} {S : NS} {v : Value} {xs : List Value} (h : NetV w base p X S v xs) (hb : Below w.heap.size w w') {r r' : Value} (e : r = r') : NetEnd w base p X r S v (.returned r') w' :=
  ⟨v, xs, by rw [e], h.below hb, .inl rfl, Chg.of_below hb⟩
theorem RefV.same {w w' : World} {base q : Nat} {S : NS} {v : Value} {xs : List Value} (h : RefV w base q S v xs) (hb : Below w.heap.size w w') {r r' : Value} (e : r = r') : RefEnd w base q r S v (.returned r') w' :=
  ⟨v, xs, by rw [e], h.below hb, Chg.of_below hb, .inl rfl⟩
theorem send_all (a : Nat → Addr) {w : World} {base p : Nat} {X : Nat → Prop} {S : NS} {v : Value} {xs : List Value} {k : Nat} (h : NetV w base p X S v xs) (hS : S.ok k) (hk : k ≤ 1000) (H : Errs w a) (A : Option Addr) (c : Nat) (t : List Int) (hB : Lib.BytesIn w A t.length t) (hb : base ≤ w.heap.size) :
    Calls Tryd.prog 46 #[.pointer (some ⟨p, 0, none⟩), .slice A t.length c] w (NetEnd w base p X (errV a (sendC S t)) (sendS S t) v) := by
  obtain ⟨r0, r1, hl, hs, _, _, _, _⟩ := hS
  by_cases h1 : 3100 < t.length
  · have e1 : sendC S t = 13 := if_pos h1
    have e2 : sendS S t = S := by unfold sendS; rw [if_neg (by rw [e1]; decide)]
    rw [e1, e2]
    refine (send_long a p A t.length c h1 H).mono ?_
    rintro e w' ⟨rfl, hb'⟩
    exact h.same hb' (errV_pos a 13 (by decide))
  · by_cases h2 : S.room ≤ (S.L.length : Int)
    · have e1 : sendC S t = 12 := by unfold sendC; rw [if_neg h1, if_pos h2]
      have e2 : sendS S t = S := by unfold sendS; rw [if_neg (by rw [e1]; decide)]
      rw [e1, e2]
      refine (send_full a h A t.length c (by omega) (by omega) (by omega) (by omega) H).mono ?_
      rintro e w' ⟨rfl, hb'⟩
      exact h.same hb' (errV_pos a 12 (by decide))
    · have e1 : sendC S t = 0 := by unfold sendC; rw [if_neg h1, if_neg h2]
      have e2 : sendS S t = { S with L := S.L ++ [t], s := S.s + 1 } := by unfold sendS; rw [if_pos e1]
      rw [e1, e2]
      refine (send_ok h A t.length c t rfl hB (fun e => by
        rcases Nat.eq_zero_or_pos t.length with h0 | h0
        · exact h0
        · obtain ⟨_, _, he, _⟩ := hB h0
          rw [e] at he; cases he) (by omega) (by omega) (by omega) (by omega) hs.1 (by omega) hb).mono ?_
      rintro e w' ⟨v', xs', rfl, hN, hr, hC⟩
      exact ⟨v', xs', rfl, hN, hr, hC⟩
theorem refSend_all {w : World} {base q : Nat} {S : NS} {v : Value} {xs : List Value} {k : Nat} (h : RefV w base q S v xs) (hS : S.ok k) (hk : k ≤ 1000) (A : Option Addr) (c : Nat) (t : List Int) (ht : TextIs w (fun k => k < base) (.slice A t.length c) t) :
    Calls Tryd.prog 56 #[.pointer (some ⟨q, 0, none⟩), .slice A t.length c] w (RefEnd w base q (.int .i64 (sendC S t)) (sendS S t) v) := by
  obtain ⟨r0, r1, hl, hs, _, _, _, _⟩ := hS
  by_cases h1 : 3100 < t.length
  · have e1 : sendC S t = 13 := if_pos h1
    have e2 : sendS S t = S := by unfold sendS; rw [if_neg (by rw [e1]; decide)]
    rw [e1, e2]
    refine (refSend_long base q A t.length c h1 w).mono ?_
    rintro e w' ⟨rfl, rfl⟩
    exact h.same (Below.refl _ _) rfl
  · by_cases h2 : S.room ≤ (S.L.length : Int)
    · have e1 : sendC S t = 12 := by unfold sendC; rw [if_neg h1, if_pos h2]
      have e2 : sendS S t = S := by unfold sendS; rw [if_neg (by rw [e1]; decide)]
      rw [e1, e2]
      refine (refSend_full h A t.length c (by omega) h2).mono ?_
      rintro e w' ⟨rfl, hb'⟩
      exact h.same hb' rfl
    · have e1 : sendC S t = 0 := by unfold sendC; rw [if_neg h1, if_neg h2]
      have e2 : sendS S t = { S with L := S.L ++ [t], s := S.s + 1 } := by unfold sendS; rw [if_pos e1]
      rw [e1, e2]
      exact refSend_ok h A c t ht (by omega) (by omega) (by omega) hs.1 (by omega)
theorem lose_all (a : Nat → Addr) {w : World} {base p : Nat} {X : Nat → Prop} {S : NS} {v : Value} {xs : List Value} {k : Nat} (h : NetV w base p X S v xs) (hS : S.ok k) (hk : k ≤ 1000) (H : Errs w a) (i : Int) :
    Calls Tryd.prog 51 #[.pointer (some ⟨p, 0, none⟩), .int .i64 i] w (NetEnd w base p X (errV a (takeC S i)) (loseS S i) v) := by
  obtain ⟨r0, r1, hl, _, _, hs, _, _⟩ := hS
  by_cases h1 : S.has i
  · have e1 : takeC S i = 0 := if_pos h1
    have e2 : loseS S i = { S with L := S.L.eraseIdx i.toNat, l := S.l + 1 } := if_pos h1
    rw [e1, e2]
    obtain ⟨j, rfl⟩ : ∃ j : Nat, i = j := ⟨i.toNat, by have := h1.1; omega⟩
    have hj := h1.2
    refine (lose_ok h j (by omega) (by omega) hs.1 (by omega)).mono ?_
    rintro e w' ⟨v', xs', rfl, hN, hr, hC⟩
    exact ⟨v', xs', rfl, hN, .inl hr, hC⟩
  · have e1 : takeC S i = 21 := if_neg h1
    have e2 : loseS S i = S := if_neg h1
    rw [e1, e2]
    refine (lose_no a h i (by unfold NS.has at h1; omega) H).mono ?_
    rintro e w' ⟨rfl, hb'⟩
    exact h.same hb' (errV_pos a 21 (by decide))
theorem refLose_all {w : World} {base q : Nat} {S : NS} {v : Value} {xs : List Value} {k : Nat} (h : RefV w base q S v xs) (hS : S.ok k) (hk : k ≤ 1000) (i : Int) :
    Calls Tryd.prog 58 #[.pointer (some ⟨q, 0, none⟩), .int .i64 i] w (RefEnd w base q (.int .i64 (takeC S i)) (loseS S i) v) := by
  obtain ⟨r0, r1, hl, _, _, hs, _, _⟩ := hS
  by_cases h1 : S.has i
  · have e1 : takeC S i = 0 := if_pos h1
    have e2 : loseS S i = { S with L := S.L.eraseIdx i.toNat, l := S.l + 1 } := if_pos h1
    rw [e1, e2]
    obtain ⟨j, rfl⟩ : ∃ j : Nat, i = j := ⟨i.toNat, by have := h1.1; omega⟩
    have hj := h1.2
    exact refLose_ok h j (by omega) (by omega) hs.1 (by omega)
  · have e1 : takeC S i = 21 := if_neg h1
    have e2 : loseS S i = S := if_neg h1
    rw [e1, e2]
    refine (refLose_no h i (by unfold NS.has at h1; omega)).mono ?_
    rintro e w' ⟨rfl, rfl⟩
    exact h.same (Below.refl _ _) rfl
theorem double_all (a : Nat → Addr) {w : World} {base p : Nat} {X : Nat → Prop} {S : NS} {v : Value} {xs : List Value} {k : Nat} (h : NetV w base p X S v xs) (hS : S.ok k) (hk : k ≤ 1000) (H : Errs w a) (i : Int) (hb : base ≤ w.heap.size) :
    Calls Tryd.prog 52 #[.pointer (some ⟨p, 0, none⟩), .int .i64 i] w (NetEnd w base p X (errV a (doubleC S i)) (doubleS S i) v) := by
  obtain ⟨r0, r1, hl, _, _, _, hs, hsh⟩ := hS
  by_cases h1 : S.has i
  · obtain ⟨j, rfl⟩ : ∃ j : Nat, i = j := ⟨i.toNat, by have := h1.1; omega⟩
    have hj := h1.2
    by_cases h2 : S.room ≤ (S.L.length : Int)
    · have e1 : doubleC S (j : Int) = 12 := by unfold doubleC; rw [if_pos h1, if_pos h2]
      have e2 : doubleS S (j : Int) = S := by unfold doubleS; rw [if_neg (by rw [e1]; decide)]
      rw [e1, e2]
      refine (double_full a h j (by omega) (by omega) (by omega) (by omega) H).mono ?_
      rintro e w' ⟨rfl, hb'⟩
      exact h.same hb' (errV_pos a 12 (by decide))
    · have e1 : doubleC S (j : Int) = 0 := by unfold doubleC; rw [if_pos h1, if_neg h2]
      have e2 : doubleS S (j : Int) = { S with L := S.L ++ [S.L.getD j []], d := S.d + 1 } := by unfold doubleS; rw [if_pos e1]; rfl
      rw [e1, e2]
      have hlen : (S.L.getD j []).length ≤ 3100 := hsh _ (by
        rw [List.getD_eq_getElem?_getD, List.getElem?_eq_getElem (by omega)]
        exact List.getElem_mem _)
      exact double_ok h j (by omega) (by omega) (by omega) (by omega) (by omega) hs.1 (by omega) hb
  · have e1 : doubleC S i = 21 := if_neg h1
    have e2 : doubleS S i = S := by unfold doubleS; rw [if_neg (by rw [e1]; decide)]
    rw [e1, e2]
    refine (double_no a h i (by unfold NS.has at h1; omega) H).mono ?_
    rintro e w' ⟨rfl, hb'⟩
    exact h.same hb' (errV_pos a 21 (by decide))
theorem refDouble_all {w : World} {base q : Nat} {S : NS} {v : Value} {xs : List Value} {k : Nat} (h : RefV w base q S v xs) (hS : S.ok k) (hk : k ≤ 1000) (i : Int) :
    Calls Tryd.prog 59 #[.pointer (some ⟨q, 0, none⟩), .int .i64 i] w (RefEnd w base q (.int .i64 (doubleC S i)) (doubleS S i) v) := by
  obtain ⟨r0, r1, hl, _, _, _, hs, hsh⟩ := hS
  by_cases h1 : S.has i
  · obtain ⟨j, rfl⟩ : ∃ j : Nat, i = j := ⟨i.toNat, by have := h1.1; omega⟩
    have hj := h1.2
    by_cases h2 : S.room ≤ (S.L.length : Int)
    · have e1 : doubleC S (j : Int) = 12 := by unfold doubleC; rw [if_pos h1, if_pos h2]
      have e2 : doubleS S (j : Int) = S := by unfold doubleS; rw [if_neg (by rw [e1]; decide)]
      rw [e1, e2]
      refine (refDouble_full h j (by omega) h2).mono ?_
      rintro e w' ⟨rfl, hb'⟩
      exact h.same hb' rfl
    · have e1 : doubleC S (j : Int) = 0 := by unfold doubleC; rw [if_pos h1, if_neg h2]
      have e2 : doubleS S (j : Int) = { S with L := S.L ++ [S.L.getD j []], d := S.d + 1 } := by unfold doubleS; rw [if_pos e1]; rfl
      rw [e1, e2]
      exact refDouble_ok h j (by omega) (by omega) (by omega) hs.1 (by omega)
  · have e1 : doubleC S i = 21 := if_neg h1
    have e2 : doubleS S i = S := by unfold doubleS; rw [if_neg (by rw [e1]; decide)]
    rw [e1, e2]
    refine (refDouble_no h i (by unfold NS.has at h1; omega)).mono ?_
    rintro e w' ⟨rfl, rfl⟩
    exact h.same (Below.refl _ _) rfl
theorem move_all (a : Nat → Addr) {w : World} {base p : Nat} {X : Nat → Prop} {S : NS} {v : Value} {xs : List Value} {k : Nat} (h : NetV w base p X S v xs) (hS : S.ok k) (H : Errs w a) (i j : Int) :
    Calls Tryd.prog 48 #[.pointer (some ⟨p, 0, none⟩), .int .i64 i, .int .i64 j] w (NetEnd w base p X (errV a (moveC S i j)) (moveS S i j) v) := by
  obtain ⟨r0, r1, hl, _, _, _, _, _⟩ := hS
  by_cases h1 : S.has i ∧ S.has j
  · have e1 : moveC S i j = 0 := if_pos h1
    have e2 : moveS S i j = { S with L := moved S.L i.toNat j.toNat } := if_pos h1
    rw [e1, e2]
    obtain ⟨ii, rfl⟩ : ∃ t : Nat, i = t := ⟨i.toNat, by have := h1.1.1; omega⟩
    obtain ⟨jj, rfl⟩ : ∃ t : Nat, j = t := ⟨j.toNat, by have := h1.2.1; omega⟩
    have a1 := h1.1.2
    have a2 := h1.2.2
    refine (move_ok h ii jj (by omega) (by omega) (by omega)).mono ?_
    rintro e w' ⟨v', xs', rfl, hN, hr, hC⟩
    exact ⟨v', xs', rfl, hN, .inl hr, hC⟩
  · have e1 : moveC S i j = 21 := if_neg h1
    have e2 : moveS S i j = S := if_neg h1
    rw [e1, e2]
    by_cases h2 : S.has j
    · have h3 : ¬ S.has i := fun h => h1 ⟨h, h2⟩
      obtain ⟨jj, rfl⟩ : ∃ t : Nat, j = t := ⟨j.toNat, by have := h2.1; omega⟩
      have a2 := h2.2
      refine (move_no2 a h i jj (by omega) (by unfold NS.has at h3; omega) H).mono ?_
      rintro e w' ⟨rfl, hb'⟩
      exact h.same hb' (errV_pos a 21 (by decide))
    · refine (move_no1 a h i j (by unfold NS.has at h2; omega) H).mono ?_
      rintro e w' ⟨rfl, hb'⟩
      exact h.same hb' (errV_pos a 21 (by decide))
theorem refMove_all {w : World} {base q : Nat} {S : NS} {v : Value} {xs : List Value} {k : Nat} (h : RefV w base q S v xs) (hS : S.ok k) (i j : Int) :
    Calls Tryd.prog 60 #[.pointer (some ⟨q, 0, none⟩), .int .i64 i, .int .i64 j] w (RefEnd w base q (.int .i64 (moveC S i j)) (moveS S i j) v) := by
  obtain ⟨r0, r1, hl, _, _, _, _, _⟩ := hS
  by_cases h1 : S.has i ∧ S.has j
  · have e1 : moveC S i j = 0 := if_pos h1
    have e2 : moveS S i j = { S with L := moved S.L i.toNat j.toNat } := if_pos h1
    rw [e1, e2]
    obtain ⟨ii, rfl⟩ : ∃ t : Nat, i = t := ⟨i.toNat, by have := h1.1.1; omega⟩
    obtain ⟨jj, rfl⟩ : ∃ t : Nat, j = t := ⟨j.toNat, by have := h1.2.1; omega⟩
    have a1 := h1.1.2
    have a2 := h1.2.2
    exact refMove_ok h ii jj (by omega) (by omega) (by omega)
  · have e1 : moveC S i j = 21 := if_neg h1
    have e2 : moveS S i j = S := if_neg h1
    rw [e1, e2]
    refine (refMove_no h i j (by unfold NS.has at h1; omega)).mono ?_
    rintro e w' ⟨rfl, rfl⟩
    exact h.same (Below.refl _ _) rfl
end Go.Proofs.YtdglpbjofdipkaaDoor
