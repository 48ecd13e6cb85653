/- octets, reading: what is read, and a part of it cut off. -/
import Derived.Test.YtmmiimcodbjnmaaDoorOctB
import Derived.Test.YtmmiimcodbjnmaaDoorClone
namespace Go.Proofs.YtmmiimcodbjnmaaDoor
open Go.RowKit Go.Stop Go.Extern Go.Ranges Go.Rows2
set_option linter.unusedVariables false
set_option linter.unusedSimpArgs false
/-- Bytes in memory, in the block T. -/
structure Txt (w : World) (T : Nat) (A : Option Addr) (c : Nat) (xs : List Int) : Prop where
  at_ : Lib.BytesIn w A xs.length xs
  le : xs.length ≤ c
  max : c ≤ maxLen
  off : ∀ a, A = some a → 0 < xs.length → a.block = T
theorem Txt.chg {S : Nat → Prop} {w w' : World} {T : Nat} {A : Option Addr} {c : Nat} {xs : List Int} (h : Txt w T A c xs) (hc : Chg S w w') (hS : ¬ S T) : Txt w' T A c xs := by
  refine ⟨fun hn => ?_, h.le, h.max, h.off⟩
  obtain ⟨b, o, rfl, hcl⟩ := h.at_ hn
  have hlt := World.block_lt_of_cell? w _ (hcl 0 hn)
  have e := h.off _ rfl hn
  exact ⟨b, o, rfl, fun i hi => (World.cell?_of_block (a := ⟨b, o + i, none⟩) (hc.block b hlt (by show ¬ S b; rw [show b = T from e]; exact hS))).trans (hcl i hi)⟩
theorem Txt.below {w w' : World} {T : Nat} {A : Option Addr} {c : Nat} {xs : List Int} (h : Txt w T A c xs) (hb : Below w.heap.size w w') : Txt w' T A c xs := h.chg (Chg.of_below (S := fun _ => False) hb) (fun h => h)
/-- What is left of what is read lies in the block I, its bytes in the block T. -/
structure InAt (w : World) (I T : Nat) (xs : List Int) : Prop where
  cell : ∃ A c, w.cell? ⟨I, 0, none⟩ = some (.slice A xs.length c) ∧ w.frozen? ⟨I, 0, none⟩ = false ∧ Txt w T A c xs
  ne : T ≠ I
  tlt : T < w.heap.size
theorem InAt.lt {w : World} {I T : Nat} {xs : List Int} (h : InAt w I T xs) : I < w.heap.size := by
  obtain ⟨⟨A, c, h1, _⟩, _⟩ := h
  exact World.block_lt_of_cell? w _ h1
theorem InAt.chg {S : Nat → Prop} {w w' : World} {I T : Nat} {xs : List Int} (h : InAt w I T xs) (hc : Chg S w w') (hI : ¬ S I) (hT : ¬ S T) : InAt w' I T xs := by
  have hlt := h.lt
  obtain ⟨⟨A, c, h1, h2, h3⟩, h4, h5⟩ := h
  exact ⟨⟨A, c, (World.cell?_of_block (a := ⟨I, 0, none⟩) (hc.block I hlt hI)).trans h1, (World.frozen?_of_block (a := ⟨I, 0, none⟩) (hc.block I hlt hI)).trans h2, h3.chg hc hT⟩, h4, Nat.lt_of_lt_of_le h5 hc.size⟩
theorem InAt.below {w w' : World} {I T : Nat} {xs : List Int} (h : InAt w I T xs) (hb : Below w.heap.size w w') : InAt w' I T xs := h.chg (Chg.of_below (S := fun _ => False) hb) (fun h => h) (fun h => h)
/-- A global error is not what is read. -/
theorem err_off {w : World} {a : Nat → Addr} {n I T : Nat} {xs : List Int} (h : InAt w I T xs) (he : ErrC w a n) : gErr n ≠ I := by
  intro e
  obtain ⟨⟨A, c, h1, _⟩, _⟩ := h
  unfold ErrC at he
  rw [e, h1] at he
  cases he
theorem ErrC.chg {w w' : World} {a : Nat → Addr} {n I T : Nat} {xs : List Int} (he : ErrC w a n) (h : InAt w I T xs) (hc : Chg (fun k => k = I) w w') : ErrC w' a n :=
  (World.cell?_of_block (a := ⟨gErr n, 0, none⟩) (hc.block _ (World.block_lt_of_cell? w _ he) (err_off h he))).trans he
theorem add_block (a : Addr) (k : Nat) : (a.add k).block = a.block := by
  unfold Addr.add
  split <;> rfl
/-- Where a part begins. -/
def cutB (A : Option Addr) (l m : Nat) : Option Addr := if m = l then A else A.map (·.add l)
theorem cut_bytes {w : World} {T : Nat} {A : Option Addr} {c : Nat} {xs : List Int} (h : Txt w T A c xs) (k : Nat) (hk : k ≤ xs.length) :
    Txt w T (cutB A k c) (c - k) (xs.drop k) := by
  have hl : (xs.drop k).length = xs.length - k := List.length_drop
  have hc := h.le
  refine ⟨fun hn => ?_, by omega, by have := h.max; omega, fun a e hn => ?_⟩
  · rw [hl] at hn
    obtain ⟨b, o, rfl, hcl⟩ := h.at_ (by omega)
    refine ⟨b, o + k, ?_, fun i hi => ?_⟩
    · unfold cutB
      rw [if_neg (by omega)]
      exact congrArg some (Go.WideShapes.add_plain b o k)
    · rw [hl] at hi
      have := hcl (k + i) (by omega)
      rw [Nat.add_assoc, this]
      simp [List.getD_eq_getElem?_getD, List.getElem?_drop]
  · rw [hl] at hn
    unfold cutB at e
    rw [if_neg (by omega)] at e
    cases A with
    | none => cases e
    | some a0 =>
      injection e with e
      subst e
      rw [add_block]
      exact h.off a0 rfl (by omega)
theorem cut_head {w : World} {T : Nat} {A : Option Addr} {c : Nat} {xs : List Int} (h : Txt w T A c xs) (k : Nat) (hk : k ≤ xs.length) :
    Txt w T (cutB A 0 c) c (xs.take k) := by
  have hl : (xs.take k).length = k := by rw [List.length_take]; omega
  have hc := h.le
  refine ⟨fun hn => ?_, by omega, h.max, fun a e hn => ?_⟩
  · rw [hl] at hn
    obtain ⟨b, o, rfl, hcl⟩ := h.at_ (by omega)
    refine ⟨b, o, ?_, fun i hi => ?_⟩
    · unfold cutB
      rw [if_neg (by omega)]
      rfl
    · rw [hl] at hi
      rw [hcl i (by omega)]
      simp [List.getD_eq_getElem?_getD, List.getElem?_take, hi]
  · rw [hl] at hn
    unfold cutB at e
    rw [if_neg (by omega)] at e
    cases A with
    | none => cases e
    | some a0 =>
      injection e with e
      subst e
      exact h.off a0 rfl (by omega)
theorem elem_u8 : Tryd.prog.elem 34 = 5 := by simp [Program.elem, Tryd.underlying34]
theorem under_u8 : Tryd.prog.underlying 34 = some (.slice (Tryd.prog.elem 34)) := by rw [elem_u8]; exact Tryd.underlying34
theorem run_head (A : Option Addr) (n c k : Nat) (hk : k ≤ c) (w : World) : (Instr.slice 34 (.slice A n c) none (some (.int .i64 k)) none).run Tryd.prog w = .ok (.slice (cutB A 0 c) k c) w := by
  rw [run_slice_h (P := Tryd.prog) w 34 A n c under_u8 .i64 k (by omega) (by omega), elem_u8, size_u8]
  simp [sliced, cutB]
theorem run_rest (A : Option Addr) (n c k : Nat) (hk : k ≤ n) (w : World) : (Instr.slice 34 (.slice A n c) (some (.int .i64 k)) none none).run Tryd.prog w = .ok (.slice (cutB A k c) (n - k) (c - k)) w := by
  rw [run_slice_l (P := Tryd.prog) w 34 A n c under_u8 .i64 k (by omega) (by omega), elem_u8, size_u8]
  simp [sliced, cutB]
/-- What is thrown. -/
def haltV (v : Value) : List PanicEntry := [{ v := .iface 135 (.agg #[v]), recovered := false }]
set_option maxRecDepth 20000 in
theorem fail_any (p : Value) (x : Addr) (w : World) : Calls Tryd.prog 62 #[p, .iface 199 (.pointer (some x))] w fun e w' => e = .panicked (haltV (.iface 199 (.pointer (some x)))) ∧ w = w' := by
  go_enter Tryd.func62, Tryd.ntmps62
  go_wp2_with fail
  exact ⟨rfl, rfl, rfl⟩
/-- A failure: what was thrown, and what turned. -/
def Halts (w : World) (a : Nat → Addr) (I n : Nat) (e : Ending) (w' : World) : Prop := e = .panicked (haltV (errV a n)) ∧ Chg (fun k => k = I) w w'
/-- Some bytes read. -/
def TakeEnd (w : World) (I T k : Nat) (xs : List Int) (e : Ending) (w' : World) : Prop :=
  ∃ A c, e = .returned (.slice A k c) ∧ Txt w' T A c (xs.take k) ∧ (A = none → k = 0) ∧ InAt w' I T (xs.drop k) ∧ Chg (fun k => k = I) w w'
set_option maxRecDepth 20000 in
set_option maxHeartbeats 400000 in
theorem take_ok (I T : Nat) (N : Int) (xs : List Int) (w : World) (h0 : 0 ≤ N) (hN : N.toNat ≤ xs.length) (h : InAt w I T xs) :
    Calls Tryd.prog 81 #[.pointer (some ⟨I, 0, none⟩), .int .i64 N] w (TakeEnd w I T N.toNat xs) := by
  obtain ⟨k, rfl⟩ := Int.eq_ofNat_of_zero_le h0
  rw [Int.toNat_natCast] at hN ⊢
  obtain ⟨⟨A, c, h1, h2, h3⟩, h4, h5⟩ := h
  have hh := run_head A xs.length c k (by have := h3.le; omega)
  have hr := run_rest A xs.length c k hN
  have HH := Lib.hid (cut_head h3 k hN)
  have HR := Lib.hid (cut_bytes h3 k hN)
  have H3 := Lib.hid h3
  have HA0 : cutB A 0 c = none → k = 0 := fun e => by
    by_cases hk : k = 0
    · exact hk
    · exfalso
      obtain ⟨b, o, rfl, _⟩ := h3.at_ (by omega)
      have hle := h3.le
      unfold cutB at e
      rw [if_neg (by omega)] at e
      cases e
  have HA := Lib.hid HA0
  clear HA0
  have hd : decide ((xs.length : Int) < (k : Int)) = false := by simp; omega
  clear h3
  generalize cutB A 0 c = A1 at *
  generalize cutB A k c = A2 at *
  go_enter Tryd.func81, Tryd.ntmps81
  go_wp2_with fail
  go_ret
  have hl1 : (xs.take k).length = k := by rw [List.length_take]; omega
  have hl2 : (xs.drop k).length = xs.length - k := List.length_drop
  have hc : Chg (fun k => k = I) w (w.setCell ⟨I, 0, none⟩ (.slice A2 (xs.length - k) (c - k))) := chg_cell w I 0 _
  refine ⟨A1, c, rfl, HH.out.chg hc h4, HA.out, ⟨⟨A2, c - k, ?_, ?_, HR.out.chg hc h4⟩, h4, Nat.lt_of_lt_of_le h5 hc.size⟩, hc⟩
  · rw [hl2]
    simp [go_sem, h1]
  · simp [go_sem, h2]
theorem take_no (I T : Nat) (N : Int) (xs : List Int) (a : Nat → Addr) (w : World) (hN : (xs.length : Int) < N) (h : InAt w I T xs) (hE : ErrC w a 2) :
    Calls Tryd.prog 81 #[.pointer (some ⟨I, 0, none⟩), .int .i64 N] w (Halts w a I 2) := by
  obtain ⟨⟨A, c, h1, h2, h3⟩, h4, h5⟩ := h
  simp only [ErrC, gErr] at hE
  have hd : decide ((xs.length : Int) < N) = true := by simpa using hN
  clear h3
  go_enter Tryd.func81, Tryd.ntmps81
  go_wp2_with fail
  refine (fail_any _ (a 2) _).mono ?_
  rintro e w1 ⟨rfl, rfl⟩
  exact ⟨rfl, rfl, Chg.refl _ _⟩
end Go.Proofs.YtmmiimcodbjnmaaDoor
