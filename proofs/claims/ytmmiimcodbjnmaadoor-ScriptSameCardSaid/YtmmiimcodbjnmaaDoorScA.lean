/- script.laid: its first region. -/
import Derived.Test.YtmmiimcodbjnmaaDoorOctM
import Derived.Test.YtmmiimcodbjnmaaDoorRegInv
namespace Go.Proofs.YtmmiimcodbjnmaaDoor
open Go.RowKit Go.Stop Go.Extern Go.Ranges Go.Rows2
set_option linter.unusedVariables false
set_option linter.unusedSimpArgs false
set_option maxRecDepth 100000
set_option maxRecDepth 20000 in
theorem mkText_at (s : ByteArray) (w : World) : Calls Tryd.prog 48 #[.string s] w fun e w' => ∃ c, e = .returned (.agg #[.int .i64 0, .slice (some ⟨w.heap.size + 1, 0, none⟩) s.size c]) ∧ w.heap.size + 1 < w'.heap.size ∧ Lib.BytesIn w' (some ⟨w.heap.size + 1, 0, none⟩) s.size (sB s) ∧ Below w.heap.size w w' := by
  have hb0 := alloc_below w (.cells #[.int .i64 0, .slice none 0 0] 60)
  have hsz0 : (w.alloc (.cells #[.int .i64 0, .slice none 0 0] 60)).heap.size = w.heap.size + 1 := by simp
  have k0 : (w.alloc (.cells #[.int .i64 0, .slice none 0 0] 60)).cell? ⟨w.heap.size, 0, none⟩ = some (.int .i64 0) := (cell_of_row _ _ _ _ _ _ (heap_alloc_last w _)).trans rfl
  have k1 : (w.alloc (.cells #[.int .i64 0, .slice none 0 0] 60)).cell? ⟨w.heap.size, 1, none⟩ = some (.slice none 0 0) := (cell_of_row _ _ _ _ _ _ (heap_alloc_last w _)).trans rfl
  have j0 : (w.alloc (.cells #[.int .i64 0, .slice none 0 0] 60)).frozen? ⟨w.heap.size, 0, none⟩ = false := by unfold World.frozen?; rw [heap_alloc_last]; rfl
  have j1 : (w.alloc (.cells #[.int .i64 0, .slice none 0 0] 60)).frozen? ⟨w.heap.size, 1, none⟩ = false := by unfold World.frozen?; rw [heap_alloc_last]; rfl
  have hcv := Lib.run_convert_string_bytes (P := Tryd.prog) (w.alloc (.cells #[.int .i64 0, .slice none 0 0] 60)) 9 34 5 s (u := .string) Tryd.underlying9 Tryd.underlying34 Tryd.underlying5
  have hb1 := bytesWorld_bel (w.alloc (.cells #[.int .i64 0, .slice none 0 0] 60)) 5 s
  have hby := fun j hj => Lib.bytesWorld_cell (w.alloc (.cells #[.int .i64 0, .slice none 0 0] 60)) 5 s j hj
  have hsz1 : (Lib.bytesWorld (w.alloc (.cells #[.int .i64 0, .slice none 0 0] 60)) 5 s).heap.size = w.heap.size + 2 := by rw [Lib.bytesWorld_size]; simp
  generalize grownCap (w.alloc (.cells #[.int .i64 0, .slice none 0 0] 60)) s.size 0 5 = gc at *
  generalize Lib.bytesWorld (w.alloc (.cells #[.int .i64 0, .slice none 0 0] 60)) 5 s = W1 at *
  rw [hsz0] at hcv hby
  have c0 : W1.cell? ⟨w.heap.size, 0, none⟩ = some (.int .i64 0) := (hb1.cell (by simp)).trans k0
  have c1 : W1.cell? ⟨w.heap.size, 1, none⟩ = some (.slice none 0 0) := (hb1.cell (by simp)).trans k1
  have f0 : W1.frozen? ⟨w.heap.size, 0, none⟩ = false := (hb1.frozen (by simp)).trans j0
  have f1 : W1.frozen? ⟨w.heap.size, 1, none⟩ = false := (hb1.frozen (by simp)).trans j1
  have HB1 := Lib.hid (stepV hb0 hb1)
  have HBY := Lib.hid hby
  clear k0 k1 j0 j1 hb0 hb1 hby
  go_enter Tryd.func48, Tryd.ntmps48
  go_wp2
  have hBT : Below w.heap.size w ((W1.setCell ⟨w.heap.size, 0, none⟩ (.int .i64 0)).setCell ⟨w.heap.size, 1, none⟩ (.slice (some ⟨w.heap.size + 1, 0, none⟩) s.size gc)) := (HB1.out.setCell (p := ⟨w.heap.size, 0, none⟩) (Nat.le_refl _) _).setCell (p := ⟨w.heap.size, 1, none⟩) (Nat.le_refl _) _
  refine bodyPost_ret (v := .agg #[.int .i64 0, .slice (some ⟨w.heap.size + 1, 0, none⟩) s.size gc]) (by simp [results, Tryd.results48, go_sem, c0, c1]) rfl ⟨gc, rfl, by simp [hsz1], ?_, hBT⟩
  intro hn
  refine ⟨w.heap.size + 1, 0, rfl, fun j hj => ?_⟩
  have h1 := HBY.out j hj
  have e1 : ∀ (W : World) (p : Addr) (u : Value), p.block = w.heap.size → (W.setCell p u).cell? ⟨w.heap.size + 1, 0 + j, none⟩ = W.cell? ⟨w.heap.size + 1, 0 + j, none⟩ := fun W p u hp =>
    World.cell?_of_block (a := ⟨w.heap.size + 1, 0 + j, none⟩) (Below.heap_setCell W p u _ (by show w.heap.size + 1 ≠ p.block; omega))
  rw [e1 _ ⟨w.heap.size, 1, none⟩ _ rfl, e1 _ ⟨w.heap.size, 0, none⟩ _ rfl, Nat.zero_add, h1]
  have hj2 : j < s.data.toList.length := by rw [← Lib.size_eq]; exact hj
  simp [sB, List.getD, List.getElem?_eq_getElem hj2, List.getElem?_map]
/-- What an act is. -/
structure Sact where
  k : Int
  who : Int
  i : Int
  j : Int
  repo : ByteArray
  body : List Int
  keep : List Bool
def actA (M : Sact) (B : Option Addr) (cb : Nat) (K : Option Addr) (ck : Nat) : Array Value :=
  #[.int .i64 M.k, .int .i64 M.who, .int .i64 M.i, .int .i64 M.j, .string M.repo, .slice B M.body.length cb, .slice K M.keep.length ck]
theorem actCell {W w' : World} {g : Nat} {t : TypeId} {M : Sact} {B K : Option Addr} {cb ck : Nat} (h : W.heap[g]? = some (.cells (actA M B cb K ck) t (0, 0))) (hb : Below W.heap.size W w') (j : Nat) : w'.cell? ⟨g, j, none⟩ = (actA M B cb K ck)[j]? :=
  (hb.cell (p := ⟨g, j, none⟩) (Array.getElem?_eq_some_iff.1 h).1).trans (cell_of_row _ _ _ _ _ _ h)
/-- A box of a field. -/
def BoxAt (W : World) (g : Nat) (n : Int) (v : Value) : Prop := W.heap[g]? = some (.cells #[.int .i64 n, v] 60 (0, 0))
theorem BoxAt.below {w w' : World} {g : Nat} {n : Int} {v : Value} (h : BoxAt w g n v) (hb : Below w.heap.size w w') : BoxAt w' g n v := (hb.block g (Array.getElem?_eq_some_iff.1 h).1).trans h
theorem BoxAt.lt {w : World} {g : Nat} {n : Int} {v : Value} (h : BoxAt w g n v) : g < w.heap.size := (Array.getElem?_eq_some_iff.1 h).1
def nilV : Value := .slice none 0 0
/-- The frame inside the region. -/
def laidF (C : Array Value) (g : Nat) (x4 x5 x6 x7 x8 x9 x10 x11 x12 x13 x14 x15 : Value) : Act := ⟨#[.agg C, .pointer (some ⟨g, 0, none⟩), .string ⟨#[]⟩, .slice none 0 0, x4, x5, x6, x7, x8, x9, x10, x11, x12, x13, x14, x15, undef, undef, undef, undef, undef, undef, undef, undef, undef, undef, undef, undef, undef, undef, undef, undef, undef, undef, undef, undef, undef, undef, undef, undef, undef, undef, undef, undef, undef, undef, undef, undef, undef, undef, undef, undef, undef, undef, undef, undef, undef, undef, undef, undef, undef, undef], []⟩
/-- What holds behind whatever was carried out. -/
structure LaidW (V : World) (M : Sact) (g : Nat) (L : Nat → Bool) (w : World) (x4 x5 x6 x7 x8 x9 x10 x11 x12 x13 x14 x15 : Value) (g4 g5 g6 bt ct : Nat) : Prop where
  bel : Below V.heap.size V w
  h0 : L 0 = true → x7 = .pointer (some ⟨g, 1, none⟩)
  h1 : L 1 = true → x8 = .int .i64 M.who
  h2 : L 2 = true → x9 = .agg #[.int .i64 M.who, .slice none 0 0]
  h3 : L 3 = true → x10 = .pointer (some ⟨g, 2, none⟩)
  h4 : L 4 = true → x11 = .int .i64 M.i
  h5 : L 5 = true → x12 = .agg #[.int .i64 M.i, .slice none 0 0]
  h6 : L 6 = true → x13 = .pointer (some ⟨g, 4, none⟩)
  h7 : L 7 = true → x14 = .string M.repo
  h8 : L 8 = true → x15 = .agg #[.int .i64 0, .slice (some ⟨bt, 0, none⟩) M.repo.size ct] ∧ bt < w.heap.size ∧ Lib.BytesIn w (some ⟨bt, 0, none⟩) M.repo.size (sB M.repo)
  h9 : L 9 = true → x4 = .pointer (some ⟨g4, 0, none⟩) ∧ V.heap.size ≤ g4 ∧ BoxAt w g4 (if L 12 = true then M.who else 0) (.slice none 0 0)
  h10 : L 10 = true → x5 = .pointer (some ⟨g5, 0, none⟩) ∧ V.heap.size ≤ g5 ∧ BoxAt w g5 (if L 13 = true then M.i else 0) (.slice none 0 0)
  h11 : L 11 = true → x6 = .pointer (some ⟨g6, 0, none⟩) ∧ V.heap.size ≤ g6 ∧ BoxAt w g6 0 (if L 14 = true then .slice (some ⟨bt, 0, none⟩) M.repo.size ct else .slice none 0 0)
  d12 : L 12 = true → L 9 = true
  d13 : L 13 = true → L 10 = true
  d14 : L 14 = true → L 11 = true ∧ L 8 = true
  n45 : L 9 = true → L 10 = true → g4 ≠ g5
  n46 : L 9 = true → L 11 = true → g4 ≠ g6
  n56 : L 10 = true → L 11 = true → g5 ≠ g6
  t4 : L 8 = true → L 9 = true → bt ≠ g4
  t5 : L 8 = true → L 10 = true → bt ≠ g5
  t6 : L 8 = true → L 11 = true → bt ≠ g6
def LaidI (V : World) (M : Sact) (C : Array Value) (g : Nat) (L : Nat → Bool) (a : Act) (w : World) : Prop :=
  ∃ (x4 x5 x6 x7 x8 x9 x10 x11 x12 x13 x14 x15 : Value) (g4 g5 g6 bt ct : Nat), a = laidF C g x4 x5 x6 x7 x8 x9 x10 x11 x12 x13 x14 x15 ∧ LaidW V M g L w x4 x5 x6 x7 x8 x9 x10 x11 x12 x13 x14 x15 g4 g5 g6 bt ct
section
variable {V w w' : World} {M : Sact} {g : Nat} {L : Nat → Bool} {x4 x5 x6 x7 x8 x9 x10 x11 x12 x13 x14 x15 : Value} {g4 g5 g6 bt ct : Nat}
theorem LaidW.below (h : LaidW V M g L w x4 x5 x6 x7 x8 x9 x10 x11 x12 x13 x14 x15 g4 g5 g6 bt ct) (hb : Below w.heap.size w w') : LaidW V M g L w' x4 x5 x6 x7 x8 x9 x10 x11 x12 x13 x14 x15 g4 g5 g6 bt ct :=
  ⟨stepV h.bel hb, h.h0, h.h1, h.h2, h.h3, h.h4, h.h5, h.h6, h.h7, fun hl => ⟨(h.h8 hl).1, Nat.lt_of_lt_of_le (h.h8 hl).2.1 hb.size, bytesIn_below' (h.h8 hl).2.2 hb⟩,
    fun hl => ⟨(h.h9 hl).1, (h.h9 hl).2.1, (h.h9 hl).2.2.below hb⟩, fun hl => ⟨(h.h10 hl).1, (h.h10 hl).2.1, (h.h10 hl).2.2.below hb⟩, fun hl => ⟨(h.h11 hl).1, (h.h11 hl).2.1, (h.h11 hl).2.2.below hb⟩,
    h.d12, h.d13, h.d14, h.n45, h.n46, h.n56, h.t4, h.t5, h.t6⟩
theorem LaidW.s0 (h : LaidW V M g L w x4 x5 x6 x7 x8 x9 x10 x11 x12 x13 x14 x15 g4 g5 g6 bt ct) : LaidW V M g (upd L 0) w x4 x5 x6 (.pointer (some ⟨g, 1, none⟩)) x8 x9 x10 x11 x12 x13 x14 x15 g4 g5 g6 bt ct :=
  ⟨h.bel, fun _ => rfl, h.h1, h.h2, h.h3, h.h4, h.h5, h.h6, h.h7, h.h8, h.h9, h.h10, h.h11, h.d12, h.d13, h.d14, h.n45, h.n46, h.n56, h.t4, h.t5, h.t6⟩
theorem LaidW.s1 (h : LaidW V M g L w x4 x5 x6 x7 x8 x9 x10 x11 x12 x13 x14 x15 g4 g5 g6 bt ct) : LaidW V M g (upd L 1) w x4 x5 x6 x7 (.int .i64 M.who) x9 x10 x11 x12 x13 x14 x15 g4 g5 g6 bt ct :=
  ⟨h.bel, h.h0, fun _ => rfl, h.h2, h.h3, h.h4, h.h5, h.h6, h.h7, h.h8, h.h9, h.h10, h.h11, h.d12, h.d13, h.d14, h.n45, h.n46, h.n56, h.t4, h.t5, h.t6⟩
theorem LaidW.s2 (h : LaidW V M g L w x4 x5 x6 x7 x8 x9 x10 x11 x12 x13 x14 x15 g4 g5 g6 bt ct) : LaidW V M g (upd L 2) w x4 x5 x6 x7 x8 (.agg #[.int .i64 M.who, .slice none 0 0]) x10 x11 x12 x13 x14 x15 g4 g5 g6 bt ct :=
  ⟨h.bel, h.h0, h.h1, fun _ => rfl, h.h3, h.h4, h.h5, h.h6, h.h7, h.h8, h.h9, h.h10, h.h11, h.d12, h.d13, h.d14, h.n45, h.n46, h.n56, h.t4, h.t5, h.t6⟩
theorem LaidW.s3 (h : LaidW V M g L w x4 x5 x6 x7 x8 x9 x10 x11 x12 x13 x14 x15 g4 g5 g6 bt ct) : LaidW V M g (upd L 3) w x4 x5 x6 x7 x8 x9 (.pointer (some ⟨g, 2, none⟩)) x11 x12 x13 x14 x15 g4 g5 g6 bt ct :=
  ⟨h.bel, h.h0, h.h1, h.h2, fun _ => rfl, h.h4, h.h5, h.h6, h.h7, h.h8, h.h9, h.h10, h.h11, h.d12, h.d13, h.d14, h.n45, h.n46, h.n56, h.t4, h.t5, h.t6⟩
theorem LaidW.s4 (h : LaidW V M g L w x4 x5 x6 x7 x8 x9 x10 x11 x12 x13 x14 x15 g4 g5 g6 bt ct) : LaidW V M g (upd L 4) w x4 x5 x6 x7 x8 x9 x10 (.int .i64 M.i) x12 x13 x14 x15 g4 g5 g6 bt ct :=
  ⟨h.bel, h.h0, h.h1, h.h2, h.h3, fun _ => rfl, h.h5, h.h6, h.h7, h.h8, h.h9, h.h10, h.h11, h.d12, h.d13, h.d14, h.n45, h.n46, h.n56, h.t4, h.t5, h.t6⟩
theorem LaidW.s5 (h : LaidW V M g L w x4 x5 x6 x7 x8 x9 x10 x11 x12 x13 x14 x15 g4 g5 g6 bt ct) : LaidW V M g (upd L 5) w x4 x5 x6 x7 x8 x9 x10 x11 (.agg #[.int .i64 M.i, .slice none 0 0]) x13 x14 x15 g4 g5 g6 bt ct :=
  ⟨h.bel, h.h0, h.h1, h.h2, h.h3, h.h4, fun _ => rfl, h.h6, h.h7, h.h8, h.h9, h.h10, h.h11, h.d12, h.d13, h.d14, h.n45, h.n46, h.n56, h.t4, h.t5, h.t6⟩
theorem LaidW.s6 (h : LaidW V M g L w x4 x5 x6 x7 x8 x9 x10 x11 x12 x13 x14 x15 g4 g5 g6 bt ct) : LaidW V M g (upd L 6) w x4 x5 x6 x7 x8 x9 x10 x11 x12 (.pointer (some ⟨g, 4, none⟩)) x14 x15 g4 g5 g6 bt ct :=
  ⟨h.bel, h.h0, h.h1, h.h2, h.h3, h.h4, h.h5, fun _ => rfl, h.h7, h.h8, h.h9, h.h10, h.h11, h.d12, h.d13, h.d14, h.n45, h.n46, h.n56, h.t4, h.t5, h.t6⟩
theorem LaidW.s7 (h : LaidW V M g L w x4 x5 x6 x7 x8 x9 x10 x11 x12 x13 x14 x15 g4 g5 g6 bt ct) : LaidW V M g (upd L 7) w x4 x5 x6 x7 x8 x9 x10 x11 x12 x13 (.string M.repo) x15 g4 g5 g6 bt ct :=
  ⟨h.bel, h.h0, h.h1, h.h2, h.h3, h.h4, h.h5, h.h6, fun _ => rfl, h.h8, h.h9, h.h10, h.h11, h.d12, h.d13, h.d14, h.n45, h.n46, h.n56, h.t4, h.t5, h.t6⟩
theorem LaidW.s8 (h : LaidW V M g L w x4 x5 x6 x7 x8 x9 x10 x11 x12 x13 x14 x15 g4 g5 g6 bt ct) (hl : L 8 = false) {b' c' : Nat} (hb : Below w.heap.size w w') (h1 : w.heap.size ≤ b') (h2 : b' < w'.heap.size) (h3 : Lib.BytesIn w' (some ⟨b', 0, none⟩) M.repo.size (sB M.repo)) :
    LaidW V M g (upd L 8) w' x4 x5 x6 x7 x8 x9 x10 x11 x12 x13 x14 (.agg #[.int .i64 0, .slice (some ⟨b', 0, none⟩) M.repo.size c']) g4 g5 g6 b' c' := by
  have h14 : ¬ L 14 = true := fun e => by rw [(h.d14 e).2] at hl; cases hl
  have k := h
  have h := h.below hb
  have hh11 : upd L 8 11 = true → x6 = .pointer (some ⟨g6, 0, none⟩) ∧ V.heap.size ≤ g6 ∧ BoxAt w' g6 0 (if upd L 8 14 = true then .slice (some ⟨b', 0, none⟩) M.repo.size c' else .slice none 0 0) := fun e => by
    obtain ⟨q1, q2, q3⟩ := h.h11 e
    rw [if_neg h14] at q3
    refine ⟨q1, q2, ?_⟩
    rw [if_neg (show ¬ upd L 8 14 = true from h14)]
    exact q3
  exact ⟨h.bel, h.h0, h.h1, h.h2, h.h3, h.h4, h.h5, h.h6, h.h7, fun _ => ⟨rfl, h2, h3⟩, h.h9, h.h10, hh11, h.d12, h.d13, fun e => absurd e h14, h.n45, h.n46, h.n56, fun _ e => by have := (k.h9 e).2.2.lt; omega, fun _ e => by have := (k.h10 e).2.2.lt; omega, fun _ e => by have := (k.h11 e).2.2.lt; omega⟩
theorem LaidW.s9 (h : LaidW V M g L w x4 x5 x6 x7 x8 x9 x10 x11 x12 x13 x14 x15 g4 g5 g6 bt ct) (hl : L 9 = false) : LaidW V M g (upd L 9) (w.alloc (.cells #[.int .i64 0, .slice none 0 0] 60)) (.pointer (some ⟨w.heap.size, 0, none⟩)) x5 x6 x7 x8 x9 x10 x11 x12 x13 x14 x15 w.heap.size g5 g6 bt ct := by
  have hst : ¬ L 12 = true := fun e => by rw [h.d12 e] at hl; cases hl
  have k := h
  have h := h.below (alloc_below w (.cells #[.int .i64 0, .slice none 0 0] 60))
  exact ⟨h.bel, h.h0, h.h1, h.h2, h.h3, h.h4, h.h5, h.h6, h.h7, h.h8, fun _ => ⟨rfl, k.bel.size, by rw [if_neg (show ¬ upd L 9 12 = true from hst)]; exact heap_alloc_last w _⟩, h.h10, h.h11, fun e => absurd e hst, h.d13, h.d14, fun _ e => by have := (k.h10 e).2.2.lt; omega, fun _ e => by have := (k.h11 e).2.2.lt; omega, h.n56, fun e _ => by have := (k.h8 e).2.1; omega, h.t5, h.t6⟩
theorem LaidW.s10 (h : LaidW V M g L w x4 x5 x6 x7 x8 x9 x10 x11 x12 x13 x14 x15 g4 g5 g6 bt ct) (hl : L 10 = false) : LaidW V M g (upd L 10) (w.alloc (.cells #[.int .i64 0, .slice none 0 0] 60)) x4 (.pointer (some ⟨w.heap.size, 0, none⟩)) x6 x7 x8 x9 x10 x11 x12 x13 x14 x15 g4 w.heap.size g6 bt ct := by
  have hst : ¬ L 13 = true := fun e => by rw [h.d13 e] at hl; cases hl
  have k := h
  have h := h.below (alloc_below w (.cells #[.int .i64 0, .slice none 0 0] 60))
  exact ⟨h.bel, h.h0, h.h1, h.h2, h.h3, h.h4, h.h5, h.h6, h.h7, h.h8, h.h9, fun _ => ⟨rfl, k.bel.size, by rw [if_neg (show ¬ upd L 10 13 = true from hst)]; exact heap_alloc_last w _⟩, h.h11, h.d12, fun e => absurd e hst, h.d14, fun e _ => by have := (k.h9 e).2.2.lt; omega, h.n46, fun _ e => by have := (k.h11 e).2.2.lt; omega, h.t4, fun e _ => by have := (k.h8 e).2.1; omega, h.t6⟩
theorem LaidW.s11 (h : LaidW V M g L w x4 x5 x6 x7 x8 x9 x10 x11 x12 x13 x14 x15 g4 g5 g6 bt ct) (hl : L 11 = false) : LaidW V M g (upd L 11) (w.alloc (.cells #[.int .i64 0, .slice none 0 0] 60)) x4 x5 (.pointer (some ⟨w.heap.size, 0, none⟩)) x7 x8 x9 x10 x11 x12 x13 x14 x15 g4 g5 w.heap.size bt ct := by
  have hst : ¬ L 14 = true := fun e => by rw [(h.d14 e).1] at hl; cases hl
  have k := h
  have h := h.below (alloc_below w (.cells #[.int .i64 0, .slice none 0 0] 60))
  exact ⟨h.bel, h.h0, h.h1, h.h2, h.h3, h.h4, h.h5, h.h6, h.h7, h.h8, h.h9, h.h10, fun _ => ⟨rfl, k.bel.size, by rw [if_neg (show ¬ upd L 11 14 = true from hst)]; exact heap_alloc_last w _⟩, h.d12, h.d13, fun e => absurd e hst, h.n45, fun e _ => by have := (k.h9 e).2.2.lt; omega, fun e _ => by have := (k.h10 e).2.2.lt; omega, h.t4, h.t5, fun e _ => by have := (k.h8 e).2.1; omega⟩
def stB (w : World) (g : Nat) (n : Int) (v : Value) : World := (w.setCell ⟨g, 0, none⟩ (.int .i64 n)).setCell ⟨g, 1, none⟩ v
theorem stB_off (w : World) (g : Nat) (n : Int) (v : Value) (k : Nat) (h : k ≠ g) : (stB w g n v).heap[k]? = w.heap[k]? :=
  (Below.heap_setCell _ ⟨g, 1, none⟩ _ _ h).trans (Below.heap_setCell _ ⟨g, 0, none⟩ _ _ h)
theorem stB_here {w : World} {g : Nat} {n0 : Int} {v0 : Value} (h : BoxAt w g n0 v0) (n : Int) (v : Value) : BoxAt (stB w g n v) g n v := by
  unfold BoxAt at *
  obtain ⟨hlt, hv⟩ := Array.getElem?_eq_some_iff.1 h
  rw [Array.getElem?_eq_getElem (by simpa [stB] using hlt)]
  simp [stB, World.setCell, hlt, hv, Array.getElem_modify]
theorem stB_size (w : World) (g : Nat) (n : Int) (v : Value) : (stB w g n v).heap.size = w.heap.size := by simp [stB]
theorem stB_bel {V w : World} {g : Nat} (h : Below V.heap.size V w) (hg : V.heap.size ≤ g) (n : Int) (v : Value) : Below V.heap.size V (stB w g n v) := (h.setCell (p := ⟨g, 0, none⟩) hg _).setCell (p := ⟨g, 1, none⟩) hg _
theorem BoxAt.off {w : World} {g g' : Nat} {n0 : Int} {v0 : Value} (h : BoxAt w g' n0 v0) (hne : g' ≠ g) (n : Int) (v : Value) : BoxAt (stB w g n v) g' n0 v0 := (stB_off w g n v g' hne).trans h
theorem txt_off {w : World} {b g m : Nat} {l : List Int} (h : Lib.BytesIn w (some ⟨b, 0, none⟩) m l) (hne : b ≠ g) (n : Int) (v : Value) : Lib.BytesIn (stB w g n v) (some ⟨b, 0, none⟩) m l := fun hm => by
  obtain ⟨b', o, e, hc⟩ := h hm
  injection e with e
  injection e with e1 e2
  subst e1 e2
  exact ⟨b, 0, rfl, fun i hi => (World.cell?_of_block (a := ⟨b, 0 + i, none⟩) (stB_off w g n v b hne)).trans (hc i hi)⟩
theorem LaidW.s12 (h : LaidW V M g L w x4 x5 x6 x7 x8 x9 x10 x11 x12 x13 x14 x15 g4 g5 g6 bt ct) (hl : L 9 = true) : LaidW V M g (upd L 12) (stB w g4 M.who (.slice none 0 0)) x4 x5 x6 x7 x8 x9 x10 x11 x12 x13 x14 x15 g4 g5 g6 bt ct :=
  ⟨stB_bel h.bel (h.h9 hl).2.1 _ _, h.h0, h.h1, h.h2, h.h3, h.h4, h.h5, h.h6, h.h7, fun e => ⟨(h.h8 e).1, by rw [stB_size]; exact (h.h8 e).2.1, txt_off (h.h8 e).2.2 (h.t4 e hl) _ _⟩, fun _ => ⟨(h.h9 hl).1, (h.h9 hl).2.1, by rw [if_pos (upd_here L 12)]; exact stB_here (h.h9 hl).2.2 _ _⟩, fun e => ⟨(h.h10 e).1, (h.h10 e).2.1, (h.h10 e).2.2.off (Ne.symm (h.n45 hl e)) _ _⟩, fun e => ⟨(h.h11 e).1, (h.h11 e).2.1, (h.h11 e).2.2.off (Ne.symm (h.n46 hl e)) _ _⟩, fun _ => hl, h.d13, h.d14, h.n45, h.n46, h.n56, h.t4, h.t5, h.t6⟩
theorem LaidW.s13 (h : LaidW V M g L w x4 x5 x6 x7 x8 x9 x10 x11 x12 x13 x14 x15 g4 g5 g6 bt ct) (hl : L 10 = true) : LaidW V M g (upd L 13) (stB w g5 M.i (.slice none 0 0)) x4 x5 x6 x7 x8 x9 x10 x11 x12 x13 x14 x15 g4 g5 g6 bt ct :=
  ⟨stB_bel h.bel (h.h10 hl).2.1 _ _, h.h0, h.h1, h.h2, h.h3, h.h4, h.h5, h.h6, h.h7, fun e => ⟨(h.h8 e).1, by rw [stB_size]; exact (h.h8 e).2.1, txt_off (h.h8 e).2.2 (h.t5 e hl) _ _⟩, fun e => ⟨(h.h9 e).1, (h.h9 e).2.1, (h.h9 e).2.2.off (h.n45 e hl) _ _⟩, fun _ => ⟨(h.h10 hl).1, (h.h10 hl).2.1, by rw [if_pos (upd_here L 13)]; exact stB_here (h.h10 hl).2.2 _ _⟩, fun e => ⟨(h.h11 e).1, (h.h11 e).2.1, (h.h11 e).2.2.off (Ne.symm (h.n56 hl e)) _ _⟩, h.d12, fun _ => hl, h.d14, h.n45, h.n46, h.n56, h.t4, h.t5, h.t6⟩
theorem LaidW.s14 (h : LaidW V M g L w x4 x5 x6 x7 x8 x9 x10 x11 x12 x13 x14 x15 g4 g5 g6 bt ct) (hl : L 11 = true) (h8l : L 8 = true) : LaidW V M g (upd L 14) (stB w g6 0 (.slice (some ⟨bt, 0, none⟩) M.repo.size ct)) x4 x5 x6 x7 x8 x9 x10 x11 x12 x13 x14 x15 g4 g5 g6 bt ct :=
  ⟨stB_bel h.bel (h.h11 hl).2.1 _ _, h.h0, h.h1, h.h2, h.h3, h.h4, h.h5, h.h6, h.h7, fun e => ⟨(h.h8 e).1, by rw [stB_size]; exact (h.h8 e).2.1, txt_off (h.h8 e).2.2 (h.t6 e hl) _ _⟩, fun e => ⟨(h.h9 e).1, (h.h9 e).2.1, (h.h9 e).2.2.off (h.n46 e hl) _ _⟩, fun e => ⟨(h.h10 e).1, (h.h10 e).2.1, (h.h10 e).2.2.off (h.n56 e hl) _ _⟩, fun _ => ⟨(h.h11 hl).1, (h.h11 hl).2.1, by rw [if_pos (upd_here L 14)]; exact stB_here (h.h11 hl).2.2 _ _⟩, h.d12, h.d13, fun _ => ⟨hl, h8l⟩, h.n45, h.n46, h.n56, h.t4, h.t5, h.t6⟩
theorem BoxAt.facts {n0 : Int} {v0 : Value} {gg : Nat} (h : BoxAt w gg n0 v0) : w.cell? ⟨gg, 0, none⟩ = some (.int .i64 n0) ∧ w.cell? ⟨gg, 1, none⟩ = some v0 ∧ w.frozen? ⟨gg, 0, none⟩ = false ∧ w.frozen? ⟨gg, 1, none⟩ = false :=
  ⟨(cell_of_row _ _ _ _ _ _ h).trans rfl, (cell_of_row _ _ _ _ _ _ h).trans rfl, by unfold World.frozen?; rw [show w.heap[gg]? = _ from h]; rfl, by unfold World.frozen?; rw [show w.heap[gg]? = _ from h]; rfl⟩
end
end Go.Proofs.YtmmiimcodbjnmaaDoor
