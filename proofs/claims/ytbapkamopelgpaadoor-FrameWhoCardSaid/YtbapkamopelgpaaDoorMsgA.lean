/- Messages in memory; the fields' makers; Name, check. -/
import Derived.Test.YtbapkamopelgpaaDoorOctE
import Derived.Deep.DeepCutAuto
import Derived.Deep.DrawnRows
import Derived.Lib.ConvBytes
namespace Go.Proofs.YtbapkamopelgpaaDoor
open Go.RowKit Go.Stop Go.Extern Go.Ranges Go.Rows2
set_option linter.unusedVariables false
set_option linter.unusedSimpArgs false
set_option maxRecDepth 20000
/-- What a message is. -/
structure Msg where
  k : Int
  c : Int
  n : Int
  o : Int
  repo : ByteArray
  e : Int
  s : Int
  t : Int
  i : Int
  sh : Int
  an : Int
  body : List Int
  list : List (List Int)
/-- A message's cells. -/
def msgA (M : Msg) (B : Option Addr) (cb : Nat) (L : Option Addr) (cl : Nat) : Array Value :=
  #[.int .i64 M.k, .int .i64 M.c, .int .i64 M.n, .int .i64 M.o, .string M.repo, .int .i64 M.e, .int .i64 M.s, .int .i64 M.t, .int .i64 M.i, .int .i64 M.sh, .int .i64 M.an, .slice B M.body.length cb, .slice L M.list.length cl]
/-- Where its texts lie. -/
structure MsgIn (w : World) (M : Msg) (B L : Option Addr) : Prop where
  body : Lib.BytesIn w B M.body.length M.body
  list : PartsAt w L M.list.length (fun i => M.list.getD i [])
theorem MsgIn.below {w w' : World} {M : Msg} {B L : Option Addr} (h : MsgIn w M B L) (hb : Below w.heap.size w w') : MsgIn w' M B L := ⟨bytesIn_below' h.body hb, h.list.below hb⟩
theorem mkNum_any (n : Int) (w : World) : Calls Tryd.prog 61 #[.int .i64 n] w fun e w' => e = .returned (.agg #[.int .i64 n, .slice none 0 0]) ∧ Below w.heap.size w w' := by
  go_enter Tryd.func61, Tryd.ntmps61
  go_wp2
  exact bodyPost_ret (v := .agg #[.int .i64 n, .slice none 0 0]) (by simp [results, Tryd.results61, go_sem]) rfl ⟨rfl, alloc_below _ _⟩
set_option maxRecDepth 200000 in
theorem mkBytes_any (A : Option Addr) (n c : Nat) (w : World) : Calls Tryd.prog 62 #[.slice A n c] w fun e w' => e = .returned (.agg #[.int .i64 0, .slice A n c]) ∧ Below w.heap.size w w' := by
  go_enter Tryd.func62, Tryd.ntmps62
  go_wp2
  exact bodyPost_ret (v := .agg #[.int .i64 0, .slice A n c]) (by simp [results, Tryd.results62, go_sem]) rfl ⟨rfl, alloc_below _ _⟩
/-- A string's bytes as numbers. -/
def sB (s : ByteArray) : List Int := s.data.toList.map fun c => (c.toNat : Int)
theorem sB_len (s : ByteArray) : (sB s).length = s.size := by unfold sB; rw [List.length_map, ← Lib.size_eq]
theorem bytesWorld_bel (w : World) (e : TypeId) (s : ByteArray) : Below w.heap.size w (Lib.bytesWorld w e s) :=
  ⟨rfl, rfl, rfl, by rw [Lib.bytesWorld_size]; omega, fun k hk => Lib.bytesWorld_at_old w e s k hk⟩
set_option maxRecDepth 20000 in
theorem mkText_any (s : ByteArray) (w : World) : Calls Tryd.prog 72 #[.string s] w fun e w' => ∃ A c, e = .returned (.agg #[.int .i64 0, .slice A s.size c]) ∧ Lib.BytesIn w' A s.size (sB s) ∧ Below w.heap.size w w' := by
  have hb0 := alloc_below w (.cells #[.int .i64 0, .slice none 0 0] 97)
  have hsz0 : (w.alloc (.cells #[.int .i64 0, .slice none 0 0] 97)).heap.size = w.heap.size + 1 := by simp
  have k0 : (w.alloc (.cells #[.int .i64 0, .slice none 0 0] 97)).cell? ⟨w.heap.size, 0, none⟩ = some (.int .i64 0) := (cell_of_row _ _ _ _ _ _ (heap_alloc_last w _)).trans rfl
  have k1 : (w.alloc (.cells #[.int .i64 0, .slice none 0 0] 97)).cell? ⟨w.heap.size, 1, none⟩ = some (.slice none 0 0) := (cell_of_row _ _ _ _ _ _ (heap_alloc_last w _)).trans rfl
  have j0 : (w.alloc (.cells #[.int .i64 0, .slice none 0 0] 97)).frozen? ⟨w.heap.size, 0, none⟩ = false := by unfold World.frozen?; rw [heap_alloc_last]; rfl
  have j1 : (w.alloc (.cells #[.int .i64 0, .slice none 0 0] 97)).frozen? ⟨w.heap.size, 1, none⟩ = false := by unfold World.frozen?; rw [heap_alloc_last]; rfl
  have hcv := Lib.run_convert_string_bytes (P := Tryd.prog) (w.alloc (.cells #[.int .i64 0, .slice none 0 0] 97)) 9 22 5 s (u := .string) Tryd.underlying9 Tryd.underlying22 Tryd.underlying5
  have hb1 := bytesWorld_bel (w.alloc (.cells #[.int .i64 0, .slice none 0 0] 97)) 5 s
  have hby := fun j hj => Lib.bytesWorld_cell (w.alloc (.cells #[.int .i64 0, .slice none 0 0] 97)) 5 s j hj
  generalize grownCap (w.alloc (.cells #[.int .i64 0, .slice none 0 0] 97)) s.size 0 5 = gc at *
  generalize Lib.bytesWorld (w.alloc (.cells #[.int .i64 0, .slice none 0 0] 97)) 5 s = W1 at *
  rw [hsz0] at hcv hby
  have c0 : W1.cell? ⟨w.heap.size, 0, none⟩ = some (.int .i64 0) := (hb1.cell (by simp)).trans k0
  have c1 : W1.cell? ⟨w.heap.size, 1, none⟩ = some (.slice none 0 0) := (hb1.cell (by simp)).trans k1
  have f0 : W1.frozen? ⟨w.heap.size, 0, none⟩ = false := (hb1.frozen (by simp)).trans j0
  have f1 : W1.frozen? ⟨w.heap.size, 1, none⟩ = false := (hb1.frozen (by simp)).trans j1
  have HB1 := Lib.hid (stepV hb0 hb1)
  have HBY := Lib.hid hby
  clear k0 k1 j0 j1 hb0 hb1 hby
  go_enter Tryd.func72, Tryd.ntmps72
  go_wp2
  have hBT : Below w.heap.size w ((W1.setCell ⟨w.heap.size, 0, none⟩ (.int .i64 0)).setCell ⟨w.heap.size, 1, none⟩ (.slice (some ⟨w.heap.size + 1, 0, none⟩) s.size gc)) := (HB1.out.setCell (p := ⟨w.heap.size, 0, none⟩) (Nat.le_refl _) _).setCell (p := ⟨w.heap.size, 1, none⟩) (Nat.le_refl _) _
  refine bodyPost_ret (v := .agg #[.int .i64 0, .slice (some ⟨w.heap.size + 1, 0, none⟩) s.size gc]) (by simp [results, Tryd.results72, go_sem, c0, c1]) rfl ⟨some ⟨w.heap.size + 1, 0, none⟩, gc, rfl, ?_, hBT⟩
  intro hn
  refine ⟨w.heap.size + 1, 0, rfl, fun j hj => ?_⟩
  have h1 := HBY.out j hj
  have e1 : ∀ (W : World) (p : Addr) (u : Value), p.block = w.heap.size → (W.setCell p u).cell? ⟨w.heap.size + 1, 0 + j, none⟩ = W.cell? ⟨w.heap.size + 1, 0 + j, none⟩ := fun W p u hp =>
    World.cell?_of_block (a := ⟨w.heap.size + 1, 0 + j, none⟩) (Below.heap_setCell W p u _ (by show w.heap.size + 1 ≠ p.block; omega))
  rw [e1 _ ⟨w.heap.size, 1, none⟩ _ rfl, e1 _ ⟨w.heap.size, 0, none⟩ _ rfl, Nat.zero_add, h1]
  have hj2 : j < s.data.toList.length := by rw [← Lib.size_eq]; exact hj
  simp [sB, List.getD, List.getElem?_eq_getElem hj2, List.getElem?_map]
end Go.Proofs.YtbapkamopelgpaaDoor
