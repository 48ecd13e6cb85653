/- A net in memory; New, Len, Room, Counts. -/
import Derived.Test.YtdglpbjofdipkaaDoorIns2
import Derived.Test.YtdglpbjofdipkaaDoorNum
namespace Go.Proofs.YtdglpbjofdipkaaDoor
open Go.RowKit Go.Stop Go.Extern Go.Ranges Go.Rows2 Go.Sort Go.BigFrame
set_option linter.unusedVariables false
set_option linter.unusedSimpArgs false
/-- What a net is: room, how many were sent, taken, lost, doubled; the texts. -/
structure NS where
  room : Int
  s : Int
  t : Int
  l : Int
  d : Int
  L : List (List Int)
/-- A net's cells. -/
def netC (S : NS) (v : Value) : Array Value := #[.int .i64 S.s, .int .i64 S.t, .int .i64 S.l, .int .i64 S.d, .int .i64 S.room, v]
/-- A net in memory: its block p, its row's block g; X: blocks of which no text lies in any. -/
structure NetV (w : World) (base p : Nat) (X : Nat → Prop) (S : NS) (v : Value) (xs : List Value) : Prop where
  blk : w.heap[p]? = some (.cells (netC S v) 122 (0, 0))
  own : w.ownsRow base 55 1 v S.L.length xs
  txt : ∀ i, i < S.L.length → ∃ x, xs[i]? = some x ∧ TextIs w (fun k => base ≤ k ∧ ¬ X k ∧ some k ≠ v.ownBlock) x (S.L.getD i [])
  hp : base ≤ p
  xp : X p
  xlt : ∀ k, X k → k < w.heap.size
  xg : ∀ k, v.ownBlock = some k → ¬ X k
theorem NetV.plt {w : World} {base p : Nat} {X : Nat → Prop} {S : NS} {v : Value} {xs : List Value} (h : NetV w base p X S v xs) : p < w.heap.size := (Array.getElem?_eq_some_iff.1 h.blk).1
theorem NetV.len {w : World} {base p : Nat} {X : Nat → Prop} {S : NS} {v : Value} {xs : List Value} (h : NetV w base p X S v xs) : xs.length = S.L.length := by have := h.own.1; rwa [Nat.mul_one] at this
theorem NetV.slice {w : World} {base p : Nat} {X : Nat → Prop} {S : NS} {v : Value} {xs : List Value} (h : NetV w base p X S v xs) : ∃ A c, v = .slice A S.L.length c := own_slice h.own
theorem own_chg {w w' : World} {base : Nat} {e : TypeId} {m : Nat} {v : Value} {n : Nat} {xs : List Value} {T : Nat → Prop} (h : w.ownsRow base e m v n xs) (hb : Chg T w w') (hg : ∀ k, v.ownBlock = some k → ¬ T k) : w'.ownsRow base e m v n xs := by
  refine ⟨h.1, ?_⟩
  rcases h.2 with h2 | ⟨g, cap, cur, hv, hgb, hh, r⟩
  · exact .inl h2
  · refine .inr ⟨g, cap, cur, hv, hgb, (hb.block g (Array.getElem?_eq_some_iff.1 hh).1 (hg g (by rw [hv]; rfl))).trans hh, r⟩
/-- A net stays what it is while other blocks turn. -/
theorem NetV.keep {w w' : World} {base p : Nat} {X T : Nat → Prop} {S : NS} {v : Value} {xs : List Value} (h : NetV w base p X S v xs) (hc : Chg T w w') (h1 : ¬ T p) (h2 : ∀ k, v.ownBlock = some k → ¬ T k)
    (h3 : ∀ k, k < w.heap.size → T k → base ≤ k → X k ∨ some k = v.ownBlock) : NetV w' base p X S v xs :=
  ⟨(hc.block p h.plt h1).trans h.blk, own_chg h.own hc h2, fun i hi => by
    obtain ⟨x, e, ht⟩ := h.txt i hi
    exact ⟨x, e, ht.chg hc (fun k hk ⟨a, b, c⟩ hT => by
      rcases h3 k hk hT a with h | h
      · exact b h
      · exact c h)⟩, h.hp, h.xp, fun k hk => Nat.lt_of_lt_of_le (h.xlt k hk) hc.size, h.xg⟩
theorem NetV.below {w w' : World} {base p : Nat} {X : Nat → Prop} {S : NS} {v : Value} {xs : List Value} (h : NetV w base p X S v xs) (hb : Below w.heap.size w w') : NetV w' base p X S v xs :=
  h.keep (T := fun _ => False) (Chg.of_below hb) (fun h => h) (fun _ _ h => h) (fun _ _ h _ => h.elim)
theorem net_cell {w : World} {base p : Nat} {X : Nat → Prop} {S : NS} {v : Value} {xs : List Value} (h : NetV w base p X S v xs) (j : Nat) : w.cell? ⟨p, j, none⟩ = (netC S v)[j]? := cell_of_row _ _ _ _ _ _ h.blk
theorem net_frozen {w : World} {base p : Nat} {X : Nat → Prop} {S : NS} {v : Value} {xs : List Value} (h : NetV w base p X S v xs) (j : Nat) : w.frozen? ⟨p, j, none⟩ = false := by simp [World.frozen?, h.blk]
set_option maxRecDepth 20000 in
theorem len_any {w : World} {base p : Nat} {X : Nat → Prop} {S : NS} {v : Value} {xs : List Value} (h : NetV w base p X S v xs) :
    Calls Tryd.prog 54 #[.pointer (some ⟨p, 0, none⟩)] w fun e w' => e = .returned (.int .i64 S.L.length) ∧ w = w' := by
  obtain ⟨A, c, hv⟩ := h.slice
  have c5 := net_cell h 5
  rw [show (netC S v)[5]? = some v from rfl, hv] at c5
  clear h hv
  go_enter Tryd.func54, Tryd.ntmps54
  go_wp2
  go_ret
  exact ⟨rfl, rfl⟩
set_option maxRecDepth 20000 in
theorem room_any {w : World} {base p : Nat} {X : Nat → Prop} {S : NS} {v : Value} {xs : List Value} (h : NetV w base p X S v xs) (hr0 : 0 ≤ S.room) (hr : S.room ≤ 64) (hl : S.L.length ≤ 1000) :
    Calls Tryd.prog 55 #[.pointer (some ⟨p, 0, none⟩)] w fun e w' => e = .returned (.int .i64 (S.room - S.L.length)) ∧ ∃ n, w' = w.drewN n := by
  obtain ⟨A, c, hv⟩ := h.slice
  have c5 := net_cell h 5
  have c4 := net_cell h 4
  rw [show (netC S v)[5]? = some v from rfl, hv] at c5
  rw [show (netC S v)[4]? = some (.int .i64 S.room) from rfl] at c4
  have hw : IntKind.i64.wrap (S.room - (S.L.length : Int)) = S.room - (S.L.length : Int) := by rw [IntKind.wrap_i64]; omega
  clear h hv
  go_enter Tryd.func55, Tryd.ntmps55
  go_wp2
  go_quiet (fail)
  go_wp2
  go_ret
  exact ⟨rfl, _, rfl⟩
set_option maxRecDepth 20000 in
theorem counts_any {w : World} {base p : Nat} {X : Nat → Prop} {S : NS} {v : Value} {xs : List Value} (h : NetV w base p X S v xs) :
    Calls Tryd.prog 53 #[.pointer (some ⟨p, 0, none⟩)] w fun e w' => e = .returned (.tuple #[.int .i64 S.s, .int .i64 S.t, .int .i64 S.l, .int .i64 S.d]) ∧ ∃ n, w' = w.drewN n := by
  have c0 := net_cell h 0
  have c1 := net_cell h 1
  have c2 := net_cell h 2
  have c3 := net_cell h 3
  rw [show (netC S v)[0]? = some (.int .i64 S.s) from rfl] at c0
  rw [show (netC S v)[1]? = some (.int .i64 S.t) from rfl] at c1
  rw [show (netC S v)[2]? = some (.int .i64 S.l) from rfl] at c2
  rw [show (netC S v)[3]? = some (.int .i64 S.d) from rfl] at c3
  clear h
  go_enter Tryd.func53, Tryd.ntmps53
  go_wp2
  go_quiet (fail)
  go_wp2
  refine bodyPost_ret (v := .tuple #[.int .i64 S.s, .int .i64 S.t, .int .i64 S.l, .int .i64 S.d]) (by simp [results, Tryd.results53, go_sem]) rfl ⟨rfl, _, rfl⟩
set_option maxRecDepth 20000 in
theorem new_ok (room : Int) (w : World) (h1 : 1 ≤ room) (h2 : room ≤ 64) (X : Nat → Prop) (hX : ∀ k, X k → k ≤ w.heap.size) (hp : X w.heap.size) (base : Nat) (hb : base ≤ w.heap.size) :
    Calls Tryd.prog 45 #[.int .i64 room] w fun e w' => e = .returned (.tuple #[.pointer (some ⟨w.heap.size, 0, none⟩), .nilIface]) ∧ NetV w' base w.heap.size X ⟨room, 0, 0, 0, 0, []⟩ (.slice none 0 0) [] ∧ Below w.heap.size w w' := by
  have hN : ∀ w' : World, w' = w.alloc (.cells #[.int .i64 0, .int .i64 0, .int .i64 0, .int .i64 0, .int .i64 room, .slice none 0 0] 122) → NetV w' base w.heap.size X ⟨room, 0, 0, 0, 0, []⟩ (.slice none 0 0) [] := fun w' e => by
    subst e
    exact ⟨heap_alloc_last w _, World.ownsRow_nil _ _ _ _, fun i hi => absurd hi (by simp), hb, hp, fun k hk => by have := hX k hk; simp; omega, fun k hk => by cases hk⟩
  have HN := Lib.hid hN
  have n1 : ¬ room < 1 := by omega
  have n2 : ¬ 64 < room := by omega
  clear hN hX hp
  go_enter Tryd.func45, Tryd.ntmps45
  go_wp2
  go_ret2
  exact ⟨rfl, HN.out _ rfl, alloc_below _ _⟩
set_option maxRecDepth 20000 in
theorem new_no (a : Nat → Addr) (room : Int) (w : World) (h : room < 1 ∨ 64 < room) (H : Errs w a) :
    Calls Tryd.prog 45 #[.int .i64 room] w fun e w' => e = .returned (.tuple #[.pointer none, .iface 143 (.pointer (some (a 1)))]) ∧ Below w.heap.size w w' := by
  have e1 : w.cell? ⟨0, 0, none⟩ = _ := H.at 1 (by decide) (by decide)
  by_cases h1 : room < 1
  · go_enter Tryd.func45, Tryd.ntmps45
    go_wp2
    go_quiet (fail)
    go_wp2
    go_ret2
    exact ⟨rfl, below_drewN _ _⟩
  · have h2 : 64 < room := by omega
    go_enter Tryd.func45, Tryd.ntmps45
    go_wp2
    go_quiet (fail)
    go_wp2
    go_ret2
    exact ⟨rfl, below_drewN _ _⟩
end Go.Proofs.YtdglpbjofdipkaaDoor
