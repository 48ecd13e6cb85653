/- octets: number, wide, the fields' makers. -/
import Derived.Test.YtmmiimcodbjnmaaDoorOctA
import Derived.Test.YtmmiimcodbjnmaaDoorCat
import Derived.Test.YtmmiimcodbjnmaaDoorNum
namespace Go.Proofs.YtmmiimcodbjnmaaDoor
open Go.RowKit Go.Stop Go.Extern Go.Ranges Go.Rows2
set_option linter.unusedVariables false
set_option linter.unusedSimpArgs false
/-- The variable of an error that is used. -/
def ErrC (w : World) (a : Nat → Addr) (n : Nat) : Prop := w.cell? ⟨gErr n, 0, none⟩ = some (.iface 199 (.pointer (some (a n))))
theorem ErrC.below {w w' : World} {a : Nat → Addr} {n : Nat} (h : ErrC w a n) (hb : Below w.heap.size w w') : ErrC w' a n := (hb.cell (World.block_lt_of_cell? w _ h)).trans h
theorem Errs.c {w : World} {a : Nat → Addr} (h : Errs w a) (n : Nat) (h1 : 1 ≤ n) (h2 : n ≤ 22) : ErrC w a n := h.at n h1 h2
theorem oc_new (w : World) (v : Value) (t : TypeId) : ∀ j u, [v][j]? = some u → (w.alloc (.cells #[v] t)).cell? ((⟨w.heap.size, 0, none⟩ : Addr).add j) = some u :=
  World.news_of_block (heap_alloc_last w (.cells #[v] t))
theorem oc_one (x : Int) {k : IntKind} : ∀ u ∈ [Value.int k x], u.oneCell' = true := fun u hu => by
  rw [List.mem_singleton] at hu
  subst hu; rfl
set_option maxRecDepth 4000 in
theorem ocNumber_any (N : Int) (m : Nat) (hm : m ≤ 8) (hN : 0 ≤ N) (w : World) :
    Calls Tryd.prog 78 #[.int .i64 N, .int .i64 m] w fun e w' => ∃ v, e = .returned v ∧ Below w.heap.size w w' ∧ w'.ownsRow w.heap.size 5 1 v m (bV (ocNum m N)) := by
  obtain ⟨it, j1, j2, j3, j4⟩ := of_row1 row5
  go_enter Tryd.func78, Tryd.ntmps78
  go_wp2
  go_loopw [6, 5] (fun x y wr => ∃ (k : Nat) (v : Value), k ≤ m ∧ x = .int .i64 ((m : Int) - 1 - k) ∧ v = y ∧ Below w.heap.size w wr ∧ wr.ownsRow w.heap.size 5 1 v k (bV (ocUp m N k))) (fun x _ _ => (intOf x + 1).toNat)
  case atStart => exact ⟨0, _, Nat.zero_le _, by go_num, rfl, Below.refl _ _, World.ownsRow_nil _ _ _ _⟩
  case round =>
    obtain ⟨k, v, hk, rfl, rfl, hB, hO⟩ := hrel
    have KB := Lib.hid hB
    have KO := Lib.hid hO
    have hsz := hB.size
    clear hB hO
    by_cases hlt : k < m
    · have hge : (0 : Int) ≤ (m : Int) - 1 - k := by omega
      go_wp2_with (at_builtin; go_loud (refine wpList_append_lies _ rfl (.tmp 13) (.tmp 19) 34 rfl w.heap.size 5 it (.int .u8 0) 1 1 Tryd.underlying34 j1 j2 j3 j4 rfl (by decide) v k (bV (ocUp m N k)) rfl (KO.out.alloc _) ⟨wr.heap.size, 0, none⟩ 1 1 [.int .u8 (N / 2 ^ (8 * (m - 1 - k)) % 256)] rfl rfl (oc_new _ _ _) (oc_one _) (by decide) (by unfold maxLen; omega) (by omega) (by simp; omega) _ rfl ?_); intro gn cn w1 hown hgrow hat hltn)
      go_round
      case rel =>
        refine ⟨k + 1, _, by omega, by go_num, rfl, (KB.out.alloc (by omega) _).grown hgrow (by simp; omega) (fun j hj => (KO.out.lt j hj).1), ?_⟩
        rw [ocUp_succ, bV, List.map_append]
        exact hown
      case measure => simp [intOf]; omega
    · have hke : k = m := by omega
      subst hke
      have hge : ¬ (0 : Int) ≤ (k : Int) - 1 - k := by omega
      go_wp2
      go_ret
      exact ⟨v, rfl, KB.out, KO.out⟩
theorem ocWide_any (c : UInt8) (w : World) : Calls Tryd.prog 77 #[.int .u8 c.toNat] w fun e w' => e = .returned (.tuple #[.int .i64 (ocSize c), .int .i64 (ocMost c)]) ∧ w = w' := by
  have hc : c = 98 ∨ c = 119 ∨ c = 113 ∨ (¬ c = 98 ∧ ¬ c = 119 ∧ ¬ c = 113) := by
    by_cases h1 : c = 98
    · exact .inl h1
    · by_cases h2 : c = 119
      · exact .inr (.inl h2)
      · by_cases h3 : c = 113
        · exact .inr (.inr (.inl h3))
        · exact .inr (.inr (.inr ⟨h1, h2, h3⟩))
  rcases hc with rfl | rfl | rfl | ⟨h1, h2, h3⟩
  · go_enter Tryd.func77, Tryd.ntmps77
    go_wp2
    go_ret2
    exact ⟨rfl, rfl⟩
  · go_enter Tryd.func77, Tryd.ntmps77
    go_wp2
    go_ret2
    exact ⟨rfl, rfl⟩
  · go_enter Tryd.func77, Tryd.ntmps77
    go_wp2
    go_ret2
    exact ⟨rfl, rfl⟩
  · have e1 : ocSize c = 0 := by unfold ocSize; rw [if_neg h1, if_neg h2, if_neg h3]
    have e2 : ocMost c = 0 := by unfold ocMost; rw [if_neg h1, if_neg h2, if_neg h3]
    have n1 : ¬ ((c.toNat : Int) = 98) := fun h => h1 (UInt8.toNat_inj.1 (by show c.toNat = 98; omega))
    have n2 : ¬ ((c.toNat : Int) = 119) := fun h => h2 (UInt8.toNat_inj.1 (by show c.toNat = 119; omega))
    have n3 : ¬ ((c.toNat : Int) = 113) := fun h => h3 (UInt8.toNat_inj.1 (by show c.toNat = 113; omega))
    rw [e1, e2]
    go_enter Tryd.func77, Tryd.ntmps77
    go_wp2
    go_ret2
    exact ⟨rfl, rfl⟩
end Go.Proofs.YtmmiimcodbjnmaaDoor
