/- A digest's figures: Hex; the chapter's example. -/
import Derived.Test.YtdpiplllcinieaaDoorShaF
import Derived.Deep.RegionLaw
import Derived.Lib.SlBytesConst
namespace Go.Proofs.YtdpiplllcinieaaDoor
open Go.RowKit Go.Stop Go.Extern Go.Ranges
set_option linter.unusedVariables false
set_option linter.unusedSimpArgs false
def figs : List Int := [48, 49, 50, 51, 52, 53, 54, 55, 56, 57, 97, 98, 99, 100, 101, 102]
def fig (i : Int) : Int := figs.getD i.toNat 0
def hexNums : List Int → List Int
  | [] => []
  | x :: xs => fig (x / 16) :: fig (x % 16) :: hexNums xs
theorem hexNums_append (xs ys : List Int) : hexNums (xs ++ ys) = hexNums xs ++ hexNums ys := by
  induction xs with
  | nil => rfl
  | cons x xs ih => simp [hexNums, ih]
theorem hexNums_len (xs : List Int) : (hexNums xs).length = 2 * xs.length := by
  induction xs with
  | nil => rfl
  | cons x xs ih => simp [hexNums, ih]; omega
theorem ix_fig (w : World) (i : Int) (h0 : 0 ≤ i) (h1 : i < 16) : (Instr.index 9 (.string { data := #[48, 49, 50, 51, 52, 53, 54, 55, 56, 57, 97, 98, 99, 100, 101, 102] }) (.int .u8 i)).run Tryd.prog w = .ok (.int .u8 (fig i)) w := by
  have : i = 0 ∨ i = 1 ∨ i = 2 ∨ i = 3 ∨ i = 4 ∨ i = 5 ∨ i = 6 ∨ i = 7 ∨ i = 8 ∨ i = 9 ∨ i = 10 ∨ i = 11 ∨ i = 12 ∨ i = 13 ∨ i = 14 ∨ i = 15 := by omega
  rcases this with rfl | rfl | rfl | rfl | rfl | rfl | rfl | rfl | rfl | rfl | rfl | rfl | rfl | rfl | rfl | rfl <;> (simp [Instr.index, go_sem, Tryd.underlying9, fig, figs]; try rfl)
theorem and15 (x : Int) (h0 : 0 ≤ x) (h1 : x < 256) : bits .and .u8 x 15 = x % 16 := by
  have key : ∀ n : Fin 256, bits .and .u8 ((n.val : Nat) : Int) 15 = ((n.val : Nat) : Int) % 16 := by decide +kernel
  have := key ⟨x.toNat, by omega⟩
  have e : ((x.toNat : Nat) : Int) = x := by omega
  simpa [e] using this
attribute [-go_sem] loadVar storeVar
attribute [local go_sem] loadVar_one storeVar_one
theorem ix25 (w : World) (D : Array Value) (i : Nat) (x : Int) (hi : i < 32) (h : D[i]? = some (.int .u8 x)) : (Instr.index 25 (.agg D) (.int .i64 i)).run Tryd.prog w = .ok (.int .u8 x) w := by
  have h2 : (i : Int) < 32 := by omega
  have hz := size_u8 w
  simp [Instr.index, go_sem, Tryd.underlying25, h2, hz, h]
  intro h3
  omega
theorem two_new (w : World) (u v : Value) (t : TypeId) : ∀ j z, [u, v][j]? = some z → (w.alloc (.cells #[u, v] t)).cell? ((⟨w.heap.size, 0, none⟩ : Addr).add j) = some z :=
  World.news_of_block (heap_alloc_last w (.cells #[u, v] t))
theorem two_one (x y : Int) {k : IntKind} : ∀ u ∈ [Value.int k x, Value.int k y], u.oneCell' = true := fun u hu => by
  simp only [List.mem_cons, List.not_mem_nil, or_false] at hu
  rcases hu with rfl | rfl <;> rfl
set_option maxRecDepth 20000 in
set_option maxHeartbeats 4000000 in
theorem hex_any (C : Array Value) (xs : List Int) (w : World) (hC : isOid C xs) (hl : xs.length = 32) (hb : ∀ x ∈ xs, isByte x) :
    Calls Tryd.prog 23 #[.agg C] w fun e w' => e = .returned (.string (strOfNums (hexNums xs))) ∧ Below w.heap.size w w' := by
  have KC := Lib.hid hC
  have Kb := Lib.hid hb
  have Kl := Lib.hid hl
  have hz : 32 ≤ C.size := by rw [hC.size]; decide
  have hE : C.extract 0 32 = C := by rw [← hC.size]; simp
  clear hC hb hl
  have l25 := ld25s
  obtain ⟨it, j1, j2, j3, j4⟩ := of_row1 row5
  go_enter Tryd.func23, Tryd.ntmps23
  go_wp2_with fail
  have hB0 : Below w.heap.size w (w.alloc (.cells C 25)) := (Below.refl _ _).alloc (Nat.le_refl _) _
  generalize w.alloc (.cells C 25) = W0 at *
  have KB0 := Lib.hid hB0
  clear hB0
  go_loopw [7, 3] (fun x y wr => ∃ (j : Nat) (v : Value), j ≤ 32 ∧ x = .int .i64 j ∧ v = y ∧ Below w.heap.size w wr ∧ wr.ownsRow w.heap.size 5 1 v (2 * j) (bV (hexNums (xs.take j)))) (fun x _ _ => 32 - (intOf x).toNat)
  case atStart => exact ⟨0, _, Nat.zero_le _, rfl, rfl, KB0.out, World.ownsRow_nil _ _ _ _⟩
  case round =>
    obtain ⟨j, v, hj, rfl, rfl, hB, hO⟩ := hrel
    have HB := Lib.hid hB
    have HO := Lib.hid hO
    have hsz := hB.size
    clear hB hO
    by_cases hlt : j < 32
    · have ixw := fun w => ix25 w C j _ hlt (KC.out.at_ j hlt)
      have hx : isByte (xs.getD j 0) := Kb.out _ (by
        rw [List.getD_eq_getElem?_getD, List.getElem?_eq_getElem (by rw [Kl.out]; exact hlt)]
        exact List.getElem_mem _)
      have hnext : Hid (hexNums (xs.take (j + 1)) = hexNums (xs.take j) ++ [fig (xs.getD j 0 / 16), fig (xs.getD j 0 % 16)]) := by
        show _ = _
        rw [List.take_add_one, List.getD_eq_getElem?_getD, List.getElem?_eq_getElem (by rw [Kl.out]; exact hlt), hexNums_append]
        rfl
      generalize xs.getD j 0 = x at *
      have ha := and15 x hx.1 hx.2
      have f1 := fun w => ix_fig w (x / 16) (by have := hx.1; omega) (by have := hx.2; omega)
      have f2 := fun w => ix_fig w (x % 16) (by omega) (by omega)
      go_wp2_with fail
      go_region_law (refine step_append_lies _ rfl (.tmp 10) (.tmp 17) 22 rfl w.heap.size 5 it (.int .u8 0) 1 1 Tryd.underlying22 j1 j2 j3 j4 rfl (by decide) v (2 * j) (bV (hexNums (xs.take j))) rfl (HO.out.drew.alloc _) ⟨wr.heap.size, 0, none⟩ 2 2 [.int .u8 (fig (x / 16)), .int .u8 (fig (x % 16))] rfl rfl (two_new _ _ _ _) (two_one _ _) (by decide) (by unfold maxLen; omega) (by omega) (by simp; omega) _ rfl ?_; intro gn cn w1 hown hgrow hat hltn)
      all_goals
        go_wp2_with fail
        go_round
        case rel =>
          refine ⟨j + 1, _, by omega, by go_num, rfl, (HB.out.trans (((Below.refl _ wr).drew.alloc (by simp) _).mono hsz)).grown hgrow (by simp; omega) (fun k hk => (HO.out.lt k hk).1), ?_⟩
          have e : bV (hexNums (xs.take (j + 1))) = bV (hexNums (xs.take j)) ++ [.int .u8 (fig (x / 16)), .int .u8 (fig (x % 16))] := by rw [hnext.out, bV_append]; rfl
          rw [e]
          exact hown
        case measure => simp only [intOf]; omega
    · have hje : j = 32 := by omega
      subst hje
      obtain ⟨A1, c1, rfl⟩ := own_slice HO.out
      have hxs : xs.take 32 = xs := List.take_of_length_le (by rw [Kl.out]; exact Nat.le_refl _)
      have hby := own_bytes HO.out
      rw [hxs] at hby
      have cv := hby.convert (P := Tryd.prog) (by rw [hexNums_len, Kl.out]) c1 22 5 9 Tryd.underlying22 Tryd.underlying5 Tryd.underlying9
      clear hby
      go_wp2_with fail
      go_ret
      exact ⟨rfl, HB.out⟩
def abcParts (i : Nat) : List Int := if i = 0 then [97] else [98, 99]
theorem abc_hex : strOfNums (hexNums (Sha.sum [97, 98, 99])) = ⟨#[98, 97, 55, 56, 49, 54, 98, 102, 56, 102, 48, 49, 99, 102, 101, 97, 52, 49, 52, 49, 52, 48, 100, 101, 53, 100, 97, 101, 50, 50, 50, 51, 98, 48, 48, 51, 54, 49, 97, 51, 57, 54, 49, 55, 55, 97, 57, 99, 98, 52, 49, 48, 102, 102, 54, 49, 102, 50, 48, 48, 49, 53, 97, 100]⟩ := by
  rw [Sha.sum_abc]
  decide +kernel
theorem sum_len (xs : List Int) : (Sha.sum xs).length = 32 := rfl
theorem four_byte (x : Sha.W) : ∀ y ∈ Sha.four x, isByte y := fun y hy => by
  unfold Sha.four at hy
  simp only [List.mem_cons, List.not_mem_nil, or_false] at hy
  unfold isByte
  rcases hy with rfl | rfl | rfl | rfl <;> omega
theorem sum_byte (xs : List Int) : ∀ y ∈ Sha.sum xs, isByte y := fun y hy => by
  unfold Sha.sum Sha.out at hy
  simp only [List.mem_append] at hy
  rcases hy with ((((((h | h) | h) | h) | h) | h) | h) | h <;> exact four_byte _ y h
theorem three_new (w : World) (o1 o2 o3 : Obj) : (((w.alloc o1).alloc o2).alloc o3).heap[w.heap.size]? = some o1 ∧ (((w.alloc o1).alloc o2).alloc o3).heap[w.heap.size + 1]? = some o2 ∧ (((w.alloc o1).alloc o2).alloc o3).heap[w.heap.size + 1 + 1]? = some o3 := by
  have e1 : (w.alloc o1).heap.size = w.heap.size + 1 := by simp
  have e2 : ((w.alloc o1).alloc o2).heap.size = w.heap.size + 1 + 1 := by simp
  have h1 := heap_alloc_last w o1
  have h2 := heap_alloc_last (w.alloc o1) o2
  have h3 := heap_alloc_last ((w.alloc o1).alloc o2) o3
  rw [e1] at h2
  rw [e2] at h3
  refine ⟨?_, ?_, h3⟩
  · rw [Below.heap_alloc _ _ _ (by simp; omega), Below.heap_alloc _ _ _ (by simp)]; exact h1
  · rw [Below.heap_alloc _ _ _ (by simp)]; exact h2
theorem kconst (w : World) (g : Nat) (hg : g = w.heap.size) (C : Array Value) (n c : Nat) : (convert 22 22 (.slice (some ⟨g, 0, none⟩) n c)).run Tryd.prog (w.alloc (.cells C 5)) = .ok (.slice (some ⟨g, 0, none⟩) n c) (w.alloc (.cells C 5 (C.size, C.size + 1))) := by
  subst hg
  exact Lib.run_convert_bytes_const (P := Tryd.prog) w 22 5 C n c Tryd.underlying22 Tryd.underlying5
theorem abc_parts (w : World) : PartsAt (((w.alloc (.cells #[.int .u8 97] 5 (1, 2))).alloc (.cells #[.int .u8 98, .int .u8 99] 5 (2, 3))).alloc (.cells #[.slice (some ⟨w.heap.size, 0, none⟩) 1 1, .slice (some ⟨w.heap.size + 1, 0, none⟩) 2 2] 22)) (some ⟨w.heap.size + 1 + 1, 0, none⟩) 2 abcParts := fun _ => by
  obtain ⟨e1, e2, e3⟩ := three_new w (.cells #[.int .u8 97] 5 (1, 2)) (.cells #[.int .u8 98, .int .u8 99] 5 (2, 3)) (.cells #[.slice (some ⟨w.heap.size, 0, none⟩) 1 1, .slice (some ⟨w.heap.size + 1, 0, none⟩) 2 2] 22)
  refine ⟨_, 0, rfl, by simp, fun i hi => ?_⟩
  have : i = 0 ∨ i = 1 := by omega
  rcases this with rfl | rfl
  · refine ⟨some ⟨w.heap.size, 0, none⟩, 1, ?_, fun _ => ⟨_, 0, rfl, fun j hj => ?_⟩⟩
    · rw [cell_of_row _ _ _ _ _ _ e3]; rfl
    · obtain rfl : j = 0 := by have : (abcParts 0).length = 1 := rfl; omega
      rw [cell_of_row _ _ _ _ _ _ e1]; rfl
  · refine ⟨some ⟨w.heap.size + 1, 0, none⟩, 2, ?_, fun _ => ⟨_, 0, rfl, fun j hj => ?_⟩⟩
    · rw [cell_of_row _ _ _ _ _ _ e3]; rfl
    · have : j = 0 ∨ j = 1 := by have : (abcParts 1).length = 2 := rfl; omega
      rcases this with rfl | rfl <;> (rw [cell_of_row _ _ _ _ _ _ e2]; rfl)
set_option maxRecDepth 20000 in
set_option maxHeartbeats 4000000 in
theorem alive01 (w : World) (hG : Grains w) (hS : Start w) : Calls Tryd.prog 16 #[] w fun x w' => x = .returned (.bool true) ∧ Below w.heap.size w w' := by
  have KG := Lib.hid hG
  have KS := Lib.hid hS
  clear hG hS
  have kc := kconst
  have hsum := Lib.hid (fun (W : World) (hb : Below w.heap.size w W) (hP : PartsAt W (some ⟨w.heap.size + 1 + 1, 0, none⟩) 2 abcParts) =>
    sum_any (some ⟨w.heap.size + 1 + 1, 0, none⟩) 2 2 abcParts W hP (fun i hi x hx => by
      unfold abcParts at hx
      split at hx <;> simp only [List.mem_cons, List.not_mem_nil, or_false] at hx
      · subst hx; exact ⟨by decide, by decide⟩
      · rcases hx with rfl | rfl <;> exact ⟨by decide, by decide⟩) (by decide) (by decide) (KG.out.below hb) (KS.out.below hb))
  go_enter Tryd.func16, Tryd.ntmps16
  go_wp2_with (first
    | (go_at_call 19
       refine (hsum.out _ ?hb ?hP).mono ?_
       case hb => exact (((Below.refl _ w).alloc (Nat.le_refl _) _).alloc (by simp) _).alloc (by simp; omega) _
       case hP => exact abc_parts w
       rintro e w1 ⟨D, rfl, hD, hb1⟩)
    | (go_at_call 23
       refine (hex_any D _ w1 hD (sum_len _) (sum_byte _)).mono ?_
       rintro e w2 ⟨rfl, hb2⟩
       skip))
  go_ret
  refine ⟨?_, ?_⟩
  · show Ending.returned (.bool _) = _
    congr 2
    rw [show cat abcParts 2 = [97, 98, 99] from rfl, abc_hex]
    decide +kernel
  · have hb0 : Below w.heap.size w (((w.alloc (.cells #[.int .u8 97] 5 (1, 2))).alloc (.cells #[.int .u8 98, .int .u8 99] 5 (2, 3))).alloc (.cells #[.slice (some ⟨w.heap.size, 0, none⟩) 1 1, .slice (some ⟨w.heap.size + 1, 0, none⟩) 2 2] 22)) := (((Below.refl _ w).alloc (Nat.le_refl _) _).alloc (by simp) _).alloc (by simp; omega) _
    have hb01 := hb0.trans (hb1.mono hb0.size)
    exact hb01.trans (hb2.mono hb01.size)
end Go.Proofs.YtdpiplllcinieaaDoor
