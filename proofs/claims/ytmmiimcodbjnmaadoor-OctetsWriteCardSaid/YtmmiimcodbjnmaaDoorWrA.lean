/- octets, fields as of the document: of. -/
import Derived.Test.YtmmiimcodbjnmaaDoorRfD
namespace Go.Proofs.YtmmiimcodbjnmaaDoor
open Go.RowKit Go.Stop Go.Extern Go.Ranges Go.Rows2
set_option linter.unusedVariables false
set_option linter.unusedSimpArgs false
set_option maxRecDepth 20000
theorem ofRow_next {w wr wb w6 : World} {N : Nat → Int} {B : Nat → List Int} {k : Nat} {v : Value} {vs : List Value} (h : RG wr w.heap.size v k vs N B) (hW : Below w.heap.size w wr) (hb : Below wr.heap.size wr wb)
    {D : Option Addr} {c2 g cap : Nat} (hD : ByteS wb (fun j => j < w.heap.size) D (B k))
    (hown : w6.ownsRow w.heap.size 57 2 (.slice (some ⟨g, 0, none⟩) (k + 1) cap) (k + 1) (vs ++ [.int .i64 (N k), .slice D (B k).length c2])) (hgrow : wb.grownBy w6 v.ownBlock) (hat : v.ownBlock = some g ∨ g = wb.heap.size) :
    RG w6 w.heap.size (.slice (some ⟨g, 0, none⟩) (k + 1) cap) (k + 1) (vs ++ [.int .i64 (N k), .slice D (B k).length c2]) N B ∧ Below w.heap.size w w6 := by
  have hrow : ∀ j, v.ownBlock = some j → w.heap.size ≤ j := fun j hj => (h.own.lt j hj).1
  have B1 := stepV hW hb
  exact ⟨(h.below hb).push (hD.mono fun j _ hj => ⟨hj, fun e => by have := hrow j e.symm; omega⟩) hown hgrow hat, B1.grown hgrow B1.size hrow⟩
def OfEnd (w : World) (n : Nat) (N : Nat → Int) (B : Nat → List Int) (e : Ending) (w' : World) : Prop :=
  ∃ A c vs, e = .returned (.slice A n c) ∧ RG w' w.heap.size (.slice A n c) n vs N B ∧ Below w.heap.size w w'
set_option maxHeartbeats 4000000 in
theorem of02_any (A : Option Addr) (n c : Nat) (N : Nat → Int) (B : Nat → List Int) (w : World) (hF : FieldsAt w A n N B) (hn : n ≤ 100000) :
    Calls Tryd.prog 32 #[.slice A n c] w (OfEnd w n N B) := by
  obtain ⟨it, j1, j2, j3, j4⟩ := of_row1 rowField2
  have HF := Lib.hid hF
  have hR0 := Lib.hid (RG.new w w.heap.size (Nat.le_refl _) N B)
  have hB0 := Lib.hid (alloc_below w (.cells #[] 57))
  clear hF
  go_enter Tryd.func32, Tryd.ntmps32
  go_wp2_with fail
  go_loopw [3, 9] (fun y x wr => ∃ (k : Nat) (v : Value) (vs : List Value), k ≤ n ∧ x = .int .i64 k ∧ v = y ∧ RG wr w.heap.size v k vs N B ∧ Below w.heap.size w wr) (fun y x wr => n - (intOf x).toNat)
  case atStart => exact ⟨0, _, [], Nat.zero_le _, rfl, rfl, hR0.out, hB0.out⟩
  case round =>
    obtain ⟨k, v, vs, hk, rfl, rfl, hG, hb⟩ := hrel
    have HG := Lib.hid hG
    have HB := Lib.hid hb
    have hsz := hb.size
    clear hG hb
    by_cases hlt : k < n
    · obtain ⟨b, o, rfl, hbl, hc⟩ := HF.out (by omega)
      obtain ⟨D, cc, h1, h2, h3⟩ := hc k hlt
      have c1 : wr.cell? ⟨b, o + k * 2, none⟩ = some (.int .i64 (N k)) := (HB.out.cell (p := ⟨b, o + k * 2, none⟩) hbl).trans h1
      have c2 : wr.cell? ⟨b, o + k * 2 + 1, none⟩ = some (.slice D (B k).length cc) := (HB.out.cell (p := ⟨b, o + k * 2 + 1, none⟩) hbl).trans h2
      have hk0 : (0 : Int) ≤ (k : Int) := by omega
      have HD := Lib.hid (ByteS.old h3 HB.out)
      clear hc h1 h2 h3
      have hz1 : (wr.alloc (.cells #[.int .i64 (N k), .slice D (B k).length cc] 60)).heap.size = wr.heap.size + 1 := by simp
      have hn3 := World.news_of_block (heap_alloc_last (wr.alloc (.cells #[.int .i64 (N k), .slice D (B k).length cc] 60)) (.cells #[.int .i64 (N k), .slice D (B k).length cc] 57))
      rw [hz1] at hn3
      have B3 := Lib.hid (stepV (alloc_below wr (.cells #[.int .i64 (N k), .slice D (B k).length cc] 60)) (alloc_below (wr.alloc (.cells #[.int .i64 (N k), .slice D (B k).length cc] 60)) (.cells #[.int .i64 (N k), .slice D (B k).length cc] 57)))
      have HOWN := Lib.hid (HG.out.below B3.out).own
      have HN3 := Lib.hid hn3
      clear hz1 hn3
      go_wp2_with (at_builtin; go_loud (refine wpList_append_lies _ rfl (.tmp 13) (.tmp 19) 53 rfl w.heap.size 57 it (.agg #[.int .i64 0, .slice none 0 0]) 2 32 Tryd.underlying53 j1 j2 j3 j4 rfl (by decide) v k vs rfl HOWN.out ⟨wr.heap.size + 1, 0, none⟩ 1 1 [.int .i64 (N k), .slice D (B k).length cc] rfl rfl HN3.out (two_one _ _ _ _) (by decide) (by unfold maxLen; omega) (by omega) (by simp; omega) _ rfl ?_); intro gn cn w6 hown hgrow hatg hltn)
      have HR := Lib.hid (ofRow_next HG.out HB.out B3.out (HD.out.below B3.out) hown hgrow (by simpa using hatg))
      clear hown hgrow hatg hltn HOWN HN3
      go_round
      case rel => exact ⟨k + 1, _, _, by omega, by go_num, rfl, HR.out.1, HR.out.2⟩
      case measure => simp only [intOf]; omega
    · obtain rfl : k = n := by omega
      go_wp2_with fail
      go_ret
      obtain ⟨A2, c2, hv⟩ := own_slice HG.out.own
      subst hv
      exact ⟨A2, c2, vs, rfl, HG.out, HB.out⟩
end Go.Proofs.YtmmiimcodbjnmaaDoor
