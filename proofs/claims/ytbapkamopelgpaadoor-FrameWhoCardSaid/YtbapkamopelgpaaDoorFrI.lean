/- Frames that are the same. -/
import Derived.Test.YtbapkamopelgpaaDoorFrH
import Derived.Test.YtbapkamopelgpaaDoorBeq
namespace Go.Proofs.YtbapkamopelgpaaDoor
open Go.RowKit Go.Stop Go.Extern Go.Ranges Go.Rows2
set_option linter.unusedVariables false
set_option linter.unusedSimpArgs false
set_option maxRecDepth 100000
def sameF (F G : Frm) : Bool := (F.k == G.k) && ((F.f == G.f) && ((F.t == G.t) && bytesEq F.body G.body))
theorem sameF_self (F : Frm) : sameF F F = true := by simp [sameF, bytesEq_self]
theorem new4 (w : World) (C : Array Value) (t : TypeId) (j : Nat) : (w.alloc (.cells C t)).cell? ⟨w.heap.size, j, none⟩ = C[j]? := cell_of_row _ _ _ _ _ _ (heap_alloc_last w _)
set_option maxHeartbeats 2000000 in
theorem frSame_any (F G : Frm) (B D : Option Addr) (cb cd : Nat) (w : World) (hB : Lib.BytesIn w B F.body.length F.body) (hD : Lib.BytesIn w D G.body.length G.body) :
    Calls Tryd.prog 35 #[.agg (frA F B cb), .agg (frA G D cd)] w fun e w' => e = .returned (.bool (sameF F G)) ∧ Below w.heap.size w w' := by
  have b0 := stepV (alloc_below w (.cells (frA F B cb) 56)) (alloc_below _ (.cells (frA G D cd) 56))
  have K := Lib.hid (bytes_any B D F.body.length G.body.length cb cd F.body G.body _ rfl rfl (bytesIn_below' hB b0) (bytesIn_below' hD b0))
  have HB := Lib.hid b0
  unfold frA at *
  unfold sameF
  generalize bytesEq F.body G.body = q at *
  clear hB hD b0
  cases h1 : F.k == G.k with
  | false =>
    go_enter Tryd.func35, Tryd.ntmps35
    go_wp2_with fail
    go_ret
    exact ⟨rfl, HB.out⟩
  | true =>
    cases h2 : F.f == G.f with
    | false =>
      go_enter Tryd.func35, Tryd.ntmps35
      go_wp2_with fail
      go_ret
      exact ⟨rfl, HB.out⟩
    | true =>
      cases h3 : F.t == G.t with
      | false =>
        go_enter Tryd.func35, Tryd.ntmps35
        go_wp2_with fail
        go_ret
        exact ⟨rfl, HB.out⟩
      | true =>
        go_enter Tryd.func35, Tryd.ntmps35
        go_wp2_with fail
        refine K.out.mono ?_
        rintro e w1 ⟨rfl, rfl⟩
        go_wp2_with fail
        go_ret
        exact ⟨rfl, HB.out⟩
set_option maxHeartbeats 2000000 in
theorem frRefSame_any (F G : Frm) (B D : Option Addr) (cb cd : Nat) (w : World) (hB : Lib.BytesIn w B F.body.length F.body) (hD : Lib.BytesIn w D G.body.length G.body) :
    Calls Tryd.prog 31 #[.agg (frA F B cb), .agg (frA G D cd)] w fun e w' => e = .returned (.bool (sameF F G)) ∧ Below w.heap.size w w' := by
  have b0 := stepV (alloc_below w (.cells (frA F B cb) 59)) (alloc_below _ (.cells (frA G D cd) 59))
  have c1 := (bytesIn_below' hB b0).convert (P := Tryd.prog) rfl cb 22 5 9 Tryd.underlying22 Tryd.underlying5 Tryd.underlying9
  have c2 := (bytesIn_below' hD b0).convert (P := Tryd.prog) rfl cd 22 5 9 Tryd.underlying22 Tryd.underlying5 Tryd.underlying9
  have HB := Lib.hid b0
  unfold frA at *
  unfold sameF bytesEq
  clear hB hD b0
  cases h1 : F.k == G.k with
  | false =>
    go_enter Tryd.func31, Tryd.ntmps31
    go_wp2_with fail
    go_ret
    exact ⟨rfl, HB.out⟩
  | true =>
    cases h2 : F.f == G.f with
    | false =>
      go_enter Tryd.func31, Tryd.ntmps31
      go_wp2_with fail
      go_ret
      exact ⟨rfl, HB.out⟩
    | true =>
      cases h3 : F.t == G.t with
      | false =>
        go_enter Tryd.func31, Tryd.ntmps31
        go_wp2_with fail
        go_ret
        exact ⟨rfl, HB.out⟩
      | true =>
        go_enter Tryd.func31, Tryd.ntmps31
        go_wp2_with fail
        go_ret
        exact ⟨rfl, HB.out⟩
end Go.Proofs.YtbapkamopelgpaaDoor
