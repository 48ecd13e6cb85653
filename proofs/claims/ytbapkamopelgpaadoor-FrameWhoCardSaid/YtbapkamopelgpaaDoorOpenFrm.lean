/- A frame that came in. -/
import Derived.Test.YtbapkamopelgpaaDoorOpenMsg
import Derived.Test.YtbapkamopelgpaaDoorFrC
namespace Go.Proofs.YtbapkamopelgpaaDoor
open Go.RowKit Go.ChangeShapes Go.WideShapes Go.Ranges
set_option linter.unusedVariables false
set_option linter.unusedSimpArgs false
set_option maxRecDepth 20000
/-- What a frame that came in is. -/
structure FrmOk (w : World) (F : Frm) (B : Option Addr) (cb : Nat) : Prop where
  at_ : Lib.BytesIn w B F.body.length F.body
  by_ : ∀ x ∈ F.body, isByte x
  b1 : F.body.length ≤ cb
  b2 : cb ≤ maxLen
theorem open_frm {H : Type} {enc : TypeId × Value → H} {w : World} {base b0 : Nat} {sp : Nat → Bool} {held : Bool} {r : Reach} {v : Value} {d : DataW H} {p : List MemPlace}
    (hv : Value.okWide Tryd.prog w r b0 56 v) (h : DataW.Trod enc Tryd.prog w base sp held 56 v d p) : ∃ F B cb, v = .agg (frA F B cb) ∧ FrmOk w F B cb := by
  obtain ⟨cs, rfl, hsz⟩ := okWide_struct Tryd.underlying56 hv
  have hC : Tryd.prog.cellsOf 56 = 4 := by kernel_rfl
  rw [hC] at hsz
  obtain ⟨fuel, h⟩ := h
  have h' : DataW.trod enc Tryd.prog w base sp held fuel 56 cs.toList = some (d, p) := h
  obtain ⟨m0, y0, g0⟩ := field_at Tryd.underlying56 h' 0 0 1 3 (by kernel_rfl) (by kernel_rfl)
  obtain ⟨m1, y1, g1⟩ := field_at Tryd.underlying56 h' 1 1 1 3 (by kernel_rfl) (by kernel_rfl)
  obtain ⟨m2, y2, g2⟩ := field_at Tryd.underlying56 h' 2 2 1 3 (by kernel_rfl) (by kernel_rfl)
  obtain ⟨m3, y3, g3⟩ := field_at Tryd.underlying56 h' 3 3 1 22 (by kernel_rfl) (by kernel_rfl)
  obtain ⟨v0, e0, _, _⟩ := DataW.trod_int Tryd.underlying3 g0
  obtain ⟨v1, e1, _, _⟩ := DataW.trod_int Tryd.underlying3 g1
  obtain ⟨v2, e2, _, _⟩ := DataW.trod_int Tryd.underlying3 g2
  obtain ⟨B, nb, cb, e3⟩ := slice_one Tryd.underlying22 g3
  rw [e3] at g3
  obtain ⟨xs, x1, x2, x3, x4, x5⟩ := open_bytes Tryd.underlying22 Tryd.underlying5 (by kernel_rfl) g3
  refine ⟨⟨v0, v1, v2, xs⟩, B, cb, ?_, ?_, ?_, ?_, x3⟩
  · have h0 := take_one e0
    have h1 := take_one e1
    have h2 := take_one e2
    have h3 := take_one e3
    refine congrArg Value.agg ?_
    apply Array.ext_getElem?
    intro i
    unfold frA
    show cs[i]? = (#[.int .i64 v0, .int .i64 v1, .int .i64 v2, .slice B xs.length cb] : Array Value)[i]?
    rw [x1]
    by_cases hi : i < 4
    · have : i = 0 ∨ i = 1 ∨ i = 2 ∨ i = 3 := by omega
      rcases this with rfl | rfl | rfl | rfl
      all_goals
        rw [← Array.getElem?_toList]
        first
          | exact h0
          | exact h1
          | exact h2
          | exact h3
    · rw [Array.getElem?_eq_none (by omega), Array.getElem?_eq_none (by simp; omega)]
  · show Lib.BytesIn w B xs.length xs
    rw [x1]; exact x4
  · exact x5
  · show xs.length ≤ cb
    omega
end Go.Proofs.YtbapkamopelgpaaDoor
