/- A slice of messages opened. -/
import Derived.Test.YtbapkamopelgpaaDoorOpenMsg
namespace Go.Proofs.YtbapkamopelgpaaDoor
open Go.RowKit Go.Stop Go.Extern Go.Ranges Go.Rows2 Go.Sort
set_option linter.unusedVariables false
set_option linter.unusedSimpArgs false
set_option maxRecDepth 100000
theorem open_msgs_raw {H : Type} {enc : TypeId × Value → H} {w : World} {base : Nat} {sp : Nat → Bool} {held : Bool} {fuel : Nat} {A : Option Addr} {n c : Nat} {x : DataW H × List MemPlace} (h : DataW.trod enc Tryd.prog w base sp held fuel 44 [.slice A n c] = some x) :
    ∃ f : Nat → Array Value, n ≤ c ∧ c ≤ maxLen ∧ Elems w A n 13 f ∧ ∀ i, i < n → ((f i).size = 13 → ∃ M B cb L cl, f i = msgA M B cb L cl ∧ MsgOk w M B L cb cl) :=
  open_elems (G := fun C => C.size = 13 → ∃ M B cb L cl, C = msgA M B cb L cl ∧ MsgOk w M B L cb cl) Tryd.underlying44 (by kernel_rfl) (by decide) (fun fu cs y hy hs => open_cells (by simpa using hs) hy) h
/-- A slice's elements are messages. -/
def MsgsAt (w : World) (A : Option Addr) (n : Nat) (Ms : Nat → Msg) (Bs Ls : Nat → Option Addr) (cbs cls : Nat → Nat) : Prop :=
  0 < n → ∃ b o, A = some ⟨b, o, none⟩ ∧ b < w.heap.size ∧ ∀ i, i < n → hasRange w b (o + i * 13) 13 = true ∧ rangeOf w b (o + i * 13) 13 = msgA (Ms i) (Bs i) (cbs i) (Ls i) (cls i) ∧ MsgIn w (Ms i) (Bs i) (Ls i)
theorem MsgsAt.below {w w' : World} {A : Option Addr} {n : Nat} {Ms : Nat → Msg} {Bs Ls : Nat → Option Addr} {cbs cls : Nat → Nat} (h : MsgsAt w A n Ms Bs Ls cbs cls) (hb : Below w.heap.size w w') : MsgsAt w' A n Ms Bs Ls cbs cls := fun hn => by
  obtain ⟨b, o, rfl, hlt, hc⟩ := h hn
  refine ⟨b, o, rfl, Nat.lt_of_lt_of_le hlt hb.size, fun i hi => ?_⟩
  obtain ⟨k1, k2⟩ := range_below hb b (o + i * 13) 13 hlt
  rw [k1, k2]
  exact ⟨(hc i hi).1, (hc i hi).2.1, (hc i hi).2.2.below hb⟩
theorem open_msgs {H : Type} {enc : TypeId × Value → H} {w : World} {base : Nat} {sp : Nat → Bool} {held : Bool} {fuel : Nat} {A : Option Addr} {n c : Nat} {x : DataW H × List MemPlace} (h : DataW.trod enc Tryd.prog w base sp held fuel 44 [.slice A n c] = some x) :
    ∃ Ms Bs Ls cbs cls, n ≤ c ∧ c ≤ maxLen ∧ MsgsAt w A n Ms Bs Ls cbs cls := by
  obtain ⟨f, h1, h2, h3, h4⟩ := open_msgs_raw h
  have each : ∀ i, i < n → ∃ M B cb L cl, f i = msgA M B cb L cl ∧ MsgOk w M B L cb cl := fun i hi => by
    obtain ⟨b, o, _, _, hc⟩ := h3 (by omega)
    exact h4 i hi (by rw [← (hc i hi).2, size_rangeOf])
  have each' : ∀ i, ∃ q : Msg × Option Addr × Nat × Option Addr × Nat, i < n → f i = msgA q.1 q.2.1 q.2.2.1 q.2.2.2.1 q.2.2.2.2 ∧ MsgOk w q.1 q.2.1 q.2.2.2.1 q.2.2.1 q.2.2.2.2 := fun i => by
    by_cases hi : i < n
    · obtain ⟨M, B, cb, L, cl, e1, e2⟩ := each i hi
      exact ⟨⟨M, B, cb, L, cl⟩, fun _ => ⟨e1, e2⟩⟩
    · exact ⟨⟨⟨0, 0, 0, 0, ⟨#[]⟩, 0, 0, 0, 0, 0, 0, [], []⟩, none, 0, none, 0⟩, fun h => absurd h hi⟩
  obtain ⟨q, hq⟩ := Classical.axiomOfChoice each'
  refine ⟨fun i => (q i).1, fun i => (q i).2.1, fun i => (q i).2.2.2.1, fun i => (q i).2.2.1, fun i => (q i).2.2.2.2, h1, h2, fun hn => ?_⟩
  obtain ⟨b, o, e, hlt, hc⟩ := h3 hn
  exact ⟨b, o, e, hlt, fun i hi => ⟨(hc i hi).1, (hc i hi).2.trans (hq i hi).1, (hq i hi).2.at_⟩⟩
end Go.Proofs.YtbapkamopelgpaaDoor
