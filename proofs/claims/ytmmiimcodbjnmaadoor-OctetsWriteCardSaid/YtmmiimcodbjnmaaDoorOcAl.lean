/- octets, the chapter's example. -/
import Derived.Test.YtmmiimcodbjnmaaDoorOctM
namespace Go.Proofs.YtmmiimcodbjnmaaDoor
open Go.RowKit Go.Stop Go.Extern Go.Ranges Go.Rows2
set_option linter.unusedVariables false
set_option linter.unusedSimpArgs false
set_option maxRecDepth 100000
def alS : ByteArray := ⟨#[98, 116]⟩
def alN (i : Nat) : Int := if i = 0 then 1 else 0
def alF (i : Nat) : List Int := if i = 0 then [] else [97, 98]
theorem al_write {w : World} {g : Nat} {At : Option Addr} {ct : Nat} (a : Nat → Addr) (hg : g = w.heap.size) (hB : Lib.BytesIn w At 2 [97, 98]) (hE : ErrC w a 1) :
    Calls Tryd.prog 25 #[.string alS, .slice (some ⟨g, 0, none⟩) 2 2] (w.alloc (.cells #[.int .i64 1, .slice none 0 0, .int .i64 0, .slice At 2 ct] 60))
      fun e w' => ∃ A c, e = .returned (.tuple #[.slice A 5 c, .nilIface]) ∧ w'.ownsRow w.heap.size 5 1 (.slice A 5 c) 5 (bV [1, 0, 2, 97, 98]) ∧ Below w.heap.size w w' := by
  subst hg
  have hb := alloc_below w (.cells #[.int .i64 1, .slice none 0 0, .int .i64 0, .slice At 2 ct] 60)
  have hc : ∀ j, (w.alloc (.cells #[.int .i64 1, .slice none 0 0, .int .i64 0, .slice At 2 ct] 60)).cell? ⟨w.heap.size, j, none⟩ = (#[.int .i64 1, .slice none 0 0, .int .i64 0, .slice At 2 ct] : Array Value)[j]? := fun j => cell_of_row _ _ _ _ _ _ (heap_alloc_last w _)
  have hF : FieldsAt (w.alloc (.cells #[.int .i64 1, .slice none 0 0, .int .i64 0, .slice At 2 ct] 60)) (some ⟨w.heap.size, 0, none⟩) 2 alN alF := fun _ => by
    refine ⟨w.heap.size, 0, rfl, by simp, fun i hi => ?_⟩
    have : i = 0 ∨ i = 1 := by omega
    rcases this with rfl | rfl
    · exact ⟨none, 0, hc 0, hc 1, fun h => absurd h (by decide)⟩
    · exact ⟨At, ct, hc 2, hc 3, bytesIn_below' hB hb⟩
  have hk : alS.data.toList.all ocKnown = true := by decide
  have h := ocWrite_go alS (some ⟨w.heap.size, 0, none⟩) 2 2 alN alF a _ (hE.below hb) rfl (by decide) hk hF (fun i hi => by
    unfold alF
    split <;> decide)
  have h1 : ocFits alS.data.toList alN alF 2 = true := by decide
  have h2 : ocAll alS.data.toList alN alF 2 = [1, 0, 2, 97, 98] := by decide
  rw [if_pos h1, h2] at h
  refine h.mono ?_
  rintro e w' ⟨A, c, rfl, ho, hb'⟩
  exact ⟨A, c, rfl, ⟨ho.1, by
    rcases ho.2 with h2 | ⟨g, cap, cur, hv, hg, r⟩
    · exact .inl h2
    · exact .inr ⟨g, cap, cur, hv, by have := hb.size; omega, r⟩⟩, stepV hb hb'⟩
set_option maxHeartbeats 2000000 in
theorem alive02 (a : Nat → Addr) (w : World) (HE : ErrC w a 1) : Calls Tryd.prog 23 #[] w fun x w' => x = .returned (.bool true) ∧ Below w.heap.size w w' := by
  have HEh := Lib.hid HE
  have hAll : Below w.heap.size w w.drew := (Below.refl _ _).drew
  clear HE
  go_enter Tryd.func23, Tryd.ntmps23
  go_wp2_with (first
    | (go_at_call 47; refine (mkNum_any _ _).mono ?_; rintro e w' ⟨rfl, hb'⟩; replace hAll := hb')
    | (go_at_call 48; refine (mkText_any _ _).mono ?_; rintro e w' ⟨At, ct, rfl, hBt, hb'⟩; replace hAll := stepV hAll hb')
    | (go_at_call 25; refine (al_write a rfl hBt (HEh.out.below hAll)).mono ?_; rintro e w' ⟨Aw, cw, rfl, how, hb'⟩; replace hAll := stepV hAll hb'; have cv := (own_bytes how).convert (P := Tryd.prog) rfl cw 34 5 9 Tryd.underlying34 Tryd.underlying5 Tryd.underlying9; rw [show strOfNums [1, 0, 2, 97, 98] = ⟨#[1, 0, 2, 97, 98]⟩ from rfl] at cv))
  go_ret
  exact ⟨rfl, hAll⟩
end Go.Proofs.YtmmiimcodbjnmaaDoor
