/- Scripts: the chapter's example. -/
import Derived.Test.YtmmiimcodbjnmaaDoorScB
import Derived.Test.YtmmiimcodbjnmaaDoorFld
namespace Go.Proofs.YtmmiimcodbjnmaaDoor
open Go.RowKit Go.Stop Go.Extern Go.Ranges Go.Rows2
set_option linter.unusedVariables false
set_option linter.unusedSimpArgs false
set_option maxRecDepth 100000
def act0 : Sact := ⟨2, 0, 3, 0, ⟨#[]⟩, [], []⟩
def enS : ByteArray := ⟨#[98, 98]⟩
def enN (i : Nat) : Int := if i = 0 then 2 else 3
theorem en_write {w : World} {base : Nat} {A : Option Addr} {c : Nat} (a : Nat → Addr) (ho : w.ownsRow base 60 2 (.slice A 2 c) 2 [.int .i64 2, .slice none 0 0, .int .i64 3, .slice none 0 0]) (hE : ErrC w a 1) :
    Calls Tryd.prog 25 #[.string enS, .slice A 2 c] w fun e w' => ∃ A' c', e = .returned (.tuple #[.slice A' 2 c', .nilIface]) ∧ w'.ownsRow w.heap.size 5 1 (.slice A' 2 c') 2 (bV [2, 3]) ∧ Below w.heap.size w w' := by
  have hF : FieldsAt w A 2 enN (fun _ => []) := RF.fields (base := base) (xs := [.int .i64 2, .slice none 0 0, .int .i64 3, .slice none 0 0]) ⟨ho, fun i hi => by
    have : i = 0 ∨ i = 1 := by omega
    rcases this with rfl | rfl
    · exact ⟨none, 0, rfl, rfl, fun h => absurd h (by decide), fun _ e => by cases e⟩
    · exact ⟨none, 0, rfl, rfl, fun h => absurd h (by decide), fun _ e => by cases e⟩⟩
  have h := ocWrite_go enS A 2 c enN (fun _ => []) a w hE rfl (by decide) (by decide) hF (fun i hi => by decide)
  have h1 : ocFits enS.data.toList enN (fun _ => []) 2 = true := by decide
  have h2 : ocAll enS.data.toList enN (fun _ => []) 2 = [2, 3] := by decide
  rw [if_pos h1, h2] at h
  exact h
set_option maxHeartbeats 4000000 in
theorem entry_al (a : Nat → Addr) (w : World) (HE : ErrC w a 1) :
    Calls Tryd.prog 38 #[.agg (actA act0 none 0 none 0)] w fun e w' => ∃ A c, e = .returned (.tuple #[.slice A 2 c, .nilIface]) ∧ w'.ownsRow w.heap.size 5 1 (.slice A 2 c) 2 (bV [2, 3]) ∧ Below w.heap.size w w' := by
  obtain ⟨it, j1, j2, j3, j4⟩ := of_row1 rowField
  have hb0 := alloc_below w (.cells (actA act0 none 0 none 0) 37)
  have hR0 := heap_alloc_last w (.cells (actA act0 none 0 none 0) 37)
  have K := Lib.hid (laid_two act0 rfl none none 0 0 (w.alloc (.cells (actA act0 none 0 none 0) 37)))
  have HEh := Lib.hid HE
  have HB0 := Lib.hid hb0
  have HR0 := Lib.hid hR0
  have hmk : act0.i = 3 := rfl
  rw [hmk] at K
  have hne : ((⟨#[98]⟩ : ByteArray).toList == (⟨#[]⟩ : ByteArray).toList) = false := by rw [ByteArray.toList_eq, ByteArray.toList_eq]; decide
  have hsz : ¬ (maxLen < 2) := by decide
  clear HE hb0 hR0
  unfold actA act0 at K HB0 HR0 ⊢
  simp only [List.length_nil] at K HB0 HR0 ⊢
  go_enter Tryd.func38, Tryd.ntmps38
  go_wp2_with fail
  refine K.out.mono ?_
  rintro e w2 ⟨g, rfl, hbx, hb2⟩
  have HB2 := Lib.hid (stepV HB0.out hb2)
  have HBX := Lib.hid hbx
  have c0 : w2.cell? ⟨w.heap.size, 0, none⟩ = some (.int .i64 2) := (cell_of_row _ _ _ _ _ _ ((hb2.block _ (Array.getElem?_eq_some_iff.1 HR0.out).1).trans HR0.out)).trans rfl
  clear hbx hb2 K
  go_wp2_with fail
  refine (mkNum_any _ _).mono ?_
  rintro e w3 ⟨rfl, hb3⟩
  have hm := alloc_below w3 (.cells #[.int .i64 2, .slice none 0 0] 60)
  have HB4 := Lib.hid (stepV (stepV HB2.out hb3) hm)
  have HBX4 := Lib.hid ((HBX.out.below hb3).below hm)
  obtain ⟨v9, w9, hr9, ho9, hg9⟩ := run_append_arg_grows (P := Tryd.prog) (w3.alloc (.cells #[.int .i64 2, .slice none 0 0] 60)) 42 42 60 it (.agg #[.int .i64 0, .slice none 0 0]) 2 32 Tryd.underlying42 j1 j2 j3 j4 rfl (by decide)
    ⟨w3.heap.size, 0, none⟩ 1 1 [.int .i64 2, .slice none 0 0] rfl (World.news_of_block (heap_alloc_last w3 _))
    ⟨g, 0, none⟩ 1 1 [.int .i64 3, .slice none 0 0] rfl (World.news_of_block HBX4.out) (by decide) (by unfold maxLen; decide) (by decide)
  have hb9 : Below w.heap.size w w9 := HB4.out.grown hg9 HB4.out.size (fun k hk => by cases hk)
  obtain ⟨A9, c9, hv⟩ := own_slice ho9
  subst hv
  have KW := Lib.hid (en_write a ho9 (HEh.out.below hb9))
  have HB9 := Lib.hid hb9
  have hcat : ((⟨#[98]⟩ : ByteArray) ++ ⟨#[98]⟩) = enS := by rfl
  rw [hcat]
  clear hb9 ho9 hg9 hm hb3 hcat hne
  go_wp2_with (at_builtin; refine Lib.wpList_append_run _ rfl (.tmp 19) (.tmp 20) 42 42 rfl _ _ rfl rfl _ _ hr9 ?_; clear hr9)
  refine KW.out.mono ?_
  rintro e w10 ⟨Aw, cw, rfl, how, hb10⟩
  have HW := Lib.hid how
  have HB10 := Lib.hid (stepV HB9.out hb10)
  have hz9 := HB9.out.size
  clear how hb10 KW
  go_wp2_with fail
  go_ret2
  exact ⟨Aw, cw, rfl, ⟨HW.out.1, by
    rcases HW.out.2 with h2 | ⟨g, cap, cur, hv, hg, r⟩
    · exact .inl h2
    · exact .inr ⟨g, cap, cur, hv, by omega, r⟩⟩, HB10.out⟩
theorem alive31 (a : Nat → Addr) (w : World) (HE : ErrC w a 1) : Calls Tryd.prog 19 #[] w fun e w' => e = .returned (.bool true) ∧ Below w.heap.size w w' := by
  have K := Lib.hid (entry_al a w HE)
  clear HE
  unfold actA act0 at K
  simp only [List.length_nil] at K
  go_enter Tryd.func19, Tryd.ntmps19
  go_wp2_with fail
  refine K.out.mono ?_
  rintro e w1 ⟨A, c, rfl, ho, hb⟩
  have cv := (own_bytes ho).convert (P := Tryd.prog) rfl c 34 5 9 Tryd.underlying34 Tryd.underlying5 Tryd.underlying9
  rw [show strOfNums [2, 3] = ⟨#[2, 3]⟩ from rfl] at cv
  go_wp2_with fail
  go_ret
  exact ⟨rfl, hb⟩
end Go.Proofs.YtmmiimcodbjnmaaDoor
