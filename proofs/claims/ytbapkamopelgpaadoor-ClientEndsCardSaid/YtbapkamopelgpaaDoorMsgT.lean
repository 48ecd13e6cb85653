/- The reference's messages: Name, Same; the law's aids. -/
import Derived.Test.YtbapkamopelgpaaDoorMsgS
namespace Go.Proofs.YtbapkamopelgpaaDoor
open Go.RowKit Go.Stop Go.Extern Go.Ranges Go.Rows2 Go.Sort
set_option linter.unusedVariables false
set_option linter.unusedSimpArgs false
set_option maxRecDepth 100000
set_option maxHeartbeats 8000000 in
theorem refName_any (k : Int) (w : World) : Calls Tryd.prog 17 #[.int .i64 k] w fun e w' => e = .returned (.string (nameOf k)) ∧ Below w.heap.size w w' := by
  by_cases h1 : k < 1
  · have e1 : nameOf k = ⟨#[]⟩ := if_pos (.inl h1)
    rw [e1]
    go_enter Tryd.func17, Tryd.ntmps17
    go_wp2
    go_ret
    exact ⟨rfl, Below.refl _ _⟩
  · by_cases h2 : 10 < k
    · have e1 : nameOf k = ⟨#[]⟩ := if_pos (.inr h2)
      rw [e1]
      go_enter Tryd.func17, Tryd.ntmps17
      go_wp2
      go_ret
      exact ⟨rfl, Below.refl _ _⟩
    · have e1 : nameOf k = wordB k.toNat := if_neg (by omega)
      rw [e1]
      have : k = 1 ∨ k = 2 ∨ k = 3 ∨ k = 4 ∨ k = 5 ∨ k = 6 ∨ k = 7 ∨ k = 8 ∨ k = 9 ∨ k = 10 := by omega
      rcases this with rfl | rfl | rfl | rfl | rfl | rfl | rfl | rfl | rfl | rfl
      all_goals
        clear h1 h2 e1
        go_enter Tryd.func17, Tryd.ntmps17
        go_wp2
        go_ret
        exact ⟨rfl, alloc_below _ _⟩
theorem numEq_eq (M M' : Msg) : numEq M M' = ((M.k == M'.k) && ((M.c == M'.c) && ((M.n == M'.n) && ((M.o == M'.o) && ((M.e == M'.e) && ((M.s == M'.s) && ((M.t == M'.t) && ((M.i == M'.i) && ((M.sh == M'.sh) && (M.an == M'.an)))))))))) := by
  have e : (List.range 10) = [0, 1, 2, 3, 4, 5, 6, 7, 8, 9] := by decide
  unfold numEq ArrEq.arrEq
  rw [e]
  simp only [List.all_cons, List.all_nil, Bool.and_true]
  rfl
theorem first_off (e0 e1 e2 e3 e4 e5 e6 c0 c1 c2 c3 c4 c5 : Bool) :
    e0 = false ∨ (e0 = true ∧ e1 = false) ∨ (e0 = true ∧ e1 = true ∧ e2 = false) ∨ (e0 = true ∧ e1 = true ∧ e2 = true ∧ e3 = false) ∨ (e0 = true ∧ e1 = true ∧ e2 = true ∧ e3 = true ∧ e4 = false) ∨ (e0 = true ∧ e1 = true ∧ e2 = true ∧ e3 = true ∧ e4 = true ∧ e5 = false) ∨
      (e0 = true ∧ e1 = true ∧ e2 = true ∧ e3 = true ∧ e4 = true ∧ e5 = true ∧ e6 = false) ∨
    (e0 = true ∧ e1 = true ∧ e2 = true ∧ e3 = true ∧ e4 = true ∧ e5 = true ∧ e6 = true ∧
      (c0 = false ∨ (c0 = true ∧ c1 = false) ∨ (c0 = true ∧ c1 = true ∧ c2 = false) ∨ (c0 = true ∧ c1 = true ∧ c2 = true ∧ c3 = false) ∨ (c0 = true ∧ c1 = true ∧ c2 = true ∧ c3 = true ∧ c4 = false) ∨ (c0 = true ∧ c1 = true ∧ c2 = true ∧ c3 = true ∧ c4 = true))) := by
  cases e0 <;> cases e1 <;> cases e2 <;> cases e3 <;> cases e4 <;> cases e5 <;> cases e6 <;> simp <;> cases c0 <;> cases c1 <;> cases c2 <;> cases c3 <;> cases c4 <;> simp
set_option maxHeartbeats 16000000 in
theorem refSame_any (M M' : Msg) (B L B' L' : Option Addr) (cb cl cb' cl' : Nat) (w : World) (h : MsgIn w M B L) (h' : MsgIn w M' B' L') (hl : M.list.length ≤ maxLen) (hl' : M'.list.length ≤ maxLen) :
    Calls Tryd.prog 15 #[.agg (msgA M B cb L cl), .agg (msgA M' B' cb' L' cl')] w fun e w' => e = .returned (.bool (sameM M M')) ∧ Below w.heap.size w w' := by
  have hb : Below w.heap.size w ((w.alloc (.cells (msgA M B cb L cl) 30)).alloc (.cells (msgA M' B' cb' L' cl') 30)) := stepV (alloc_below _ _) (alloc_below _ _)
  have cv1 := (bytesIn_below' h.body hb).convert (P := Tryd.prog) rfl cb 22 5 9 Tryd.underlying22 Tryd.underlying5 Tryd.underlying9
  have cv2 := (bytesIn_below' h'.body hb).convert (P := Tryd.prog) rfl cb' 22 5 9 Tryd.underlying22 Tryd.underlying5 Tryd.underlying9
  have hfe := Lib.hid (sameLists_any L L' M.list.length M'.list.length cl cl' _ _ _ (h.list.below hb) (h'.list.below hb) hl hl')
  have HB := Lib.hid hb
  have g0 : (M.k != M'.k) = !(M.k == M'.k) := rfl
  have g1 : (M.c != M'.c) = !(M.c == M'.c) := rfl
  have g2 : (M.n != M'.n) = !(M.n == M'.n) := rfl
  have g3 : (M.o != M'.o) = !(M.o == M'.o) := rfl
  have g4 : (M.repo.toList != M'.repo.toList) = !(M.repo.toList == M'.repo.toList) := rfl
  have g5 : (M.e != M'.e) = !(M.e == M'.e) := rfl
  have g6 : (M.s != M'.s) = !(M.s == M'.s) := rfl
  unfold sameM
  rw [numEq_eq]
  unfold strEq bytesEq
  unfold msgA at cv1 cv2 hfe HB ⊢
  clear hb h h' hl hl'
  generalize h0 : (M.k == M'.k) = e0 at *
  generalize h1 : (M.c == M'.c) = e1 at *
  generalize h2 : (M.n == M'.n) = e2 at *
  generalize h3 : (M.o == M'.o) = e3 at *
  generalize h4 : (M.repo.toList == M'.repo.toList) = e4 at *
  generalize h5 : (M.e == M'.e) = e5 at *
  generalize h6 : (M.s == M'.s) = e6 at *
  generalize j0 : (M.t == M'.t) = c0 at *
  generalize j1 : (M.i == M'.i) = c1 at *
  generalize j2 : (M.sh == M'.sh) = c2 at *
  generalize j3 : (M.an == M'.an) = c3 at *
  generalize j4 : ((strOfNums M.body).toList == (strOfNums M'.body).toList) = c4 at *
  generalize strOfNums M.body = s1 at *
  generalize strOfNums M'.body = s2 at *
  generalize partsEq M.list.length M'.list.length (fun i => M.list.getD i []) (fun i => M'.list.getD i []) = r4 at *
  rcases first_off e0 e1 e2 e3 e4 e5 e6 c0 c1 c2 c3 c4 true with rfl | ⟨rfl, rfl⟩ | ⟨rfl, rfl, rfl⟩ | ⟨rfl, rfl, rfl, rfl⟩ | ⟨rfl, rfl, rfl, rfl, rfl⟩ | ⟨rfl, rfl, rfl, rfl, rfl, rfl⟩ | ⟨rfl, rfl, rfl, rfl, rfl, rfl, rfl⟩ |
    ⟨rfl, rfl, rfl, rfl, rfl, rfl, rfl, rfl | ⟨rfl, rfl⟩ | ⟨rfl, rfl, rfl⟩ | ⟨rfl, rfl, rfl, rfl⟩ | ⟨rfl, rfl, rfl, rfl, rfl⟩ | ⟨rfl, rfl, rfl, rfl, rfl⟩⟩
  all_goals
    simp only [Bool.not_true, Bool.not_false] at g0 g1 g2 g3 g4 g5 g6
    go_enter Tryd.func15, Tryd.ntmps15
    go_wp2_with (go_at_call 48; refine hfe.out.mono ?_; rintro e w' ⟨rfl, hb'⟩)
    go_ret
    exact ⟨by first | rfl | simp, by first | exact HB.out | exact stepV HB.out hb'⟩
end Go.Proofs.YtbapkamopelgpaaDoor
