/- ClientEnds: what Hear and Tick do to a request that is under way. -/
import Derived.Test.YtbapkamopelgpaaDoorClE
namespace Go.Proofs.YtbapkamopelgpaaDoor
open Go.RowKit Go.Stop Go.Extern Go.Ranges Go.Rows2 Go.Sort
set_option linter.unusedVariables false
set_option linter.unusedSimpArgs false
set_option maxRecDepth 100000
/-- The request at the time k: waiting, with so many tries, or over, once. -/
def EndsSt (k : Int) (c : Cl) (went ends : Int) : Prop :=
  c.num = 1 ∧ 1 ≤ went ∧ went ≤ 3 ∧ ((c.wt = true ∧ ends = 0 ∧ c.dn = went ∧ c.due = 8 * went ∧ k ≤ c.due) ∨ (c.wt = false ∧ ends = 1))
theorem EndsSt.bd {k : Int} {c : Cl} {went ends : Int} (h : EndsSt k c went ends) : 0 ≤ went ∧ went ≤ 3 ∧ 0 ≤ ends ∧ ends ≤ 1 := by
  obtain ⟨_, h1, h2, h3⟩ := h
  rcases h3 with ⟨_, h4, _⟩ | ⟨_, h4⟩ <;> omega
theorem EndsSt.last {c : Cl} {went ends : Int} (h : EndsSt 40 c went ends) : c.wt = false ∧ ends = 1 ∧ went ≤ 3 ∧ c.num = 1 := by
  obtain ⟨h0, h1, h2, h3⟩ := h
  rcases h3 with ⟨_, _, _, h4, h5⟩ | ⟨h3, h4⟩
  · omega
  · exact ⟨h3, h4, h2, h0⟩
def HearEnd (w : World) (k : Int) (went ends : Int) (e : Ending) (w' : World) : Prop :=
  ∃ c' ov, e = .returned (.tuple #[.agg (clA c'), .bool ov]) ∧ EndsSt k c' went (if ov = true then ends + 1 else ends) ∧ Below w.heap.size w w'
theorem hear_ends (c : Cl) (M : Msg) (B L : Option Addr) (cb cl : Nat) (k went ends : Int) (w : World) (h : EndsSt k c went ends) : Calls Tryd.prog 24 #[.agg (clA c), .agg (msgA M B cb L cl)] w (HearEnd w k went ends) := by
  by_cases hm : mine c M = true
  · have hw : c.wt = true := by
      simp only [mine, Bool.and_eq_true] at hm
      exact hm.1.1.1
    obtain ⟨h0, h1, h2, h3⟩ := h
    rcases h3 with ⟨_, h4, h5, h6, h7⟩ | ⟨h3, _⟩
    · by_cases h9 : M.an = 9 ∧ c.dn < 3
      · refine (hear_late c M B L cb cl w hm h9.1 h9.2).mono ?_
        rintro e w' ⟨rfl, hb⟩
        exact ⟨_, _, rfl, ⟨h0, h1, h2, .inl ⟨hw, h4, h5, h6, h7⟩⟩, hb⟩
      · refine (hear_yes c M B L cb cl w hm h9).mono ?_
        rintro e w' ⟨rfl, hb⟩
        exact ⟨_, _, rfl, ⟨h0, h1, h2, .inr ⟨rfl, by rw [if_pos rfl, h4]; rfl⟩⟩, hb⟩
    · rw [hw] at h3; cases h3
  · refine (hear_no c M B L cb cl w (by simpa using hm)).mono ?_
    rintro e w' ⟨rfl, hb⟩
    exact ⟨_, _, rfl, h, hb⟩
def TickEnd (w : World) (k : Int) (went ends : Int) (e : Ending) (w' : World) : Prop :=
  ∃ c' A l kk ov, e = .returned (.tuple #[.agg (clA c'), .slice A l kk, .bool ov]) ∧ (l = 0 ∨ l = 1) ∧ EndsSt (k + 1) c' (went + (l : Int)) (if ov = true then ends + 1 else ends) ∧ Below w.heap.size w w'
theorem tick_ends (c : Cl) (k went ends : Int) (w : World) (h : EndsSt k c went ends) (hk0 : 0 ≤ k) (hk : k ≤ 40) : Calls Tryd.prog 25 #[.agg (clA c), .int .i64 k] w (TickEnd w k went ends) := by
  obtain ⟨h0, h1, h2, h3⟩ := h
  rcases h3 with ⟨hw, h4, h5, h6, h7⟩ | ⟨hw, h4⟩
  · by_cases hlt : k < c.due
    · refine (tick_early c k w hk0 (by omega) (.inr hlt)).mono ?_
      rintro e w' ⟨rfl, hb⟩
      exact ⟨_, _, _, _, _, rfl, .inl rfl, ⟨h0, by show 1 ≤ went + 0; omega, by show went + 0 ≤ 3; omega, .inl ⟨hw, h4, by rw [h5]; simp, by rw [h6]; simp, by omega⟩⟩, hb⟩
    · by_cases h8 : c.dn < 3
      · refine (tick_try c k w hk0 (by omega) hw (by omega) (by omega) h8).mono ?_
        rintro e w' ⟨g, kk, rfl, hb⟩
        exact ⟨_, _, _, _, _, rfl, .inr rfl, ⟨h0, by show 1 ≤ went + 1; omega, by show went + 1 ≤ 3; omega, .inl ⟨hw, h4, by show c.dn + 1 = went + 1; omega, by show k + 8 = 8 * (went + 1); omega, by show k + 1 ≤ k + 8; omega⟩⟩, hb⟩
      · refine (tick_over c k w hk0 (by omega) hw (by omega) (by omega)).mono ?_
        rintro e w' ⟨rfl, hb⟩
        exact ⟨_, _, _, _, _, rfl, .inl rfl, ⟨h0, by show 1 ≤ went + 0; omega, by show went + 0 ≤ 3; omega, .inr ⟨rfl, by rw [if_pos rfl, h4]; rfl⟩⟩, hb⟩
  · refine (tick_early c k w hk0 (by omega) (.inl hw)).mono ?_
    rintro e w' ⟨rfl, hb⟩
    exact ⟨_, _, _, _, _, rfl, .inl rfl, ⟨h0, by show 1 ≤ went + 0; omega, by show went + 0 ≤ 3; omega, .inr ⟨hw, h4⟩⟩, hb⟩
/-- The request that ClientEnds begins: it fits, or it is too large. -/
theorem endsC (c : Cl) (xs : List Int) (hi0 : 0 ≤ c.id) (hi1 : c.id ≤ 7) (hn : c.num = 0) (hL : xs.length ≤ 3500) : msgC (reqOf c 3 sa xs) = 0 ∨ msgC (reqOf c 3 sa xs) = 13 := by
  have hnum : numsOK (reqOf c 3 sa xs) = true := req_ok c 3 (by decide) (by decide) hi0 hi1 (by omega) (by omega)
  have hk : 1 ≤ (reqOf c 3 sa xs).k ∧ (reqOf c 3 sa xs).k ≤ 10 := ⟨Int.le_refl 1, by show (1 : Int) ≤ 10; decide⟩
  by_cases hb : xs.length ≤ 2949
  · exact .inl (msgC_ok hk (by show (1 : Nat) ≤ 255; decide) rfl hnum (by show xs.length + 1 ≤ 2950; omega))
  · right
    have hc : chkC (reqOf c 3 sa xs) = 0 := by
      unfold chkC
      rw [if_neg (by omega), if_neg (by show ¬ (255 < 1 ∨ 64 < 0); decide)]
    rw [long_C _ hc (by show xs.length ≤ 65535; omega) (fun i hi => absurd hi (Nat.not_lt_zero i)) (by rw [msgB_len]; show 3000 < 50 + 1 + xs.length + 0; omega), hnum]
    rfl
end Go.Proofs.YtbapkamopelgpaaDoor
