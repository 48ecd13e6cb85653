/- From the condition that the listed variables lie as the program's text lays them, to what the walks ask of the errors. -/
import Derived.Test.YtmmiimcodbjnmaaDoorErrs
import Derived.Deep.DeepWitnessRowRef
import Derived.MakeChecks
import Derived.LaidMore
namespace Go.Proofs.YtmmiimcodbjnmaaDoor
open Go.RowKit Go.ErrsGen
def errList : List (String × List UInt8 × Nat) := [
  ("cartage/api.ErrRange", [97, 32, 110, 117, 109, 98, 101, 114, 32, 105, 115, 32, 111, 117, 116, 32, 111, 102, 32, 105, 116, 115, 32, 114, 97, 110, 103, 101], 3), 
  ("cartage/api.ErrShort", [115, 111, 109, 101, 116, 104, 105, 110, 103, 32, 105, 115, 32, 109, 105, 115, 115, 105, 110, 103, 32, 97, 116, 32, 116, 104, 101, 32, 101, 110, 100], 5), 
  ("cartage/api.ErrLong", [116, 104, 101, 114, 101, 32, 105, 115, 32, 109, 111, 114, 101, 32, 116, 104, 97, 110, 32, 109, 97, 121, 32, 98, 101], 4), 
  ("cartage/api.ErrForm", [105, 116, 32, 105, 115, 32, 110, 111, 116, 32, 111, 102, 32, 105, 116, 115, 32, 102, 111, 114, 109], 6), 
  ("cartage/api.ErrSum", [116, 104, 101, 32, 115, 117, 109, 32, 105, 115, 32, 110, 111, 116, 32, 114, 105, 103, 104, 116], 7), 
  ("cartage/api.ErrName", [105, 116, 32, 105, 115, 32, 110, 111, 32, 114, 105, 103, 104, 116, 32, 110, 97, 109, 101], 8), 
  ("cartage/api.ErrKind", [105, 116, 32, 105, 115, 32, 111, 102, 32, 97, 110, 111, 116, 104, 101, 114, 32, 107, 105, 110, 100], 2), 
  ("cartage/api.ErrDepth", [105, 116, 32, 103, 111, 101, 115, 32, 116, 111, 111, 32, 100, 101, 101, 112], 9), 
  ("cartage/api.ErrMissing", [97, 110, 32, 111, 98, 106, 101, 99, 116, 32, 105, 115, 32, 109, 105, 115, 115, 105, 110, 103], 10), 
  ("cartage/api.ErrCas", [97, 32, 114, 101, 102, 32, 105, 115, 32, 110, 111, 116, 32, 119, 104, 97, 116, 32, 119, 97, 115, 32, 101, 120, 112, 101, 99, 116, 101, 100], 11), 
  ("cartage/api.ErrQuota", [116, 104, 101, 32, 100, 105, 115, 107, 32, 104, 97, 115, 32, 110, 111, 32, 114, 111, 111, 109], 12), 
  ("cartage/api.ErrQueue", [116, 104, 101, 32, 113, 117, 101, 117, 101, 32, 104, 97, 115, 32, 110, 111, 32, 114, 111, 111, 109], 13), 
  ("cartage/api.ErrLarge", [105, 116, 32, 105, 115, 32, 116, 111, 111, 32, 108, 97, 114, 103, 101], 14), 
  ("cartage/api.ErrNoRepo", [116, 104, 101, 114, 101, 32, 105, 115, 32, 110, 111, 32, 115, 117, 99, 104, 32, 114, 101, 112, 111, 115, 105, 116, 111, 114, 121], 15), 
  ("cartage/api.ErrExists", [116, 104, 101, 114, 101, 32, 105, 115, 32, 115, 117, 99, 104, 32, 97, 32, 114, 101, 112, 111, 115, 105, 116, 111, 114, 121, 32, 97, 108, 114, 101, 97, 100, 121], 16), 
  ("cartage/api.ErrDown", [105, 116, 32, 105, 115, 32, 110, 111, 116, 32, 97, 118, 97, 105, 108, 97, 98, 108, 101, 32, 110, 111, 119], 17), 
  ("cartage/api.ErrTimeout", [110, 111, 98, 111, 100, 121, 32, 97, 110, 115, 119, 101, 114, 101, 100, 32, 105, 110, 32, 116, 105, 109, 101], 18), 
  ("cartage/api.ErrStale", [116, 104, 101, 32, 101, 112, 111, 99, 104, 32, 105, 115, 32, 110, 111, 116, 32, 116, 104, 101, 32, 99, 117, 114, 114, 101, 110, 116, 32, 111, 110, 101], 19), 
  ("cartage/api.ErrState", [105, 116, 32, 99, 97, 110, 32, 110, 111, 116, 32, 98, 101, 32, 100, 111, 110, 101, 32, 105, 110, 32, 116, 104, 105, 115, 32, 115, 116, 97, 116, 101], 20), 
  ("cartage/api.ErrDup", [105, 116, 32, 105, 115, 32, 116, 104, 101, 114, 101, 32, 97, 108, 114, 101, 97, 100, 121], 21), 
  ("cartage/api.ErrNone", [116, 104, 101, 114, 101, 32, 105, 115, 32, 110, 111, 110, 101], 22), 
  ("cartage/api.ErrFull", [116, 104, 101, 114, 101, 32, 97, 114, 101, 32, 97, 115, 32, 109, 97, 110, 121, 32, 97, 115, 32, 109, 97, 121, 32, 98, 101], 23)]
theorem star : "*errors.errorString" = "*" ++ "errors.errorString" := by decide
theorem rowErr (u : TypeId) (h : Tryd.prog.typeName? 3 u = some "*errors.errorString") : u = 199 :=
  typeName_ptr_named (nm := "errors.errorString") (by rw [← star]; kernel_rfl) (by kernel_rfl) (by decide) u (by rw [← star]; exact h)
theorem errList_globals : ∀ x ∈ errList, Tryd.prog.globalNamed x.1 = some x.2.2 ∧ (Tryd.prog.globals[x.2.2]?).map (·.type) = some 44 := by
  unfold errList
  simp only [List.mem_cons, List.not_mem_nil, or_false]
  rintro x (rfl | rfl | rfl | rfl | rfl | rfl | rfl | rfl | rfl | rfl | rfl | rfl | rfl | rfl | rfl | rfl | rfl | rfl | rfl | rfl | rfl | rfl) <;> exact ⟨by kernel_rfl, by kernel_rfl⟩
theorem errList_g (n : Nat) (h1 : 1 ≤ n) (h2 : n ≤ 22) : ∃ x, errList[n - 1]? = some x ∧ x.2.2 = gErr n :=
  match n, h1, h2 with
  | 1, _, _ => ⟨_, rfl, rfl⟩ | 2, _, _ => ⟨_, rfl, rfl⟩ | 3, _, _ => ⟨_, rfl, rfl⟩ | 4, _, _ => ⟨_, rfl, rfl⟩ | 5, _, _ => ⟨_, rfl, rfl⟩ | 6, _, _ => ⟨_, rfl, rfl⟩ | 7, _, _ => ⟨_, rfl, rfl⟩ | 8, _, _ => ⟨_, rfl, rfl⟩
  | 9, _, _ => ⟨_, rfl, rfl⟩ | 10, _, _ => ⟨_, rfl, rfl⟩ | 11, _, _ => ⟨_, rfl, rfl⟩ | 12, _, _ => ⟨_, rfl, rfl⟩ | 13, _, _ => ⟨_, rfl, rfl⟩ | 14, _, _ => ⟨_, rfl, rfl⟩ | 15, _, _ => ⟨_, rfl, rfl⟩ | 16, _, _ => ⟨_, rfl, rfl⟩
  | 17, _, _ => ⟨_, rfl, rfl⟩ | 18, _, _ => ⟨_, rfl, rfl⟩ | 19, _, _ => ⟨_, rfl, rfl⟩ | 20, _, _ => ⟨_, rfl, rfl⟩ | 21, _, _ => ⟨_, rfl, rfl⟩ | 22, _, _ => ⟨_, rfl, rfl⟩
  | 0, h, _ => absurd h (by decide) | n + 23, _, h => absurd h (by omega)
theorem errs_of_laid {W : World} (r : List (String × DataW Unit)) (h : laidMet Tryd.prog (errList.map (fun x => (x.1, sent "*errors.errorString" x.2.1)) ++ r) W) :
    (∃ a, Errs W a) ∧ laidMet Tryd.prog r W := by
  obtain ⟨ads, hlen, hr, hinj, hat⟩ := sentinels (P := Tryd.prog) (nm := "*errors.errorString") (tp := 199) (te := 221) (ts := 9) Tryd.underlying44 rowErr Tryd.underlying199 Tryd.underlying221 rfl rfl Tryd.underlying9 (by kernel_rfl) (by kernel_rfl) errList errList_globals r h
  have hl22 : ads.length = 22 := hlen
  refine ⟨⟨fun n => ads.getD (n - 1) ⟨0, 0, none⟩, ?_, ?_, ?_⟩, hr⟩
  · intro n h1 h2
    obtain ⟨x, hx, hxg⟩ := errList_g n h1 h2
    have ha : ads[n - 1]? = some (ads.getD (n - 1) ⟨0, 0, none⟩) := by simp [List.getElem?_eq_getElem (show n - 1 < ads.length by omega), List.getD_eq_getElem?_getD]
    have := (hat (n - 1) x _ hx ha).1
    unfold errV
    rw [if_neg (by omega), ← hxg]
    exact this
  · intro n h1 h2
    obtain ⟨x, hx, hxg⟩ := errList_g n h1 h2
    have ha : ads[n - 1]? = some (ads.getD (n - 1) ⟨0, 0, none⟩) := by simp [List.getElem?_eq_getElem (show n - 1 < ads.length by omega), List.getD_eq_getElem?_getD]
    exact (hat (n - 1) x _ hx ha).2.2
  · intro n m h1 h2 h3 h4 e
    have ha : ads[n - 1]? = some (ads.getD (n - 1) ⟨0, 0, none⟩) := by simp [List.getElem?_eq_getElem (show n - 1 < ads.length by omega), List.getD_eq_getElem?_getD]
    have hb : ads[m - 1]? = some (ads.getD (m - 1) ⟨0, 0, none⟩) := by simp [List.getElem?_eq_getElem (show m - 1 < ads.length by omega), List.getD_eq_getElem?_getD]
    have := hinj (n - 1) (m - 1) _ ha (by rw [hb]; exact congrArg some e.symm)
    omega
end Go.Proofs.YtmmiimcodbjnmaaDoor
