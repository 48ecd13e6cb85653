/- What the functions of a repository's serving state answer. -/
import Derived.Test.YtdglpbjofdipkaaDoorNum
import Derived.BigQuiet
import Derived.Deep.QuietTactic
import Derived.Deep.RegionWith
import Derived.BigRegion
namespace Go.Proofs.YtdglpbjofdipkaaDoor
open Go.RowKit Go.Stop Go.Extern
set_option linter.unusedVariables false
set_option linter.unusedSimpArgs false

/-! ### slices.Contains of whole numbers -/
def idx (xs : List Int) (v : Int) : Int := match xs.findIdx? (· == v) with | some i => i | none => -1
/-- An element of a list. -/
def gi (xs : List Int) (k : Nat) : Int := xs[k]?.getD 0
theorem idx_hit (xs : List Int) (v : Int) (k : Nat) (hk : k < xs.length) (h : gi xs k = v) (hb : ∀ j, j < k → gi xs j ≠ v) : idx xs v = k := by
  unfold idx
  have e : xs.findIdx? (· == v) = some k := by
    rw [List.findIdx?_eq_some_iff_getElem]
    refine ⟨hk, ?_, ?_⟩
    · simpa [gi, List.getElem?_eq_getElem hk] using h
    · intro j hj
      have := hb j hj
      simpa [gi, List.getElem?_eq_getElem (show j < xs.length by omega)] using this
  rw [e]
theorem idx_miss (xs : List Int) (v : Int) (hb : ∀ j, j < xs.length → gi xs j ≠ v) : idx xs v = -1 := by
  unfold idx
  have e : xs.findIdx? (· == v) = none := by
    rw [List.findIdx?_eq_none_iff]
    intro x hx
    obtain ⟨j, hj, rfl⟩ := List.getElem_of_mem hx
    have := hb j hj
    simpa [gi, List.getElem?_eq_getElem hj] using this
  rw [e]
theorem idx_mem (xs : List Int) (v : Int) : decide (0 ≤ idx xs v) = xs.contains v := by
  unfold idx
  cases h : xs.findIdx? (· == v) with
  | some i =>
    have : v ∈ xs := by
      obtain ⟨hk, h1, _⟩ := List.findIdx?_eq_some_iff_getElem.1 h
      simp at h1
      rw [← h1]; exact List.getElem_mem hk
    simp [this]
  | none =>
    have : v ∉ xs := by
      intro hm
      have := (List.findIdx?_eq_none_iff.1 h) v hm
      simp at this
    simp [this]
/-- Is a number in a list? -/
def has (xs : List Int) (v : Int) : Bool := xs.contains v
/-- A row of whole numbers in a block. -/
def IntsAt (w : World) (b : Nat) (xs : List Int) : Prop := ∀ k, k < xs.length → w.cell? ⟨b, k, none⟩ = some (.int .i64 (gi xs k))
theorem index_any (xs : List Int) (b c : Nat) (v : Int) (w : World) (hl : xs.length ≤ 1000) (hx : IntsAt w b xs) :
    Calls Tryd.prog 92 #[.slice (some ⟨b, 0, none⟩) xs.length c, .int .i64 v] w fun e w' => e = .returned (.int .i64 (idx xs v)) ∧ w = w' := by
  go_enter Tryd.func92, Tryd.ntmps92
  go_wp2_with fail
  go_loop [8] (fun x => ∃ k : Nat, k ≤ xs.length ∧ x = .int .i64 k ∧ ∀ j, j < k → gi xs j ≠ v) (fun x => xs.length - (intOf x).toNat)
  case atStart => exact ⟨0, Nat.zero_le _, rfl, fun j hj => absurd hj (by omega)⟩
  case round =>
    obtain ⟨k, hk, rfl, hbef⟩ := hrel
    have Hb := Lib.hid hbef
    clear hbef
    by_cases hlt : k < xs.length
    · have hc := hx k hlt
      have Hx := Lib.hid hx
      clear hx
      by_cases hv : gi xs k = v
      · have ht : (v == gi xs k) = true := by rw [hv]; simp
        have Hi := Lib.hid (idx_hit xs v k hlt hv Hb.out)
        clear hv
        go_wp2
        go_ret
        exact ⟨by rw [Hi.out]; rfl, rfl⟩
      · have ht : (v == gi xs k) = false := by rw [beq_eq_false_iff_ne]; exact fun h => hv h.symm
        have Hv := Lib.hid hv
        clear hv
        go_wp2
        go_round
        case rel =>
          refine ⟨k + 1, by omega, by go_num, fun j hj => ?_⟩
          by_cases hjk : j = k
          · subst hjk; exact Hv.out
          · exact Hb.out j (by omega)
        case measure => simp [intOf]; omega
    · have Hi := Lib.hid (idx_miss xs v (fun j hj => Hb.out j (by omega)))
      clear hx
      go_wp2
      go_ret
      exact ⟨by rw [Hi.out]; rfl, rfl⟩
theorem contains_any (xs : List Int) (b c : Nat) (v : Int) (w : World) (hl : xs.length ≤ 1000) (hx : IntsAt w b xs) :
    Calls Tryd.prog 87 #[.slice (some ⟨b, 0, none⟩) xs.length c, .int .i64 v] w fun e w' => e = .returned (.bool (has xs v)) ∧ w = w' := by
  have Hm : Hid (decide (0 ≤ idx xs v) = has xs v) := idx_mem xs v
  have Hx := Lib.hid hx
  clear hx
  go_enter Tryd.func87, Tryd.ntmps87
  go_wp2_with (go_at_call 92; refine (index_any _ _ _ _ _ hl Hx.out).mono ?_; rintro e w' ⟨rfl, rfl⟩)
  go_ret
  exact ⟨by rw [← Hm.out]; rfl, rfl⟩

/-! ### The plain functions -/
def maxE : Int := 1099511627776
def nameB : Nat → ByteArray
  | 0 => ⟨#[97, 98, 115, 101, 110, 116]⟩ | 1 => ⟨#[115, 116, 97, 103, 105, 110, 103]⟩ | 2 => ⟨#[115, 101, 114, 118, 105, 110, 103]⟩
  | 3 => ⟨#[102, 101, 110, 99, 101, 100]⟩ | 4 => ⟨#[116, 111, 109, 98, 101, 100]⟩ | 5 => ⟨#[103, 111, 110, 101]⟩ | _ => ⟨#[]⟩
def nameOf (s : Int) : ByteArray := if 0 ≤ s ∧ s ≤ 5 then nameB s.toNat else ⟨#[]⟩
def right (s e : Int) : Bool := decide (0 ≤ s) && decide (s ≤ 5) && decide (0 ≤ e) && decide (e ≤ maxE) && ((s == 0) == (e == 0))
def moveR (s e to : Int) (xs : List Int) : Int × Int × Nat := if right s e = false then (s, e, 4) else if has xs s = false then (s, e, 19) else (to, e, 0)
def riseR (s e x to : Int) (xs : List Int) : Int × Int × Nat :=
  if x < 1 ∨ maxE < x then (s, e, 1) else if (moveR s e to xs).2.2 ≠ 0 then (s, e, (moveR s e to xs).2.2) else if x ≤ e then (s, e, 18) else (to, x, 0)
def fenceR (s e x : Int) : Int × Int × Nat :=
  if x < 1 ∨ maxE < x then (s, e, 1) else if (moveR s e 3 [2]).2.2 ≠ 0 then (s, e, (moveR s e 3 [2]).2.2) else if x ≠ e then (s, e, 18) else (3, e, 0)
def stageR (s e x : Int) : Int × Int × Nat := if right s e = false ∨ x ≠ e ∨ (s ≠ 4 ∧ s ≠ 5) then riseR s e x 1 [0, 1, 3, 4, 5] else moveR s e 1 [4, 5]
def openR (s e x : Int) : Int × Int × Nat := riseR s e x 2 [0, 1, 3, 2]
def tombR (s e x : Int) : Int × Int × Nat := riseR s e x 4 [1, 3, 2, 4]
def dropR (s e : Int) : Int × Int × Nat := moveR s e 5 [4]
def pv (s e : Int) : Value := .agg #[.int .i64 s, .int .i64 e]
def PRes (a : Nat → Addr) (r : Int × Int × Nat) : Value := .tuple #[.agg #[.int .i64 r.1, .int .i64 r.2.1], errV a r.2.2]
def PEnd (a : Nat → Addr) (r : Int × Int × Nat) (w : World) (e : Ending) (w' : World) : Prop := e = .returned (PRes a r) ∧ Below w.heap.size w w'

/-- The states' names lie as the program's text lays them. -/
def Names (W : World) : Prop := ∀ k, k < 6 → W.cell? ⟨22, k, none⟩ = some (.string (nameB k))
theorem Names.below {W W' : World} (h : Names W) (hb : Below W.heap.size W W') : Names W' := fun k hk => (hb.cell (World.block_lt_of_cell? W _ (h k hk))).trans (h k hk)
structure Env (W : World) (a : Nat → Addr) : Prop where
  errs : Errs W a
  names : Names W
theorem Env.below {W W' : World} {a : Nat → Addr} (h : Env W a) (hb : Below W.heap.size W W') : Env W' a := ⟨h.errs.below hb, h.names.below hb⟩

theorem ba {a w : World} (h : Below a.heap.size a w) (o : Obj) : Below a.heap.size a (w.alloc o) := h.alloc h.size o
theorem bd {a w : World} (h : Below a.heap.size a w) : Below a.heap.size a w.drew := h.drew
theorem bs {a w : World} (h : Below a.heap.size a w) {p : Addr} (hp : a.heap.size ≤ p.block) (u : Value) : Below a.heap.size a (w.setCell p u) := h.setCell hp u

theorem name_any (s e : Int) (w : World) (hN : Names w) :
    Calls Tryd.prog 19 #[.agg #[.int .i64 s, .int .i64 e]] w fun x w' => x = .returned (.string (nameOf s)) ∧ w.alloc (.cells #[.int .i64 s, .int .i64 e] 23) = w' := by
  by_cases h1 : 0 ≤ s
  · by_cases h2 : s ≤ 5
    · have Hf : Hid (nameOf s = nameB s.toNat) := by unfold nameOf; exact if_pos ⟨h1, h2⟩
      obtain ⟨k, rfl⟩ := Int.eq_ofNat_of_zero_le h1
      have hk := hN k (by omega)
      have hsz := World.block_lt_of_cell? w _ hk
      go_enter Tryd.func19, Tryd.ntmps19
      go_wp2
      go_ret
      exact ⟨by rw [Hf.out]; rfl, rfl⟩
    · have Hf : Hid (nameOf s = ⟨#[]⟩) := by unfold nameOf; exact if_neg (by omega)
      go_enter Tryd.func19, Tryd.ntmps19
      go_wp2
      go_ret
      exact ⟨by rw [Hf.out]; rfl, rfl⟩
  · have Hf : Hid (nameOf s = ⟨#[]⟩) := by unfold nameOf; exact if_neg (by omega)
    go_enter Tryd.func19, Tryd.ntmps19
    go_wp2
    go_ret
    exact ⟨by rw [Hf.out]; rfl, rfl⟩
theorem nameB_full (k : Nat) (hk : k < 6) : (nameB k).toList.isEmpty = false :=
  match k, hk with
  | 0, _ => by decide +kernel | 1, _ => by decide +kernel | 2, _ => by decide +kernel | 3, _ => by decide +kernel | 4, _ => by decide +kernel | 5, _ => by decide +kernel
  | n + 6, h => absurd h (by omega)
theorem nameOf_full {s : Int} (h1 : 0 ≤ s) (h2 : s ≤ 5) : (nameOf s).toList.isEmpty = false := by
  unfold nameOf; rw [if_pos ⟨h1, h2⟩]; exact nameB_full _ (by omega)
theorem nameOf_none {s : Int} (h : ¬ (0 ≤ s ∧ s ≤ 5)) : (nameOf s).toList.isEmpty = true := by
  unfold nameOf; rw [if_neg h]; decide +kernel
theorem right_eq {s e : Int} (h1 : 0 ≤ s) (h2 : s ≤ 5) (h3 : 0 ≤ e) (h4 : e ≤ maxE) : right s e = ((s == 0) == (e == 0)) := by
  unfold right; simp [h1, h2, h3, h4]
theorem right_no {s e : Int} (h : ¬ (0 ≤ s ∧ s ≤ 5 ∧ 0 ≤ e ∧ e ≤ maxE)) : right s e = false := by
  unfold right
  rw [Bool.and_eq_false_iff]
  left
  rw [Bool.eq_false_iff]
  intro hc
  simp only [Bool.and_eq_true, decide_eq_true_eq] at hc
  exact h ⟨hc.1.1.1, hc.1.1.2, hc.1.2, hc.2⟩
def REnd (b : Bool) (s e : Int) (w : World) (x : Ending) (w' : World) : Prop := x = .returned (.bool b) ∧ (w.alloc (.cells #[.int .i64 s, .int .i64 e] 23)).alloc (.cells #[.int .i64 s, .int .i64 e] 23) = w'
theorem ret_bool {a b : Bool} (h : a = b) : Ending.returned (.bool a) = .returned (.bool b) := by rw [h]
theorem right_any (s e : Int) (w : World) (hN : Names w) : Calls Tryd.prog 17 #[.agg #[.int .i64 s, .int .i64 e]] w (REnd (right s e) s e w) := by
  have HN := Lib.hid hN
  clear hN
  by_cases h : 0 ≤ s ∧ s ≤ 5
  · have hf := nameOf_full h.1 h.2
    have hf2 : ¬ (nameOf s).toList = [] := by intro hc; rw [hc] at hf; simp at hf
    by_cases h3 : e < 0
    · have Hr := Lib.hid (right_no (s := s) (e := e) (by unfold maxE; omega))
      go_enter Tryd.func17, Tryd.ntmps17
      go_wp2_with (go_at_call 19; refine (name_any _ _ _ (HN.out.below (ba (Below.refl _ _) _))).mono ?_; rintro e w' ⟨rfl, rfl⟩)
      go_ret
      exact ⟨ret_bool Hr.out.symm, rfl⟩
    · by_cases h4 : 1099511627776 < e
      · have Hr := Lib.hid (right_no (s := s) (e := e) (by unfold maxE; omega))
        go_enter Tryd.func17, Tryd.ntmps17
        go_wp2_with (go_at_call 19; refine (name_any _ _ _ (HN.out.below (ba (Below.refl _ _) _))).mono ?_; rintro e w' ⟨rfl, rfl⟩)
        go_ret
        exact ⟨ret_bool Hr.out.symm, rfl⟩
      · have Hr := Lib.hid (right_eq (s := s) (e := e) h.1 h.2 (by omega) (by unfold maxE; omega))
        go_enter Tryd.func17, Tryd.ntmps17
        go_wp2_with (go_at_call 19; refine (name_any _ _ _ (HN.out.below (ba (Below.refl _ _) _))).mono ?_; rintro e w' ⟨rfl, rfl⟩)
        go_ret
        exact ⟨ret_bool Hr.out.symm, rfl⟩
  · have hf := nameOf_none h
    have hf2 : (nameOf s).toList = [] := by simpa using hf
    have Hr := Lib.hid (right_no (s := s) (e := e) (fun hc => h ⟨hc.1, hc.2.1⟩))
    clear h
    go_enter Tryd.func17, Tryd.ntmps17
    go_wp2_with (go_at_call 19; refine (name_any _ _ _ (HN.out.below (ba (Below.refl _ _) _))).mono ?_; rintro e w' ⟨rfl, rfl⟩)
    go_ret
    exact ⟨ret_bool Hr.out.symm, rfl⟩
theorem IntsAt.below {w w' : World} {b : Nat} {xs : List Int} (h : IntsAt w b xs) (hb : Below w.heap.size w w') : IntsAt w' b xs :=
  fun k hk => (hb.cell (World.block_lt_of_cell? w _ (h k hk))).trans (h k hk)
/-- An error's cell behind four new blocks, whatever they hold: a rule for the walk. -/
theorem err4 {w : World} {a : Nat → Addr} (H : Errs w a) (n : Nat) (h1 : 1 ≤ n) (h2 : n ≤ 22) (o1 o2 o3 o4 : Obj) :
    ((((w.alloc o1).alloc o2).alloc o3).alloc o4).cell? ⟨gErr n, 0, none⟩ = some (.iface 143 (.pointer (some (a n)))) :=
  (H.below (ba (ba (ba (ba (Below.refl _ _) _) _) _) _)).at n h1 h2
theorem err2 {w : World} {a : Nat → Addr} (H : Errs w a) (n : Nat) (h1 : 1 ≤ n) (h2 : n ≤ 22) (o1 o2 : Obj) :
    ((w.alloc o1).alloc o2).cell? ⟨gErr n, 0, none⟩ = some (.iface 143 (.pointer (some (a n)))) :=
  (H.below (ba (ba (Below.refl _ _) _) _)).at n h1 h2
theorem ret_pres {a : Nat → Addr} {s e : Int} {n : Nat} {x : Value} {r : Int × Int × Nat} (hr : r = (s, e, n)) (hx : x = errV a n) : Ending.returned (.tuple #[.agg #[.int .i64 s, .int .i64 e], x]) = .returned (PRes a r) := by
  subst hr; subst hx; rfl
theorem errV_pos (a : Nat → Addr) (n : Nat) (h : 1 ≤ n) : errV a n = .iface 143 (.pointer (some (a n))) := by
  unfold errV; rw [if_neg (by omega)]
set_option maxHeartbeats 400000 in
theorem move_any (a : Nat → Addr) (s e to : Int) (xs : List Int) (b c : Nat) (w : World) (hl : xs.length ≤ 1000) (hx : IntsAt w b xs) (E : Env w a) :
    Calls Tryd.prog 70 #[.agg #[.int .i64 s, .int .i64 e], .int .i64 to, .slice (some ⟨b, 0, none⟩) xs.length c] w (PEnd a (moveR s e to xs) w) := by
  have HE := Lib.hid E
  have HX := Lib.hid hx
  clear E hx
  cases hr : right s e
  · have Hm : Hid (moveR s e to xs = (s, e, 4)) := by unfold moveR; exact if_pos hr
    have e4 := err4 HE.out.errs 4 (by decide) (by decide)
    simp only [gErr] at e4
    go_enter Tryd.func70, Tryd.ntmps70
    go_wp2_with (go_at_call 17; refine (right_any _ _ _ (HE.out.names.below (ba (ba (Below.refl _ _) _) _))).mono ?_; rintro e w' ⟨rfl, rfl⟩)
    go_region
    go_wp2
    refine bodyPost_ret (v := .tuple #[.agg #[.int .i64 s, .int .i64 e], .iface 143 (.pointer (some (a 4)))]) (by simp [results, Tryd.results70, go_sem]) rfl ⟨ret_pres Hm.out (errV_pos a 4 (by decide)).symm, ?_⟩
    repeat (first | exact Below.refl _ _ | apply bd | apply ba)
  · cases hc : has xs s
    · have Hm : Hid (moveR s e to xs = (s, e, 19)) := by unfold moveR; rw [if_neg (by simp [hr])]; exact if_pos hc
      have e4 := err4 HE.out.errs 19 (by decide) (by decide)
      simp only [gErr] at e4
      go_enter Tryd.func70, Tryd.ntmps70
      go_wp2_with (first
        | (go_at_call 17; refine (right_any _ _ _ (HE.out.names.below (ba (ba (Below.refl _ _) _) _))).mono ?_; rintro e w' ⟨rfl, rfl⟩)
        | (go_at_call 87; refine (contains_any _ _ _ _ _ hl (HX.out.below (ba (ba (ba (ba (Below.refl _ _) _) _) _) _))).mono ?_; rintro e w' ⟨rfl, rfl⟩))
      go_region
      go_wp2
      refine bodyPost_ret (v := .tuple #[.agg #[.int .i64 s, .int .i64 e], .iface 143 (.pointer (some (a 19)))]) (by simp [results, Tryd.results70, go_sem]) rfl ⟨ret_pres Hm.out (errV_pos a 19 (by decide)).symm, ?_⟩
      repeat (first | exact Below.refl _ _ | apply bd | apply ba)
    · have Hm : Hid (moveR s e to xs = (to, e, 0)) := by unfold moveR; rw [if_neg (by simp [hr]), if_neg (by simp [hc])]; exact rfl
      go_enter Tryd.func70, Tryd.ntmps70
      go_wp2_with (first
        | (go_at_call 17; refine (right_any _ _ _ (HE.out.names.below (ba (ba (Below.refl _ _) _) _))).mono ?_; rintro e w' ⟨rfl, rfl⟩)
        | (go_at_call 87; refine (contains_any _ _ _ _ _ hl (HX.out.below (ba (ba (ba (ba (Below.refl _ _) _) _) _) _))).mono ?_; rintro e w' ⟨rfl, rfl⟩))
      refine bodyPost_ret (v := .tuple #[.agg #[.int .i64 to, .int .i64 e], .nilIface]) (by simp [results, Tryd.results70, go_sem]) rfl ⟨ret_pres Hm.out rfl, ?_⟩
      repeat (first | exact Below.refl _ _ | apply bd | apply ba)
theorem bcell {W w1 : World} (hb : Below W.heap.size W w1) : (∀ b o, b < W.heap.size → w1.cell? ⟨b, o, none⟩ = W.cell? ⟨b, o, none⟩) ∧ (∀ b o, b < W.heap.size → w1.frozen? ⟨b, o, none⟩ = W.frozen? ⟨b, o, none⟩) :=
  ⟨fun b o h => hb.cell (p := ⟨b, o, none⟩) h, fun b o h => hb.frozen (p := ⟨b, o, none⟩) h⟩
theorem moveR_err {s e to : Int} {xs : List Int} (h : (moveR s e to xs).2.2 ≠ 0) : moveR s e to xs = (s, e, (moveR s e to xs).2.2) := by
  unfold moveR at *
  split
  · rfl
  · split
    · rfl
    · rename_i h1 h2
      rw [if_neg h1, if_neg h2] at h
      exact absurd rfl h
theorem moveR_ok {s e to : Int} {xs : List Int} (h : (moveR s e to xs).2.2 = 0) : moveR s e to xs = (to, e, 0) := by
  unfold moveR at *
  split
  · rename_i h1; rw [if_pos h1] at h; simp at h
  · rename_i h1
    rw [if_neg h1] at h
    split
    · rename_i h2; rw [if_pos h2] at h; simp at h
    · rfl
theorem moveR_le (s e to : Int) (xs : List Int) : (moveR s e to xs).2.2 ≤ 22 := by
  unfold moveR
  split
  · simp
  · split <;> simp
/-- An error's cell behind a new block and two stores into a block of the call's own. -/
theorem err_far {w w1 : World} {a : Nat → Addr} (H : Errs w a) (hb : Below w.heap.size w w1) (n : Nat) (h1 : 1 ≤ n) (h2 : n ≤ 22) (g : Nat) (hg : w.heap.size ≤ g) :
    (∀ o : Obj, (w1.alloc o).cell? ⟨gErr n, 0, none⟩ = some (.iface 143 (.pointer (some (a n))))) ∧
    (∀ (o : Obj) (i j : Nat) (u z : Value), (((w1.setCell ⟨g, i, none⟩ u).setCell ⟨g, j, none⟩ z).alloc o).cell? ⟨gErr n, 0, none⟩ = some (.iface 143 (.pointer (some (a n))))) := by
  refine ⟨fun o => ?_, fun o i j u z => ?_⟩
  · exact (H.below (ba hb o)).at n h1 h2
  · exact (H.below (ba (bs (p := ⟨g, j, none⟩) (bs (p := ⟨g, i, none⟩) hb hg u) hg z) o)).at n h1 h2
set_option maxHeartbeats 400000 in
theorem rise_any (a : Nat → Addr) (s e x to : Int) (xs : List Int) (b c : Nat) (w : World) (hl : xs.length ≤ 1000) (hx : IntsAt w b xs) (E : Env w a) :
    Calls Tryd.prog 69 #[.agg #[.int .i64 s, .int .i64 e], .int .i64 x, .int .i64 to, .slice (some ⟨b, 0, none⟩) xs.length c] w (PEnd a (riseR s e x to xs) w) := by
  have HE := Lib.hid E
  have HX := Lib.hid hx
  clear E hx
  by_cases hr : x < 1 ∨ maxE < x
  · have Hm : Hid (riseR s e x to xs = (s, e, 1)) := by unfold riseR; exact if_pos hr
    have e4 := err2 HE.out.errs 1 (by decide) (by decide)
    simp only [gErr] at e4
    unfold maxE at hr
    rcases hr with h1 | h1
    all_goals
      go_enter Tryd.func69, Tryd.ntmps69
      go_wp2_with fail
      go_region
      go_wp2
      refine bodyPost_ret (v := .tuple #[.agg #[.int .i64 s, .int .i64 e], .iface 143 (.pointer (some (a 1)))]) (by simp [results, Tryd.results69, go_sem]) rfl ⟨ret_pres Hm.out (errV_pos a 1 (by decide)).symm, ?_⟩
      repeat (first | exact Below.refl _ _ | apply bd | apply ba)
  · have h1 : 1 ≤ x := by omega
    have h2 : x ≤ 1099511627776 := by unfold maxE at hr; omega
    by_cases hm : (moveR s e to xs).2.2 = 0
    · have Em := Lib.hid (moveR_ok hm)
      by_cases hxe : x ≤ e
      · have Hm : Hid (riseR s e x to xs = (s, e, 18)) := by unfold riseR; rw [if_neg hr, if_neg (by simp [hm]), if_pos hxe]; exact rfl
        clear hr hm
        go_enter Tryd.func69, Tryd.ntmps69
        go_wp2_with fail
        refine (move_any a _ _ _ _ _ _ _ hl (HX.out.below (ba (ba (Below.refl _ _) _) _)) (HE.out.below (ba (ba (Below.refl _ _) _) _))).mono ?_
        rintro x' w1 ⟨rfl, hb⟩
        unfold PRes
        rw [Em.out]
        obtain ⟨hc, hf⟩ := bcell hb
        have hz : w.heap.size + 1 < w1.heap.size := by have := hb.size; simp at this; omega
        have hz0 : w.heap.size < w1.heap.size := by omega
        have hB : Below w.heap.size w w1 := (ba (ba (Below.refl _ _) _) _).trans (hb.mono (by simp; omega))
        obtain ⟨e1, e2⟩ := err_far HE.out.errs hB 18 (by decide) (by decide) (w.heap.size + 1) (by omega)
        simp only [gErr] at e1 e2
        simp only [errV, if_true]
        have HB := Lib.hid hB
        clear hB
        have Hb := Lib.hid hb
        clear hb
        go_wp2_with fail
        go_region
        go_wp2
        refine bodyPost_ret (v := .tuple #[.agg #[.int .i64 s, .int .i64 e], .iface 143 (.pointer (some (a 18)))]) (by simp [results, Tryd.results69, go_sem, hc, hz, hz0]) rfl ⟨ret_pres Hm.out (errV_pos a 18 (by decide)).symm, ?_⟩
        repeat (first | exact HB.out | apply bd | apply ba | (refine bs ?_ (by simp) _))
      · have Hm : Hid (riseR s e x to xs = (to, x, 0)) := by unfold riseR; rw [if_neg hr, if_neg (by simp [hm]), if_neg hxe]; exact rfl
        clear hr hm
        go_enter Tryd.func69, Tryd.ntmps69
        go_wp2_with fail
        refine (move_any a _ _ _ _ _ _ _ hl (HX.out.below (ba (ba (Below.refl _ _) _) _)) (HE.out.below (ba (ba (Below.refl _ _) _) _))).mono ?_
        rintro x' w1 ⟨rfl, hb⟩
        unfold PRes
        rw [Em.out]
        obtain ⟨hc, hf⟩ := bcell hb
        have hz : w.heap.size + 1 < w1.heap.size := by have := hb.size; simp at this; omega
        have hz0 : w.heap.size < w1.heap.size := by omega
        have hB : Below w.heap.size w w1 := (ba (ba (Below.refl _ _) _) _).trans (hb.mono (by simp; omega))
        simp only [errV, if_true]
        have HB := Lib.hid hB
        clear hB
        have Hb := Lib.hid hb
        clear hb
        go_wp2_with fail
        refine bodyPost_ret (v := .tuple #[.agg #[.int .i64 to, .int .i64 x], .nilIface]) (by simp [results, Tryd.results69, go_sem, hc, hz, hz0]) rfl ⟨ret_pres Hm.out rfl, ?_⟩
        repeat (first | exact HB.out | apply bd | apply ba | (refine bs ?_ (by simp) _))
    · have Em := Lib.hid (moveR_err hm)
      have Hle := moveR_le s e to xs
      have Hm : Hid (riseR s e x to xs = (s, e, (moveR s e to xs).2.2)) := by unfold riseR; rw [if_neg hr, if_pos hm]; exact rfl
      clear hr
      go_enter Tryd.func69, Tryd.ntmps69
      go_wp2_with fail
      refine (move_any a _ _ _ _ _ _ _ hl (HX.out.below (ba (ba (Below.refl _ _) _) _)) (HE.out.below (ba (ba (Below.refl _ _) _) _))).mono ?_
      rintro x' w1 ⟨rfl, hb⟩
      unfold PRes
      rw [Em.out]
      generalize (moveR s e to xs).2.2 = n at *
      obtain ⟨hc, hf⟩ := bcell hb
      have hz : w.heap.size + 1 < w1.heap.size := by have := hb.size; simp at this; omega
      have hz0 : w.heap.size < w1.heap.size := by omega
      have hB : Below w.heap.size w w1 := (ba (ba (Below.refl _ _) _) _).trans (hb.mono (by simp; omega))
      simp only [errV, if_neg hm]
      have HB := Lib.hid hB
      clear hB
      have Hb := Lib.hid hb
      clear hb
      go_wp2_with fail
      refine bodyPost_ret (v := .tuple #[.agg #[.int .i64 s, .int .i64 e], .iface 143 (.pointer (some (a n)))]) (by simp [results, Tryd.results69, go_sem, hc, hz, hz0]) rfl ⟨ret_pres Hm.out (errV_pos a n (by omega)).symm, ?_⟩
      repeat (first | exact HB.out | apply bd | apply ba | (refine bs ?_ (by simp) _))
end Go.Proofs.YtdglpbjofdipkaaDoor
