/- A region that draws its order, by what holds behind whatever was carried out. -/
import Derived.Deep.RegionHeld3
import Derived.Test.YtmmiimcodbjnmaaDoorProg
namespace Go.Proofs.YtmmiimcodbjnmaaDoor
set_option linter.unusedVariables false
set_option linter.unusedSimpArgs false
theorem count_set : ∀ (l : List Bool) (i : Nat), l[i]? = some false → (l.set i true).count false + 1 = l.count false
  | [], i, h => by simp at h
  | b :: l, 0, h => by
    simp at h
    subst h
    simp
  | b :: l, i + 1, h => by
    have := count_set l i (by simpa using h)
    simp only [List.set_cons_succ, List.count_cons]
    omega
/-- One more operation carried out. -/
def upd (L : Nat → Bool) (i : Nat) : Nat → Bool := fun j => if j = i then true else L j
theorem upd_here (L : Nat → Bool) (i : Nat) : upd L i i = true := if_pos rfl
theorem upd_off {L : Nat → Bool} {i j : Nat} (h : j ≠ i) : upd L i j = L j := if_neg h
section
variable {P : Program} {ops : Array Oper} {Q : Exit → Act → World → Prop}
theorem getD_upd {listed : Array Bool} {i : Nat} (hi : i < listed.size) : (fun j => (listed.setIfInBounds i true).getD j false) = upd (fun j => listed.getD j false) i := by
  funext j
  unfold upd
  by_cases h : j = i
  · subst h
    rw [if_pos rfl]
    simp [Array.getD, hi]
  · rw [if_neg h]
    simp only [Array.getD_eq_getD_getElem?]
    rw [Array.getElem?_setIfInBounds_ne (Ne.symm h)]
theorem wpAny_inv (I : (Nat → Bool) → Act → World → Prop)
    (hac : ∀ (i : Nat) (o : Oper), ops[i]? = some o → ∀ e ∈ o.after, e.on < i)
    (hstep : ∀ (L : Nat → Bool) (a : Act) (w : World) (i : Nat) (o : Oper), I L a w → ops[i]? = some o → L i = false → (∀ e ∈ o.after, Region.binds .any e = true → L e.on = true) →
      ∀ K : Act → World → Prop, Shut (∀ a' w', I (upd L i) a' w' → K a' w') → if Region.wanted o (yielded ops a.tmps) = true then Oper.wp P o a w K Q else K (a.put o.dst undef) w)
    (hdone : ∀ (L : Nat → Bool) (a : Act) (w : World), I L a w → (∀ i, i < ops.size → L i = true) → Q .normal a w) :
    ∀ (fuel : Nat) (listed : Array Bool) (a : Act) (w : World), I (fun j => listed.getD j false) a w → listed.size = ops.size → listed.toList.count false ≤ fuel → wpAny P .any ops Q fuel listed a w := by
  have hall : ∀ listed : Array Bool, listed.size = ops.size → Region.ready .any ops listed = [] → ∀ i, i < ops.size → listed.getD i false = true := fun listed hsz hr i => by
    induction i using Nat.strongRecOn with
    | ind i ih =>
      intro hi
      by_cases h : listed.getD i true = false
      · have : i ∈ Region.ready .any ops listed := mem_ready.2 ⟨h, ops[i], by simp [hi], fun e he _ => ih e.on (hac i _ (by simp [hi]) e he) (Nat.lt_trans (hac i _ (by simp [hi]) e he) hi)⟩
        rw [hr] at this
        cases this
      · have h2 : i < listed.size := by omega
        simp [Array.getD, h2] at h ⊢
        exact h
  intro fuel
  induction fuel with
  | zero =>
    intro listed a w hI hsz hc
    have hr : Region.ready .any ops listed = [] := by
      rw [List.eq_nil_iff_forall_not_mem]
      intro j hj
      have h1 := (mem_ready.1 hj).1
      have h2 : listed.toList[j]? = some false := by
        by_cases h : j < listed.size
        · simp [Array.getD, h] at h1
          simp [h, h1]
        · simp [Array.getD, h] at h1
      have := count_set _ _ h2
      omega
    exact ⟨hr, hdone _ a w hI (hall listed hsz hr)⟩
  | succ fuel ih =>
    intro listed a w hI hsz hc
    refine ⟨fun hr => hdone _ a w hI (hall listed hsz hr), fun i hi => ?_⟩
    obtain ⟨hun, o, ho, hdep⟩ := mem_ready.1 hi
    have hil : i < listed.size := by
      by_cases h : i < listed.size
      · exact h
      · simp [Array.getD, h] at hun
    refine wpOp_step ho (fun K' hK => hstep _ a w i o hI ho (by simpa [Array.getD, hil] using hun) hdep K' (fun a' w' hI' => hK a' w' (ih _ a' w' ?_ (by simpa using hsz) ?_)))
    · rw [getD_upd hil]; exact hI'
    · have h2 : listed.toList[i]? = some false := by
        simp [Array.getD, hil] at hun
        simp [hil, hun]
      have := count_set _ _ h2
      rw [Array.toList_setIfInBounds]
      omega
/-- A region that draws its order: what holds behind whatever was carried out, step by step. -/
theorem wp_region_inv {id : Nat} {a : Act} {w : World} (hm : P.follows .mixedOrders = true) (I : (Nat → Bool) → Act → World → Prop)
    (hacB : ((List.range ops.size).all fun i => ((ops[i]?).map fun o => o.after.all fun e => decide (e.on < i)).getD true) = true) (h0 : I (fun _ => false) a w.drew)
    (hstep : ∀ (L : Nat → Bool) (a : Act) (w : World) (i : Nat) (o : Oper), I L a w → ops[i]? = some o → L i = false → (∀ e ∈ o.after, Region.binds .any e = true → L e.on = true) →
      ∀ K : Act → World → Prop, Shut (∀ a' w', I (upd L i) a' w' → K a' w') → if Region.wanted o (yielded ops a.tmps) = true then Oper.wp P o a w K Q else K (a.put o.dst undef) w)
    (hdone : ∀ (L : Nat → Bool) (a : Act) (w : World), I L a w → (∀ i, i < ops.size → L i = true) → Q .normal a w) :
    (Code.region id ops true).wp P Q a w := by
  have hac : ∀ (i : Nat) (o : Oper), ops[i]? = some o → ∀ e ∈ o.after, e.on < i := fun i o ho e he => by
    have hi : i < ops.size := (Array.getElem?_eq_some_iff.1 ho).1
    have h1 := List.all_eq_true.1 hacB i (List.mem_range.2 hi)
    rw [ho] at h1
    have h2 := Array.all_eq_true'.1 h1 e he
    simpa using h2
  refine wp_region_any hm (wpAny_inv I hac hstep hdone ops.size (Array.replicate ops.size false) a _ ?_ (by simp) ?_)
  · have : (fun j => (Array.replicate ops.size false).getD j false) = fun _ => false := by
      funext j
      simp [Array.getD]
    rw [this]
    exact h0
  · simp
end
end Go.Proofs.YtmmiimcodbjnmaaDoor
