/- Messages that are the same. -/
import Derived.Test.YtbapkamopelgpaaDoorMsgD
import Derived.BigQuiet
import Derived.Deep.QuietTactic
import Derived.Lib.QuietBelow
namespace Go.Proofs.YtbapkamopelgpaaDoor
open Go.RowKit Go.Stop Go.Extern Go.Ranges Go.Rows2 Go.Sort
set_option linter.unusedVariables false
set_option linter.unusedSimpArgs false
set_option maxRecDepth 100000
def strEq (a b : ByteArray) : Bool := a.toList == b.toList
def bytesEq (xs ys : List Int) : Bool := (strOfNums xs).toList == (strOfNums ys).toList
theorem strEq_self (a : ByteArray) : strEq a a = true := by simp [strEq]
theorem bytesEq_self (a : List Int) : bytesEq a a = true := by simp [bytesEq]
theorem bytes_any (p q : Option Addr) (n m c d : Nat) (xs ys : List Int) (w : World) (hx : xs.length = n) (hy : ys.length = m) (h1 : Lib.BytesIn w p n xs) (h2 : Lib.BytesIn w q m ys) :
    Calls Tryd.prog 46 #[.slice p n c, .slice q m d] w fun e w' => e = .returned (.bool (bytesEq xs ys)) ∧ w = w' := by
  have c1 := h1.convert (P := Tryd.prog) hx c 22 5 9 Tryd.underlying22 Tryd.underlying5 Tryd.underlying9
  have c2 := h2.convert (P := Tryd.prog) hy d 22 5 9 Tryd.underlying22 Tryd.underlying5 Tryd.underlying9
  clear h1 h2
  go_enter Tryd.func46, Tryd.ntmps46
  go_wp2_with fail
  go_ret
  exact ⟨rfl, rfl⟩
/-- Are two rows of parts the same? -/
def partsEq (n m : Nat) (f g : Nat → List Int) : Bool := decide (n = m) && (List.range n).all fun i => bytesEq (f i) (g i)
theorem partsEq_ne {n m : Nat} {f g : Nat → List Int} (h : n ≠ m) : partsEq n m f g = false := by unfold partsEq; rw [decide_eq_false h, Bool.false_and]
theorem partsEq_all {n : Nat} {f g : Nat → List Int} (h : ∀ i, i < n → bytesEq (f i) (g i) = true) : partsEq n n f g = true := by
  unfold partsEq
  rw [decide_eq_true rfl, Bool.true_and, List.all_eq_true]
  exact fun i hi => h i (List.mem_range.1 hi)
theorem partsEq_no {n k : Nat} {f g : Nat → List Int} (hk : k < n) (h : bytesEq (f k) (g k) = false) : partsEq n n f g = false := by
  unfold partsEq
  rw [decide_eq_true rfl, Bool.true_and, Bool.eq_false_iff]
  intro hall
  rw [List.all_eq_true] at hall
  rw [hall k (List.mem_range.2 hk)] at h
  cases h
set_option maxHeartbeats 2000000 in
theorem equalFunc_any (A B : Option Addr) (n m c d : Nat) (f g : Nat → List Int) (w : World) (hf : PartsAt w A n f) (hg : PartsAt w B m g) (hn : n ≤ maxLen) (hm : m ≤ maxLen) :
    Calls Tryd.prog 47 #[.slice A n c, .slice B m d, .func (.func 46) #[] #[]] w fun e w' => e = .returned (.bool (partsEq n m f g)) ∧ w = w' := by
  have HF := Lib.hid hf
  have HG := Lib.hid hg
  have hn2 : (n : Int) ≤ 9223372036854775807 := by unfold maxLen at hn; omega
  clear hf hg hn
  by_cases hnm : n = m
  · subst hnm
    go_enter Tryd.func47, Tryd.ntmps47
    go_wp2_with fail
    go_loopw [17] (fun x wr => ∃ k : Nat, k ≤ n ∧ x = .int .i64 k ∧ w = wr ∧ ∀ i, i < k → bytesEq (f i) (g i) = true) (fun x _ => n - (intOf x).toNat)
    case atStart => exact ⟨0, Nat.zero_le _, rfl, rfl, fun i hi => absurd hi (by omega)⟩
    case round =>
      obtain ⟨k, hk, rfl, rfl, hall⟩ := hrel
      have HA := Lib.hid hall
      clear hall
      by_cases hlt : k < n
      · obtain ⟨b, o, rfl, _, hc⟩ := HF.out (by omega)
        obtain ⟨b', o', rfl, _, hc'⟩ := HG.out (by omega)
        obtain ⟨D, e, h1, h2⟩ := hc k hlt
        obtain ⟨D', e', h1', h2'⟩ := hc' k hlt
        have hb := bytes_any D D' (f k).length (g k).length e e' (f k) (g k) w rfl rfl h2 h2'
        clear hc hc' h2 h2'
        cases hq : bytesEq (f k) (g k) with
        | true =>
          rw [hq] at hb
          have HB := Lib.hid hb
          have HQ := Lib.hid hq
          clear hb hq
          go_wp2_with (go_at_call 46; refine HB.out.mono ?_; rintro e w' ⟨rfl, rfl⟩)
          go_round
          case rel => exact ⟨k + 1, by omega, by go_num, by first | rfl | trivial, fun i hi => by
            by_cases e : i = k
            · subst e; exact HQ.out
            · exact HA.out i (by omega)⟩
          case measure => simp only [intOf]; omega
        | false =>
          rw [hq] at hb
          have HB := Lib.hid hb
          have HZ := Lib.hid (partsEq_no hlt hq)
          clear hb hq
          go_wp2_with (go_at_call 46; refine HB.out.mono ?_; rintro e w' ⟨rfl, rfl⟩)
          go_ret
          exact ⟨ret_b HZ.out, rfl⟩
      · obtain rfl : k = n := by omega
        go_wp2_with fail
        go_ret
        exact ⟨ret_b (partsEq_all HA.out), rfl⟩
  · have h1 : ((n : Int) != (m : Int)) = true := by rw [bne_iff_ne]; omega
    have h2 : (n != m) = true := by rw [bne_iff_ne]; exact hnm
    rw [partsEq_ne hnm]
    clear hnm
    go_enter Tryd.func47, Tryd.ntmps47
    go_wp2_with fail
    go_ret
    exact ⟨rfl, rfl⟩
set_option maxHeartbeats 2000000 in
theorem sameLists_any (A B : Option Addr) (n m c d : Nat) (f g : Nat → List Int) (w : World) (hf : PartsAt w A n f) (hg : PartsAt w B m g) (hn : n ≤ maxLen) (hm : m ≤ maxLen) :
    Calls Tryd.prog 48 #[.slice A n c, .slice B m d] w fun e w' => e = .returned (.bool (partsEq n m f g)) ∧ Below w.heap.size w w' := by
  have HF := Lib.hid hf
  have HG := Lib.hid hg
  have hn2 : (n : Int) ≤ 9223372036854775807 := by unfold maxLen at hn; omega
  clear hf hg hn
  by_cases hnm : n = m
  · subst hnm
    go_enter Tryd.func48, Tryd.ntmps48
    go_wp2_with fail
    go_loopw [13] (fun x wr => ∃ k j : Nat, k ≤ n ∧ x = .int .i64 k ∧ wr = w.drewN j ∧ ∀ i, i < k → bytesEq (f i) (g i) = true) (fun x _ => n - (intOf x).toNat)
    case atStart => exact ⟨0, 0, Nat.zero_le _, rfl, rfl, fun i hi => absurd hi (by omega)⟩
    case round =>
      obtain ⟨k, dn, hk, rfl, rfl, hall⟩ := hrel
      have HA := Lib.hid hall
      clear hall
      by_cases hlt : k < n
      · obtain ⟨b, o, rfl, _, hc⟩ := HF.out (by omega)
        obtain ⟨b', o', rfl, _, hc'⟩ := HG.out (by omega)
        obtain ⟨D, e, h1, h2⟩ := hc k hlt
        obtain ⟨D', e', h1', h2'⟩ := hc' k hlt
        have cv1 := fun q => (show Lib.BytesIn (w.drewN q) D _ _ from h2).convert (P := Tryd.prog) rfl e 22 5 9 Tryd.underlying22 Tryd.underlying5 Tryd.underlying9
        have cv2 := fun q => (show Lib.BytesIn (w.drewN q) D' _ _ from h2').convert (P := Tryd.prog) rfl e' 22 5 9 Tryd.underlying22 Tryd.underlying5 Tryd.underlying9
        have hq0 : ∀ r, bytesEq (f k) (g k) = r → ((strOfNums (f k)).toList == (strOfNums (g k)).toList) = r ∧ ((strOfNums (f k)).toList != (strOfNums (g k)).toList) = !r := fun r hr => ⟨hr, by rw [bne, show ((strOfNums (f k)).toList == (strOfNums (g k)).toList) = r from hr]⟩
        clear hc hc' h2 h2'
        cases hq : bytesEq (f k) (g k) with
        | true =>
          obtain ⟨q1, q2⟩ := hq0 _ hq
          have HQ := Lib.hid hq
          clear hq hq0
          generalize strOfNums (f k) = s1 at *
          generalize strOfNums (g k) = s2 at *
          go_wp2_with fail
          go_quiet (fail)
          go_wp2_with fail
          go_round
          case rel => exact ⟨k + 1, dn + _, by omega, by go_num, rfl, fun i hi => by
            by_cases e : i = k
            · subst e; exact HQ.out
            · exact HA.out i (by omega)⟩
          case measure => simp only [intOf]; omega
        | false =>
          obtain ⟨q1, q2⟩ := hq0 _ hq
          have HZ := Lib.hid (partsEq_no hlt hq)
          clear hq hq0
          generalize strOfNums (f k) = s1 at *
          generalize strOfNums (g k) = s2 at *
          go_wp2_with fail
          go_quiet (fail)
          go_wp2_with fail
          go_ret
          exact ⟨ret_b HZ.out, below_drewN2 _ _ _⟩
      · obtain rfl : k = n := by omega
        go_wp2_with fail
        go_ret
        exact ⟨ret_b (partsEq_all HA.out), below_drewN _ _⟩
  · have h1 : ((n : Int) != (m : Int)) = true := by rw [bne_iff_ne]; omega
    have h2 : (n != m) = true := by rw [bne_iff_ne]; exact hnm
    rw [partsEq_ne hnm]
    clear hnm
    go_enter Tryd.func48, Tryd.ntmps48
    go_wp2_with fail
    go_ret
    exact ⟨rfl, Below.refl _ _⟩
/-- A message's numbers. -/
def numV (M : Msg) : Array Value := #[.int .i64 M.k, .int .i64 M.c, .int .i64 M.n, .int .i64 M.o, .int .i64 M.e, .int .i64 M.s, .int .i64 M.t, .int .i64 M.i, .int .i64 M.sh, .int .i64 M.an]
theorem numbers_any (M : Msg) (B L : Option Addr) (cb cl : Nat) (w : World) : Calls Tryd.prog 45 #[.agg (msgA M B cb L cl)] w fun e w' => e = .returned (.agg (numV M)) ∧ Below w.heap.size w w' := by
  unfold msgA numV
  go_enter Tryd.func45, Tryd.ntmps45
  go_wp2
  exact bodyPost_ret (v := .agg #[.int .i64 M.k, .int .i64 M.c, .int .i64 M.n, .int .i64 M.o, .int .i64 M.e, .int .i64 M.s, .int .i64 M.t, .int .i64 M.i, .int .i64 M.sh, .int .i64 M.an]) (by simp [results, Tryd.results45, go_sem]) rfl ⟨rfl, stepV (alloc_below _ _) (alloc_below _ _)⟩
section
variable {P : Program} (w : World)
def isI64 : Value → Bool
  | .int .i64 _ => true
  | _ => false
def i64s (n : Nat) (xs : Array Value) : Bool := xs.size == n && xs.all isI64
theorem i64s_at {n : Nat} {xs : Array Value} (h : i64s n xs = true) {j : Nat} (hj : j < n) : xs[j]? = some (.int .i64 (ArrEq.numOf (xs[j]?.getD .nilIface))) := by
  simp only [i64s, Bool.and_eq_true, beq_iff_eq] at h
  have hj' : j < xs.size := by omega
  have h1 := Array.all_eq_true.1 h.2 j hj'
  rw [Array.getElem?_eq_getElem hj']
  simp only [Option.getD_some]
  revert h1
  generalize xs[j] = v
  intro h1
  unfold isI64 at h1
  split at h1
  · rfl
  · cases h1
theorem run_eqItems_ints {d : Nat} {e : TypeId} (he : P.underlying e = some (.int .i64)) (hp : P.plainKey e = true) {xs ys : Array Value} {n : Nat} (hx : i64s n xs = true) (hy : i64s n ys = true) :
    ∀ is : List Nat, (∀ j ∈ is, j < n) → (Op.eqItems (d + 1) e 1 xs ys is).run P w = .ok (is.all fun j => ArrEq.numOf (xs[j]?.getD .nilIface) == ArrEq.numOf (ys[j]?.getD .nilIface)) w
  | [], _ => by simp [Op.eqItems]
  | i :: is, hi => by
    have h1 := run_part_plain (w := w) hp (xs := xs) (off := i * 1) (by rw [Nat.mul_one]; exact i64s_at hx (hi i (by simp)))
    have h2 := run_part_plain (w := w) hp (xs := ys) (off := i * 1) (by rw [Nat.mul_one]; exact i64s_at hy (hi i (by simp)))
    have h3 := run_eqItems_ints (d := d) he hp hx hy is (fun j hj => hi j (by simp [hj]))
    have h4 := run_equalIn_int (P := P) (w := w) d e .i64 .i64 (ArrEq.numOf (xs[i]?.getD .nilIface)) (ArrEq.numOf (ys[i]?.getD .nilIface)) he
    simp only [Op.eqItems, Sem.run_bind, h1, h2, h4, Result.andThen_ok, List.all_cons]
    cases (ArrEq.numOf (xs[i]?.getD .nilIface) == ArrEq.numOf (ys[i]?.getD .nilIface))
    · simp
    · simpa using h3
end
def numEq (M M' : Msg) : Bool := ArrEq.arrEq 10 (numV M) (numV M')
theorem info3n : ∃ i, Tryd.prog.info? 3 = some i := by
  have h : (Tryd.prog.info? 3).isSome = true := by kernel_rfl
  exact Option.isSome_iff_exists.1 h
theorem numV_i64 (M : Msg) : i64s 10 (numV M) = true := by
  unfold i64s numV
  rw [Bool.and_eq_true]
  exact ⟨rfl, by rw [Array.all_eq_true']; intro x hx; simp only [List.mem_toArray, List.mem_cons, List.not_mem_nil, or_false] at hx; rcases hx with rfl | rfl | rfl | rfl | rfl | rfl | rfl | rfl | rfl | rfl <;> rfl⟩
theorem run_eql_nums (M M' : Msg) (d : Nat) (w : World) : (Op.equalIn (d + 2) 81 (.agg (numV M)) (.agg (numV M'))).run Tryd.prog w = .ok (numEq M M') w := by
  rw [run_equalIn_array w (d + 1) _ _ Tryd.underlying81 info3n.choose_spec, show Tryd.prog.cellsOf 3 = 1 by kernel_rfl]
  exact run_eqItems_ints w Tryd.underlying3 (by kernel_rfl) (numV_i64 M) (numV_i64 M') _ (fun j hj => List.mem_range.1 hj)
theorem calls_same {f : FuncId} {args : Array Value} {w : World} {v : Value} (h : Calls Tryd.prog f args w fun e w' => e = .returned v ∧ w = w') : Calls Tryd.prog f args w fun e w' => e = .returned v ∧ Below w.heap.size w w' :=
  h.mono fun e w' ⟨h1, h2⟩ => ⟨h1, h2 ▸ Below.refl _ _⟩
/-- Are two messages the same? -/
def sameM (M M' : Msg) : Bool := numEq M M' && (strEq M.repo M'.repo && (bytesEq M.body M'.body && partsEq M.list.length M'.list.length (fun i => M.list.getD i []) (fun i => M'.list.getD i [])))
theorem sameM_self (M : Msg) : sameM M M = true := by
  have h1 : numEq M M = true := by
    unfold numEq ArrEq.arrEq
    rw [List.all_eq_true]
    intro j _
    simp
  unfold sameM
  rw [h1, strEq_self, bytesEq_self, partsEq_all (fun i _ => bytesEq_self _)]
  rfl
set_option maxHeartbeats 8000000 in
theorem msgSame_any (M M' : Msg) (B L B' L' : Option Addr) (cb cl cb' cl' : Nat) (w : World) (h : MsgIn w M B L) (h' : MsgIn w M' B' L') (hl : M.list.length ≤ maxLen) (hl' : M'.list.length ≤ maxLen) :
    Calls Tryd.prog 14 #[.agg (msgA M B cb L cl), .agg (msgA M' B' cb' L' cl')] w fun e w' => e = .returned (.bool (sameM M M')) ∧ Below w.heap.size w w' := by
  have hn1 := Lib.hid (fun W => numbers_any M B L cb cl W)
  have hn2 := Lib.hid (fun W => numbers_any M' B' L' cb' cl' W)
  obtain ⟨V, hV⟩ : ∃ V, V = (w.alloc (.cells (msgA M B cb L cl) 25)).alloc (.cells (msgA M' B' cb' L' cl') 25) := ⟨_, rfl⟩
  have hb : Below w.heap.size w V := by rw [hV]; exact stepV (alloc_below _ _) (alloc_below _ _)
  have hV1 : V.heap[w.heap.size]? = some (.cells (msgA M B cb L cl) 25 (0, 0)) := by rw [hV]; exact (two_heap _ _ _).1
  have hV2 : V.heap[w.heap.size + 1]? = some (.cells (msgA M' B' cb' L' cl') 25 (0, 0)) := by rw [hV]; exact (two_heap _ _ _).2
  have hbe := Lib.hid (fun (p : Regrown) => calls_same (bytes_any B B' M.body.length M'.body.length cb cb' M.body M'.body (grow (redrawn V p.d) p.os) rfl rfl (bytesIn_below' h.body (stepV hb (below_regrown V p.d p.os))) (bytesIn_below' h'.body (stepV hb (below_regrown V p.d p.os)))))
  have hfe := Lib.hid (fun (p : Regrown) => calls_same (equalFunc_any L L' M.list.length M'.list.length cl cl' _ _ (grow (redrawn V p.d) p.os) (h.list.below (stepV hb (below_regrown V p.d p.os))) (h'.list.below (stepV hb (below_regrown V p.d p.os))) hl hl'))
  have heq := run_eql_nums M M' 9998
  have HB := Lib.hid hb
  unfold msgA at hV
  have HV := Lib.hid hV
  have K1 := Lib.hid (fun (p : Regrown) => keepM hV1 (below_regrown V p.d p.os))
  have K2 := Lib.hid (fun (p : Regrown) => keepM hV2 (below_regrown V p.d p.os))
  have a0 := fun p => (K1.out p).1
  have a1 := fun p => (K1.out p).2.1
  have a2 := fun p => (K1.out p).2.2.1
  have a3 := fun p => (K1.out p).2.2.2.1
  have a4 := fun p => (K1.out p).2.2.2.2.1
  have a5 := fun p => (K1.out p).2.2.2.2.2.1
  have a6 := fun p => (K1.out p).2.2.2.2.2.2.1
  have a7 := fun p => (K1.out p).2.2.2.2.2.2.2.1
  have a8 := fun p => (K1.out p).2.2.2.2.2.2.2.2.1
  have a9 := fun p => (K1.out p).2.2.2.2.2.2.2.2.2.1
  have a10 := fun p => (K1.out p).2.2.2.2.2.2.2.2.2.2.1
  have a11 := fun p => (K1.out p).2.2.2.2.2.2.2.2.2.2.2.1
  have a12 := fun p => (K1.out p).2.2.2.2.2.2.2.2.2.2.2.2.1
  have b0 := fun p => (K2.out p).1
  have b1 := fun p => (K2.out p).2.1
  have b2 := fun p => (K2.out p).2.2.1
  have b3 := fun p => (K2.out p).2.2.2.1
  have b4 := fun p => (K2.out p).2.2.2.2.1
  have b5 := fun p => (K2.out p).2.2.2.2.2.1
  have b6 := fun p => (K2.out p).2.2.2.2.2.2.1
  have b7 := fun p => (K2.out p).2.2.2.2.2.2.2.1
  have b8 := fun p => (K2.out p).2.2.2.2.2.2.2.2.1
  have b9 := fun p => (K2.out p).2.2.2.2.2.2.2.2.2.1
  have b10 := fun p => (K2.out p).2.2.2.2.2.2.2.2.2.2.1
  have b11 := fun p => (K2.out p).2.2.2.2.2.2.2.2.2.2.2.1
  have b12 := fun p => (K2.out p).2.2.2.2.2.2.2.2.2.2.2.2.1
  clear hb h h' hV1 hV2 hV hl hl'
  unfold msgA at hn1 hn2 ⊢
  unfold sameM
  generalize numEq M M' = r1 at *
  have hstr : ∀ r, strEq M.repo M'.repo = r → (M.repo.toList == M'.repo.toList) = r := fun r hr => hr
  generalize hq2 : strEq M.repo M'.repo = r2 at *
  have q2 := hstr r2 rfl
  generalize bytesEq M.body M'.body = r3 at *
  generalize partsEq M.list.length M'.list.length (fun i => M.list.getD i []) (fun i => M'.list.getD i []) = r4 at *
  clear hstr hq2
  cases r1 <;> cases r2 <;> cases r3
  all_goals
    go_enter Tryd.func14, Tryd.ntmps14
    go_wp2_with fail
    rw [← HV.out]
    refine wp_region_quiet_below (by kernel_rfl) (by kernel_rfl) ?_
    repeat (go_big_quiet_step (first
      | (go_at_call 45; first | (with_reducible exact Calls.regrown_of (hn1.out _)) | (with_reducible exact Calls.regrown_of (hn2.out _)))
      | (go_at_call 46; exact Calls.regrown_of (hbe.out _))
      | (go_at_call 47; exact Calls.regrown_of (hfe.out _))))
    refine wpQuiet_nil ?_
    intro W6 hw'
    obtain ⟨pq, hw''⟩ := hw'
    have hB6 := below_regrown V pq.d pq.os
    rw [← hw''] at hB6
    have HB6 := Lib.hid (stepV HB.out hB6)
    clear hw'' hB6 a0 a1 a2 a3 a4 a5 a6 a7 a8 a9 a10 a11 a12 b0 b1 b2 b3 b4 b5 b6 b7 b8 b9 b10 b11 b12
    go_wp2_with fail
    go_ret
    exact ⟨by first | rfl | simp, HB6.out⟩
end Go.Proofs.YtbapkamopelgpaaDoor
