/- The digest: Sum. -/
import Derived.Test.YtbapkamopelgpaaDoorFrameBytesK
import Derived.Lib.SlBytesRow
namespace Go.Proofs.YtbapkamopelgpaaDoor
open Go.RowKit Go.Stop Go.Extern Go.Ranges
set_option linter.unusedVariables false
set_option linter.unusedSimpArgs false
theorem oct_len (n : Nat) : oct ((n : Int) * 8) 8 = Sha.lenBytes n := by
  unfold oct Sha.lenBytes
  apply List.map_congr_left
  intro i hi
  rw [show (n : Int) * 8 = ((8 * n : Nat) : Int) by omega, Int.natCast_emod, Int.natCast_ediv, Int.natCast_pow]
  rfl
theorem oct_four (x : Sha.W) : oct (num x) 4 = Sha.four x := by
  have hx : ∀ k, num x / 2 ^ k % 256 = ((x >>> k).toNat % 256 : Nat) := fun k => by
    unfold num
    rw [BitVec.toNat_ushiftRight, Nat.shiftRight_eq_div_pow, Int.natCast_emod, Int.natCast_ediv, Int.natCast_pow]
    rfl
  have h0 := hx 0
  simp only [oct, Sha.four, List.range_succ, List.range_zero, List.nil_append, List.cons_append, List.map_cons, List.map_nil]
  rw [hx, hx, hx, hx]
  simp
theorem sched_congr {b b' : Nat → Sha.W} (h : ∀ i, i < 16 → b i = b' i) : ∀ n, Sha.sched b n = Sha.sched b' n
  | 0 => rfl
  | n + 1 => by
    have e := sched_congr h n
    show (fun l => l ++ [_]) (Sha.sched b n) = (fun l => l ++ [_]) (Sha.sched b' n)
    rw [e]
    by_cases hn : n < 16
    · simp only [if_pos hn, h n hn]
    · simp only [if_neg hn]
theorem mix_sub (L : List Int) (k : Nat) (hk : 64 * k + 64 ≤ L.length) (v : Sha.V) : Sha.mix ((L.drop (64 * k)).take 64) 0 v = Sha.mix L (64 * k) v := by
  have e : Sha.spread ((L.drop (64 * k)).take 64) 0 = Sha.spread L (64 * k) := by
    unfold Sha.spread
    refine sched_congr (fun i hi => ?_) 64
    have key : ∀ j, j < 64 → ((L.drop (64 * k)).take 64).getD j 0 = L.getD (64 * k + j) 0 := fun j hj => by
      rw [List.getD_eq_getElem?_getD, List.getD_eq_getElem?_getD, List.getElem?_take_of_lt hj, List.getElem?_drop]
    unfold Sha.wordAt
    rw [key _ (by omega), key _ (by omega), key _ (by omega), key _ (by omega)]
    simp only [Nat.zero_add, Nat.add_assoc]
  unfold Sha.mix
  rw [e]
/-- The first words lie where the program keeps them. -/
structure Start (w : World) : Prop where
  lt : 23 < w.heap.size
  has : hasRange w 23 0 8 = true
  is : isV (rangeOf w 23 0 8) Sha.start
theorem Start.below {w w' : World} (h : Start w) (hb : Below w.heap.size w w') : Start w' := by
  have h1 := range_of (w := w) (w' := w') (b := 23) (o := 0) (n := 8) (hb.block _ h.lt)
  have h2 := has_of (w := w) (w' := w') (b := 23) (o := 0) (n := 8) (hb.block _ h.lt)
  exact ⟨Nat.lt_of_lt_of_le h.lt hb.size, h2.trans h.has, by rw [h1]; exact h.is⟩
/-- An array of bytes that holds these numbers. -/
structure isOid (D : Array Value) (xs : List Int) : Prop where
  size : D.size = 32
  at_ : ∀ j, j < 32 → D[j]? = some (.int .u8 (xs.getD j 0))
/-- The message with so many noughts behind the first byte. -/
def withZ (L : List Int) (z : Nat) : List Int := L ++ [128] ++ List.replicate z 0
theorem withZ_succ (L : List Int) (z : Nat) : withZ L (z + 1) = withZ L z ++ [0] := by simp [withZ, List.replicate_succ', List.append_assoc]
theorem withZ_len (L : List Int) (z : Nat) : (withZ L z).length = L.length + 1 + z := by simp [withZ]; omega
theorem padded_eq (L : List Int) : Sha.padded L = withZ L (Sha.noughts L.length) ++ oct ((L.length : Int) * 8) 8 := by rw [oct_len]; rfl
theorem noughts_at (n z : Nat) (h : z < Sha.noughts n) : (n + 1 + z) % 64 ≠ 56 := by unfold Sha.noughts at h; omega
theorem noughts_end (n : Nat) : (n + 1 + Sha.noughts n) % 64 = 56 := by unfold Sha.noughts; omega
attribute [-go_sem] loadVar storeVar
attribute [local go_sem] loadVar_one storeVar_one
/-- Where eight words lie. -/
def Whole8 (w : World) (b : Nat) (v : Sha.V) : Prop := isRow w b 8 = true ∧ isV (rangeOf w b 0 8) v
theorem whole8_new (w : World) (C : Array Value) (v : Sha.V) (h : isV C v) : Whole8 (w.alloc (.cells C 147)) w.heap.size v := by
  refine ⟨isRow_new _ _ _ _ _ rfl h.size, ?_⟩
  rw [range_new _ _ _ _ _ _ _ rfl (by rw [h.size]; decide), Nat.zero_add, extract_all8 C h.size]
  exact h
def outUp (u : Sha.V) : Nat → List Int
  | 0 => []
  | j + 1 => outUp u j ++ Sha.four (vget u j)
theorem outUp_all (u : Sha.V) : outUp u 8 = Sha.out u := by simp [outUp, Sha.out, vget]
theorem num_wrap64 (z : Sha.W) : IntKind.u64.wrap (num z) = num z := by
  rw [IntKind.wrap_u64]
  have := num_lo z; have := num_hi z
  omega
theorem ix85 (w : World) (D : Array Value) (i : Nat) (x : Int) (hi : i < 8) (h : D[i]? = some (.int .u32 x)) : (Instr.index 147 (.agg D) (.int .i64 i)).run Tryd.prog w = .ok (.int .u32 x) w := by
  have h2 : (i : Int) < 8 := by omega
  have hz : (Go.sizeOf 126).run Tryd.prog w = .ok 1 w := by
    obtain ⟨r, hr, hr2⟩ : ∃ r, Tryd.prog.info? 126 = some r ∧ r.size = 1 := by
      have : (Tryd.prog.info? 126).map (·.size) = some 1 := by kernel_rfl
      cases hq : Tryd.prog.info? 126 with
      | none => simp [hq] at this
      | some r => simp [hq] at this; exact ⟨r, rfl, this⟩
    simp [Go.sizeOf, typeInfo, hr, hr2]
  simp [Instr.index, go_sem, Tryd.underlying147, h2, hz, h]
  intro h3
  omega
theorem ld25s (w : World) (b o : Nat) (h : hasRange w b o 32 = true) : (loadVar 118 ⟨b, o, none⟩).run Tryd.prog w = .ok (.agg (rangeOf w b o 32)) w :=
  var_range 32 Tryd.underlying118 rfl (by kernel_rfl) w b o h
theorem st25r (w : World) (b : Nat) (C : Array Value) (h : isRow w b 32 = true) (h2 : C.size = 32) (h3 : ones C = true) : (storeVar 118 ⟨b, 0, none⟩ (.agg C)).run Tryd.prog w = .ok () (w.setRow b C) :=
  store_row 32 (by kernel_rfl) w b C h h2 h3
theorem has_bytes {w : World} {g n : Nat} {xs : List Int} (h : Lib.BytesIn w (some ⟨g, 0, none⟩) n xs) (hn : 0 < n) : hasRange w g 0 n = true ∧ ∀ j, j < n → (rangeOf w g 0 n)[j]? = some (.int .u8 (xs.getD j 0)) := by
  obtain ⟨b', o', hbo, hc⟩ := h hn
  obtain ⟨rfl, rfl⟩ : g = b' ∧ 0 = o' := by simpa using hbo
  refine ⟨?_, fun j hj => rangeOf_get hj (hc j hj)⟩
  unfold hasRange
  rw [List.all_eq_true]
  intro j hj
  rw [hc j (List.mem_range.1 hj)]
  rfl
theorem arr25 (w : World) (g c : Nat) : (Instr.arrayAt 118 (.slice (some ⟨g, 0, none⟩) 32 c)).run Tryd.prog w = .ok (.pointer (some ⟨g, 0, none⟩)) w := by
  simp [Instr.arrayAt, go_sem, Tryd.underlying118]
theorem cat_bytes {f : Nat → List Int} : ∀ {m : Nat}, (∀ i, i < m → ∀ x ∈ f i, isByte x) → ∀ x ∈ cat f m, isByte x
  | 0, _, x, hx => by simp [cat] at hx
  | m + 1, h, x, hx => by
    simp only [cat, List.mem_append] at hx
    rcases hx with hx | hx
    · exact cat_bytes (fun i hi => h i (by omega)) x hx
    · exact h m (by omega) x hx
theorem padded_bytes {L : List Int} (h : ∀ x ∈ L, isByte x) : ∀ x ∈ Sha.padded L, isByte x := fun x hx => by
  unfold Sha.padded Sha.lenBytes at hx
  simp only [List.mem_append, List.mem_singleton, List.mem_replicate, List.mem_map] at hx
  rcases hx with ((hx | rfl) | ⟨_, rfl⟩) | ⟨i, _, rfl⟩
  · exact h x hx
  · exact ⟨by decide, by decide⟩
  · exact ⟨by decide, by decide⟩
  · unfold isByte; omega
/-- A slice's length, for a measure. -/
def sliceLen : Value → Nat | .slice _ n _ => n | _ => 0
/-- Where Sum stands: its result's block whole, its bytes its own. -/
structure St (w wr : World) (v : Value) (n : Nat) (xs : List Int) : Prop where
  below : Below w.heap.size w wr
  row : isRow wr w.heap.size 32 = true
  own : wr.ownsRow (w.heap.size + 1) 5 1 v n (bV xs)
theorem St.lt {w wr : World} {v : Value} {n : Nat} {xs : List Int} (h : St w wr v n xs) : w.heap.size + 1 ≤ wr.heap.size := isRow_lt h.row
/-- One step of appending, behind whatever was made meanwhile. -/
theorem St.app {w wr wm w1 : World} {v v' : Value} {n n' : Nat} {xs ys : List Int} (h : St w wr v n xs) (hm : Below wr.heap.size wr wm) (hg : wm.grownBy w1 v.ownBlock) (ho : w1.ownsRow (w.heap.size + 1) 5 1 v' n' (bV ys)) : St w w1 v' n' ys := by
  have hz := h.lt
  have hlt := h.own.lt
  refine ⟨((h.below.trans (hm.mono (by omega))).grown hg (by have := hm.size; omega) (fun k hk => by have := hlt k hk; omega)), ?_, ho⟩
  have e1 : w1.heap[w.heap.size]? = wm.heap[w.heap.size]? := hg.block _ (by have := hm.size; omega) (fun e => by have := hlt _ e.symm; omega)
  exact (isRow_of (e1.trans (hm.block _ (by omega)))).trans h.row
theorem St.keep {w wr w1 : World} {v : Value} {n : Nat} {xs : List Int} (h : St w wr v n xs) (hm : Below wr.heap.size wr w1) : St w w1 v n xs :=
  ⟨h.below.trans (hm.mono (by have := h.lt; omega)), (isRow_of (hm.block _ (by have := h.lt; omega))).trans h.row, own_keep h.own hm⟩
def zero32b : Array Value := Array.replicate 32 (.int .u8 0)
theorem zero32b_lit : (#[.int .u8 0, .int .u8 0, .int .u8 0, .int .u8 0, .int .u8 0, .int .u8 0, .int .u8 0, .int .u8 0, .int .u8 0, .int .u8 0, .int .u8 0, .int .u8 0, .int .u8 0, .int .u8 0, .int .u8 0, .int .u8 0, .int .u8 0, .int .u8 0, .int .u8 0, .int .u8 0, .int .u8 0, .int .u8 0, .int .u8 0, .int .u8 0, .int .u8 0, .int .u8 0, .int .u8 0, .int .u8 0, .int .u8 0, .int .u8 0, .int .u8 0, .int .u8 0] : Array Value) = zero32b := by kernel_rfl
theorem zero32b_size : zero32b.size = 32 := by simp [zero32b]
attribute [local go_sem] zero8_lit zero8_size zero32b_lit zero32b_size
set_option maxRecDepth 20000 in
set_option maxHeartbeats 4000000 in
theorem sum_any (A : Option Addr) (m c : Nat) (f : Nat → List Int) (w : World) (hP : PartsAt w A m f) (hb : ∀ i, i < m → ∀ x ∈ f i, isByte x) (hL : (cat f m).length ≤ 274877906944) (hm : m ≤ maxLen) (hG : Grains w) (hS : Start w) :
    Calls Tryd.prog 76 #[.slice A m c] w fun e w' => ∃ D, e = .returned (.agg D) ∧ isOid D (Sha.sum (cat f m)) ∧ Below w.heap.size w w' := by
  have KP := Lib.hid hP
  have Kb := Lib.hid hb
  have KG := Lib.hid hG
  have KS := Lib.hid hS
  have Km := Lib.hid hm
  clear hP hb hG hS hm
  obtain ⟨it, j1, j2, j3, j4⟩ := of_row1 row5
  go_enter Tryd.func76, Tryd.ntmps76
  go_wp2_with fail
  have hB0 : Below w.heap.size w (w.alloc (.cells zero32b 118)) := (Below.refl _ _).alloc (Nat.le_refl _) _
  have hR0 : isRow (w.alloc (.cells zero32b 118)) w.heap.size 32 = true := by simp [go_sem]
  have hz0 : (w.alloc (.cells zero32b 118)).heap.size = w.heap.size + 1 := by simp
  generalize w.alloc (.cells zero32b 118) = W0 at *
  refine (concat_any A m c f W0 (KP.out.below hB0) (by omega) Km.out).mono ?_
  rintro e1 W1 ⟨v1, rfl, hb1, ho1⟩
  obtain ⟨A1, c1, rfl⟩ := own_slice ho1
  have hR1 := (isRow_of (hb1.block w.heap.size (by omega))).trans hR0
  have hB1 := hB0.trans (hb1.mono hB0.size)
  have hz1 : w.heap.size + 1 ≤ W1.heap.size := by have := hb1.size; omega
  rw [hz0] at ho1
  generalize hX : cat f m = L at *
  have KX := Lib.hid hX
  clear hX hR0 hB0 hb1
  obtain ⟨N, hN⟩ : ∃ N, N = L.length := ⟨_, rfl⟩
  rw [← hN] at ho1 hL ⊢
  have KN := Lib.hid hN
  have KO1 := Lib.hid ho1
  have KB1 := Lib.hid hB1
  clear hN ho1 hB1
  go_wp2_with (at_builtin; go_loud (refine wpList_append_lies _ rfl (.tmp 16) (.tmp 17) 22 rfl (w.heap.size + 1) 5 it (.int .u8 0) 1 1 Tryd.underlying22 j1 j2 j3 j4 rfl (by decide) (.slice A1 N c1) N (bV L) rfl (KO1.out.alloc _) ⟨W1.heap.size, 0, none⟩ 1 1 [.int .u8 128] rfl rfl (one_new _ _ _) (one_one _) (by decide) (by unfold maxLen; omega) (by omega) (by simp; omega) _ rfl ?_); intro gn cn W2 hown hgrow hat hltn)
  have hst : St w W2 (.slice (some ⟨gn, 0, none⟩) (N + 1) cn) (N + 1) (withZ L 0) := by
    have h1 : St w W1 (.slice A1 N c1) N L := ⟨KB1.out, hR1, KO1.out⟩
    exact h1.app ((Below.refl _ W1).alloc (Nat.le_refl _) _) hgrow (by
      have e : bV (withZ L 0) = bV L ++ [.int .u8 128] := by simp [withZ, bV]
      rw [e]; exact hown)
  have KT := Lib.hid hst
  clear hst hown hgrow hat hltn KO1 KB1 hR1 hz0 hz1
  go_loopw [3] (fun y wr => ∃ (z : Nat) (g c : Nat), z ≤ Sha.noughts N ∧ .slice (some ⟨g, 0, none⟩) (N + 1 + z) c = y ∧ St w wr (.slice (some ⟨g, 0, none⟩) (N + 1 + z) c) (N + 1 + z) (withZ L z)) (fun y _ => N + 1 + Sha.noughts N - sliceLen y)
  case atStart => exact ⟨0, _, _, Nat.zero_le _, rfl, KT.out⟩
  case round =>
    obtain ⟨z, g, c0, hz, rfl, hst⟩ := hrel
    have HT := Lib.hid hst
    have hlt0 := hst.lt
    clear hst
    by_cases hlt : z < Sha.noughts N
    · have hne := noughts_at N z hlt
      have hne2 : ((((N + 1 + z : Nat) : Int).tmod 64) != 56) = true := by
        rw [Int.tmod_eq_emod_of_nonneg (by omega)]
        simp only [bne_iff_ne, ne_eq]
        omega
      have hN2 : N + 1 + z ≤ 1099511627776 := by unfold Sha.noughts at hz; omega
      go_wp2_with (at_builtin; go_loud (refine wpList_append_lies _ rfl (.tmp 23) (.tmp 24) 22 rfl (w.heap.size + 1) 5 it (.int .u8 0) 1 1 Tryd.underlying22 j1 j2 j3 j4 rfl (by decide) (.slice (some ⟨g, 0, none⟩) (N + 1 + z) c0) (N + 1 + z) (bV (withZ L z)) rfl (HT.out.own.alloc _) ⟨wr.heap.size, 0, none⟩ 1 1 [.int .u8 0] rfl rfl (one_new _ _ _) (one_one _) (by decide) (by unfold maxLen; omega) (by omega) (by simp; omega) _ rfl ?_); intro gn2 cn2 w2 hown hgrow hat hltn)
      go_round
      case rel =>
        refine ⟨z + 1, gn2, cn2, by omega, by first | rfl | trivial, HT.out.app ((Below.refl _ wr).alloc (Nat.le_refl _) _) hgrow ?_⟩
        have e : bV (withZ L (z + 1)) = bV (withZ L z) ++ [.int .u8 0] := by rw [withZ_succ, bV_append]; rfl
        rw [e]
        exact hown
      case measure => simp only [sliceLen]; omega
    · have hze : z = Sha.noughts N := by omega
      subst hze
      have hne := noughts_end N
      have hne2 : ((((N + 1 + Sha.noughts N : Nat) : Int).tmod 64) != 56) = false := by
        rw [Int.tmod_eq_emod_of_nonneg (by omega)]
        simp only [bne_eq_false_iff_eq]
        omega
      obtain ⟨z, hzz⟩ : ∃ z, z = Sha.noughts N := ⟨_, rfl⟩
      rw [← hzz] at hne hne2 HT hz ⊢
      have KZ := Lib.hid hzz
      clear hzz hz hlt
      have hoct := Lib.hid (fun w' => octets_any ((N : Int) * 8) 8 (by decide) (by omega) w')
      have hNz : N + 1 + z + 8 ≤ 1099511627776 := by have := KZ.out; unfold Sha.noughts at this; omega
      have l85 := ld85
      have s85n := st85n
      have hpad : Hid (withZ L z ++ oct ((N : Int) * 8) 8 = Sha.padded L) := by
        show _ = _
        rw [padded_eq, ← KN.out, ← KZ.out]
      go_wp2_with (first
        | (go_at_call 91
           refine (hoct.out _).mono ?_
           rintro e w2 ⟨v2, rfl, hb2, ho2⟩
           obtain ⟨A2, c2, rfl⟩ := own_slice ho2
           have T2 := HT.out.keep hb2
           obtain ⟨v3, w3, hr3, ho3, hg3⟩ := app_bytes T2.own A2 8 c2 _ (by simp [oct]) (own_bytes ho2) T2.lt hNz
           have T3 := T2.app (Below.refl _ _) hg3 (hpad.out ▸ ho3)
           have S3 := Lib.hid (KS.out.below T3.below)
           have T3k := Lib.hid T3
           have e85 := S3.out.has
           have e86 := S3.out.is.size
           have e87 := isV_ones S3.out.is
           obtain ⟨g3, c3, rfl, hgc, hgm, hgl⟩ := own_form8 T3k.out.own (by omega)
           clear T2 T3 hb2 ho2 ho3 hg3)
        | (at_builtin; go_loud (refine Lib.wpList_append_run _ rfl (.tmp 26) (.tmp 28) 22 22 rfl _ _ rfl rfl _ _ hr3 ?_)))
      have KS0 := Lib.hid (S3.out.is)
      obtain ⟨P, hP⟩ : ∃ P, P = Sha.padded L := ⟨_, rfl⟩
      have KP3 := Lib.hid hP
      rw [← hP] at T3k
      have hPb : Hid (∀ x ∈ P, isByte x) := fun x hx => by
        rw [hP] at hx
        exact padded_bytes (fun y hy => cat_bytes Kb.out y (by rw [KX.out]; exact hy)) x hx
      clear hP hpad
      generalize hM : N + 1 + z + 8 = M at *
      have hPl : Hid (P.length = M) := own_len T3k.out.own
      have hR3 := Lib.hid T3k.out.row
      have hBy := own_bytes T3k.out.own
      have hl3 := T3k.out.lt
      have e85' := size_rangeOf w3 23 0 8
      have hC0 : Whole8 (w3.alloc (.cells (rangeOf w3 23 0 8) 147)) w3.heap.size Sha.start := whole8_new w3 _ _ KS0.out
      generalize hWc : w3.alloc (.cells (rangeOf w3 23 0 8) 147) = Wc at *
      have hbc : Below w3.heap.size w3 Wc := by rw [← hWc]; exact (Below.refl _ _).alloc (Nat.le_refl _) _
      have hzc : Wc.heap.size = w3.heap.size + 1 := by rw [← hWc]; simp
      clear hWc
      obtain ⟨nb, hnb⟩ : ∃ nb, M = 64 * nb := ⟨M / 64, by omega⟩
      have KC0 := Lib.hid hC0
      have KBc := Lib.hid hbc
      have KBy := Lib.hid hBy
      have KT3 := T3k
      clear hC0 hbc hBy e85 e86 e87 e85'
      subst hnb
      go_loopw [6] (fun x wr => ∃ k : Nat, k ≤ nb ∧ x = .int .i64 ((64 * k : Nat) : Int) ∧ Below w3.heap.size Wc wr ∧ Whole8 wr w3.heap.size (Sha.blocks P k Sha.start)) (fun x _ => nb - (intOf x).toNat / 64)
      case atStart => exact ⟨0, Nat.zero_le _, rfl, Below.refl _ _, KC0.out⟩
      case round =>
        obtain ⟨k, hk, rfl, hB, hW⟩ := hrel
        have HB := Lib.hid hB
        have HW := Lib.hid hW
        obtain ⟨hwr, hwv⟩ := hW
        have hhas : hasRange wr w3.heap.size 0 8 = true := has_row hwr (by omega)
        clear hB
        by_cases hlt : k < nb
        · have hlt2 : ((64 * k : Nat) : Int) < ((64 * nb : Nat) : Int) := by omega
          go_wp2_with fail
          have HBV := Lib.hid HB.out.drew
          have hu : Hid (Sha.blocks P (k + 1) Sha.start = Sha.mix P (64 * k) (Sha.blocks P k Sha.start)) := rfl
          generalize Sha.blocks P k Sha.start = u at *
          have HV5 := Lib.hid hwv
          clear hwv
          have hcap : 64 * k + 64 ≤ c3 := by omega
          obtain ⟨V, hV⟩ : ∃ V, V = wr.drew := ⟨_, rfl⟩
          have HBV : Hid (Below w3.heap.size Wc V) := hV ▸ HBV.out
          have hsub : Lib.BytesIn V (some ⟨g3, 64 * k, none⟩) 64 ((P.drop (64 * k)).take 64) := fun _ => by
            obtain ⟨b', o', hbo, hcx⟩ := KBy.out (by omega)
            obtain ⟨rfl, rfl⟩ : g3 = b' ∧ 0 = o' := by simpa using hbo
            refine ⟨g3, _, rfl, fun j hj => ?_⟩
            have h1 := hcx (64 * k + j) (by omega)
            have e : V.cell? ⟨g3, 0 + (64 * k + j), none⟩ = w3.cell? ⟨g3, 0 + (64 * k + j), none⟩ := (HBV.out.cell (p := ⟨g3, 0 + (64 * k + j), none⟩) hgl).trans (KBc.out.cell (p := ⟨g3, 0 + (64 * k + j), none⟩) hgl)
            rw [Nat.zero_add] at e h1
            rw [e, h1, List.getD_eq_getElem?_getD, List.getD_eq_getElem?_getD, List.getElem?_take_of_lt hj, List.getElem?_drop]
          have hGV : Grains V := (KG.out.below KT3.out.below).below (KBc.out.trans (HBV.out.mono (Nat.le_refl _)))
          have hmix := mix_any (rangeOf wr w3.heap.size 0 8) u g3 (64 * k) 64 (c3 - 64 * k) ((P.drop (64 * k)).take 64) V HV5.out (by rw [List.length_take, List.length_drop, hPl.out]; omega) rfl (by omega) (by omega) (fun x hx => hPb.out x (List.mem_of_mem_drop (List.mem_of_mem_take hx))) hsub hGV
          rw [mix_sub P k (by rw [hPl.out]; omega)] at hmix
          have KM := Lib.hid hmix
          clear hmix hsub hGV
          subst hV
          have hlq : w3.heap.size < wr.heap.size := isRow_lt hwr
          have hkm : 64 * k + 64 ≤ 9223372036854775807 := by unfold maxLen at hgm; omega
          have hsum : IntKind.i64.wrap (64 * (k : Int) + 64) = 64 * (k : Int) + 64 := by rw [IntKind.wrap_i64]; omega
          have hsl : ∀ W, (Instr.slice 22 (.slice (some ⟨g3, 0, none⟩) (64 * nb) c3) (some (.int .i64 ((64 * k : Nat) : Int))) (some (.int .i64 ((64 * k + 64 : Nat) : Int))) none).run Tryd.prog W = .ok (.slice (some ⟨g3, 64 * k, none⟩) 64 (c3 - 64 * k)) W := fun W => by
            have := Lib.run_slice_window (P := Tryd.prog) W 22 5 Tryd.underlying22 size_u8 g3 0 (64 * nb) c3 (64 * k) (64 * k + 64) (by omega) hcap
            rw [this]
            congr 2
            · congr 2; omega
            · omega
          go_region_with (
            go_at_call 92
            with_reducible refine KM.out.mono ?_
            rintro e w4 ⟨D, rfl, hD, hb4⟩
            have r4 : isRow w4 w3.heap.size 8 = true := (isRow_of (hb4.block w3.heap.size hlq)).trans hwr
            have s85 := fun w b h => st85 w b D h hD.size (isV_ones hD)
            have KD := Lib.hid hD
            have Kb4 := Lib.hid hb4
            clear hD hb4)
          all_goals
            go_wp2_with fail
            go_round
            case rel =>
              refine ⟨k + 1, by omega, by go_num, below_setRow (HBV.out.trans (Kb4.out.mono (by have := KBc.out.size; have := HB.out.size; simp; omega))) (Nat.le_refl _) _, isRow_setRow _ _ _ _ r4 KD.out.size, ?_⟩
              rw [range_setRow_all r4 _ KD.out.size, hu.out]
              exact KD.out
            case measure => simp only [intOf]; omega
        · have hke : k = nb := by omega
          subst hke
          have hlt2 : ¬ ((64 * k : Nat) : Int) < ((64 * k : Nat) : Int) := by omega
          have hT4 : St w wr (.slice (some ⟨g3, 0, none⟩) (64 * k) c3) (64 * k) P := KT3.out.keep (KBc.out.trans (HB.out.mono (Nat.le_refl _)))
          have HR4 := Lib.hid hT4.row
          have HB4 := Lib.hid hT4.below
          have hz4 := hT4.lt
          clear hT4
          have hfin : Hid (Sha.sum L = Sha.out (Sha.blocks P k Sha.start)) := by
            show _ = _
            show Sha.out (Sha.blocks (Sha.padded L) ((Sha.padded L).length / 64) Sha.start) = _
            rw [← KP3.out, hPl.out, Nat.mul_div_cancel_left _ (by decide)]
          generalize Sha.blocks P k Sha.start = u at *
          obtain ⟨C5, hC5⟩ : ∃ C5, C5 = rangeOf wr w3.heap.size 0 8 := ⟨_, rfl⟩
          rw [← hC5] at hwv
          replace hC5 := hC5.symm
          have HV5 := Lib.hid hwv
          clear hwv
          go_wp2_with fail
          obtain ⟨W5, rfl⟩ : ∃ x, x = wr := ⟨_, rfl⟩
          go_loopw [45, 7] (fun x y wr => ∃ (j : Nat) (v : Value), j ≤ 8 ∧ x = .int .i64 j ∧ v = y ∧ St w wr v (4 * j) (outUp u j)) (fun x _ _ => 8 - (intOf x).toNat)
          case atStart => exact ⟨0, _, Nat.zero_le _, rfl, rfl, HB4.out, HR4.out, World.ownsRow_nil _ _ _ _⟩
          case round =>
            obtain ⟨j, v, hj, rfl, rfl, hst⟩ := hrel
            have HT := Lib.hid hst
            clear hst
            by_cases hlt : j < 8
            · have ixw := fun w => ix85 w C5 j _ hlt (HV5.out.at_ j hlt)
              have nw := num_wrap64 (vget u j)
              have hoct := Lib.hid (fun w' => octets_any (num (vget u j)) 4 (by decide) (num_lo _) w')
              have hnext : Hid (outUp u j ++ oct (num (vget u j)) 4 = outUp u (j + 1)) := by show _ = _; rw [oct_four]; rfl
              go_wp2_with (first
                | (go_at_call 91
                   refine (hoct.out _).mono ?_
                   rintro e w6 ⟨v6, rfl, hb6, ho6⟩
                   obtain ⟨A6, c6, rfl⟩ := own_slice ho6
                   have T6 := HT.out.keep hb6
                   obtain ⟨v7, w7, hr7, ho7, hg7⟩ := app_bytes T6.own A6 4 c6 _ (by simp [oct]) (own_bytes ho6) T6.lt (by omega)
                   have T7 := Lib.hid (T6.app (Below.refl _ _) hg7 (hnext.out ▸ ho7))
                   clear T6 hb6 ho6 ho7 hg7)
                | (at_builtin; go_loud (refine Lib.wpList_append_run _ rfl (.tmp 48) (.tmp 51) 22 22 rfl _ _ rfl rfl _ _ hr7 ?_)))
              go_round
              case rel => exact ⟨j + 1, _, by omega, by go_num, rfl, T7.out⟩
              case measure => simp only [intOf]; omega
            · have hje : j = 8 := by omega
              subst hje
              obtain ⟨g8, c8, rfl, hgc8, hgm8, hgl8⟩ := own_form8 HT.out.own (by decide)
              obtain ⟨q1, q2⟩ := has_bytes (own_bytes HT.out.own) (by decide)
              have KQ := Lib.hid q2
              have q3 := HT.out.row
              have q4 := size_rangeOf wr g8 0 32
              have l25 := ld25s
              have q5 : ones (rangeOf wr g8 0 32) = true := by
                unfold ones
                rw [Array.all_eq_true]
                intro i hi
                have := KQ.out i (by rw [q4] at hi; exact hi)
                rw [Array.getElem?_eq_getElem hi] at this
                injection this with this
                rw [this]; rfl
              have s25 := fun w b h => st25r w b (rangeOf wr g8 0 32) h q4 q5
              clear q2
              have a25 := arr25
              go_wp2_with fail
              have hres := range_setRow_all q3 _ q4
              have hhas : hasRange (wr.setRow w.heap.size (rangeOf wr g8 0 32)) w.heap.size 0 32 = true := has_row (isRow_setRow _ _ _ _ q3 q4) (by omega)
              refine bodyPost_ret (v := .agg (rangeOf wr g8 0 32)) (by simp [results, Tryd.results76, go_sem, l25, hres, hhas]) rfl ⟨_, rfl, ⟨q4, fun j hj => ?_⟩, below_setRow HT.out.below (Nat.le_refl _) _⟩
              rw [KX.out, hfin.out, ← outUp_all]
              exact KQ.out j hj
end Go.Proofs.YtbapkamopelgpaaDoor
