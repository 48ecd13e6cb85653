/- Frames, plainly: the bytes that are read are the frame's own. octets, the reference: letters. octets, the reference: rows of its fields; parts of bytes; a number of eight bytes. octets, the reference: what its loop keeps. -/
import Derived.Test.YtbapkamopelgpaaDoorFrameBytesYE
namespace Go.Proofs.YtbapkamopelgpaaDoor
set_option linter.unusedVariables false
set_option linter.unusedSimpArgs false
set_option maxRecDepth 20000
theorem magic_ok : BytesOk magicL := fun y hy => by
  simp only [magicL, List.mem_cons, List.not_mem_nil, or_false] at hy
  rcases hy with rfl | rfl | rfl | rfl <;> decide
theorem one_byte {l : List Int} (h : BytesOk l) : 0 ≤ rdBE (l.take 1) ∧ rdBE (l.take 1) ≤ 255 := by
  have h1 := rdBE_bd (l.take 1) (h.take 1)
  match l with
  | [] => exact ⟨h1.1, by decide⟩
  | a :: t =>
    have e : rdBE ((a :: t).take 1) = a := by simp [rdBE]
    rw [e]
    have := h a (by simp)
    omega
theorem text_le {l : List Int} (h : BytesOk l) : ((l.drop 2).take (rdBE (l.take 2)).toNat).length ≤ 65535 := by
  have h1 := rdBE_bd (l.take 2) (h.take 2)
  have h2 : (l.take 2).length ≤ 2 := by rw [List.length_take]; omega
  have h3 : (256 : Int) ^ (l.take 2).length ≤ 65536 := by
    have : (l.take 2).length = 0 ∨ (l.take 2).length = 1 ∨ (l.take 2).length = 2 := by omega
    rcases this with e | e | e <;> rw [e] <;> decide
  rw [List.length_take]
  omega
theorem read_zero {s : List UInt8} {ys : List Int} {n : Nat} (h : readC s ys n = 0) : rdErr s ys n = 0 ∧ (rdLeft s ys n).length = 0 := by
  unfold readC at h
  split at h
  · rename_i h1; exact absurd h h1
  · rename_i h1
    split at h
    · rename_i h2; exact ⟨by omega, h2⟩
    · cases h
/-- What was read is what it is laid as. -/
theorem pr_base {xs : List Int} (hb : BytesOk xs) (h4 : ¬ xs.length < 4) (hm : bytesEq (xs.take 4) magicL = true) (hr : readC frS5.data.toList (xs.drop 4) 5 = 0) :
    frBase (prF xs) = xs.take (xs.length - 4) ∧ (0 ≤ (prF xs).k ∧ (prF xs).k ≤ 255) ∧ (0 ≤ (prF xs).f ∧ (prF xs).f ≤ 255) ∧ (0 ≤ (prF xs).t ∧ (prF xs).t ≤ 255) ∧ BytesOk (prF xs).body ∧ (prF xs).body.length ≤ 65535 := by
  have hmag : xs.take 4 = magicL := (bytesEq_iff (fun x hx => hb x (List.mem_of_mem_take hx)) magic_ok).1 hm
  obtain ⟨hE, hL⟩ := read_zero hr
  have hbd := hb.drop 4
  have hl4 : (xs.drop 4).length = xs.length - 4 := List.length_drop
  have e1 : 8 ≤ xs.length → xs.take (xs.length - 4) = xs.take 4 ++ (xs.drop 4).take (xs.length - 8) := fun h => by
    rw [← List.take_add]
    congr 1
    omega
  unfold prF
  generalize xs.drop 4 = ys at *
  have h4E := rdErr_zero hE 4 (by decide)
  have hall := oc_rd_all hbd 4 (fun i hi => s5_known i (by omega)) h4E
  have h5 : rdC 119 (rdLeft frS5.data.toList ys 4) = 0 := by
    have : (if rdErr frS5.data.toList ys 4 ≠ 0 then rdErr frS5.data.toList ys 4 else rdC 119 (rdLeft frS5.data.toList ys 4)) = 0 := hE
    rw [h4E, if_neg (fun h => h rfl)] at this
    exact this
  have h6 : 4 ≤ (rdLeft frS5.data.toList ys 4).length := by
    by_cases h : (rdLeft frS5.data.toList ys 4).length < 4
    · unfold rdC at h5
      rw [if_neg (by decide), if_neg (by decide), if_neg (by decide), show ocSize 119 = 4 from rfl, if_pos h] at h5
      cases h5
    · omega
  have h7 : (rdLeft frS5.data.toList ys 4).length = 4 := by
    have : ((rdLeft frS5.data.toList ys 4).drop (rdLen 119 (rdLeft frS5.data.toList ys 4))).length = 0 := hL
    rw [List.length_drop, show rdLen 119 (rdLeft frS5.data.toList ys 4) = 4 from rfl] at this
    omega
  have hlen : (ocAll frS5.data.toList (rdFN frS5.data.toList ys) (rdFB frS5.data.toList ys) 4).length = xs.length - 8 := by
    have := congrArg List.length hall
    rw [List.length_append, h7] at this
    omega
  have hk := fun k => rdLeft_ok (s := frS5.data.toList) hbd k
  refine ⟨?_, one_byte (hk 0), one_byte (hk 1), one_byte (hk 2), ?_, text_le (hk 3)⟩
  · have h8 := congrArg List.length hall
    rw [List.length_append, h7] at h8
    rw [e1 (by omega), hmag, ← hlen]
    have e2 : ys.take (ocAll frS5.data.toList (rdFN frS5.data.toList ys) (rdFB frS5.data.toList ys) 4).length = ocAll frS5.data.toList (rdFN frS5.data.toList ys) (rdFB frS5.data.toList ys) 4 := by
      conv => lhs; arg 2; rw [← hall]
      rw [List.take_append_of_le_length (Nat.le_refl _), List.take_of_length_le (Nat.le_refl _)]
    rw [e2]
    rfl
  · exact ((hk 3).drop 2).take _
end Go.Proofs.YtbapkamopelgpaaDoor

namespace Go.Proofs.YtbapkamopelgpaaDoor
open Go.RowKit Go.Stop Go.Extern Go.Ranges Go.Rows2
set_option linter.unusedVariables false
set_option linter.unusedSimpArgs false
set_option maxRecDepth 20000
/-- The reference's size of a letter. -/
def rfSize (c : UInt8) : Int := if 0 < ocSize c then (ocSize c : Int) else if c = 111 ∨ c = 116 then 0 else -1
theorem rfSize_known {c : UInt8} (h : ocKnown c = true) : rfSize c = (ocSize c : Int) := by
  unfold rfSize
  by_cases h1 : 0 < ocSize c
  · rw [if_pos h1]
  · rw [if_neg h1]
    have h0 : ocSize c = 0 := by omega
    rw [h0, if_pos]
    · rfl
    · unfold ocKnown at h
      unfold ocSize at h0
      by_cases e1 : c = 98
      · rw [if_pos e1] at h0; cases h0
      · by_cases e2 : c = 119
        · rw [if_neg e1, if_pos e2] at h0; cases h0
        · by_cases e3 : c = 113
          · rw [if_neg e1, if_neg e2, if_pos e3] at h0; cases h0
          · simp [e1, e2, e3] at h
            exact h
theorem rfSize_neg {c : UInt8} (h : ocKnown c = false) : rfSize c = -1 := by
  unfold ocKnown at h
  simp only [Bool.or_eq_false_iff, beq_eq_false_iff_ne, ne_eq] at h
  obtain ⟨⟨⟨⟨h1, h2⟩, h3⟩, h4⟩, h5⟩ := h
  unfold rfSize ocSize
  rw [if_neg h1, if_neg h2, if_neg h3, if_neg (by decide), if_neg (by rintro (e | e); exact h4 e; exact h5 e)]
theorem size02_any (c : UInt8) (w : World) : Calls Tryd.prog 78 #[.int .u8 c.toNat] w fun e w' => e = .returned (.int .i64 (rfSize c)) ∧ w = w' := by
  by_cases h1 : c = 98
  · subst h1
    go_enter Tryd.func78, Tryd.ntmps78
    go_wp2
    go_ret
    exact ⟨rfl, rfl⟩
  · by_cases h2 : c = 119
    · subst h2
      go_enter Tryd.func78, Tryd.ntmps78
      go_wp2
      go_ret
      exact ⟨rfl, rfl⟩
    · by_cases h3 : c = 113
      · subst h3
        go_enter Tryd.func78, Tryd.ntmps78
        go_wp2
        go_ret
        exact ⟨rfl, rfl⟩
      · by_cases h4 : c = 111
        · subst h4
          go_enter Tryd.func78, Tryd.ntmps78
          go_wp2
          go_ret
          exact ⟨rfl, rfl⟩
        · by_cases h5 : c = 116
          · subst h5
            go_enter Tryd.func78, Tryd.ntmps78
            go_wp2
            go_ret
            exact ⟨rfl, rfl⟩
          · have hk : ocKnown c = false := by unfold ocKnown; simp [h1, h2, h3, h4, h5]
            have nb : ∀ (d : UInt8), c ≠ d → ((c.toNat : Int) == (d.toNat : Int)) = false := fun d hd => by
              have : c.toNat ≠ d.toNat := fun e => hd (UInt8.toNat_inj.1 e)
              rw [beq_eq_false_iff_ne]; omega
            have n1 : ((c.toNat : Int) == 98) = false := nb 98 h1
            have n2 : ((c.toNat : Int) == 119) = false := nb 119 h2
            have n3 : ((c.toNat : Int) == 113) = false := nb 113 h3
            have n4 : ((c.toNat : Int) == 111) = false := nb 111 h4
            have n5 : ((c.toNat : Int) == 116) = false := nb 116 h5
            rw [rfSize_neg hk]
            clear h1 h2 h3 h4 h5 hk nb
            go_enter Tryd.func78, Tryd.ntmps78
            go_wp2
            go_ret
            exact ⟨rfl, rfl⟩
theorem at_u8 (s : ByteArray) (k : Nat) (h : k < s.size) : s[k] = s.data.toList.getD k 0 := by
  have h2 : k < s.data.toList.length := by simpa using h
  rw [List.getD_eq_getElem?_getD, List.getElem?_eq_getElem h2]
  rfl
theorem known02_any (s : ByteArray) (w : World) (hs : s.size ≤ 100000) (hk : s.data.toList.all ocKnown = true) : Calls Tryd.prog 77 #[.string s] w fun e w' => e = .returned (.bool true) ∧ w = w' := by
  have HK := Lib.hid hk
  clear hk
  go_enter Tryd.func77, Tryd.ntmps77
  go_wp2_with fail
  go_loop [3] (fun i => ∃ k : Nat, k ≤ s.size ∧ i = .int .i64 k) (fun i => s.size - (intOf i).toNat)
  case atStart => exact ⟨0, Nat.zero_le _, rfl⟩
  case round =>
    obtain ⟨k, hk, rfl⟩ := hrel
    by_cases hlt : k < s.size
    · have hd : decide ((k : Int) < (s.size : Int)) = true := by simp; omega
      have hkc : ocKnown (s.data.toList.getD k 0) = true := by
        have := List.all_eq_true.1 HK.out (s.data.toList.getD k 0) (by
          rw [List.getD_eq_getElem?_getD, List.getElem?_eq_getElem (by simpa using hlt)]
          exact List.getElem_mem _)
        exact this
      have KS := Lib.hid (size02_any (s.data.toList.getD k 0) w)
      rw [rfSize_known hkc] at KS
      have hat := Lib.hid (at_u8 s k hlt)
      clear hkc
      go_wp2_with fail
      rw [hat.out]
      refine KS.out.mono ?_
      rintro e w1 ⟨rfl, rfl⟩
      go_wp2_with fail
      go_round
      case rel => exact ⟨k + 1, by omega, by go_num⟩
      case measure => simp [intOf]; omega
    · have hd : decide ((k : Int) < (s.size : Int)) = false := by simp; omega
      go_wp2_with fail
      go_ret
      exact ⟨rfl, rfl⟩
end Go.Proofs.YtbapkamopelgpaaDoor

namespace Go.Proofs.YtbapkamopelgpaaDoor
open Go.RowKit Go.Stop Go.Extern Go.Ranges Go.Rows2
set_option linter.unusedVariables false
set_option linter.unusedSimpArgs false
set_option maxRecDepth 20000
theorem rowField2 : (Tryd.prog.info? 102).map (fun i => (i.zero, i.size, i.bytes)) = some (some (.agg #[.int .i64 0, .slice none 0 0]), 2, 32) := by kernel_rfl
/-- A row of the reference's fields. -/
structure RG (w : World) (base : Nat) (v : Value) (n : Nat) (xs : List Value) (N : Nat → Int) (B : Nat → List Int) : Prop where
  own : w.ownsRow base 102 2 v n xs
  el : ∀ i, i < n → ∃ D c, xs[2 * i]? = some (.int .i64 (N i)) ∧ xs[2 * i + 1]? = some (.slice D (B i).length c) ∧ ByteS w (fun k => k < base ∧ some k ≠ v.ownBlock) D (B i)
theorem RG.below {w w' : World} {base : Nat} {v : Value} {n : Nat} {xs : List Value} {N : Nat → Int} {B : Nat → List Int} (h   : RG w base v n xs N B) (hb : Below w.heap.size w w')   : RG w' base v n xs N B :=
  ⟨own_keep h.own hb, fun i hi => by
    obtain ⟨D, c, h1, h2, h3⟩ := h.el i hi
    exact ⟨D, c, h1, h2, h3.below hb⟩⟩
theorem RG.len {w : World} {base : Nat} {v : Value} {n : Nat} {xs : List Value} {N : Nat → Int} {B : Nat → List Int} (h   : RG w base v n xs N B) : xs.length = 2 * n := by have := h.own.1; omega
theorem RG.push {w w' : World} {base : Nat} {v : Value} {n : Nat} {xs : List Value} {N : Nat → Int} {B : Nat → List Int} (h   : RG w base v n xs N B) {D : Option Addr} {c g cap : Nat} (hD : ByteS w (fun k => k < base ∧ some k ≠ v.ownBlock) D (B n))
    (ho : w'.ownsRow base 102 2 (.slice (some ⟨g, 0, none⟩) (n + 1) cap) (n + 1) (xs ++ [.int .i64 (N n), .slice D (B n).length c])) (hg : w.grownBy w' v.ownBlock) (hat : v.ownBlock = some g ∨ g = w.heap.size) :
    RG w' base (.slice (some ⟨g, 0, none⟩) (n + 1) cap) (n + 1) (xs ++ [.int .i64 (N n), .slice D (B n).length c]) N B := by
  have hC : Chg (fun k => some k = v.ownBlock) w w' := Chg.of_grown hg (fun k hk => hk.symm)
  have hT : ∀ {E : Option Addr} {l : List Int}, ByteS w (fun k => k < base ∧ some k ≠ v.ownBlock) E l → ByteS w' (fun k => k < base ∧ some k ≠ (Value.slice (some ⟨g, 0, none⟩) (n + 1) cap).ownBlock) E l := fun {E l} hy => by
    have h1 := hy.chg hC (fun k hk hh hw => hh.2 hw)
    refine ⟨h1.1, fun a e hn => ⟨(hy.2 a e hn).1, fun hx => ?_⟩⟩
    have h2 := hy.2 a e hn
    have h3 := hy.lt a e hn
    have h4 : a.block = g := by injection hx
    rcases hat with h5 | h5
    · exact h2.2 (by rw [h4, h5])
    · omega
  have hl := h.len
  refine ⟨ho, fun i hi => ?_⟩
  by_cases hin : i < n
  · obtain ⟨E, d, h1, h2, h3⟩ := h.el i hin
    refine ⟨E, d, ?_, ?_, hT h3⟩
    · rw [List.getElem?_append_left (by omega)]; exact h1
    · rw [List.getElem?_append_left (by omega)]; exact h2
  · obtain rfl : i = n := by omega
    refine ⟨D, c, ?_, ?_, hT hD⟩
    · rw [List.getElem?_append_right (by omega), hl, Nat.sub_self]; rfl
    · rw [List.getElem?_append_right (by omega), hl, Nat.add_sub_cancel_left]; rfl
theorem RG.fields {w : World} {base : Nat} {A : Option Addr} {n c : Nat} {xs : List Value} {N : Nat → Int} {B : Nat → List Int} (h   : RG w base (.slice A n c) n xs N B) : FieldsAt w A n N B := fun hn => by
  rcases h.own.2 with ⟨_, h0⟩ | ⟨g, cap, cur, hv, _, hh, _, _, _, htk⟩
  · omega
  · injection hv with e1 _ _
    subst e1
    refine ⟨g, 0, rfl, (Array.getElem?_eq_some_iff.1 hh).1, fun i hi => ?_⟩
    obtain ⟨D, d, h1, h2, h3⟩ := h.el i hi
    have hc : ∀ j, j < 2 * n → w.cell? ⟨g, 0 + j, none⟩ = xs[j]? := fun j hj => by
      rw [cell_of_row _ _ _ _ _ _ hh, Nat.zero_add, ← Array.getElem?_toList, ← htk, List.getElem?_take_of_lt (by omega)]
    refine ⟨D, d, ?_, ?_, h3.1⟩
    · rw [hc (i * 2) (by omega), Nat.mul_comm]; exact h1
    · rw [Nat.add_assoc, hc (i * 2 + 1) (by omega), Nat.mul_comm]; exact h2
theorem RG.new (w : World) (base : Nat) (hb : base ≤ w.heap.size) (N : Nat → Int) (B : Nat → List Int) : RG (w.alloc (.cells #[] 102)) base (.slice (some ⟨w.heap.size, 0, none⟩) 0 0) 0 [] N B :=
  ⟨⟨rfl, .inr ⟨w.heap.size, 0, #[], rfl, hb, heap_alloc_last w _, Nat.le_refl _, Nat.zero_le _, rfl, rfl⟩⟩, fun i hi => absurd hi (Nat.not_lt_zero i)⟩
theorem cutS_rest {w : World} {S : Nat → Prop} {A : Option Addr} {c : Nat} {xs : List Int} (h : ByteS w S A xs) (hc : xs.length ≤ c) (k : Nat) (hk : k ≤ xs.length) : ByteS w S (cutB A k c) (xs.drop k) := by
  have hl : (xs.drop k).length = xs.length - k := List.length_drop
  refine ⟨fun hn => ?_, fun a e hn => ?_⟩
  · rw [hl] at hn
    obtain ⟨b, o, rfl, hcl⟩ := h.1 (by omega)
    refine ⟨b, o + k, ?_, fun i hi => ?_⟩
    · unfold cutB
      rw [if_neg (by omega)]
      exact congrArg some (Go.WideShapes.add_plain b o k)
    · rw [hl] at hi
      have := hcl (k + i) (by omega)
      rw [Nat.add_assoc, this]
      simp [List.getD_eq_getElem?_getD, List.getElem?_drop]
  · rw [hl] at hn
    unfold cutB at e
    rw [if_neg (by omega)] at e
    cases A with
    | none => cases e
    | some a0 =>
      injection e with e
      subst e
      rw [add_block]
      exact h.2 a0 rfl (by omega)
theorem cutS_head {w : World} {S : Nat → Prop} {A : Option Addr} {c : Nat} {xs : List Int} (h : ByteS w S A xs) (hc : xs.length ≤ c) (k : Nat) (hk : k ≤ xs.length) : ByteS w S (cutB A 0 c) (xs.take k) := by
  have hl : (xs.take k).length = k := by rw [List.length_take]; omega
  refine ⟨fun hn => ?_, fun a e hn => ?_⟩
  · rw [hl] at hn
    obtain ⟨b, o, rfl, hcl⟩ := h.1 (by omega)
    refine ⟨b, o, ?_, fun i hi => ?_⟩
    · unfold cutB
      rw [if_neg (by omega)]
      rfl
    · rw [hl] at hi
      rw [hcl i (by omega)]
      simp [List.getD_eq_getElem?_getD, List.getElem?_take, hi]
  · rw [hl] at hn
    unfold cutB at e
    rw [if_neg (by omega)] at e
    cases A with
    | none => cases e
    | some a0 =>
      injection e with e
      subst e
      exact h.2 a0 rfl (by omega)
theorem foldl_be (ys : List Int) (a : Int) : ys.foldl (fun n c => n * 256 + c) a = a * 256 ^ ys.length + rdBE ys := by
  induction ys generalizing a with
  | nil => simp [rdBE]
  | cons y ys ih =>
    have h1 : rdBE (y :: ys) = y * 256 ^ ys.length + rdBE ys := by
      show ys.foldl _ (0 * 256 + y) = _
      rw [ih]
      simp
    rw [h1, List.foldl_cons, ih, List.length_cons, Int.pow_succ, Int.add_mul, Int.mul_assoc, Int.mul_comm 256, Int.add_assoc]
theorem be_cons (y : Int) (ys : List Int) : rdBE (y :: ys) = y * 256 ^ ys.length + rdBE ys := by
  show ys.foldl _ (0 * 256 + y) = _
  rw [foldl_be]
  simp
/-- Eight bytes are more than the most just if the first one is 64 or more. -/
theorem be_big (ys : List Int) (h : ys.length = 8) (hb : BytesOk ys) : 64 ≤ ys.getD 0 0 ↔ 4611686018427387903 < rdBE ys := by
  cases ys with
  | nil => cases h
  | cons y t =>
    have ht : t.length = 7 := by simpa using h
    have hbt : BytesOk t := fun z hz => hb z (by simp [hz])
    have hbd := rdBE_bd t hbt
    rw [ht] at hbd
    rw [be_cons, ht]
    have hp : (256 : Int) ^ 7 = 72057594037927936 := by decide
    rw [hp] at hbd ⊢
    show 64 ≤ y ↔ _
    omega
theorem be_part (ys : List Int) (hb : BytesOk ys) (j : Nat) (hj : j < ys.length) (h8 : ys.length ≤ 8) (hm : rdBE ys ≤ 4611686018427387903) : rdBE (ys.take j) * 256 + ys.getD j 0 = rdBE (ys.take (j + 1)) ∧ 0 ≤ rdBE (ys.take j) ∧ rdBE (ys.take j) * 256 ≤ 4611686018427387903 ∧ rdBE (ys.take (j + 1)) ≤ 4611686018427387903 := by
  have e : rdBE (ys.take (j + 1)) = rdBE (ys.take j) * 256 + ys.getD j 0 := by rw [take_snocI ys j hj, rdBE_snoc]
  have h0 := (rdBE_bd (ys.take j) (hb.take j)).1
  have hc := hb.getD j
  have h1 : rdBE (ys.take (j + 1)) ≤ 4611686018427387903 := by
    by_cases hl : j + 1 = ys.length
    · rw [hl, List.take_of_length_le (Nat.le_refl _)]; exact hm
    · have hbd := (rdBE_bd (ys.take (j + 1)) (hb.take (j + 1))).2
      have hl2 : (ys.take (j + 1)).length = j + 1 := by rw [List.length_take]; omega
      rw [hl2] at hbd
      have := pow_small (j + 1) (by omega)
      omega
  exact ⟨e.symm, h0, by omega, h1⟩
end Go.Proofs.YtbapkamopelgpaaDoor

namespace Go.Proofs.YtbapkamopelgpaaDoor
open Go.RowKit Go.Stop Go.Extern Go.Ranges Go.Rows2
set_option linter.unusedVariables false
set_option linter.unusedSimpArgs false
set_option maxRecDepth 20000
/-- Between two letters. -/
structure RI (w wr : World) (cs : List UInt8) (xs : List Int) (k : Nat) (v : Value) (vs : List Value) (A : Option Addr) (cb : Nat) : Prop where
  err : rdErr cs xs k = 0
  rg : RG wr w.heap.size v k vs (rdFN cs xs) (rdFB cs xs)
  at_ : ByteS wr (fun j => j < w.heap.size) A (rdLeft cs xs k)
  le : (rdLeft cs xs k).length ≤ cb
  max : cb ≤ maxLen
  below : Below w.heap.size w wr
theorem RI.next {w wr wb w6 : World} {cs : List UInt8} {xs : List Int} {k : Nat} {v : Value} {vs : List Value} {A : Option Addr} {cb : Nat} (h : RI w wr cs xs k v vs A cb) (hb : Below wr.heap.size wr wb)
    {D A' : Option Addr} {c2 cb' g cap : Nat} (hD : ByteS wb (fun j => j < w.heap.size) D (rdFB cs xs k)) (hA : ByteS wb (fun j => j < w.heap.size) A' (rdLeft cs xs (k + 1))) (hle : (rdLeft cs xs (k + 1)).length ≤ cb') (hmax : cb' ≤ maxLen) (he : rdErr cs xs (k + 1) = 0)
    (hown : w6.ownsRow w.heap.size 102 2 (.slice (some ⟨g, 0, none⟩) (k + 1) cap) (k + 1) (vs ++ [.int .i64 (rdFN cs xs k), .slice D (rdFB cs xs k).length c2])) (hgrow : wb.grownBy w6 v.ownBlock) (hat : v.ownBlock = some g ∨ g = wb.heap.size) :
    RI w w6 cs xs (k + 1) (.slice (some ⟨g, 0, none⟩) (k + 1) cap) (vs ++ [.int .i64 (rdFN cs xs k), .slice D (rdFB cs xs k).length c2]) A' cb' := by
  have hrow : ∀ j, v.ownBlock = some j → w.heap.size ≤ j := fun j hj => (h.rg.own.lt j hj).1
  have hC : Chg (fun j => some j = v.ownBlock) wb w6 := Chg.of_grown hgrow (fun j hj => hj.symm)
  have B1 := stepV h.below hb
  refine ⟨he, (h.rg.below hb).push (hD.mono fun j _ hj => ⟨hj, fun e => by have := hrow j e.symm; omega⟩) hown hgrow hat, hA.chg hC (fun j _ hj e => by have := hrow j e.symm; omega), hle, hmax, B1.grown hgrow B1.size hrow⟩
theorem RI.step {w wr wb : World} {cs : List UInt8} {xs : List Int} {k : Nat} {v : Value} {vs : List Value} {A : Option Addr} {cb : Nat} (h : RI w wr cs xs k v vs A cb) (hb : Below wr.heap.size wr wb) : RI w wb cs xs k v vs A cb :=
  ⟨h.err, h.rg.below hb, h.at_.below hb, h.le, h.max, stepV h.below hb⟩
def Rest2End (w : World) (n : Nat) (s : List UInt8) (xs : List Int) (e : Ending) (w' : World) : Prop :=
  (rdErr s xs n = 0 → ∃ v vs B cb, e = .returned (.tuple #[v, .slice B (rdLeft s xs n).length cb, .int .i64 0]) ∧ RG w' w.heap.size v n vs (rdFN s xs) (rdFB s xs) ∧ Lib.BytesIn w' B (rdLeft s xs n).length (rdLeft s xs n) ∧ Below w.heap.size w w') ∧
    (rdErr s xs n ≠ 0 → e = .returned (.tuple #[.slice none 0 0, .slice none 0 0, .int .i64 (rdErr s xs n)]) ∧ Below w.heap.size w w')
/-- What a letter's own box holds. -/
structure Box2 (wr W : World) (N : Int) (D : Option Addr) (n c : Nat) : Prop where
  row : W.heap[wr.heap.size]? = some (.cells #[.int .i64 N, .slice D n c] 102)
  below : Below wr.heap.size wr W
theorem Box2.new (wr : World) : Box2 wr (wr.alloc (.cells #[.int .i64 0, .slice none 0 0] 102)) 0 none 0 0 := ⟨heap_alloc_last _ _, alloc_below _ _⟩
theorem Box2.cells {wr W : World} {N : Int} {D : Option Addr} {n c : Nat} (h : Box2 wr W N D n c) : W.cell? ⟨wr.heap.size, 0, none⟩ = some (.int .i64 N) ∧ W.cell? ⟨wr.heap.size, 1, none⟩ = some (.slice D n c) ∧ W.frozen? ⟨wr.heap.size, 0, none⟩ = false ∧ W.frozen? ⟨wr.heap.size, 1, none⟩ = false := by
  refine ⟨?_, ?_, ?_, ?_⟩
  · exact (cell_of_row _ _ _ _ _ _ h.row).trans rfl
  · exact (cell_of_row _ _ _ _ _ _ h.row).trans rfl
  all_goals (unfold World.frozen?; rw [h.row]; rfl)
theorem Box2.num {wr W : World} {N : Int} {D : Option Addr} {n c : Nat} (h : Box2 wr W N D n c) (M : Int) : Box2 wr (W.setCell ⟨wr.heap.size, 0, none⟩ (.int .i64 M)) M D n c := by
  exact ⟨(heap_setCell_same W _ 0 _ _ _ h.row).trans rfl, h.below.setCell (p := ⟨wr.heap.size, 0, none⟩) (Nat.le_refl _) _⟩
theorem Box2.text {wr W : World} {N : Int} {D : Option Addr} {n c : Nat} (h : Box2 wr W N D n c) (E : Option Addr) (m d : Nat) : Box2 wr (W.setCell ⟨wr.heap.size, 1, none⟩ (.slice E m d)) N E m d := by
  exact ⟨(heap_setCell_same W _ 1 _ _ _ h.row).trans rfl, h.below.setCell (p := ⟨wr.heap.size, 1, none⟩) (Nat.le_refl _) _⟩
end Go.Proofs.YtbapkamopelgpaaDoor
