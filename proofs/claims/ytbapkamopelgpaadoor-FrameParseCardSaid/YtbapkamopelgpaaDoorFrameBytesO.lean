/- Frames: the chapter's example; FrameNames. bytes.Equal. Frames that are the same. -/
import Derived.Test.YtbapkamopelgpaaDoorFrameBytesN
import Derived.BigQuiet
import Derived.Deep.QuietTactic
import Derived.Lib.QuietBelow
namespace Go.Proofs.YtbapkamopelgpaaDoor
open Go.RowKit Go.Stop Go.Extern Go.Ranges Go.Rows2
set_option linter.unusedVariables false
set_option linter.unusedSimpArgs false
set_option maxRecDepth 100000
def fr1 : Frm := ⟨1, 0, 1, []⟩
theorem fr1_C : frC fr1 = 0 := by decide
theorem fr1_len : (frB fr1).length = 13 := by
  unfold frB
  rw [List.length_append, List.length_take, sum_len]
  rfl
theorem alive15 (a : Nat → Addr) (w : World) (HV : FrV w a) : Calls Tryd.prog 26 #[] w fun e w' => e = .returned (.bool true) ∧ Below w.heap.size w w' := by
  have K := Lib.hid (frBytes_any fr1 none 0 a w HV (fun h => absurd h (Nat.lt_irrefl 0)) (fun x hx => absurd hx (List.not_mem_nil)) (Nat.zero_le _))
  clear HV
  go_enter Tryd.func26, Tryd.ntmps26
  go_wp2_with fail
  refine K.out.mono ?_
  rintro e w1 ⟨hok, _⟩
  obtain ⟨A, c, rfl, _, hb⟩ := hok fr1_C
  rw [fr1_len]
  have HB := Lib.hid hb
  clear hok hb
  go_wp2_with fail
  go_ret
  exact ⟨rfl, HB.out⟩
theorem name_who (n : Int) : (whoB n = true ∧ ∃ y ys, frName n = y :: ys) ∨ (whoB n = false ∧ frName n = []) := by
  rcases who_cases n with ⟨rfl, h⟩ | ⟨rfl, h⟩ | ⟨h1, h⟩ | ⟨h1, h⟩ | ⟨h1, h⟩
  · exact .inl ⟨h, _, _, rfl⟩
  · exact .inl ⟨h, _, _, rfl⟩
  · refine .inl ⟨h, 115, [104, 97, 114, 100] ++ Lib.decDigits n.toNat, ?_⟩
    unfold frName
    rw [if_neg (by omega), if_neg (by omega), if_pos h1]
    rfl
  · refine .inl ⟨h, 99, [108, 105, 101, 110, 116] ++ Lib.decDigits (n - 128).toNat, ?_⟩
    unfold frName
    rw [if_neg (by omega), if_neg (by omega), if_neg (by omega), if_pos h1]
    rfl
  · refine .inr ⟨h, ?_⟩
    unfold frName
    rw [if_neg (by omega), if_neg (by omega), if_neg (by omega), if_neg (by omega)]
theorem digits_inj (i j : Nat) (hi : i < 20) (hj : j < 20) (h : Lib.decDigits i = Lib.decDigits j) : i = j := by
  by_cases h1 : i < 10 <;> by_cases h2 : j < 10
  · unfold Lib.decDigits at h
    rw [dif_pos h1, dif_pos h2] at h
    have h3 := congrArg (fun l : List UInt8 => (l.getD 0 0).toNat) h
    simp at h3
    omega
  · rw [dig2 j (by omega) hj] at h
    unfold Lib.decDigits at h
    rw [dif_pos h1] at h
    have := congrArg List.length h
    simp at this
  · rw [dig2 i (by omega) hi] at h
    unfold Lib.decDigits at h
    rw [dif_pos h2] at h
    have := congrArg List.length h
    simp at this
  · rw [dig2 i (by omega) hi, dig2 j (by omega) hj] at h
    have h3 := congrArg (fun l : List UInt8 => (l.getD 1 0).toNat) h
    simp at h3
    omega
theorem name_inj (m n : Int) (hm : whoB m = true) (h : frName m = frName n) : m = n := by
  rcases who_cases m with ⟨rfl, _⟩ | ⟨rfl, _⟩ | ⟨h1, _⟩ | ⟨h1, _⟩ | ⟨_, h1⟩
  · rcases who_cases n with ⟨rfl, _⟩ | ⟨rfl, _⟩ | ⟨h2, _⟩ | ⟨h2, _⟩ | ⟨h2, _⟩
    · rfl
    · exact absurd h (by decide)
    · exfalso; unfold frName at h; rw [if_pos rfl, if_neg (by omega), if_neg (by omega), if_pos h2] at h; injection h with h _; exact absurd h (by decide)
    · exfalso; unfold frName at h; rw [if_pos rfl, if_neg (by omega), if_neg (by omega), if_neg (by omega), if_pos h2] at h; injection h with h _; exact absurd h (by decide)
    · exfalso; unfold frName at h; rw [if_pos rfl, if_neg (by omega), if_neg (by omega), if_neg (by omega), if_neg (by omega)] at h; cases h
  · rcases who_cases n with ⟨rfl, _⟩ | ⟨rfl, _⟩ | ⟨h2, _⟩ | ⟨h2, _⟩ | ⟨h2, _⟩
    · exact absurd h (by decide)
    · rfl
    · exfalso; unfold frName at h; rw [if_neg (by decide), if_pos rfl, if_neg (by omega), if_neg (by omega), if_pos h2] at h; injection h with h _; exact absurd h (by decide)
    · exfalso; unfold frName at h; rw [if_neg (by decide), if_pos rfl, if_neg (by omega), if_neg (by omega), if_neg (by omega), if_pos h2] at h; injection h with h _; exact absurd h (by decide)
    · exfalso; unfold frName at h; rw [if_neg (by decide), if_pos rfl, if_neg (by omega), if_neg (by omega), if_neg (by omega), if_neg (by omega)] at h; cases h
  · have e : frName m = sS ++ Lib.decDigits m.toNat := by unfold frName; rw [if_neg (by omega), if_neg (by omega), if_pos h1]
    rw [e] at h
    rcases who_cases n with ⟨rfl, _⟩ | ⟨rfl, _⟩ | ⟨h2, _⟩ | ⟨h2, _⟩ | ⟨h2, _⟩
    · injection h with h _; exact absurd h (by decide)
    · injection h with h _; exact absurd h (by decide)
    · unfold frName at h
      rw [if_neg (by omega), if_neg (by omega), if_pos h2] at h
      have := digits_inj _ _ (by omega) (by omega) (List.append_cancel_left h)
      omega
    · exfalso; unfold frName at h; rw [if_neg (by omega), if_neg (by omega), if_neg (by omega), if_pos h2] at h; injection h with h _; exact absurd h (by decide)
    · exfalso; unfold frName at h; rw [if_neg (by omega), if_neg (by omega), if_neg (by omega), if_neg (by omega)] at h; cases h
  · have e : frName m = sC ++ Lib.decDigits (m - 128).toNat := by unfold frName; rw [if_neg (by omega), if_neg (by omega), if_neg (by omega), if_pos h1]
    rw [e] at h
    rcases who_cases n with ⟨rfl, _⟩ | ⟨rfl, _⟩ | ⟨h2, _⟩ | ⟨h2, _⟩ | ⟨h2, _⟩
    · injection h with h _; exact absurd h (by decide)
    · injection h with h _; exact absurd h (by decide)
    · exfalso; unfold frName at h; rw [if_neg (by omega), if_neg (by omega), if_pos h2] at h; injection h with h _; exact absurd h (by decide)
    · unfold frName at h
      rw [if_neg (by omega), if_neg (by omega), if_neg (by omega), if_pos h2] at h
      have := digits_inj _ _ (by omega) (by omega) (List.append_cancel_left h)
      omega
    · exfalso; unfold frName at h; rw [if_neg (by omega), if_neg (by omega), if_neg (by omega), if_neg (by omega)] at h; cases h
  · rw [hm] at h1; cases h1
theorem shardN_cases (n : Int) : (shardN n = n ∧ n ≠ 0 ∧ whoB n = true) ∨ shardN n = 0 := by
  unfold shardN
  by_cases h : 1 ≤ n ∧ n ≤ 16
  · left
    rw [if_pos h]
    refine ⟨rfl, by omega, ?_⟩
    rcases who_cases n with ⟨_, h2⟩ | ⟨_, h2⟩ | ⟨_, h2⟩ | ⟨_, h2⟩ | ⟨h3, _⟩
    · exact h2
    · exact h2
    · exact h2
    · exact h2
    · omega
  · right; rw [if_neg h]
set_option maxHeartbeats 4000000 in
theorem frameNames_walk (m n : Int) (a : Nat → Addr) (w : World) (HV : FrV w a) : Calls Tryd.prog 9 #[.int .i64 m, .int .i64 n] w fun e w' => e = .returned (.bool true) ∧ Below w.heap.size w w' := by
  have K := Lib.hid (alive15 a w HV)
  have KN1 := Lib.hid fun W => frNm_any m W
  have KN2 := Lib.hid fun W => frNm_any n W
  have KW1 := Lib.hid fun W => who_any m W
  have KW2 := Lib.hid fun W => who_any n W
  have KS1 := Lib.hid fun W => shard_any m W
  have HI := Lib.hid (name_inj m n)
  have hsc : (shardN m = m ∧ (m == 0) = false ∧ (m != 0) = true ∧ whoB m = true) ∨ shardN m = 0 := by
    rcases shardN_cases m with ⟨h1, h2, h3⟩ | h
    · exact .inl ⟨h1, by simpa using h2, by simpa using h2, h3⟩
    · exact .inr h
  have hmm : (m != m) = false := by simp
  clear HV
  have main : ∀ (y1 y2 : List UInt8), frName m = y1 → frName n = y2 → ((y1 = [] ∧ whoB m = false) ∨ (∃ z zs, y1 = z :: zs ∧ whoB m = true)) → ((y2 = [] ∧ whoB n = false) ∨ (∃ z zs, y2 = z :: zs ∧ whoB n = true)) →
      Calls Tryd.prog 9 #[.int .i64 m, .int .i64 n] w fun e w' => e = .returned (.bool true) ∧ Below w.heap.size w w' := by
    intro y1 y2 e1 e2 hy1 hy2
    rw [e1] at KN1 HI
    rw [e2] at KN2 HI
    clear e1 e2
    rcases hy1 with ⟨rfl, h1⟩ | ⟨z1, zs1, rfl, h1⟩
    · rw [h1] at KW1 hsc
      have hs : shardN m = 0 := hsc.resolve_left (fun h => absurd h.2.2.2 (by decide))
      rw [hs] at KS1
      clear hsc hs h1 HI
      rcases hy2 with ⟨rfl, h2⟩ | ⟨z2, zs2, rfl, h2⟩
      all_goals
        rw [h2] at KW2
        clear h2
        go_enter Tryd.func9, Tryd.ntmps9
        go_wp2_with fail
        refine K.out.mono ?_
        rintro e w1 ⟨rfl, hb⟩
        have HB := Lib.hid hb
        clear hb K
        go_wp2_with fail
        refine (KN1.out _).mono ?_
        rintro e w1 ⟨rfl, rfl⟩
        go_wp2_with fail
        refine (KN2.out _).mono ?_
        rintro e w1 ⟨rfl, rfl⟩
        go_wp2_with fail
        refine (KW1.out _).mono ?_
        rintro e w1 ⟨rfl, rfl⟩
        go_wp2_with fail
        refine (KW2.out _).mono ?_
        rintro e w1 ⟨rfl, rfl⟩
        go_wp2_with fail
        refine (KS1.out _).mono ?_
        rintro e w1 ⟨rfl, rfl⟩
        go_wp2_with fail
        all_goals (go_ret; exact ⟨rfl, HB.out⟩)
    · rw [h1] at KW1 hsc HI
      clear h1
      rcases hy2 with ⟨rfl, h2⟩ | ⟨z2, zs2, rfl, h2⟩
      · rw [h2] at KW2
        clear h2 HI
        rcases hsc with ⟨hs, hd1, hd2, _⟩ | hs
        · rw [hs] at KS1
          clear hs
          go_enter Tryd.func9, Tryd.ntmps9
          go_wp2_with fail
          refine K.out.mono ?_
          rintro e w1 ⟨rfl, hb⟩
          have HB := Lib.hid hb
          clear hb K
          go_wp2_with fail
          refine (KN1.out _).mono ?_
          rintro e w1 ⟨rfl, rfl⟩
          go_wp2_with fail
          refine (KN2.out _).mono ?_
          rintro e w1 ⟨rfl, rfl⟩
          go_wp2_with fail
          refine (KW1.out _).mono ?_
          rintro e w1 ⟨rfl, rfl⟩
          go_wp2_with fail
          refine (KW2.out _).mono ?_
          rintro e w1 ⟨rfl, rfl⟩
          go_wp2_with fail
          refine (KS1.out _).mono ?_
          rintro e w1 ⟨rfl, rfl⟩
          go_wp2_with fail
          refine (KS1.out _).mono ?_
          rintro e w1 ⟨rfl, rfl⟩
          go_wp2_with fail
          refine (KW1.out _).mono ?_
          rintro e w1 ⟨rfl, rfl⟩
          go_wp2_with fail
          go_ret
          exact ⟨rfl, HB.out⟩
        · rw [hs] at KS1
          clear hs
          go_enter Tryd.func9, Tryd.ntmps9
          go_wp2_with fail
          refine K.out.mono ?_
          rintro e w1 ⟨rfl, hb⟩
          have HB := Lib.hid hb
          clear hb K
          go_wp2_with fail
          refine (KN1.out _).mono ?_
          rintro e w1 ⟨rfl, rfl⟩
          go_wp2_with fail
          refine (KN2.out _).mono ?_
          rintro e w1 ⟨rfl, rfl⟩
          go_wp2_with fail
          refine (KW1.out _).mono ?_
          rintro e w1 ⟨rfl, rfl⟩
          go_wp2_with fail
          refine (KW2.out _).mono ?_
          rintro e w1 ⟨rfl, rfl⟩
          go_wp2_with fail
          refine (KS1.out _).mono ?_
          rintro e w1 ⟨rfl, rfl⟩
          go_wp2_with fail
          go_ret
          exact ⟨rfl, HB.out⟩
      · rw [h2] at KW2
        clear h2
        by_cases hz : z1 = z2 ∧ zs1 = zs2
        · obtain ⟨rfl, rfl⟩ := hz
          obtain rfl := HI.out rfl rfl
          clear HI
          rcases hsc with ⟨hs, hd1, hd2, _⟩ | hs
          · rw [hs] at KS1
            clear hs
            go_enter Tryd.func9, Tryd.ntmps9
            go_wp2_with fail
            refine K.out.mono ?_
            rintro e w1 ⟨rfl, hb⟩
            have HB := Lib.hid hb
            clear hb K
            go_wp2_with fail
            refine (KN1.out _).mono ?_
            rintro e w1 ⟨rfl, rfl⟩
            go_wp2_with fail
            refine (KN2.out _).mono ?_
            rintro e w1 ⟨rfl, rfl⟩
            go_wp2_with fail
            refine (KW1.out _).mono ?_
            rintro e w1 ⟨rfl, rfl⟩
            go_wp2_with fail
            refine (KW2.out _).mono ?_
            rintro e w1 ⟨rfl, rfl⟩
            go_wp2_with fail
            refine (KS1.out _).mono ?_
            rintro e w1 ⟨rfl, rfl⟩
            go_wp2_with fail
            refine (KS1.out _).mono ?_
            rintro e w1 ⟨rfl, rfl⟩
            go_wp2_with fail
            refine (KW1.out _).mono ?_
            rintro e w1 ⟨rfl, rfl⟩
            go_wp2_with fail
            go_ret
            exact ⟨rfl, HB.out⟩
          · rw [hs] at KS1
            clear hs
            go_enter Tryd.func9, Tryd.ntmps9
            go_wp2_with fail
            refine K.out.mono ?_
            rintro e w1 ⟨rfl, hb⟩
            have HB := Lib.hid hb
            clear hb K
            go_wp2_with fail
            refine (KN1.out _).mono ?_
            rintro e w1 ⟨rfl, rfl⟩
            go_wp2_with fail
            refine (KN2.out _).mono ?_
            rintro e w1 ⟨rfl, rfl⟩
            go_wp2_with fail
            refine (KW1.out _).mono ?_
            rintro e w1 ⟨rfl, rfl⟩
            go_wp2_with fail
            refine (KW2.out _).mono ?_
            rintro e w1 ⟨rfl, rfl⟩
            go_wp2_with fail
            refine (KS1.out _).mono ?_
            rintro e w1 ⟨rfl, rfl⟩
            go_wp2_with fail
            go_ret
            exact ⟨rfl, HB.out⟩
        · have hz1 : (!z1 == z2 || !zs1 == zs2) = true := by
            simp only [Bool.or_eq_true, Bool.not_eq_true', beq_eq_false_iff_ne, ne_eq]
            by_cases h : z1 = z2
            · exact .inr fun h2 => hz ⟨h, h2⟩
            · exact .inl h
          have hz2 : (z1 == z2 && zs1 == zs2) = false := by
            simp only [Bool.and_eq_false_iff, beq_eq_false_iff_ne, ne_eq]
            by_cases h : z1 = z2
            · exact .inr fun h2 => hz ⟨h, h2⟩
            · exact .inl h
          clear HI
          rcases hsc with ⟨hs, hd1, hd2, _⟩ | hs
          · rw [hs] at KS1
            clear hs
            go_enter Tryd.func9, Tryd.ntmps9
            go_wp2_with fail
            refine K.out.mono ?_
            rintro e w1 ⟨rfl, hb⟩
            have HB := Lib.hid hb
            clear hb K
            go_wp2_with fail
            refine (KN1.out _).mono ?_
            rintro e w1 ⟨rfl, rfl⟩
            go_wp2_with fail
            refine (KN2.out _).mono ?_
            rintro e w1 ⟨rfl, rfl⟩
            go_wp2_with fail
            refine (KW1.out _).mono ?_
            rintro e w1 ⟨rfl, rfl⟩
            go_wp2_with fail
            refine (KW2.out _).mono ?_
            rintro e w1 ⟨rfl, rfl⟩
            go_wp2_with fail
            refine (KS1.out _).mono ?_
            rintro e w1 ⟨rfl, rfl⟩
            go_wp2_with fail
            refine (KS1.out _).mono ?_
            rintro e w1 ⟨rfl, rfl⟩
            go_wp2_with fail
            refine (KW1.out _).mono ?_
            rintro e w1 ⟨rfl, rfl⟩
            go_wp2_with fail
            go_ret
            exact ⟨rfl, HB.out⟩
          · rw [hs] at KS1
            clear hs
            go_enter Tryd.func9, Tryd.ntmps9
            go_wp2_with fail
            refine K.out.mono ?_
            rintro e w1 ⟨rfl, hb⟩
            have HB := Lib.hid hb
            clear hb K
            go_wp2_with fail
            refine (KN1.out _).mono ?_
            rintro e w1 ⟨rfl, rfl⟩
            go_wp2_with fail
            refine (KN2.out _).mono ?_
            rintro e w1 ⟨rfl, rfl⟩
            go_wp2_with fail
            refine (KW1.out _).mono ?_
            rintro e w1 ⟨rfl, rfl⟩
            go_wp2_with fail
            refine (KW2.out _).mono ?_
            rintro e w1 ⟨rfl, rfl⟩
            go_wp2_with fail
            refine (KS1.out _).mono ?_
            rintro e w1 ⟨rfl, rfl⟩
            go_wp2_with fail
            go_ret
            exact ⟨rfl, HB.out⟩
  rcases name_who m with ⟨h1, y1, ys1, e1⟩ | ⟨h1, e1⟩ <;> rcases name_who n with ⟨h2, y2, ys2, e2⟩ | ⟨h2, e2⟩
  · exact main _ _ e1 e2 (.inr ⟨_, _, rfl, h1⟩) (.inr ⟨_, _, rfl, h2⟩)
  · exact main _ _ e1 e2 (.inr ⟨_, _, rfl, h1⟩) (.inl ⟨rfl, h2⟩)
  · exact main _ _ e1 e2 (.inl ⟨rfl, h1⟩) (.inr ⟨_, _, rfl, h2⟩)
  · exact main _ _ e1 e2 (.inl ⟨rfl, h1⟩) (.inl ⟨rfl, h2⟩)
end Go.Proofs.YtbapkamopelgpaaDoor

namespace Go.Proofs.YtbapkamopelgpaaDoor
open Go.RowKit Go.Stop Go.Extern Go.Ranges Go.Sort
set_option linter.unusedVariables false
set_option linter.unusedSimpArgs false
set_option maxRecDepth 100000
def strEq (a b : ByteArray) : Bool := a.toList == b.toList
def bytesEq (xs ys : List Int) : Bool := (strOfNums xs).toList == (strOfNums ys).toList
theorem strEq_self (a : ByteArray) : strEq a a = true := by simp [strEq]
theorem bytesEq_self (a : List Int) : bytesEq a a = true := by simp [bytesEq]
theorem bytes_any (p q : Option Addr) (n m c d : Nat) (xs ys : List Int) (w : World) (hx : xs.length = n) (hy : ys.length = m) (h1 : Lib.BytesIn w p n xs) (h2 : Lib.BytesIn w q m ys) :
    Calls Tryd.prog 46 #[.slice p n c, .slice q m d] w fun e w' => e = .returned (.bool (bytesEq xs ys)) ∧ w = w' := by
  have c1 := h1.convert (P := Tryd.prog) hx c 22 5 9 Tryd.underlying22 Tryd.underlying5 Tryd.underlying9
  have c2 := h2.convert (P := Tryd.prog) hy d 22 5 9 Tryd.underlying22 Tryd.underlying5 Tryd.underlying9
  clear h1 h2
  go_enter Tryd.func46, Tryd.ntmps46
  go_wp2_with fail
  go_ret
  exact ⟨rfl, rfl⟩
theorem u8_inj {x y : Int} (hx : isByte x) (hy : isByte y) (h : UInt8.ofNat x.toNat = UInt8.ofNat y.toNat) : x = y := by
  have h2 := congrArg UInt8.toNat h
  simp only [UInt8.toNat_ofNat'] at h2
  unfold isByte at hx hy
  omega
theorem nums_inj : ∀ {xs ys : List Int}, (∀ x ∈ xs, isByte x) → (∀ y ∈ ys, isByte y) → (xs.map fun n => UInt8.ofNat n.toNat) = (ys.map fun n => UInt8.ofNat n.toNat) → xs = ys
  | [], [], _, _, _ => rfl
  | [], _ :: _, _, _, h => by cases h
  | _ :: _, [], _, _, h => by cases h
  | x :: xs, y :: ys, hx, hy, h => by
    simp only [List.map_cons, List.cons.injEq] at h
    rw [u8_inj (hx x (by simp)) (hy y (by simp)) h.1, nums_inj (fun z hz => hx z (by simp [hz])) (fun z hz => hy z (by simp [hz])) h.2]
theorem bytesEq_iff {xs ys : List Int} (hx : ∀ x ∈ xs, isByte x) (hy : ∀ y ∈ ys, isByte y) : bytesEq xs ys = true ↔ xs = ys := by
  unfold bytesEq
  rw [beq_iff_eq, Lib.toList_data, Lib.toList_data, strOfNums_data, strOfNums_data]
  exact ⟨fun h => nums_inj hx hy h, fun h => by rw [h]⟩
theorem bytesEq_ne {xs ys : List Int} (hx : ∀ x ∈ xs, isByte x) (hy : ∀ y ∈ ys, isByte y) (h : xs ≠ ys) : bytesEq xs ys = false := by
  cases e : bytesEq xs ys with
  | false => rfl
  | true => exact absurd ((bytesEq_iff hx hy).1 e) h
end Go.Proofs.YtbapkamopelgpaaDoor

namespace Go.Proofs.YtbapkamopelgpaaDoor
open Go.RowKit Go.Stop Go.Extern Go.Ranges Go.Rows2
set_option linter.unusedVariables false
set_option linter.unusedSimpArgs false
set_option maxRecDepth 100000
def sameF (F G : Frm) : Bool := (F.k == G.k) && ((F.f == G.f) && ((F.t == G.t) && bytesEq F.body G.body))
theorem sameF_self (F : Frm) : sameF F F = true := by simp [sameF, bytesEq_self]
theorem new4 (w : World) (C : Array Value) (t : TypeId) (j : Nat) : (w.alloc (.cells C t)).cell? ⟨w.heap.size, j, none⟩ = C[j]? := cell_of_row _ _ _ _ _ _ (heap_alloc_last w _)
set_option maxHeartbeats 2000000 in
theorem frSame_any (F G : Frm) (B D : Option Addr) (cb cd : Nat) (w : World) (hB : Lib.BytesIn w B F.body.length F.body) (hD : Lib.BytesIn w D G.body.length G.body) :
    Calls Tryd.prog 35 #[.agg (frA F B cb), .agg (frA G D cd)] w fun e w' => e = .returned (.bool (sameF F G)) ∧ Below w.heap.size w w' := by
  have b0 := stepV (alloc_below w (.cells (frA F B cb) 56)) (alloc_below _ (.cells (frA G D cd) 56))
  have K := Lib.hid (bytes_any B D F.body.length G.body.length cb cd F.body G.body _ rfl rfl (bytesIn_below' hB b0) (bytesIn_below' hD b0))
  have HB := Lib.hid b0
  unfold frA at *
  unfold sameF
  generalize bytesEq F.body G.body = q at *
  clear hB hD b0
  cases h1 : F.k == G.k with
  | false =>
    go_enter Tryd.func35, Tryd.ntmps35
    go_wp2_with fail
    go_ret
    exact ⟨rfl, HB.out⟩
  | true =>
    cases h2 : F.f == G.f with
    | false =>
      go_enter Tryd.func35, Tryd.ntmps35
      go_wp2_with fail
      go_ret
      exact ⟨rfl, HB.out⟩
    | true =>
      cases h3 : F.t == G.t with
      | false =>
        go_enter Tryd.func35, Tryd.ntmps35
        go_wp2_with fail
        go_ret
        exact ⟨rfl, HB.out⟩
      | true =>
        go_enter Tryd.func35, Tryd.ntmps35
        go_wp2_with fail
        refine K.out.mono ?_
        rintro e w1 ⟨rfl, rfl⟩
        go_wp2_with fail
        go_ret
        exact ⟨rfl, HB.out⟩
set_option maxHeartbeats 2000000 in
theorem frRefSame_any (F G : Frm) (B D : Option Addr) (cb cd : Nat) (w : World) (hB : Lib.BytesIn w B F.body.length F.body) (hD : Lib.BytesIn w D G.body.length G.body) :
    Calls Tryd.prog 31 #[.agg (frA F B cb), .agg (frA G D cd)] w fun e w' => e = .returned (.bool (sameF F G)) ∧ Below w.heap.size w w' := by
  have b0 := stepV (alloc_below w (.cells (frA F B cb) 59)) (alloc_below _ (.cells (frA G D cd) 59))
  have c1 := (bytesIn_below' hB b0).convert (P := Tryd.prog) rfl cb 22 5 9 Tryd.underlying22 Tryd.underlying5 Tryd.underlying9
  have c2 := (bytesIn_below' hD b0).convert (P := Tryd.prog) rfl cd 22 5 9 Tryd.underlying22 Tryd.underlying5 Tryd.underlying9
  have HB := Lib.hid b0
  unfold frA at *
  unfold sameF bytesEq
  clear hB hD b0
  cases h1 : F.k == G.k with
  | false =>
    go_enter Tryd.func31, Tryd.ntmps31
    go_wp2_with fail
    go_ret
    exact ⟨rfl, HB.out⟩
  | true =>
    cases h2 : F.f == G.f with
    | false =>
      go_enter Tryd.func31, Tryd.ntmps31
      go_wp2_with fail
      go_ret
      exact ⟨rfl, HB.out⟩
    | true =>
      cases h3 : F.t == G.t with
      | false =>
        go_enter Tryd.func31, Tryd.ntmps31
        go_wp2_with fail
        go_ret
        exact ⟨rfl, HB.out⟩
      | true =>
        go_enter Tryd.func31, Tryd.ntmps31
        go_wp2_with fail
        go_ret
        exact ⟨rfl, HB.out⟩
end Go.Proofs.YtbapkamopelgpaaDoor
