/- DERIVED: THE SHELF's CONTRACTS AT THIS DUMP, IN PLAIN WORDS (tools/lay-plain.mjs out of 'YtbapkamopelgpaaDoorTrim.lean', which tools/lay-shelf.mjs wrote): THE SAME DECLARATIONS UNDER THE SAME NAMES: 'import', 'namespace', 'open', 'def', 'theorem' AND NOTHING ELSE: no command of the shelf's: FOR A HAND-IN. Each laying: the table of numbers ('.._ren') and one theorem, a field a fact of the dump's own or the kernel's comparison; each contract: ONE APPLICATION. octets: known, field. octets: field. -/
import Derived.Test.YtbapkamopelgpaaDoorFrameBytesE
import Derived.Shelf.Strings.SlTrimAscii
import Derived.Ground.NamesProg
import Derived.Test.YtbapkamopelgpaaDoorProg
import Derived.Deep.RegionLaw
import Derived.Deep.RegionHeld3
namespace Go.Proofs
open Go.Shelf
def Tryd.lays160_ren : Go.Shelf.Ren := ⟨fun | 160 => 93 | 232 => 106 | 231 => 105 | 227 => 107 | 234 => 109 | 233 => 108 | 236 => 111 | 235 => 110 | 228 => 118 | 271 => 121 | 151 => 120 | 197 => 119 | 120 => 129 | 152 => 128 | 260 => 127 | 137 => 132 | 119 => 133 | 224 => 134 | 225 => 135 | 217 => 136 | 266 => 137 | n => n, fun | 9 => 9 | 4 => 4 | 3 => 3 | 5 => 5 | 117 => 167 | 116 => 166 | 0 => 0 | 124 => 170 | 21 => 21 | 105 => 181 | 46 => 45 | 119 => 190 | 139 => 193 | 138 => 192 | n => n, fun | 3 => 26 | 4 => 27 | n => n⟩
theorem Tryd.lays160 : Go.Proofs.Lays.n160 Tryd.prog Tryd.lays160_ren := {
  mixed := by kernel_rfl
  f119 := Tryd.func133.trans (congrArg some (by kernel_rfl))
  f120 := Tryd.func129.trans (congrArg some (by kernel_rfl))
  f137 := Tryd.func132.trans (congrArg some (by kernel_rfl))
  f151 := Tryd.func120.trans (congrArg some (by kernel_rfl))
  f152 := Tryd.func128.trans (congrArg some (by kernel_rfl))
  f160 := Tryd.func93.trans (congrArg some (by kernel_rfl))
  f197 := Tryd.func119.trans (congrArg some (by kernel_rfl))
  f217 := Tryd.func136.trans (congrArg some (by kernel_rfl))
  f224 := Tryd.func134.trans (congrArg some (by kernel_rfl))
  f225 := Tryd.func135.trans (congrArg some (by kernel_rfl))
  f227 := Tryd.func107.trans (congrArg some (by kernel_rfl))
  f228 := Tryd.func118.trans (congrArg some (by kernel_rfl))
  f231 := Tryd.func105.trans (congrArg some (by kernel_rfl))
  f232 := Tryd.func106.trans (congrArg some (by kernel_rfl))
  f233 := Tryd.func108.trans (congrArg some (by kernel_rfl))
  f234 := Tryd.func109.trans (congrArg some (by kernel_rfl))
  f235 := Tryd.func110.trans (congrArg some (by kernel_rfl))
  f236 := Tryd.func111.trans (congrArg some (by kernel_rfl))
  f260 := Tryd.func127.trans (congrArg some (by kernel_rfl))
  f266 := Tryd.func137.trans (congrArg some (by kernel_rfl))
  f271 := Tryd.func121.trans (congrArg some (by kernel_rfl))
  t0 := Tryd.underlying0
  a0 := Tryd.isAgg0
  z0 := Tryd.sizeOf0
  v0 := Tryd.zeroValue0
  t3 := Tryd.underlying3
  a3 := Tryd.isAgg3
  z3 := Tryd.sizeOf3
  v3 := Tryd.zeroValue3
  t4 := Tryd.underlying4
  a4 := Tryd.isAgg4
  z4 := Tryd.sizeOf4
  v4 := Tryd.zeroValue4
  t5 := Tryd.underlying5
  a5 := Tryd.isAgg5
  z5 := Tryd.sizeOf5
  v5 := Tryd.zeroValue5
  t9 := Tryd.underlying9
  a9 := Tryd.isAgg9
  z9 := Tryd.sizeOf9
  v9 := Tryd.zeroValue9
  t21 := Tryd.underlying21
  a21 := Tryd.isAgg21
  z21 := Tryd.sizeOf21
  v21 := Tryd.zeroValue21
  t46 := Tryd.underlying45
  a46 := Tryd.isAgg45
  z46 := Tryd.sizeOf45
  v46 := Tryd.zeroValue45
  t105 := Tryd.underlying181
  a105 := Tryd.isAgg181
  z105 := Tryd.sizeOf181
  v105 := Tryd.zeroValue181
  t116 := Tryd.underlying166
  a116 := Tryd.isAgg166
  z116 := Tryd.sizeOf166
  t117 := Tryd.underlying167
  a117 := Tryd.isAgg167
  z117 := Tryd.sizeOf167
  v117 := Tryd.zeroValue167
  t119 := Tryd.underlying190
  a119 := Tryd.isAgg190
  z119 := Tryd.sizeOf190
  t124 := Tryd.underlying170
  a124 := Tryd.isAgg170
  z124 := Tryd.sizeOf170
  v124 := Tryd.zeroValue170
  t138 := Tryd.underlying192
  a138 := Tryd.isAgg192
  z138 := Tryd.sizeOf192
  v138 := Tryd.zeroValue192
  t139 := Tryd.underlying193
  a139 := Tryd.isAgg193
  z139 := Tryd.sizeOf193
  v139 := Tryd.zeroValue193
  g3 := by kernel_rfl
  g4 := by kernel_rfl }
end Go.Proofs

namespace Go.Proofs.YtbapkamopelgpaaDoor
open Go.RowKit Go.Stop Go.Extern Go.Ranges Go.Rows2
set_option linter.unusedVariables false
set_option linter.unusedSimpArgs false
theorem dw_nil {α : Type} (p : α → Bool) : ∀ l : List α, l.dropWhile p = [] ↔ ∀ x ∈ l, p x = true
  | [] => by simp
  | x :: l => by
    by_cases h : p x = true
    · simp [List.dropWhile_cons, h, dw_nil p l]
    · simp [List.dropWhile_cons, h]
theorem dw_head {α : Type} (p : α → Bool) : ∀ (l : List α) (y : α) (ys : List α), l.dropWhile p = y :: ys → p y = false
  | [], y, ys, h => by cases h
  | x :: l, y, ys, h => by
    by_cases hx : p x = true
    · rw [List.dropWhile_cons, if_pos hx] at h; exact dw_head p l y ys h
    · rw [List.dropWhile_cons, if_neg hx] at h
      injection h with h _
      rw [← h]; simpa using hx
theorem dw_mem {α : Type} (p : α → Bool) : ∀ (l : List α) (x : α), x ∈ l.dropWhile p → x ∈ l
  | [], x, h => h
  | y :: l, x, h => by
    by_cases hy : p y = true
    · rw [List.dropWhile_cons, if_pos hy] at h; exact List.mem_cons_of_mem _ (dw_mem p l x h)
    · rw [List.dropWhile_cons, if_neg hy] at h; exact h
theorem letters_contains (c : UInt8) : ([98, 119, 113, 111, 116] : List UInt8).contains c = ocKnown c := by
  show List.elem c _ = _
  simp only [List.elem, ocKnown]
  cases c == 98 <;> cases c == 119 <;> cases c == 113 <;> cases c == 111 <;> cases c == 116 <;> rfl
theorem trim_letters (l : List UInt8) : Lib.trimS l [98, 119, 113, 111, 116] = [] ↔ l.all ocKnown = true := by
  unfold Lib.trimS Lib.trimLeftS Lib.trimRightS
  simp only [letters_contains]
  rw [dw_nil, List.all_eq_true]
  constructor
  · intro h x hx
    by_cases hk : ocKnown x = true
    · exact hk
    · exfalso
      have hne : (l.reverse.dropWhile fun c => ocKnown c) ≠ [] := fun h0 => hk ((dw_nil _ _).1 h0 x (by simpa using hx))
      obtain ⟨y, ys, hy⟩ := List.exists_cons_of_ne_nil hne
      have h2 := dw_head _ _ _ _ hy
      have h3 := h y (by rw [hy]; simp)
      rw [h2] at h3; cases h3
  · intro h x hx
    have := dw_mem _ _ _ (List.mem_reverse.1 hx)
    exact h x (by simpa using this)
set_option maxRecDepth 20000 in
theorem ocKnown_any (s : ByteArray) (w : World) (hs : s.size ≤ maxLen) :
    Calls Tryd.prog 79 #[.string s] w fun e w' => e = .returned (.bool (s.data.toList.all ocKnown)) ∧ Below w.heap.size w w' := by
  have hcon := Any.strings_Trim_laid Tryd.lays160 (by kernel_rfl) s ⟨#[98, 119, 113, 111, 116]⟩ w (by unfold maxLen at hs; omega) (by decide) (ascii_of_all (by decide))
  change Calls Tryd.prog 93 _ _ (fun e w' => e = .returned (.string ⟨(Lib.trimS s.data.toList [98, 119, 113, 111, 116]).toArray⟩) ∧ Below w.heap.size w w') at hcon
  have ht := trim_letters s.data.toList
  generalize s.data.toList.all ocKnown = r at *
  generalize Lib.trimS s.data.toList [98, 119, 113, 111, 116] = t at *
  cases r with
  | true =>
    have h0 : t = [] := ht.2 rfl
    subst h0
    clear ht
    go_enter Tryd.func79, Tryd.ntmps79
    go_wp2_with (go_at_call 93; refine hcon.mono ?_; rintro e w' ⟨rfl, hB⟩)
    go_ret
    exact ⟨rfl, hB⟩
  | false =>
    have h0 : t ≠ [] := fun h => Bool.false_ne_true (ht.1 h)
    obtain ⟨y, ys, rfl⟩ := List.exists_cons_of_ne_nil h0
    clear ht h0
    go_enter Tryd.func79, Tryd.ntmps79
    go_wp2_with (go_at_call 93; refine hcon.mono ?_; rintro e w' ⟨rfl, hB⟩)
    go_ret
    exact ⟨by simp, hB⟩
end Go.Proofs.YtbapkamopelgpaaDoor

namespace Go.Proofs.YtbapkamopelgpaaDoor
open Go.RowKit Go.Stop Go.Extern Go.Ranges Go.Rows2
set_option linter.unusedVariables false
set_option linter.unusedSimpArgs false
set_option maxRecDepth 20000
theorem ne_byte {c d : UInt8} {n : Nat} (hd : d.toNat = n) (h : ¬ c = d) : ¬ ((c.toNat : Int) = (n : Int)) := fun e => h (UInt8.toNat_inj.1 (by omega))
/-- What a field's bytes are in memory. -/
def FieldEnd (w : World) (l : List Int) (e : Ending) (w' : World) : Prop := ∃ A c, e = .returned (.tuple #[.slice A l.length c, .nilIface]) ∧ Lib.BytesIn w' A l.length l ∧ Below w.heap.size w w'
theorem keepV {V W : World} {p : Addr} {x : Value} (hp : p.block < V.heap.size) (hc : V.cell? p = some x) (hb : Below V.heap.size V W) : W.cell? p = some x ∧ Below V.heap.size V W := ⟨(hb.cell hp).trans hc, hb⟩
theorem stepV {w w1 w2 : World} (h : Below w.heap.size w w1) (h2 : Below w1.heap.size w1 w2) : Below w.heap.size w w2 := h.trans (h2.mono h.size)
theorem concat_two (T : TypeId) {w : World} {A1 A2 : Option Addr} {c1 c2 n1 : Nat} {D B : List Int} (hn : D.length = n1) (h1 : Lib.BytesIn w A1 n1 D) (h2 : Lib.BytesIn w A2 B.length B) (hL : D.length + B.length ≤ 549755813888) :
    Calls Tryd.prog 90 #[.slice (some ⟨w.heap.size, 0, none⟩) 2 2] (w.alloc (.cells #[.slice A1 n1 c1, .slice A2 B.length c2] T)) fun e w' => ∃ A c m, Hid (m = (D ++ B).length) ∧ e = .returned (.slice A m c) ∧ Lib.BytesIn w' A m (D ++ B) ∧ Below w.heap.size w w' := by
  subst hn
  have ha := alloc_below w (.cells #[.slice A1 D.length c1, .slice A2 B.length c2] T)
  have hcat : cat (fun i => if i = 0 then D else B) 2 = D ++ B := by simp [cat]
  have hP : PartsAt (w.alloc (.cells #[.slice A1 D.length c1, .slice A2 B.length c2] T)) (some ⟨w.heap.size, 0, none⟩) 2 (fun i => if i = 0 then D else B) := fun _ =>
    ⟨w.heap.size, 0, rfl, by simp, fun i hi => by
      have : i = 0 ∨ i = 1 := by omega
      rcases this with rfl | rfl
      · exact ⟨A1, c1, (cell_of_row _ _ _ _ _ _ (heap_alloc_last w _)).trans rfl, bytesIn_below' h1 ha⟩
      · exact ⟨A2, c2, (cell_of_row _ _ _ _ _ _ (heap_alloc_last w _)).trans rfl, bytesIn_below' h2 ha⟩⟩
  refine (concat_any (some ⟨w.heap.size, 0, none⟩) 2 2 _ _ hP (by rw [hcat]; simpa using hL) (by decide)).mono ?_
  rintro e w' ⟨v, rfl, hb, ho⟩
  rw [hcat] at ho
  obtain ⟨A, c, rfl⟩ := own_slice ho
  exact ⟨A, c, _, Lib.hid rfl, rfl, own_bytes ho, ha.trans (hb.mono ha.size)⟩
set_option maxHeartbeats 2000000 in
theorem ocField_ok (c : UInt8) (N : Int) (B : List Int) (A : Option Addr) (cc : Nat) (w : World) (hB : Lib.BytesIn w A B.length B) (hf : ocFit c N B = true) :
    Calls Tryd.prog 80 #[.int .u8 c.toNat, .agg #[.int .i64 N, .slice A B.length cc]] w (FieldEnd w (ocB c N B)) := by
  by_cases hs : 0 < ocSize c
  · have e1 : ocB c N B = ocNum (ocSize c) N := by unfold ocB; rw [if_pos hs]
    have e2 : 0 ≤ N ∧ N ≤ ocMost c := by
      unfold ocFit at hf
      rw [if_pos hs] at hf
      simpa using hf
    have hs' : (0 : Int) < (ocSize c : Int) := by omega
    have n1 : ¬ N < 0 := by omega
    have n2 : ¬ ocMost c < N := by omega
    have hsl := ocSize_le c
    have hN0 := e2.1
    have hw := Lib.hid (fun W => ocWide_any c W)
    have hn := Lib.hid (fun W => ocNumber_any N (ocSize c) hsl hN0 W)
    rw [e1]
    generalize ocSize c = s at *
    generalize ocMost c = M at *
    clear e1 e2 hf hs hB
    go_enter Tryd.func80, Tryd.ntmps80
    go_wp2_with (first
      | (go_at_call 94
         refine (hw.out _).mono ?_
         rintro e w' ⟨rfl, rfl⟩)
      | (go_at_call 95
         refine (hn.out _).mono ?_
         rintro e w2 ⟨v, rfl, hb2, ho2⟩
         have HB2 := Lib.hid hb2
         have HO2 := Lib.hid ho2
         clear hb2 ho2))
    go_ret2
    obtain ⟨A2, c2, hv⟩ := own_slice HO2.out
    subst hv
    refine ⟨A2, c2, by rw [ocNum_len]; rfl, ?_, (alloc_below _ _).trans (HB2.out.mono (by simp))⟩
    rw [ocNum_len]
    exact own_bytes HO2.out
  · have e0 : ocSize c = 0 := by omega
    have hw := Lib.hid (fun W => ocWide_any c W)
    unfold ocFit at hf
    rw [if_neg hs] at hf
    rw [e0] at hw
    by_cases ho : c = 111
    · have e1 : ocB c N B = B := by unfold ocB; rw [if_neg hs, if_pos ho]
      rw [e1]
      have hl : B.length = 32 := by
        have : B.length = 32 ∧ B.length ≤ 65535 := by simpa [ho] using hf
        exact this.1
      subst ho
      have HB := Lib.hid hB
      generalize ocMost 111 = M at *
      clear hf hs e0 e1 hB
      rw [hl]
      have Hl := Lib.hid hl
      clear hl
      go_enter Tryd.func80, Tryd.ntmps80
      go_wp2_with (first
        | (go_at_call 94
           refine (hw.out _).mono ?_
           rintro e w' ⟨rfl, rfl⟩))
      go_ret2
      refine ⟨A, cc, by rw [Hl.out]; rfl, bytesIn_below' HB.out (alloc_below _ _), alloc_below _ _⟩
    · have e1 : ocB c N B = ocNum 2 (B.length : Int) ++ B := by unfold ocB; rw [if_neg hs, if_neg ho]
      rw [e1]
      have hl : B.length ≤ 65535 := by
        have : (c == 111) = false := by simpa using ho
        simpa [this] using hf
      have hoc := ne_byte (d := 111) rfl ho
      have HB := Lib.hid hB
      have hl1 : ¬ (65535 : Int) < (B.length : Int) := by omega
      generalize ocMost c = M at *
      clear hf hs e0 e1 hB ho
      have hn := Lib.hid (fun W => ocNumber_any (B.length : Int) 2 (by decide) (by omega) W)
      have hlN := Lib.hid (ocNum_len 2 (B.length : Int))
      obtain ⟨D, hD⟩ : ∃ D, D = ocNum 2 (B.length : Int) := ⟨_, rfl⟩
      rw [← hD] at hn hlN ⊢
      clear hD
      go_enter Tryd.func80, Tryd.ntmps80
      go_wp2_with (first
        | (go_at_call 94
           refine (hw.out _).mono ?_
           rintro e w' ⟨rfl, rfl⟩))
      have hVc : (w.alloc (.cells #[.int .i64 N, .slice A B.length cc] 97)).cell? ⟨w.heap.size, 1, none⟩ = some (.slice A B.length cc) := (cell_of_row _ _ _ _ _ _ (heap_alloc_last w _)).trans rfl
      have hVb := alloc_below w (.cells #[.int .i64 N, .slice A B.length cc] 97)
      have hVl : w.heap.size < (w.alloc (.cells #[.int .i64 N, .slice A B.length cc] 97)).heap.size := by simp
      generalize w.alloc (.cells #[.int .i64 N, .slice A B.length cc] 97) = V at *
      have HVb := Lib.hid hVb
      clear hVb
      go_region_held3 (fun w' => w'.cell? ⟨w.heap.size, 1, none⟩ = some (.slice A B.length cc) ∧ Below V.heap.size V w')
        (first
          | exact keepV hVl hVc (Below.refl _ _)
          | exact keepV hVl hVc (Below.refl _ _).drew
          | exact keepV hVl hVc (stepV (And.right (by assumption)) (by assumption))
          | exact keepV hVl hVc (stepV (And.right (by assumption)) (alloc_below _ _))
          | exact keepV hVl hVc (stepV (stepV (Below.refl _ _).drew hb2) hb3)
          | exact keepV hVl hVc (stepV (stepV (Below.refl _ _).drew (by assumption)) (by assumption))
          | assumption)
        (first
          | (go_at_call 95; refine (hn.out _).mono ?_; rintro e w2 ⟨v, rfl, hb2, ho2⟩; obtain ⟨A2, c2, rfl⟩ := own_slice ho2)
          | (go_at_call 90; refine (concat_two _ hlN.out (own_bytes ho2) (bytesIn_below' HB.out (stepV HVb.out (stepV (Below.refl _ _).drew hb2))) (by rw [hlN.out]; omega)).mono ?_; rintro e w3 ⟨A3, c3, m3, hm3, rfl, hB3, hb3⟩))
      go_wp2_with fail
      go_ret2
      have hm4 := hm3.out
      subst hm4
      exact ⟨A3, c3, rfl, hB3, stepV HVb.out (stepV (stepV (Below.refl _ _).drew hb2) hb3)⟩
theorem ocField_no (c : UInt8) (N : Int) (B : List Int) (A : Option Addr) (cc : Nat) (a : Nat → Addr) (w : World) (H : ErrC w a 1) (hk : ocKnown c = true) (hf : ocFit c N B = false) :
    Calls Tryd.prog 80 #[.int .u8 c.toNat, .agg #[.int .i64 N, .slice A B.length cc]] w fun e w' => e = .returned (.tuple #[.slice none 0 0, .iface 198 (.pointer (some (a 1)))]) ∧ Below w.heap.size w w' := by
  have e1 : w.cell? ⟨1, 0, none⟩ = _ := H
  have hlt := World.block_lt_of_cell? w _ e1
  have hw := Lib.hid (fun W => ocWide_any c W)
  by_cases hs : 0 < ocSize c
  · unfold ocFit at hf
    rw [if_pos hs] at hf
    have hs' : (0 : Int) < (ocSize c : Int) := by omega
    have h2 : N < 0 ∨ (¬ N < 0 ∧ ocMost c < N) := by
      by_cases h0 : N < 0
      · exact .inl h0
      · refine .inr ⟨h0, ?_⟩
        have h1 : decide (0 ≤ N) = true := decide_eq_true (by omega)
        rw [h1, Bool.true_and] at hf
        have := of_decide_eq_false hf
        omega
    generalize ocSize c = s at *
    generalize ocMost c = M at *
    clear hf hs H
    rcases h2 with h2 | ⟨h2, h3⟩
    · go_enter Tryd.func80, Tryd.ntmps80
      go_wp2_with (first
        | (go_at_call 94
           refine (hw.out _).mono ?_
           rintro e w' ⟨rfl, rfl⟩))
      go_quiet (fail)
      go_wp2
      go_ret2
      exact ⟨rfl, (alloc_below _ _).trans (Below.mono (below_drewN _ _) (by simp))⟩
    · go_enter Tryd.func80, Tryd.ntmps80
      go_wp2_with (first
        | (go_at_call 94
           refine (hw.out _).mono ?_
           rintro e w' ⟨rfl, rfl⟩))
      go_quiet (fail)
      go_wp2
      go_ret2
      exact ⟨rfl, (alloc_below _ _).trans (Below.mono (below_drewN _ _) (by simp))⟩
  · have e0 : ocSize c = 0 := by omega
    unfold ocFit at hf
    rw [if_neg hs] at hf
    rw [e0] at hw
    generalize ocMost c = M at *
    clear e0 hs H
    by_cases ho : c = 111
    · subst ho
      by_cases hl : B.length = 32
      · exfalso; simp [hl] at hf
      · have hl1 : ¬ (B.length : Int) = 32 := by omega
        clear hf hk
        go_enter Tryd.func80, Tryd.ntmps80
        go_wp2_with (first
          | (go_at_call 94
             refine (hw.out _).mono ?_
             rintro e w' ⟨rfl, rfl⟩))
        go_quiet (fail)
        go_wp2
        go_ret2
        exact ⟨rfl, (alloc_below _ _).trans (Below.mono (below_drewN _ _) (by simp))⟩
    · have hl1 : (65535 : Int) < (B.length : Int) := by
        have : (c == 111) = false := by simpa using ho
        rw [this] at hf
        simp at hf
        omega
      have hoc := ne_byte (d := 111) rfl ho
      clear hf hk ho
      go_enter Tryd.func80, Tryd.ntmps80
      go_wp2_with (first
        | (go_at_call 94
           refine (hw.out _).mono ?_
           rintro e w' ⟨rfl, rfl⟩))
      go_quiet (fail)
      go_wp2
      go_ret2
      exact ⟨rfl, (alloc_below _ _).trans (Below.mono (below_drewN _ _) (by simp))⟩
end Go.Proofs.YtbapkamopelgpaaDoor
