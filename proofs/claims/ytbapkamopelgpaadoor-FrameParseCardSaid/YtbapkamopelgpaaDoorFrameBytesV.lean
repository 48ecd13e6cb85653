/- Frames, plainly: what is written is read, what is read was written. The reference's digest: its smaller callees. -/
import Derived.Test.YtbapkamopelgpaaDoorFrameBytesU
namespace Go.Proofs.YtbapkamopelgpaaDoor
set_option linter.unusedVariables false
set_option linter.unusedSimpArgs false
set_option maxRecDepth 20000
theorem s5_four (i : Nat) (h : i < 4) : frS5.data.toList.getD i 0 = frS.data.toList.getD i 0 := by
  have : i = 0 ∨ i = 1 ∨ i = 2 ∨ i = 3 := by omega
  rcases this with rfl | rfl | rfl | rfl <;> rfl
theorem s5_all (N : Nat → Int) (B : Nat → List Int) : ocAll frS5.data.toList N B 4 = ocAll frS.data.toList N B 4 := rfl
theorem s5_known (i : Nat) (h : i < 5) : ocKnown (frS5.data.toList.getD i 0) = true := by
  have : i = 0 ∨ i = 1 ∨ i = 2 ∨ i = 3 ∨ i = 4 := by omega
  rcases this with rfl | rfl | rfl | rfl | rfl <;> decide
theorem sum_bytes (xs : List Int) : BytesOk (Sha.sum xs) := fun y hy => sum_byte xs y hy
theorem four_sum (xs : List Int) : ((Sha.sum xs).take 4).length = 4 := by rw [List.length_take, sum_len]; rfl
/-- A frame's bytes are parsed as it. -/
theorem pr_fr {F : Frm} (h : frC F = 0) (hb : ∀ x ∈ F.body, isByte x) : prC (frB F) = 0 ∧ prF (frB F) = F := by
  have hall := frC_ok h
  have hfit := ocFits_at.1 (fr_fit hall)
  have hk4 : ∀ i, i < 4 → ocKnown (frS5.data.toList.getD i 0) = true := fun i hi => s5_known i (by omega)
  have hf5 : ∀ i, i < 4 → ocFit (frS5.data.toList.getD i 0) (frN F i) (frF F i) = true := fun i hi => by rw [s5_four i hi]; exact hfit i hi
  have hB : frB F = [99, 97, 114, 116] ++ (ocAll frS.data.toList (frN F) (frF F) 4 ++ (Sha.sum (frBase F)).take 4) := by
    unfold frB
    rw [show frBase F = [99, 97, 114, 116] ++ ocAll frS.data.toList (frN F) (frF F) 4 from rfl, List.append_assoc]
  have hd : (frB F).drop 4 = ocAll frS5.data.toList (frN F) (frF F) 4 ++ (Sha.sum (frBase F)).take 4 := by rw [hB, s5_all]; rfl
  have ht : (frB F).take 4 = magicL := by rw [hB]; rfl
  have hlen : (frB F).length = (frBase F).length + 4 := by unfold frB; rw [List.length_append, four_sum]
  have hlb : 4 ≤ (frBase F).length := by rw [show frBase F = [99, 97, 114, 116] ++ ocAll frS.data.toList (frN F) (frF F) 4 from rfl, List.length_append]; simp
  obtain ⟨r1, r2, r3⟩ := rd_oc_at 4 ((Sha.sum (frBase F)).take 4) hk4 hf5
  rw [← hd] at r1 r2 r3
  have hw : rdC 119 ((Sha.sum (frBase F)).take 4) = 0 := by
    have hbd := rdBE_bd ((Sha.sum (frBase F)).take 4) ((sum_bytes _).take 4)
    rw [four_sum] at hbd
    have h2 : ((Sha.sum (frBase F)).take 4).take (ocSize 119) = (Sha.sum (frBase F)).take 4 := List.take_of_length_le (by rw [four_sum]; decide)
    have h3 : rdBE ((Sha.sum (frBase F)).take 4) < 4294967296 := hbd.2
    unfold rdC
    rw [if_neg (by decide), if_neg (by decide), if_neg (by decide), h2, if_neg (by rw [four_sum]; decide), if_neg (by omega)]
  have hE : rdErr frS5.data.toList ((frB F).drop 4) 5 = 0 := by
    show (if rdErr frS5.data.toList ((frB F).drop 4) 4 ≠ 0 then _ else rdC 119 (rdLeft frS5.data.toList ((frB F).drop 4) 4)) = 0
    rw [r1, if_neg (fun h => h rfl), r2]
    exact hw
  have hL : (rdLeft frS5.data.toList ((frB F).drop 4) 5).length = 0 := by
    show ((rdLeft frS5.data.toList ((frB F).drop 4) 4).drop (rdLen 119 _)).length = 0
    rw [r2, List.length_drop, four_sum]
    rfl
  have hR : readC frS5.data.toList ((frB F).drop 4) 5 = 0 := by
    unfold readC
    rw [if_neg (fun h => h hE), if_pos hL]
  have htk : (frB F).take ((frB F).length - 4) = frBase F := by
    rw [hlen, Nat.add_sub_cancel]
    unfold frB
    rw [List.take_append_of_le_length (Nat.le_refl _), List.take_of_length_le (Nat.le_refl _)]
  have hF : prF (frB F) = F := by
    have g0 := (r3 0 (by decide)).1
    have g1 := (r3 1 (by decide)).1
    have g2 := (r3 2 (by decide)).1
    have g3 := (r3 3 (by decide)).2
    unfold prF
    rw [g0, g1, g2, g3]
    rfl
  refine ⟨?_, hF⟩
  unfold prC
  rw [if_neg (by omega), ht, bytesEq_self, if_neg (by decide), if_neg (fun h => h hR), htk, show sumd (frBase F) = frB F from rfl, bytesEq_self, if_neg (by decide), hF]
  unfold frC at h
  split at h
  · cases h
  · exact h
end Go.Proofs.YtbapkamopelgpaaDoor

namespace Go.Proofs.YtbapkamopelgpaaDoor
open Go.RowKit Go.Stop Go.Extern Go.Ranges
set_option linter.unusedVariables false
set_option linter.unusedSimpArgs false
theorem right2 (x : Sha.W) (w : World) : Calls Tryd.prog 82 #[.int .u32 (num x), .int .u64 2] w fun e w' => e = .returned (.int .u32 (num (Sha.rr x 2))) ∧ w = w' := by
  go_enter Tryd.func82, Tryd.ntmps82
  go_wp2
  go_ret
  refine ⟨?_, rfl⟩
  show Ending.returned (.int .u32 (bits .or .u32 (num x / (4 : Int)) (num x * (1073741824 : Int) % (4294967296 : Int)))) = _
  rw [show num x * (1073741824 : Int) % (4294967296 : Int) = num (x <<< 30) from mod_shl x 30 1073741824 (by decide), show num x / (4 : Int) = num (x >>> 2) from div_shr x 2 4 (by decide), bits_or]
  rfl
theorem right6 (x : Sha.W) (w : World) : Calls Tryd.prog 82 #[.int .u32 (num x), .int .u64 6] w fun e w' => e = .returned (.int .u32 (num (Sha.rr x 6))) ∧ w = w' := by
  go_enter Tryd.func82, Tryd.ntmps82
  go_wp2
  go_ret
  refine ⟨?_, rfl⟩
  show Ending.returned (.int .u32 (bits .or .u32 (num x / (64 : Int)) (num x * (67108864 : Int) % (4294967296 : Int)))) = _
  rw [show num x * (67108864 : Int) % (4294967296 : Int) = num (x <<< 26) from mod_shl x 26 67108864 (by decide), show num x / (64 : Int) = num (x >>> 6) from div_shr x 6 64 (by decide), bits_or]
  rfl
theorem right7 (x : Sha.W) (w : World) : Calls Tryd.prog 82 #[.int .u32 (num x), .int .u64 7] w fun e w' => e = .returned (.int .u32 (num (Sha.rr x 7))) ∧ w = w' := by
  go_enter Tryd.func82, Tryd.ntmps82
  go_wp2
  go_ret
  refine ⟨?_, rfl⟩
  show Ending.returned (.int .u32 (bits .or .u32 (num x / (128 : Int)) (num x * (33554432 : Int) % (4294967296 : Int)))) = _
  rw [show num x * (33554432 : Int) % (4294967296 : Int) = num (x <<< 25) from mod_shl x 25 33554432 (by decide), show num x / (128 : Int) = num (x >>> 7) from div_shr x 7 128 (by decide), bits_or]
  rfl
theorem right11 (x : Sha.W) (w : World) : Calls Tryd.prog 82 #[.int .u32 (num x), .int .u64 11] w fun e w' => e = .returned (.int .u32 (num (Sha.rr x 11))) ∧ w = w' := by
  go_enter Tryd.func82, Tryd.ntmps82
  go_wp2
  go_ret
  refine ⟨?_, rfl⟩
  show Ending.returned (.int .u32 (bits .or .u32 (num x / (2048 : Int)) (num x * (2097152 : Int) % (4294967296 : Int)))) = _
  rw [show num x * (2097152 : Int) % (4294967296 : Int) = num (x <<< 21) from mod_shl x 21 2097152 (by decide), show num x / (2048 : Int) = num (x >>> 11) from div_shr x 11 2048 (by decide), bits_or]
  rfl
theorem right13 (x : Sha.W) (w : World) : Calls Tryd.prog 82 #[.int .u32 (num x), .int .u64 13] w fun e w' => e = .returned (.int .u32 (num (Sha.rr x 13))) ∧ w = w' := by
  go_enter Tryd.func82, Tryd.ntmps82
  go_wp2
  go_ret
  refine ⟨?_, rfl⟩
  show Ending.returned (.int .u32 (bits .or .u32 (num x / (8192 : Int)) (num x * (524288 : Int) % (4294967296 : Int)))) = _
  rw [show num x * (524288 : Int) % (4294967296 : Int) = num (x <<< 19) from mod_shl x 19 524288 (by decide), show num x / (8192 : Int) = num (x >>> 13) from div_shr x 13 8192 (by decide), bits_or]
  rfl
theorem right17 (x : Sha.W) (w : World) : Calls Tryd.prog 82 #[.int .u32 (num x), .int .u64 17] w fun e w' => e = .returned (.int .u32 (num (Sha.rr x 17))) ∧ w = w' := by
  go_enter Tryd.func82, Tryd.ntmps82
  go_wp2
  go_ret
  refine ⟨?_, rfl⟩
  show Ending.returned (.int .u32 (bits .or .u32 (num x / (131072 : Int)) (num x * (32768 : Int) % (4294967296 : Int)))) = _
  rw [show num x * (32768 : Int) % (4294967296 : Int) = num (x <<< 15) from mod_shl x 15 32768 (by decide), show num x / (131072 : Int) = num (x >>> 17) from div_shr x 17 131072 (by decide), bits_or]
  rfl
theorem right18 (x : Sha.W) (w : World) : Calls Tryd.prog 82 #[.int .u32 (num x), .int .u64 18] w fun e w' => e = .returned (.int .u32 (num (Sha.rr x 18))) ∧ w = w' := by
  go_enter Tryd.func82, Tryd.ntmps82
  go_wp2
  go_ret
  refine ⟨?_, rfl⟩
  show Ending.returned (.int .u32 (bits .or .u32 (num x / (262144 : Int)) (num x * (16384 : Int) % (4294967296 : Int)))) = _
  rw [show num x * (16384 : Int) % (4294967296 : Int) = num (x <<< 14) from mod_shl x 14 16384 (by decide), show num x / (262144 : Int) = num (x >>> 18) from div_shr x 18 262144 (by decide), bits_or]
  rfl
theorem right19 (x : Sha.W) (w : World) : Calls Tryd.prog 82 #[.int .u32 (num x), .int .u64 19] w fun e w' => e = .returned (.int .u32 (num (Sha.rr x 19))) ∧ w = w' := by
  go_enter Tryd.func82, Tryd.ntmps82
  go_wp2
  go_ret
  refine ⟨?_, rfl⟩
  show Ending.returned (.int .u32 (bits .or .u32 (num x / (524288 : Int)) (num x * (8192 : Int) % (4294967296 : Int)))) = _
  rw [show num x * (8192 : Int) % (4294967296 : Int) = num (x <<< 13) from mod_shl x 13 8192 (by decide), show num x / (524288 : Int) = num (x >>> 19) from div_shr x 19 524288 (by decide), bits_or]
  rfl
theorem right22 (x : Sha.W) (w : World) : Calls Tryd.prog 82 #[.int .u32 (num x), .int .u64 22] w fun e w' => e = .returned (.int .u32 (num (Sha.rr x 22))) ∧ w = w' := by
  go_enter Tryd.func82, Tryd.ntmps82
  go_wp2
  go_ret
  refine ⟨?_, rfl⟩
  show Ending.returned (.int .u32 (bits .or .u32 (num x / (4194304 : Int)) (num x * (1024 : Int) % (4294967296 : Int)))) = _
  rw [show num x * (1024 : Int) % (4294967296 : Int) = num (x <<< 10) from mod_shl x 10 1024 (by decide), show num x / (4194304 : Int) = num (x >>> 22) from div_shr x 22 4194304 (by decide), bits_or]
  rfl
theorem right25 (x : Sha.W) (w : World) : Calls Tryd.prog 82 #[.int .u32 (num x), .int .u64 25] w fun e w' => e = .returned (.int .u32 (num (Sha.rr x 25))) ∧ w = w' := by
  go_enter Tryd.func82, Tryd.ntmps82
  go_wp2
  go_ret
  refine ⟨?_, rfl⟩
  show Ending.returned (.int .u32 (bits .or .u32 (num x / (33554432 : Int)) (num x * (128 : Int) % (4294967296 : Int)))) = _
  rw [show num x * (128 : Int) % (4294967296 : Int) = num (x <<< 7) from mod_shl x 7 128 (by decide), show num x / (33554432 : Int) = num (x >>> 25) from div_shr x 25 33554432 (by decide), bits_or]
  rfl
theorem kf_cells : (#[.int .u32 1116352408, .int .u32 1899447441, .int .u32 3049323471, .int .u32 3921009573, .int .u32 961987163, .int .u32 1508970993, .int .u32 2453635748, .int .u32 2870763221, .int .u32 3624381080, .int .u32 310598401, .int .u32 607225278, .int .u32 1426881987, .int .u32 1925078388, .int .u32 2162078206, .int .u32 2614888103, .int .u32 3248222580, .int .u32 3835390401, .int .u32 4022224774, .int .u32 264347078, .int .u32 604807628, .int .u32 770255983, .int .u32 1249150122, .int .u32 1555081692, .int .u32 1996064986, .int .u32 2554220882, .int .u32 2821834349, .int .u32 2952996808, .int .u32 3210313671, .int .u32 3336571891, .int .u32 3584528711, .int .u32 113926993, .int .u32 338241895, .int .u32 666307205, .int .u32 773529912, .int .u32 1294757372, .int .u32 1396182291, .int .u32 1695183700, .int .u32 1986661051, .int .u32 2177026350, .int .u32 2456956037, .int .u32 2730485921, .int .u32 2820302411, .int .u32 3259730800, .int .u32 3345764771, .int .u32 3516065817, .int .u32 3600352804, .int .u32 4094571909, .int .u32 275423344, .int .u32 430227734, .int .u32 506948616, .int .u32 659060556, .int .u32 883997877, .int .u32 958139571, .int .u32 1322822218, .int .u32 1537002063, .int .u32 1747873779, .int .u32 1955562222, .int .u32 2024104815, .int .u32 2227730452, .int .u32 2361852424, .int .u32 2428436474, .int .u32 2756734187, .int .u32 3204031479, .int .u32 3329325298] : Array Value) = (Array.range 64).map fun i => .int .u32 (num (Sha.kf i)) := by kernel_rfl
/-- Where the rounds' numbers lie in a slice. -/
def TableAt (w : World) (g : Nat) : Prop := g < w.heap.size ∧ ∀ i, i < 64 → w.cell? ⟨g, i, none⟩ = some (.int .u32 (num (Sha.kf i)))
theorem TableAt.below {w w' : World} {g : Nat} (h : TableAt w g) (hb : Below w.heap.size w w') : TableAt w' g := ⟨Nat.lt_of_lt_of_le h.1 hb.size, fun i hi => (hb.cell (p := ⟨g, i, none⟩) h.1).trans (h.2 i hi)⟩
set_option maxRecDepth 20000 in
theorem table_any (w : World) : Calls Tryd.prog 81 #[] w fun e w' => ∃ g, e = .returned (.slice (some ⟨g, 0, none⟩) 64 64) ∧ Below w.heap.size w w' ∧ w.heap.size ≤ g ∧ TableAt w' g := by
  go_enter Tryd.func81, Tryd.ntmps81
  go_wp2_with fail
  go_ret
  refine ⟨_, rfl, (Below.refl _ w).alloc (Nat.le_refl _) _, Nat.le_refl _, by simp, fun i hi => ?_⟩
  rw [cell_of_row _ _ _ _ _ _ (heap_alloc_last w _)]
  exact (congrArg (fun C : Array Value => C[i]?) kf_cells).trans (by simp [hi])
end Go.Proofs.YtbapkamopelgpaaDoor
