/-
  DERIVED. GIVEN WITH THE SEED: THE PROGRAM's TIES (one call each: nine closed facts by the kernel) AND EACH ROW's TIE, after the 31st guide's Derived/Test/Toyas{Tie, Card}.lean. No idea stands in it: it is a product of the set-up. Laid BY PROGRAM, IN A SANDBOX (cutbox-door.mjs). By AI agents, Wed Nov 11 2026. No macro, syntax, notation, axiom, sorry.
-/
import Derived.Test.YtmmiimcodbjnmaaDoorRows
import Derived.LaidByTextLater
import Derived.SevenTiedAt
import Derived.LaidSub
import Derived.LaidOnce
namespace Go.Proofs.YtmmiimcodbjnmaaDoor
open Go
set_option maxRecDepth 100000
theorem seatTie1 : Tryd.prog.laidByTextLater [("math/bits.deBruijn32tab", Rows.laid_math_bits_deBruijn32tab), ("math/bits.deBruijn64tab", Rows.laid_math_bits_deBruijn64tab), ("internal/strconv.uint64pow10", Rows.laid_internal_strconv_uint64pow10), ("unicode/utf8.acceptRanges", Rows.laid_unicode_utf8_acceptRanges), ("cartage/api.ErrRange", Rows.laid_cartage_api_ErrRange), ("cartage/api.ErrShort", Rows.laid_cartage_api_ErrShort), ("cartage/api.ErrLong", Rows.laid_cartage_api_ErrLong), ("cartage/api.ErrForm", Rows.laid_cartage_api_ErrForm), ("cartage/api.ErrKind", Rows.laid_cartage_api_ErrKind), ("cartage/lines.words", Rows.laid_cartage_lines_words), ("cartage/lines.ops", Rows.laid_cartage_lines_ops)] [.data, .data, .data, .data, .sentinel, .sentinel, .sentinel, .sentinel, .sentinel, .widerDeep, .data] true :=
  Program.laidByTextLater_by_one 462 8 65 (by kernel_rfl) (by kernel_rfl) (by kernel_rfl) (by kernel_rfl) (by kernel_rfl) (by kernel_rfl) (fun _ _ => by kernel_rfl)
theorem seatTie2 : Tryd.prog.laidByTextLater [("unicode/utf8.acceptRanges", Rows.laid_unicode_utf8_acceptRanges), ("cartage/api.ErrRange", Rows.laid_cartage_api_ErrRange), ("cartage/api.ErrShort", Rows.laid_cartage_api_ErrShort), ("cartage/api.ErrLong", Rows.laid_cartage_api_ErrLong), ("cartage/api.ErrForm", Rows.laid_cartage_api_ErrForm), ("cartage/api.ErrSum", Rows.laid_cartage_api_ErrSum), ("cartage/api.ErrName", Rows.laid_cartage_api_ErrName), ("cartage/api.ErrKind", Rows.laid_cartage_api_ErrKind), ("cartage/api.ErrDepth", Rows.laid_cartage_api_ErrDepth), ("cartage/api.ErrMissing", Rows.laid_cartage_api_ErrMissing), ("cartage/api.ErrCas", Rows.laid_cartage_api_ErrCas), ("cartage/api.ErrQuota", Rows.laid_cartage_api_ErrQuota), ("cartage/api.ErrQueue", Rows.laid_cartage_api_ErrQueue), ("cartage/api.ErrLarge", Rows.laid_cartage_api_ErrLarge), ("cartage/api.ErrNoRepo", Rows.laid_cartage_api_ErrNoRepo), ("cartage/api.ErrExists", Rows.laid_cartage_api_ErrExists), ("cartage/api.ErrDown", Rows.laid_cartage_api_ErrDown), ("cartage/api.ErrTimeout", Rows.laid_cartage_api_ErrTimeout), ("cartage/api.ErrStale", Rows.laid_cartage_api_ErrStale), ("cartage/api.ErrState", Rows.laid_cartage_api_ErrState), ("cartage/api.ErrDup", Rows.laid_cartage_api_ErrDup), ("cartage/api.ErrNone", Rows.laid_cartage_api_ErrNone), ("cartage/api.ErrFull", Rows.laid_cartage_api_ErrFull)] [.data, .sentinel, .sentinel, .sentinel, .sentinel, .sentinel, .sentinel, .sentinel, .sentinel, .sentinel, .sentinel, .sentinel, .sentinel, .sentinel, .sentinel, .sentinel, .sentinel, .sentinel, .sentinel, .sentinel, .sentinel, .sentinel, .sentinel] true :=
  Program.laidByTextLater_by_one 462 8 65 (by kernel_rfl) (by kernel_rfl) (by kernel_rfl) (by kernel_rfl) (by kernel_rfl) (by kernel_rfl) (fun _ _ => by kernel_rfl)
theorem pin_laid_unicode_utf8_first : Tryd.pinned.checked.prog.pinnedFits "unicode/utf8.first" = true := by kernel_rfl
theorem noOwnUnsafe : Tryd.pinned.checked.prog.headLifts.contains "ownunsafe" = false := by kernel_rfl
theorem tie : Tryd.prog.laidByTextLater [("math/bits.deBruijn32tab", Rows.laid_math_bits_deBruijn32tab), ("math/bits.deBruijn64tab", Rows.laid_math_bits_deBruijn64tab), ("internal/strconv.uint64pow10", Rows.laid_internal_strconv_uint64pow10), ("cartage/lines.words", Rows.laid_cartage_lines_words), ("cartage/lines.ops", Rows.laid_cartage_lines_ops)] [.data, .data, .data, .widerDeep, .data] true :=
  Program.laidByTextLater.sub seatTie1 ["math/bits.deBruijn32tab", "math/bits.deBruijn64tab", "internal/strconv.uint64pow10", "cartage/lines.words", "cartage/lines.ops"] (by kernel_rfl) (by kernel_rfl)
theorem linesParts_row_tie : Rows.linesPartsRow.laidByTextAt .later Tryd.pinned [.data, .data, .data, .widerDeep, .data] true :=
  OpenClaim.laidByTextAt_later rfl rfl tie noOwnUnsafe
theorem linesWords_row_tie : Rows.linesWordsRow.laidByTextAt .later Tryd.pinned [.data, .data, .data, .widerDeep, .data] true :=
  OpenClaim.laidByTextAt_later rfl rfl tie noOwnUnsafe
theorem fits2 : Tryd.pinned.checked.prog.listedFits [("unicode/utf8.acceptRanges", Rows.laid_unicode_utf8_acceptRanges), ("cartage/api.ErrRange", Rows.laid_cartage_api_ErrRange), ("cartage/api.ErrKind", Rows.laid_cartage_api_ErrKind), ("unicode/utf8.first", Rows.laid_unicode_utf8_first)] = true := by
  unfold Program.listedFits
  rw [noOwnUnsafe]
  kernel_rfl
theorem tie2 : Tryd.prog.laidByTextLater [("unicode/utf8.acceptRanges", Rows.laid_unicode_utf8_acceptRanges), ("cartage/api.ErrRange", Rows.laid_cartage_api_ErrRange), ("cartage/api.ErrKind", Rows.laid_cartage_api_ErrKind)] [.data, .sentinel, .sentinel] true :=
  Program.laidByTextLater.sub seatTie1 ["unicode/utf8.acceptRanges", "cartage/api.ErrRange", "cartage/api.ErrKind"] (by kernel_rfl) (by kernel_rfl)
theorem scriptSame_row_tie : Rows.scriptSameRow.laidByTextAt .later Tryd.pinned [.data, .sentinel, .sentinel, .pinned] true :=
  OpenClaim.laidByTextAt_pinned rfl rfl tie2 rfl rfl rfl rfl (fun y hy _e => by
    simp only [Rows.scriptSameRow, List.zip_cons_cons, List.zip_nil_right, List.mem_cons, List.mem_nil_iff, or_false] at hy
    rcases hy with rfl | rfl | rfl | rfl
    · cases _e
    · cases _e
    · cases _e
    · exact ⟨pin_laid_unicode_utf8_first, by kernel_rfl⟩) fits2
theorem fits3 : Tryd.pinned.checked.prog.listedFits [("unicode/utf8.acceptRanges", Rows.laid_unicode_utf8_acceptRanges), ("cartage/api.ErrRange", Rows.laid_cartage_api_ErrRange), ("cartage/api.ErrShort", Rows.laid_cartage_api_ErrShort), ("cartage/api.ErrKind", Rows.laid_cartage_api_ErrKind), ("unicode/utf8.first", Rows.laid_unicode_utf8_first)] = true := by
  unfold Program.listedFits
  rw [noOwnUnsafe]
  kernel_rfl
theorem tie3 : Tryd.prog.laidByTextLater [("unicode/utf8.acceptRanges", Rows.laid_unicode_utf8_acceptRanges), ("cartage/api.ErrRange", Rows.laid_cartage_api_ErrRange), ("cartage/api.ErrShort", Rows.laid_cartage_api_ErrShort), ("cartage/api.ErrKind", Rows.laid_cartage_api_ErrKind)] [.data, .sentinel, .sentinel, .sentinel] true :=
  Program.laidByTextLater.sub seatTie1 ["unicode/utf8.acceptRanges", "cartage/api.ErrRange", "cartage/api.ErrShort", "cartage/api.ErrKind"] (by kernel_rfl) (by kernel_rfl)
theorem octetsOne_row_tie : Rows.octetsOneRow.laidByTextAt .later Tryd.pinned [.data, .sentinel, .sentinel, .sentinel, .pinned] true :=
  OpenClaim.laidByTextAt_pinned rfl rfl tie3 rfl rfl rfl rfl (fun y hy _e => by
    simp only [Rows.octetsOneRow, List.zip_cons_cons, List.zip_nil_right, List.mem_cons, List.mem_nil_iff, or_false] at hy
    rcases hy with rfl | rfl | rfl | rfl | rfl
    · cases _e
    · cases _e
    · cases _e
    · cases _e
    · exact ⟨pin_laid_unicode_utf8_first, by kernel_rfl⟩) fits3
theorem fits4 : Tryd.pinned.checked.prog.listedFits [("unicode/utf8.acceptRanges", Rows.laid_unicode_utf8_acceptRanges), ("cartage/api.ErrRange", Rows.laid_cartage_api_ErrRange), ("cartage/api.ErrShort", Rows.laid_cartage_api_ErrShort), ("cartage/api.ErrLong", Rows.laid_cartage_api_ErrLong), ("cartage/api.ErrForm", Rows.laid_cartage_api_ErrForm), ("cartage/api.ErrSum", Rows.laid_cartage_api_ErrSum), ("cartage/api.ErrName", Rows.laid_cartage_api_ErrName), ("cartage/api.ErrKind", Rows.laid_cartage_api_ErrKind), ("cartage/api.ErrDepth", Rows.laid_cartage_api_ErrDepth), ("cartage/api.ErrMissing", Rows.laid_cartage_api_ErrMissing), ("cartage/api.ErrCas", Rows.laid_cartage_api_ErrCas), ("cartage/api.ErrQuota", Rows.laid_cartage_api_ErrQuota), ("cartage/api.ErrQueue", Rows.laid_cartage_api_ErrQueue), ("cartage/api.ErrLarge", Rows.laid_cartage_api_ErrLarge), ("cartage/api.ErrNoRepo", Rows.laid_cartage_api_ErrNoRepo), ("cartage/api.ErrExists", Rows.laid_cartage_api_ErrExists), ("cartage/api.ErrDown", Rows.laid_cartage_api_ErrDown), ("cartage/api.ErrTimeout", Rows.laid_cartage_api_ErrTimeout), ("cartage/api.ErrStale", Rows.laid_cartage_api_ErrStale), ("cartage/api.ErrState", Rows.laid_cartage_api_ErrState), ("cartage/api.ErrDup", Rows.laid_cartage_api_ErrDup), ("cartage/api.ErrNone", Rows.laid_cartage_api_ErrNone), ("cartage/api.ErrFull", Rows.laid_cartage_api_ErrFull), ("unicode/utf8.first", Rows.laid_unicode_utf8_first)] = true := by
  unfold Program.listedFits
  rw [noOwnUnsafe]
  kernel_rfl
theorem tie4 : Tryd.prog.laidByTextLater [("unicode/utf8.acceptRanges", Rows.laid_unicode_utf8_acceptRanges), ("cartage/api.ErrRange", Rows.laid_cartage_api_ErrRange), ("cartage/api.ErrShort", Rows.laid_cartage_api_ErrShort), ("cartage/api.ErrLong", Rows.laid_cartage_api_ErrLong), ("cartage/api.ErrForm", Rows.laid_cartage_api_ErrForm), ("cartage/api.ErrSum", Rows.laid_cartage_api_ErrSum), ("cartage/api.ErrName", Rows.laid_cartage_api_ErrName), ("cartage/api.ErrKind", Rows.laid_cartage_api_ErrKind), ("cartage/api.ErrDepth", Rows.laid_cartage_api_ErrDepth), ("cartage/api.ErrMissing", Rows.laid_cartage_api_ErrMissing), ("cartage/api.ErrCas", Rows.laid_cartage_api_ErrCas), ("cartage/api.ErrQuota", Rows.laid_cartage_api_ErrQuota), ("cartage/api.ErrQueue", Rows.laid_cartage_api_ErrQueue), ("cartage/api.ErrLarge", Rows.laid_cartage_api_ErrLarge), ("cartage/api.ErrNoRepo", Rows.laid_cartage_api_ErrNoRepo), ("cartage/api.ErrExists", Rows.laid_cartage_api_ErrExists), ("cartage/api.ErrDown", Rows.laid_cartage_api_ErrDown), ("cartage/api.ErrTimeout", Rows.laid_cartage_api_ErrTimeout), ("cartage/api.ErrStale", Rows.laid_cartage_api_ErrStale), ("cartage/api.ErrState", Rows.laid_cartage_api_ErrState), ("cartage/api.ErrDup", Rows.laid_cartage_api_ErrDup), ("cartage/api.ErrNone", Rows.laid_cartage_api_ErrNone), ("cartage/api.ErrFull", Rows.laid_cartage_api_ErrFull)] [.data, .sentinel, .sentinel, .sentinel, .sentinel, .sentinel, .sentinel, .sentinel, .sentinel, .sentinel, .sentinel, .sentinel, .sentinel, .sentinel, .sentinel, .sentinel, .sentinel, .sentinel, .sentinel, .sentinel, .sentinel, .sentinel, .sentinel] true :=
  Program.laidByTextLater.sub seatTie2 ["unicode/utf8.acceptRanges", "cartage/api.ErrRange", "cartage/api.ErrShort", "cartage/api.ErrLong", "cartage/api.ErrForm", "cartage/api.ErrSum", "cartage/api.ErrName", "cartage/api.ErrKind", "cartage/api.ErrDepth", "cartage/api.ErrMissing", "cartage/api.ErrCas", "cartage/api.ErrQuota", "cartage/api.ErrQueue", "cartage/api.ErrLarge", "cartage/api.ErrNoRepo", "cartage/api.ErrExists", "cartage/api.ErrDown", "cartage/api.ErrTimeout", "cartage/api.ErrStale", "cartage/api.ErrState", "cartage/api.ErrDup", "cartage/api.ErrNone", "cartage/api.ErrFull"] (by kernel_rfl) (by kernel_rfl)
theorem octetsTake_row_tie : Rows.octetsTakeRow.laidByTextAt .later Tryd.pinned [.data, .sentinel, .sentinel, .sentinel, .sentinel, .sentinel, .sentinel, .sentinel, .sentinel, .sentinel, .sentinel, .sentinel, .sentinel, .sentinel, .sentinel, .sentinel, .sentinel, .sentinel, .sentinel, .sentinel, .sentinel, .sentinel, .sentinel, .pinned] true :=
  OpenClaim.laidByTextAt_pinned rfl rfl tie4 rfl rfl rfl rfl (fun y hy _e => by
    simp only [Rows.octetsTakeRow, List.zip_cons_cons, List.zip_nil_right, List.mem_cons, List.mem_nil_iff, or_false] at hy
    rcases hy with rfl | rfl | rfl | rfl | rfl | rfl | rfl | rfl | rfl | rfl | rfl | rfl | rfl | rfl | rfl | rfl | rfl | rfl | rfl | rfl | rfl | rfl | rfl | rfl
    · cases _e
    · cases _e
    · cases _e
    · cases _e
    · cases _e
    · cases _e
    · cases _e
    · cases _e
    · cases _e
    · cases _e
    · cases _e
    · cases _e
    · cases _e
    · cases _e
    · cases _e
    · cases _e
    · cases _e
    · cases _e
    · cases _e
    · cases _e
    · cases _e
    · cases _e
    · cases _e
    · exact ⟨pin_laid_unicode_utf8_first, by kernel_rfl⟩) fits4
theorem octetsWrite_row_tie : Rows.octetsWriteRow.laidByTextAt .later Tryd.pinned [.data, .sentinel, .sentinel, .sentinel, .sentinel, .sentinel, .sentinel, .sentinel, .sentinel, .sentinel, .sentinel, .sentinel, .sentinel, .sentinel, .sentinel, .sentinel, .sentinel, .sentinel, .sentinel, .sentinel, .sentinel, .sentinel, .sentinel, .pinned] true :=
  OpenClaim.laidByTextAt_pinned rfl rfl tie4 rfl rfl rfl rfl (fun y hy _e => by
    simp only [Rows.octetsWriteRow, List.zip_cons_cons, List.zip_nil_right, List.mem_cons, List.mem_nil_iff, or_false] at hy
    rcases hy with rfl | rfl | rfl | rfl | rfl | rfl | rfl | rfl | rfl | rfl | rfl | rfl | rfl | rfl | rfl | rfl | rfl | rfl | rfl | rfl | rfl | rfl | rfl | rfl
    · cases _e
    · cases _e
    · cases _e
    · cases _e
    · cases _e
    · cases _e
    · cases _e
    · cases _e
    · cases _e
    · cases _e
    · cases _e
    · cases _e
    · cases _e
    · cases _e
    · cases _e
    · cases _e
    · cases _e
    · cases _e
    · cases _e
    · cases _e
    · cases _e
    · cases _e
    · cases _e
    · exact ⟨pin_laid_unicode_utf8_first, by kernel_rfl⟩) fits4
theorem fits5 : Tryd.pinned.checked.prog.listedFits [("unicode/utf8.acceptRanges", Rows.laid_unicode_utf8_acceptRanges), ("cartage/api.ErrRange", Rows.laid_cartage_api_ErrRange), ("cartage/api.ErrShort", Rows.laid_cartage_api_ErrShort), ("cartage/api.ErrLong", Rows.laid_cartage_api_ErrLong), ("cartage/api.ErrForm", Rows.laid_cartage_api_ErrForm), ("cartage/api.ErrKind", Rows.laid_cartage_api_ErrKind), ("unicode/utf8.first", Rows.laid_unicode_utf8_first)] = true := by
  unfold Program.listedFits
  rw [noOwnUnsafe]
  kernel_rfl
theorem tie5 : Tryd.prog.laidByTextLater [("unicode/utf8.acceptRanges", Rows.laid_unicode_utf8_acceptRanges), ("cartage/api.ErrRange", Rows.laid_cartage_api_ErrRange), ("cartage/api.ErrShort", Rows.laid_cartage_api_ErrShort), ("cartage/api.ErrLong", Rows.laid_cartage_api_ErrLong), ("cartage/api.ErrForm", Rows.laid_cartage_api_ErrForm), ("cartage/api.ErrKind", Rows.laid_cartage_api_ErrKind)] [.data, .sentinel, .sentinel, .sentinel, .sentinel, .sentinel] true :=
  Program.laidByTextLater.sub seatTie1 ["unicode/utf8.acceptRanges", "cartage/api.ErrRange", "cartage/api.ErrShort", "cartage/api.ErrLong", "cartage/api.ErrForm", "cartage/api.ErrKind"] (by kernel_rfl) (by kernel_rfl)
theorem scriptDecodes_row_tie : Rows.scriptDecodesRow.laidByTextAt .later Tryd.pinned [.data, .sentinel, .sentinel, .sentinel, .sentinel, .sentinel, .pinned] true :=
  OpenClaim.laidByTextAt_pinned rfl rfl tie5 rfl rfl rfl rfl (fun y hy _e => by
    simp only [Rows.scriptDecodesRow, List.zip_cons_cons, List.zip_nil_right, List.mem_cons, List.mem_nil_iff, or_false] at hy
    rcases hy with rfl | rfl | rfl | rfl | rfl | rfl | rfl
    · cases _e
    · cases _e
    · cases _e
    · cases _e
    · cases _e
    · cases _e
    · exact ⟨pin_laid_unicode_utf8_first, by kernel_rfl⟩) fits5
theorem scriptJoin_row_tie : Rows.scriptJoinRow.laidByTextAt .later Tryd.pinned [.data, .sentinel, .sentinel, .sentinel, .sentinel, .sentinel, .pinned] true :=
  OpenClaim.laidByTextAt_pinned rfl rfl tie5 rfl rfl rfl rfl (fun y hy _e => by
    simp only [Rows.scriptJoinRow, List.zip_cons_cons, List.zip_nil_right, List.mem_cons, List.mem_nil_iff, or_false] at hy
    rcases hy with rfl | rfl | rfl | rfl | rfl | rfl | rfl
    · cases _e
    · cases _e
    · cases _e
    · cases _e
    · cases _e
    · cases _e
    · exact ⟨pin_laid_unicode_utf8_first, by kernel_rfl⟩) fits5
theorem linesPartsUpto_row_tie : Rows.linesPartsUptoRow.laidByTextAt .later Tryd.pinned [.data, .data, .data, .widerDeep, .data] true :=
  OpenClaim.laidByTextAt_later rfl rfl tie noOwnUnsafe
theorem linesWordsUpto_row_tie : Rows.linesWordsUptoRow.laidByTextAt .later Tryd.pinned [.data, .data, .data, .widerDeep, .data] true :=
  OpenClaim.laidByTextAt_later rfl rfl tie noOwnUnsafe
theorem scriptSameUpto_row_tie : Rows.scriptSameUptoRow.laidByTextAt .later Tryd.pinned [.data, .sentinel, .sentinel, .pinned] true :=
  OpenClaim.laidByTextAt_pinned rfl rfl tie2 rfl rfl rfl rfl (fun y hy _e => by
    simp only [Rows.scriptSameUptoRow, List.zip_cons_cons, List.zip_nil_right, List.mem_cons, List.mem_nil_iff, or_false] at hy
    rcases hy with rfl | rfl | rfl | rfl
    · cases _e
    · cases _e
    · cases _e
    · exact ⟨pin_laid_unicode_utf8_first, by kernel_rfl⟩) fits2
theorem octetsOneUpto_row_tie : Rows.octetsOneUptoRow.laidByTextAt .later Tryd.pinned [.data, .sentinel, .sentinel, .sentinel, .pinned] true :=
  OpenClaim.laidByTextAt_pinned rfl rfl tie3 rfl rfl rfl rfl (fun y hy _e => by
    simp only [Rows.octetsOneUptoRow, List.zip_cons_cons, List.zip_nil_right, List.mem_cons, List.mem_nil_iff, or_false] at hy
    rcases hy with rfl | rfl | rfl | rfl | rfl
    · cases _e
    · cases _e
    · cases _e
    · cases _e
    · exact ⟨pin_laid_unicode_utf8_first, by kernel_rfl⟩) fits3
theorem octetsTakeUpto_row_tie : Rows.octetsTakeUptoRow.laidByTextAt .later Tryd.pinned [.data, .sentinel, .sentinel, .sentinel, .sentinel, .sentinel, .sentinel, .sentinel, .sentinel, .sentinel, .sentinel, .sentinel, .sentinel, .sentinel, .sentinel, .sentinel, .sentinel, .sentinel, .sentinel, .sentinel, .sentinel, .sentinel, .sentinel, .pinned] true :=
  OpenClaim.laidByTextAt_pinned rfl rfl tie4 rfl rfl rfl rfl (fun y hy _e => by
    simp only [Rows.octetsTakeUptoRow, List.zip_cons_cons, List.zip_nil_right, List.mem_cons, List.mem_nil_iff, or_false] at hy
    rcases hy with rfl | rfl | rfl | rfl | rfl | rfl | rfl | rfl | rfl | rfl | rfl | rfl | rfl | rfl | rfl | rfl | rfl | rfl | rfl | rfl | rfl | rfl | rfl | rfl
    · cases _e
    · cases _e
    · cases _e
    · cases _e
    · cases _e
    · cases _e
    · cases _e
    · cases _e
    · cases _e
    · cases _e
    · cases _e
    · cases _e
    · cases _e
    · cases _e
    · cases _e
    · cases _e
    · cases _e
    · cases _e
    · cases _e
    · cases _e
    · cases _e
    · cases _e
    · cases _e
    · exact ⟨pin_laid_unicode_utf8_first, by kernel_rfl⟩) fits4
theorem octetsWriteUpto_row_tie : Rows.octetsWriteUptoRow.laidByTextAt .later Tryd.pinned [.data, .sentinel, .sentinel, .sentinel, .sentinel, .sentinel, .sentinel, .sentinel, .sentinel, .sentinel, .sentinel, .sentinel, .sentinel, .sentinel, .sentinel, .sentinel, .sentinel, .sentinel, .sentinel, .sentinel, .sentinel, .sentinel, .sentinel, .pinned] true :=
  OpenClaim.laidByTextAt_pinned rfl rfl tie4 rfl rfl rfl rfl (fun y hy _e => by
    simp only [Rows.octetsWriteUptoRow, List.zip_cons_cons, List.zip_nil_right, List.mem_cons, List.mem_nil_iff, or_false] at hy
    rcases hy with rfl | rfl | rfl | rfl | rfl | rfl | rfl | rfl | rfl | rfl | rfl | rfl | rfl | rfl | rfl | rfl | rfl | rfl | rfl | rfl | rfl | rfl | rfl | rfl
    · cases _e
    · cases _e
    · cases _e
    · cases _e
    · cases _e
    · cases _e
    · cases _e
    · cases _e
    · cases _e
    · cases _e
    · cases _e
    · cases _e
    · cases _e
    · cases _e
    · cases _e
    · cases _e
    · cases _e
    · cases _e
    · cases _e
    · cases _e
    · cases _e
    · cases _e
    · cases _e
    · exact ⟨pin_laid_unicode_utf8_first, by kernel_rfl⟩) fits4
theorem scriptDecodesUpto_row_tie : Rows.scriptDecodesUptoRow.laidByTextAt .later Tryd.pinned [.data, .sentinel, .sentinel, .sentinel, .sentinel, .sentinel, .pinned] true :=
  OpenClaim.laidByTextAt_pinned rfl rfl tie5 rfl rfl rfl rfl (fun y hy _e => by
    simp only [Rows.scriptDecodesUptoRow, List.zip_cons_cons, List.zip_nil_right, List.mem_cons, List.mem_nil_iff, or_false] at hy
    rcases hy with rfl | rfl | rfl | rfl | rfl | rfl | rfl
    · cases _e
    · cases _e
    · cases _e
    · cases _e
    · cases _e
    · cases _e
    · exact ⟨pin_laid_unicode_utf8_first, by kernel_rfl⟩) fits5
theorem scriptJoinUpto_row_tie : Rows.scriptJoinUptoRow.laidByTextAt .later Tryd.pinned [.data, .sentinel, .sentinel, .sentinel, .sentinel, .sentinel, .pinned] true :=
  OpenClaim.laidByTextAt_pinned rfl rfl tie5 rfl rfl rfl rfl (fun y hy _e => by
    simp only [Rows.scriptJoinUptoRow, List.zip_cons_cons, List.zip_nil_right, List.mem_cons, List.mem_nil_iff, or_false] at hy
    rcases hy with rfl | rfl | rfl | rfl | rfl | rfl | rfl
    · cases _e
    · cases _e
    · cases _e
    · cases _e
    · cases _e
    · cases _e
    · exact ⟨pin_laid_unicode_utf8_first, by kernel_rfl⟩) fits5
end Go.Proofs.YtmmiimcodbjnmaaDoor
