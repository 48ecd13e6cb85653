/-
  DERIVED. GIVEN WITH THE SEED: THE PROGRAM's TIES (one call each: nine closed facts by the kernel) AND EACH ROW's TIE, after the 31st guide's Derived/Test/Toyas{Tie, Card}.lean. No idea stands in it: it is a product of the set-up. Laid BY PROGRAM, IN A SANDBOX (cutbox-door.mjs). By AI agents, Wed Nov 11 2026. No macro, syntax, notation, axiom, sorry.
-/
import Derived.Test.YtbapkamopelgpaaDoorRows
import Derived.LaidByTextLater
import Derived.SevenTiedAt
import Derived.LaidSub
import Derived.LaidOnce
namespace Go.Proofs.YtbapkamopelgpaaDoor
open Go
set_option maxRecDepth 100000
theorem seatTie1 : Tryd.prog.laidByTextLater [("unicode/utf8.acceptRanges", Rows.laid_unicode_utf8_acceptRanges), ("cartage/api.ErrRange", Rows.laid_cartage_api_ErrRange), ("cartage/api.ErrShort", Rows.laid_cartage_api_ErrShort), ("cartage/api.ErrLong", Rows.laid_cartage_api_ErrLong), ("cartage/api.ErrForm", Rows.laid_cartage_api_ErrForm), ("cartage/api.ErrSum", Rows.laid_cartage_api_ErrSum), ("cartage/api.ErrName", Rows.laid_cartage_api_ErrName), ("cartage/api.ErrKind", Rows.laid_cartage_api_ErrKind), ("cartage/api.ErrDepth", Rows.laid_cartage_api_ErrDepth), ("cartage/api.ErrMissing", Rows.laid_cartage_api_ErrMissing), ("cartage/api.ErrCas", Rows.laid_cartage_api_ErrCas), ("cartage/api.ErrQuota", Rows.laid_cartage_api_ErrQuota), ("cartage/api.ErrQueue", Rows.laid_cartage_api_ErrQueue), ("cartage/api.ErrLarge", Rows.laid_cartage_api_ErrLarge), ("cartage/api.ErrNoRepo", Rows.laid_cartage_api_ErrNoRepo), ("cartage/api.ErrExists", Rows.laid_cartage_api_ErrExists), ("cartage/api.ErrDown", Rows.laid_cartage_api_ErrDown), ("cartage/api.ErrTimeout", Rows.laid_cartage_api_ErrTimeout), ("cartage/api.ErrStale", Rows.laid_cartage_api_ErrStale), ("cartage/api.ErrState", Rows.laid_cartage_api_ErrState), ("cartage/api.ErrDup", Rows.laid_cartage_api_ErrDup), ("cartage/api.ErrNone", Rows.laid_cartage_api_ErrNone), ("cartage/api.ErrFull", Rows.laid_cartage_api_ErrFull), ("cartage/message.words", Rows.laid_cartage_message_words)] [.data, .sentinel, .sentinel, .sentinel, .sentinel, .sentinel, .sentinel, .sentinel, .sentinel, .sentinel, .sentinel, .sentinel, .sentinel, .sentinel, .sentinel, .sentinel, .sentinel, .sentinel, .sentinel, .sentinel, .sentinel, .sentinel, .sentinel, .data] true :=
  Program.laidByTextLater_by_one 467 8 65 (by kernel_rfl) (by kernel_rfl) (by kernel_rfl) (by kernel_rfl) (by kernel_rfl) (by kernel_rfl) (fun _ _ => by kernel_rfl)
theorem seatTie2 : Tryd.prog.laidByTextLater [("unicode/utf8.acceptRanges", Rows.laid_unicode_utf8_acceptRanges), ("cartage/api.ErrRange", Rows.laid_cartage_api_ErrRange), ("cartage/api.ErrShort", Rows.laid_cartage_api_ErrShort), ("cartage/api.ErrLong", Rows.laid_cartage_api_ErrLong), ("cartage/api.ErrForm", Rows.laid_cartage_api_ErrForm), ("cartage/api.ErrSum", Rows.laid_cartage_api_ErrSum), ("cartage/api.ErrName", Rows.laid_cartage_api_ErrName), ("cartage/api.ErrKind", Rows.laid_cartage_api_ErrKind), ("cartage/api.ErrDepth", Rows.laid_cartage_api_ErrDepth), ("cartage/api.ErrMissing", Rows.laid_cartage_api_ErrMissing), ("cartage/api.ErrCas", Rows.laid_cartage_api_ErrCas), ("cartage/api.ErrQuota", Rows.laid_cartage_api_ErrQuota), ("cartage/api.ErrQueue", Rows.laid_cartage_api_ErrQueue), ("cartage/api.ErrLarge", Rows.laid_cartage_api_ErrLarge), ("cartage/api.ErrNoRepo", Rows.laid_cartage_api_ErrNoRepo), ("cartage/api.ErrExists", Rows.laid_cartage_api_ErrExists), ("cartage/api.ErrDown", Rows.laid_cartage_api_ErrDown), ("cartage/api.ErrTimeout", Rows.laid_cartage_api_ErrTimeout), ("cartage/api.ErrStale", Rows.laid_cartage_api_ErrStale), ("cartage/api.ErrState", Rows.laid_cartage_api_ErrState), ("cartage/api.ErrDup", Rows.laid_cartage_api_ErrDup), ("cartage/api.ErrNone", Rows.laid_cartage_api_ErrNone), ("cartage/api.ErrFull", Rows.laid_cartage_api_ErrFull), ("cartage/sha.grains", Rows.laid_cartage_sha_grains), ("cartage/sha.start", Rows.laid_cartage_sha_start)] [.data, .sentinel, .sentinel, .sentinel, .sentinel, .sentinel, .sentinel, .sentinel, .sentinel, .sentinel, .sentinel, .sentinel, .sentinel, .sentinel, .sentinel, .sentinel, .sentinel, .sentinel, .sentinel, .sentinel, .sentinel, .sentinel, .sentinel, .data, .data] true :=
  Program.laidByTextLater_by_one 467 8 65 (by kernel_rfl) (by kernel_rfl) (by kernel_rfl) (by kernel_rfl) (by kernel_rfl) (by kernel_rfl) (fun _ _ => by kernel_rfl)
theorem seatTie3 : Tryd.prog.laidByTextLater [("math/bits.deBruijn32tab", Rows.laid_math_bits_deBruijn32tab), ("math/bits.deBruijn64tab", Rows.laid_math_bits_deBruijn64tab), ("internal/strconv.uint64pow10", Rows.laid_internal_strconv_uint64pow10), ("unicode/utf8.acceptRanges", Rows.laid_unicode_utf8_acceptRanges), ("cartage/api.ErrRange", Rows.laid_cartage_api_ErrRange), ("cartage/api.ErrKind", Rows.laid_cartage_api_ErrKind), ("cartage/api.ErrLarge", Rows.laid_cartage_api_ErrLarge), ("cartage/sha.grains", Rows.laid_cartage_sha_grains), ("cartage/sha.start", Rows.laid_cartage_sha_start)] [.data, .data, .data, .data, .sentinel, .sentinel, .sentinel, .data, .data] true :=
  Program.laidByTextLater_by_one 467 8 65 (by kernel_rfl) (by kernel_rfl) (by kernel_rfl) (by kernel_rfl) (by kernel_rfl) (by kernel_rfl) (fun _ _ => by kernel_rfl)
theorem seatTie4 : Tryd.prog.laidByTextLater [("unicode/utf8.acceptRanges", Rows.laid_unicode_utf8_acceptRanges), ("cartage/api.ErrRange", Rows.laid_cartage_api_ErrRange), ("cartage/api.ErrShort", Rows.laid_cartage_api_ErrShort), ("cartage/api.ErrLong", Rows.laid_cartage_api_ErrLong), ("cartage/api.ErrForm", Rows.laid_cartage_api_ErrForm), ("cartage/api.ErrSum", Rows.laid_cartage_api_ErrSum), ("cartage/api.ErrName", Rows.laid_cartage_api_ErrName), ("cartage/api.ErrKind", Rows.laid_cartage_api_ErrKind), ("cartage/api.ErrDepth", Rows.laid_cartage_api_ErrDepth), ("cartage/api.ErrMissing", Rows.laid_cartage_api_ErrMissing), ("cartage/api.ErrCas", Rows.laid_cartage_api_ErrCas), ("cartage/api.ErrQuota", Rows.laid_cartage_api_ErrQuota), ("cartage/api.ErrQueue", Rows.laid_cartage_api_ErrQueue), ("cartage/api.ErrLarge", Rows.laid_cartage_api_ErrLarge), ("cartage/api.ErrNoRepo", Rows.laid_cartage_api_ErrNoRepo), ("cartage/api.ErrExists", Rows.laid_cartage_api_ErrExists), ("cartage/api.ErrDown", Rows.laid_cartage_api_ErrDown), ("cartage/api.ErrTimeout", Rows.laid_cartage_api_ErrTimeout), ("cartage/api.ErrStale", Rows.laid_cartage_api_ErrStale), ("cartage/api.ErrState", Rows.laid_cartage_api_ErrState), ("cartage/api.ErrDup", Rows.laid_cartage_api_ErrDup), ("cartage/api.ErrNone", Rows.laid_cartage_api_ErrNone), ("cartage/api.ErrFull", Rows.laid_cartage_api_ErrFull), ("cartage/sha.grains", Rows.laid_cartage_sha_grains), ("cartage/sha.start", Rows.laid_cartage_sha_start), ("cartage/message.words", Rows.laid_cartage_message_words)] [.data, .sentinel, .sentinel, .sentinel, .sentinel, .sentinel, .sentinel, .sentinel, .sentinel, .sentinel, .sentinel, .sentinel, .sentinel, .sentinel, .sentinel, .sentinel, .sentinel, .sentinel, .sentinel, .sentinel, .sentinel, .sentinel, .sentinel, .data, .data, .data] true :=
  Program.laidByTextLater_by_one 467 8 65 (by kernel_rfl) (by kernel_rfl) (by kernel_rfl) (by kernel_rfl) (by kernel_rfl) (by kernel_rfl) (fun _ _ => by kernel_rfl)
theorem pin_laid_unicode_utf8_first : Tryd.pinned.checked.prog.pinnedFits "unicode/utf8.first" = true := by kernel_rfl
theorem noOwnUnsafe : Tryd.pinned.checked.prog.headLifts.contains "ownunsafe" = false := by kernel_rfl
theorem fits1 : Tryd.pinned.checked.prog.listedFits [("unicode/utf8.acceptRanges", Rows.laid_unicode_utf8_acceptRanges), ("cartage/api.ErrRange", Rows.laid_cartage_api_ErrRange), ("cartage/api.ErrKind", Rows.laid_cartage_api_ErrKind), ("cartage/api.ErrLarge", Rows.laid_cartage_api_ErrLarge), ("cartage/message.words", Rows.laid_cartage_message_words), ("unicode/utf8.first", Rows.laid_unicode_utf8_first)] = true := by
  unfold Program.listedFits
  rw [noOwnUnsafe]
  kernel_rfl
theorem tie : Tryd.prog.laidByTextLater [("unicode/utf8.acceptRanges", Rows.laid_unicode_utf8_acceptRanges), ("cartage/api.ErrRange", Rows.laid_cartage_api_ErrRange), ("cartage/api.ErrKind", Rows.laid_cartage_api_ErrKind), ("cartage/api.ErrLarge", Rows.laid_cartage_api_ErrLarge), ("cartage/message.words", Rows.laid_cartage_message_words)] [.data, .sentinel, .sentinel, .sentinel, .data] true :=
  Program.laidByTextLater.sub seatTie1 ["unicode/utf8.acceptRanges", "cartage/api.ErrRange", "cartage/api.ErrKind", "cartage/api.ErrLarge", "cartage/message.words"] (by kernel_rfl) (by kernel_rfl)
theorem messageSame_row_tie : Rows.messageSameRow.laidByTextAt .later Tryd.pinned [.data, .sentinel, .sentinel, .sentinel, .data, .pinned] true :=
  OpenClaim.laidByTextAt_pinned rfl rfl tie rfl rfl rfl rfl (fun y hy _e => by
    simp only [Rows.messageSameRow, List.zip_cons_cons, List.zip_nil_right, List.mem_cons, List.mem_nil_iff, or_false] at hy
    rcases hy with rfl | rfl | rfl | rfl | rfl | rfl
    · cases _e
    · cases _e
    · cases _e
    · cases _e
    · cases _e
    · exact ⟨pin_laid_unicode_utf8_first, by kernel_rfl⟩) fits1
theorem fits2 : Tryd.pinned.checked.prog.listedFits [("unicode/utf8.acceptRanges", Rows.laid_unicode_utf8_acceptRanges), ("cartage/api.ErrRange", Rows.laid_cartage_api_ErrRange), ("cartage/api.ErrShort", Rows.laid_cartage_api_ErrShort), ("cartage/api.ErrLong", Rows.laid_cartage_api_ErrLong), ("cartage/api.ErrForm", Rows.laid_cartage_api_ErrForm), ("cartage/api.ErrSum", Rows.laid_cartage_api_ErrSum), ("cartage/api.ErrName", Rows.laid_cartage_api_ErrName), ("cartage/api.ErrKind", Rows.laid_cartage_api_ErrKind), ("cartage/api.ErrDepth", Rows.laid_cartage_api_ErrDepth), ("cartage/api.ErrMissing", Rows.laid_cartage_api_ErrMissing), ("cartage/api.ErrCas", Rows.laid_cartage_api_ErrCas), ("cartage/api.ErrQuota", Rows.laid_cartage_api_ErrQuota), ("cartage/api.ErrQueue", Rows.laid_cartage_api_ErrQueue), ("cartage/api.ErrLarge", Rows.laid_cartage_api_ErrLarge), ("cartage/api.ErrNoRepo", Rows.laid_cartage_api_ErrNoRepo), ("cartage/api.ErrExists", Rows.laid_cartage_api_ErrExists), ("cartage/api.ErrDown", Rows.laid_cartage_api_ErrDown), ("cartage/api.ErrTimeout", Rows.laid_cartage_api_ErrTimeout), ("cartage/api.ErrStale", Rows.laid_cartage_api_ErrStale), ("cartage/api.ErrState", Rows.laid_cartage_api_ErrState), ("cartage/api.ErrDup", Rows.laid_cartage_api_ErrDup), ("cartage/api.ErrNone", Rows.laid_cartage_api_ErrNone), ("cartage/api.ErrFull", Rows.laid_cartage_api_ErrFull), ("cartage/message.words", Rows.laid_cartage_message_words), ("unicode/utf8.first", Rows.laid_unicode_utf8_first)] = true := by
  unfold Program.listedFits
  rw [noOwnUnsafe]
  kernel_rfl
theorem tie2 : Tryd.prog.laidByTextLater [("unicode/utf8.acceptRanges", Rows.laid_unicode_utf8_acceptRanges), ("cartage/api.ErrRange", Rows.laid_cartage_api_ErrRange), ("cartage/api.ErrShort", Rows.laid_cartage_api_ErrShort), ("cartage/api.ErrLong", Rows.laid_cartage_api_ErrLong), ("cartage/api.ErrForm", Rows.laid_cartage_api_ErrForm), ("cartage/api.ErrSum", Rows.laid_cartage_api_ErrSum), ("cartage/api.ErrName", Rows.laid_cartage_api_ErrName), ("cartage/api.ErrKind", Rows.laid_cartage_api_ErrKind), ("cartage/api.ErrDepth", Rows.laid_cartage_api_ErrDepth), ("cartage/api.ErrMissing", Rows.laid_cartage_api_ErrMissing), ("cartage/api.ErrCas", Rows.laid_cartage_api_ErrCas), ("cartage/api.ErrQuota", Rows.laid_cartage_api_ErrQuota), ("cartage/api.ErrQueue", Rows.laid_cartage_api_ErrQueue), ("cartage/api.ErrLarge", Rows.laid_cartage_api_ErrLarge), ("cartage/api.ErrNoRepo", Rows.laid_cartage_api_ErrNoRepo), ("cartage/api.ErrExists", Rows.laid_cartage_api_ErrExists), ("cartage/api.ErrDown", Rows.laid_cartage_api_ErrDown), ("cartage/api.ErrTimeout", Rows.laid_cartage_api_ErrTimeout), ("cartage/api.ErrStale", Rows.laid_cartage_api_ErrStale), ("cartage/api.ErrState", Rows.laid_cartage_api_ErrState), ("cartage/api.ErrDup", Rows.laid_cartage_api_ErrDup), ("cartage/api.ErrNone", Rows.laid_cartage_api_ErrNone), ("cartage/api.ErrFull", Rows.laid_cartage_api_ErrFull), ("cartage/message.words", Rows.laid_cartage_message_words)] [.data, .sentinel, .sentinel, .sentinel, .sentinel, .sentinel, .sentinel, .sentinel, .sentinel, .sentinel, .sentinel, .sentinel, .sentinel, .sentinel, .sentinel, .sentinel, .sentinel, .sentinel, .sentinel, .sentinel, .sentinel, .sentinel, .sentinel, .data] true :=
  Program.laidByTextLater.sub seatTie1 ["unicode/utf8.acceptRanges", "cartage/api.ErrRange", "cartage/api.ErrShort", "cartage/api.ErrLong", "cartage/api.ErrForm", "cartage/api.ErrSum", "cartage/api.ErrName", "cartage/api.ErrKind", "cartage/api.ErrDepth", "cartage/api.ErrMissing", "cartage/api.ErrCas", "cartage/api.ErrQuota", "cartage/api.ErrQueue", "cartage/api.ErrLarge", "cartage/api.ErrNoRepo", "cartage/api.ErrExists", "cartage/api.ErrDown", "cartage/api.ErrTimeout", "cartage/api.ErrStale", "cartage/api.ErrState", "cartage/api.ErrDup", "cartage/api.ErrNone", "cartage/api.ErrFull", "cartage/message.words"] (by kernel_rfl) (by kernel_rfl)
theorem clientNew_row_tie : Rows.clientNewRow.laidByTextAt .later Tryd.pinned [.data, .sentinel, .sentinel, .sentinel, .sentinel, .sentinel, .sentinel, .sentinel, .sentinel, .sentinel, .sentinel, .sentinel, .sentinel, .sentinel, .sentinel, .sentinel, .sentinel, .sentinel, .sentinel, .sentinel, .sentinel, .sentinel, .sentinel, .data, .pinned] true :=
  OpenClaim.laidByTextAt_pinned rfl rfl tie2 rfl rfl rfl rfl (fun y hy _e => by
    simp only [Rows.clientNewRow, List.zip_cons_cons, List.zip_nil_right, List.mem_cons, List.mem_nil_iff, or_false] at hy
    rcases hy with rfl | rfl | rfl | rfl | rfl | rfl | rfl | rfl | rfl | rfl | rfl | rfl | rfl | rfl | rfl | rfl | rfl | rfl | rfl | rfl | rfl | rfl | rfl | rfl | rfl
    · cases _e
    · cases _e
    · cases _e
    · cases _e
    · cases _e
    · cases _e
    · cases _e
    · cases _e
    · cases _e
    · cases _e
    · cases _e
    · cases _e
    · cases _e
    · cases _e
    · cases _e
    · cases _e
    · cases _e
    · cases _e
    · cases _e
    · cases _e
    · cases _e
    · cases _e
    · cases _e
    · cases _e
    · exact ⟨pin_laid_unicode_utf8_first, by kernel_rfl⟩) fits2
theorem fits3 : Tryd.pinned.checked.prog.listedFits [("unicode/utf8.acceptRanges", Rows.laid_unicode_utf8_acceptRanges), ("cartage/api.ErrRange", Rows.laid_cartage_api_ErrRange), ("cartage/api.ErrKind", Rows.laid_cartage_api_ErrKind), ("cartage/api.ErrLarge", Rows.laid_cartage_api_ErrLarge), ("cartage/api.ErrState", Rows.laid_cartage_api_ErrState), ("cartage/message.words", Rows.laid_cartage_message_words), ("unicode/utf8.first", Rows.laid_unicode_utf8_first)] = true := by
  unfold Program.listedFits
  rw [noOwnUnsafe]
  kernel_rfl
theorem tie3 : Tryd.prog.laidByTextLater [("unicode/utf8.acceptRanges", Rows.laid_unicode_utf8_acceptRanges), ("cartage/api.ErrRange", Rows.laid_cartage_api_ErrRange), ("cartage/api.ErrKind", Rows.laid_cartage_api_ErrKind), ("cartage/api.ErrLarge", Rows.laid_cartage_api_ErrLarge), ("cartage/api.ErrState", Rows.laid_cartage_api_ErrState), ("cartage/message.words", Rows.laid_cartage_message_words)] [.data, .sentinel, .sentinel, .sentinel, .sentinel, .data] true :=
  Program.laidByTextLater.sub seatTie1 ["unicode/utf8.acceptRanges", "cartage/api.ErrRange", "cartage/api.ErrKind", "cartage/api.ErrLarge", "cartage/api.ErrState", "cartage/message.words"] (by kernel_rfl) (by kernel_rfl)
theorem clientEnds_row_tie : Rows.clientEndsRow.laidByTextAt .later Tryd.pinned [.data, .sentinel, .sentinel, .sentinel, .sentinel, .data, .pinned] true :=
  OpenClaim.laidByTextAt_pinned rfl rfl tie3 rfl rfl rfl rfl (fun y hy _e => by
    simp only [Rows.clientEndsRow, List.zip_cons_cons, List.zip_nil_right, List.mem_cons, List.mem_nil_iff, or_false] at hy
    rcases hy with rfl | rfl | rfl | rfl | rfl | rfl | rfl
    · cases _e
    · cases _e
    · cases _e
    · cases _e
    · cases _e
    · cases _e
    · exact ⟨pin_laid_unicode_utf8_first, by kernel_rfl⟩) fits3
theorem clientDeaf_row_tie : Rows.clientDeafRow.laidByTextAt .later Tryd.pinned [.data, .sentinel, .sentinel, .sentinel, .sentinel, .data, .pinned] true :=
  OpenClaim.laidByTextAt_pinned rfl rfl tie3 rfl rfl rfl rfl (fun y hy _e => by
    simp only [Rows.clientDeafRow, List.zip_cons_cons, List.zip_nil_right, List.mem_cons, List.mem_nil_iff, or_false] at hy
    rcases hy with rfl | rfl | rfl | rfl | rfl | rfl | rfl
    · cases _e
    · cases _e
    · cases _e
    · cases _e
    · cases _e
    · cases _e
    · exact ⟨pin_laid_unicode_utf8_first, by kernel_rfl⟩) fits3
theorem fits4 : Tryd.pinned.checked.prog.listedFits [("unicode/utf8.acceptRanges", Rows.laid_unicode_utf8_acceptRanges), ("cartage/api.ErrRange", Rows.laid_cartage_api_ErrRange), ("cartage/api.ErrShort", Rows.laid_cartage_api_ErrShort), ("cartage/api.ErrLong", Rows.laid_cartage_api_ErrLong), ("cartage/api.ErrForm", Rows.laid_cartage_api_ErrForm), ("cartage/api.ErrSum", Rows.laid_cartage_api_ErrSum), ("cartage/api.ErrName", Rows.laid_cartage_api_ErrName), ("cartage/api.ErrKind", Rows.laid_cartage_api_ErrKind), ("cartage/api.ErrDepth", Rows.laid_cartage_api_ErrDepth), ("cartage/api.ErrMissing", Rows.laid_cartage_api_ErrMissing), ("cartage/api.ErrCas", Rows.laid_cartage_api_ErrCas), ("cartage/api.ErrQuota", Rows.laid_cartage_api_ErrQuota), ("cartage/api.ErrQueue", Rows.laid_cartage_api_ErrQueue), ("cartage/api.ErrLarge", Rows.laid_cartage_api_ErrLarge), ("cartage/api.ErrNoRepo", Rows.laid_cartage_api_ErrNoRepo), ("cartage/api.ErrExists", Rows.laid_cartage_api_ErrExists), ("cartage/api.ErrDown", Rows.laid_cartage_api_ErrDown), ("cartage/api.ErrTimeout", Rows.laid_cartage_api_ErrTimeout), ("cartage/api.ErrStale", Rows.laid_cartage_api_ErrStale), ("cartage/api.ErrState", Rows.laid_cartage_api_ErrState), ("cartage/api.ErrDup", Rows.laid_cartage_api_ErrDup), ("cartage/api.ErrNone", Rows.laid_cartage_api_ErrNone), ("cartage/api.ErrFull", Rows.laid_cartage_api_ErrFull), ("cartage/sha.grains", Rows.laid_cartage_sha_grains), ("cartage/sha.start", Rows.laid_cartage_sha_start), ("unicode/utf8.first", Rows.laid_unicode_utf8_first)] = true := by
  unfold Program.listedFits
  rw [noOwnUnsafe]
  kernel_rfl
theorem tie4 : Tryd.prog.laidByTextLater [("unicode/utf8.acceptRanges", Rows.laid_unicode_utf8_acceptRanges), ("cartage/api.ErrRange", Rows.laid_cartage_api_ErrRange), ("cartage/api.ErrShort", Rows.laid_cartage_api_ErrShort), ("cartage/api.ErrLong", Rows.laid_cartage_api_ErrLong), ("cartage/api.ErrForm", Rows.laid_cartage_api_ErrForm), ("cartage/api.ErrSum", Rows.laid_cartage_api_ErrSum), ("cartage/api.ErrName", Rows.laid_cartage_api_ErrName), ("cartage/api.ErrKind", Rows.laid_cartage_api_ErrKind), ("cartage/api.ErrDepth", Rows.laid_cartage_api_ErrDepth), ("cartage/api.ErrMissing", Rows.laid_cartage_api_ErrMissing), ("cartage/api.ErrCas", Rows.laid_cartage_api_ErrCas), ("cartage/api.ErrQuota", Rows.laid_cartage_api_ErrQuota), ("cartage/api.ErrQueue", Rows.laid_cartage_api_ErrQueue), ("cartage/api.ErrLarge", Rows.laid_cartage_api_ErrLarge), ("cartage/api.ErrNoRepo", Rows.laid_cartage_api_ErrNoRepo), ("cartage/api.ErrExists", Rows.laid_cartage_api_ErrExists), ("cartage/api.ErrDown", Rows.laid_cartage_api_ErrDown), ("cartage/api.ErrTimeout", Rows.laid_cartage_api_ErrTimeout), ("cartage/api.ErrStale", Rows.laid_cartage_api_ErrStale), ("cartage/api.ErrState", Rows.laid_cartage_api_ErrState), ("cartage/api.ErrDup", Rows.laid_cartage_api_ErrDup), ("cartage/api.ErrNone", Rows.laid_cartage_api_ErrNone), ("cartage/api.ErrFull", Rows.laid_cartage_api_ErrFull), ("cartage/sha.grains", Rows.laid_cartage_sha_grains), ("cartage/sha.start", Rows.laid_cartage_sha_start)] [.data, .sentinel, .sentinel, .sentinel, .sentinel, .sentinel, .sentinel, .sentinel, .sentinel, .sentinel, .sentinel, .sentinel, .sentinel, .sentinel, .sentinel, .sentinel, .sentinel, .sentinel, .sentinel, .sentinel, .sentinel, .sentinel, .sentinel, .data, .data] true :=
  Program.laidByTextLater.sub seatTie2 ["unicode/utf8.acceptRanges", "cartage/api.ErrRange", "cartage/api.ErrShort", "cartage/api.ErrLong", "cartage/api.ErrForm", "cartage/api.ErrSum", "cartage/api.ErrName", "cartage/api.ErrKind", "cartage/api.ErrDepth", "cartage/api.ErrMissing", "cartage/api.ErrCas", "cartage/api.ErrQuota", "cartage/api.ErrQueue", "cartage/api.ErrLarge", "cartage/api.ErrNoRepo", "cartage/api.ErrExists", "cartage/api.ErrDown", "cartage/api.ErrTimeout", "cartage/api.ErrStale", "cartage/api.ErrState", "cartage/api.ErrDup", "cartage/api.ErrNone", "cartage/api.ErrFull", "cartage/sha.grains", "cartage/sha.start"] (by kernel_rfl) (by kernel_rfl)
theorem frameParse_row_tie : Rows.frameParseRow.laidByTextAt .later Tryd.pinned [.data, .sentinel, .sentinel, .sentinel, .sentinel, .sentinel, .sentinel, .sentinel, .sentinel, .sentinel, .sentinel, .sentinel, .sentinel, .sentinel, .sentinel, .sentinel, .sentinel, .sentinel, .sentinel, .sentinel, .sentinel, .sentinel, .sentinel, .data, .data, .pinned] true :=
  OpenClaim.laidByTextAt_pinned rfl rfl tie4 rfl rfl rfl rfl (fun y hy _e => by
    simp only [Rows.frameParseRow, List.zip_cons_cons, List.zip_nil_right, List.mem_cons, List.mem_nil_iff, or_false] at hy
    rcases hy with rfl | rfl | rfl | rfl | rfl | rfl | rfl | rfl | rfl | rfl | rfl | rfl | rfl | rfl | rfl | rfl | rfl | rfl | rfl | rfl | rfl | rfl | rfl | rfl | rfl | rfl
    · cases _e
    · cases _e
    · cases _e
    · cases _e
    · cases _e
    · cases _e
    · cases _e
    · cases _e
    · cases _e
    · cases _e
    · cases _e
    · cases _e
    · cases _e
    · cases _e
    · cases _e
    · cases _e
    · cases _e
    · cases _e
    · cases _e
    · cases _e
    · cases _e
    · cases _e
    · cases _e
    · cases _e
    · cases _e
    · exact ⟨pin_laid_unicode_utf8_first, by kernel_rfl⟩) fits4
theorem frameBytes_row_tie : Rows.frameBytesRow.laidByTextAt .later Tryd.pinned [.data, .sentinel, .sentinel, .sentinel, .sentinel, .sentinel, .sentinel, .sentinel, .sentinel, .sentinel, .sentinel, .sentinel, .sentinel, .sentinel, .sentinel, .sentinel, .sentinel, .sentinel, .sentinel, .sentinel, .sentinel, .sentinel, .sentinel, .data, .data, .pinned] true :=
  OpenClaim.laidByTextAt_pinned rfl rfl tie4 rfl rfl rfl rfl (fun y hy _e => by
    simp only [Rows.frameBytesRow, List.zip_cons_cons, List.zip_nil_right, List.mem_cons, List.mem_nil_iff, or_false] at hy
    rcases hy with rfl | rfl | rfl | rfl | rfl | rfl | rfl | rfl | rfl | rfl | rfl | rfl | rfl | rfl | rfl | rfl | rfl | rfl | rfl | rfl | rfl | rfl | rfl | rfl | rfl | rfl
    · cases _e
    · cases _e
    · cases _e
    · cases _e
    · cases _e
    · cases _e
    · cases _e
    · cases _e
    · cases _e
    · cases _e
    · cases _e
    · cases _e
    · cases _e
    · cases _e
    · cases _e
    · cases _e
    · cases _e
    · cases _e
    · cases _e
    · cases _e
    · cases _e
    · cases _e
    · cases _e
    · cases _e
    · cases _e
    · exact ⟨pin_laid_unicode_utf8_first, by kernel_rfl⟩) fits4
theorem fits5 : Tryd.pinned.checked.prog.listedFits [("math/bits.deBruijn32tab", Rows.laid_math_bits_deBruijn32tab), ("math/bits.deBruijn64tab", Rows.laid_math_bits_deBruijn64tab), ("internal/strconv.uint64pow10", Rows.laid_internal_strconv_uint64pow10), ("unicode/utf8.acceptRanges", Rows.laid_unicode_utf8_acceptRanges), ("cartage/api.ErrRange", Rows.laid_cartage_api_ErrRange), ("cartage/api.ErrKind", Rows.laid_cartage_api_ErrKind), ("cartage/api.ErrLarge", Rows.laid_cartage_api_ErrLarge), ("cartage/sha.grains", Rows.laid_cartage_sha_grains), ("cartage/sha.start", Rows.laid_cartage_sha_start), ("unicode/utf8.first", Rows.laid_unicode_utf8_first)] = true := by
  unfold Program.listedFits
  rw [noOwnUnsafe]
  kernel_rfl
theorem tie5 : Tryd.prog.laidByTextLater [("math/bits.deBruijn32tab", Rows.laid_math_bits_deBruijn32tab), ("math/bits.deBruijn64tab", Rows.laid_math_bits_deBruijn64tab), ("internal/strconv.uint64pow10", Rows.laid_internal_strconv_uint64pow10), ("unicode/utf8.acceptRanges", Rows.laid_unicode_utf8_acceptRanges), ("cartage/api.ErrRange", Rows.laid_cartage_api_ErrRange), ("cartage/api.ErrKind", Rows.laid_cartage_api_ErrKind), ("cartage/api.ErrLarge", Rows.laid_cartage_api_ErrLarge), ("cartage/sha.grains", Rows.laid_cartage_sha_grains), ("cartage/sha.start", Rows.laid_cartage_sha_start)] [.data, .data, .data, .data, .sentinel, .sentinel, .sentinel, .data, .data] true :=
  Program.laidByTextLater.sub seatTie3 ["math/bits.deBruijn32tab", "math/bits.deBruijn64tab", "internal/strconv.uint64pow10", "unicode/utf8.acceptRanges", "cartage/api.ErrRange", "cartage/api.ErrKind", "cartage/api.ErrLarge", "cartage/sha.grains", "cartage/sha.start"] (by kernel_rfl) (by kernel_rfl)
theorem frameNames_row_tie : Rows.frameNamesRow.laidByTextAt .later Tryd.pinned [.data, .data, .data, .data, .sentinel, .sentinel, .sentinel, .data, .data, .pinned] true :=
  OpenClaim.laidByTextAt_pinned rfl rfl tie5 rfl rfl rfl rfl (fun y hy _e => by
    simp only [Rows.frameNamesRow, List.zip_cons_cons, List.zip_nil_right, List.mem_cons, List.mem_nil_iff, or_false] at hy
    rcases hy with rfl | rfl | rfl | rfl | rfl | rfl | rfl | rfl | rfl | rfl
    · cases _e
    · cases _e
    · cases _e
    · cases _e
    · cases _e
    · cases _e
    · cases _e
    · cases _e
    · cases _e
    · exact ⟨pin_laid_unicode_utf8_first, by kernel_rfl⟩) fits5
theorem frameWho_row_tie : Rows.frameWhoRow.laidByTextAt .later Tryd.pinned [.data, .data, .data, .data, .sentinel, .sentinel, .sentinel, .data, .data, .pinned] true :=
  OpenClaim.laidByTextAt_pinned rfl rfl tie5 rfl rfl rfl rfl (fun y hy _e => by
    simp only [Rows.frameWhoRow, List.zip_cons_cons, List.zip_nil_right, List.mem_cons, List.mem_nil_iff, or_false] at hy
    rcases hy with rfl | rfl | rfl | rfl | rfl | rfl | rfl | rfl | rfl | rfl
    · cases _e
    · cases _e
    · cases _e
    · cases _e
    · cases _e
    · cases _e
    · cases _e
    · cases _e
    · cases _e
    · exact ⟨pin_laid_unicode_utf8_first, by kernel_rfl⟩) fits5
theorem fits6 : Tryd.pinned.checked.prog.listedFits [("unicode/utf8.acceptRanges", Rows.laid_unicode_utf8_acceptRanges), ("cartage/api.ErrRange", Rows.laid_cartage_api_ErrRange), ("cartage/api.ErrShort", Rows.laid_cartage_api_ErrShort), ("cartage/api.ErrLong", Rows.laid_cartage_api_ErrLong), ("cartage/api.ErrForm", Rows.laid_cartage_api_ErrForm), ("cartage/api.ErrSum", Rows.laid_cartage_api_ErrSum), ("cartage/api.ErrName", Rows.laid_cartage_api_ErrName), ("cartage/api.ErrKind", Rows.laid_cartage_api_ErrKind), ("cartage/api.ErrDepth", Rows.laid_cartage_api_ErrDepth), ("cartage/api.ErrMissing", Rows.laid_cartage_api_ErrMissing), ("cartage/api.ErrCas", Rows.laid_cartage_api_ErrCas), ("cartage/api.ErrQuota", Rows.laid_cartage_api_ErrQuota), ("cartage/api.ErrQueue", Rows.laid_cartage_api_ErrQueue), ("cartage/api.ErrLarge", Rows.laid_cartage_api_ErrLarge), ("cartage/api.ErrNoRepo", Rows.laid_cartage_api_ErrNoRepo), ("cartage/api.ErrExists", Rows.laid_cartage_api_ErrExists), ("cartage/api.ErrDown", Rows.laid_cartage_api_ErrDown), ("cartage/api.ErrTimeout", Rows.laid_cartage_api_ErrTimeout), ("cartage/api.ErrStale", Rows.laid_cartage_api_ErrStale), ("cartage/api.ErrState", Rows.laid_cartage_api_ErrState), ("cartage/api.ErrDup", Rows.laid_cartage_api_ErrDup), ("cartage/api.ErrNone", Rows.laid_cartage_api_ErrNone), ("cartage/api.ErrFull", Rows.laid_cartage_api_ErrFull), ("cartage/sha.grains", Rows.laid_cartage_sha_grains), ("cartage/sha.start", Rows.laid_cartage_sha_start), ("cartage/message.words", Rows.laid_cartage_message_words), ("unicode/utf8.first", Rows.laid_unicode_utf8_first)] = true := by
  unfold Program.listedFits
  rw [noOwnUnsafe]
  kernel_rfl
theorem tie6 : Tryd.prog.laidByTextLater [("unicode/utf8.acceptRanges", Rows.laid_unicode_utf8_acceptRanges), ("cartage/api.ErrRange", Rows.laid_cartage_api_ErrRange), ("cartage/api.ErrShort", Rows.laid_cartage_api_ErrShort), ("cartage/api.ErrLong", Rows.laid_cartage_api_ErrLong), ("cartage/api.ErrForm", Rows.laid_cartage_api_ErrForm), ("cartage/api.ErrSum", Rows.laid_cartage_api_ErrSum), ("cartage/api.ErrName", Rows.laid_cartage_api_ErrName), ("cartage/api.ErrKind", Rows.laid_cartage_api_ErrKind), ("cartage/api.ErrDepth", Rows.laid_cartage_api_ErrDepth), ("cartage/api.ErrMissing", Rows.laid_cartage_api_ErrMissing), ("cartage/api.ErrCas", Rows.laid_cartage_api_ErrCas), ("cartage/api.ErrQuota", Rows.laid_cartage_api_ErrQuota), ("cartage/api.ErrQueue", Rows.laid_cartage_api_ErrQueue), ("cartage/api.ErrLarge", Rows.laid_cartage_api_ErrLarge), ("cartage/api.ErrNoRepo", Rows.laid_cartage_api_ErrNoRepo), ("cartage/api.ErrExists", Rows.laid_cartage_api_ErrExists), ("cartage/api.ErrDown", Rows.laid_cartage_api_ErrDown), ("cartage/api.ErrTimeout", Rows.laid_cartage_api_ErrTimeout), ("cartage/api.ErrStale", Rows.laid_cartage_api_ErrStale), ("cartage/api.ErrState", Rows.laid_cartage_api_ErrState), ("cartage/api.ErrDup", Rows.laid_cartage_api_ErrDup), ("cartage/api.ErrNone", Rows.laid_cartage_api_ErrNone), ("cartage/api.ErrFull", Rows.laid_cartage_api_ErrFull), ("cartage/sha.grains", Rows.laid_cartage_sha_grains), ("cartage/sha.start", Rows.laid_cartage_sha_start), ("cartage/message.words", Rows.laid_cartage_message_words)] [.data, .sentinel, .sentinel, .sentinel, .sentinel, .sentinel, .sentinel, .sentinel, .sentinel, .sentinel, .sentinel, .sentinel, .sentinel, .sentinel, .sentinel, .sentinel, .sentinel, .sentinel, .sentinel, .sentinel, .sentinel, .sentinel, .sentinel, .data, .data, .data] true :=
  Program.laidByTextLater.sub seatTie4 ["unicode/utf8.acceptRanges", "cartage/api.ErrRange", "cartage/api.ErrShort", "cartage/api.ErrLong", "cartage/api.ErrForm", "cartage/api.ErrSum", "cartage/api.ErrName", "cartage/api.ErrKind", "cartage/api.ErrDepth", "cartage/api.ErrMissing", "cartage/api.ErrCas", "cartage/api.ErrQuota", "cartage/api.ErrQueue", "cartage/api.ErrLarge", "cartage/api.ErrNoRepo", "cartage/api.ErrExists", "cartage/api.ErrDown", "cartage/api.ErrTimeout", "cartage/api.ErrStale", "cartage/api.ErrState", "cartage/api.ErrDup", "cartage/api.ErrNone", "cartage/api.ErrFull", "cartage/sha.grains", "cartage/sha.start", "cartage/message.words"] (by kernel_rfl) (by kernel_rfl)
theorem messageFrames_row_tie : Rows.messageFramesRow.laidByTextAt .later Tryd.pinned [.data, .sentinel, .sentinel, .sentinel, .sentinel, .sentinel, .sentinel, .sentinel, .sentinel, .sentinel, .sentinel, .sentinel, .sentinel, .sentinel, .sentinel, .sentinel, .sentinel, .sentinel, .sentinel, .sentinel, .sentinel, .sentinel, .sentinel, .data, .data, .data, .pinned] true :=
  OpenClaim.laidByTextAt_pinned rfl rfl tie6 rfl rfl rfl rfl (fun y hy _e => by
    simp only [Rows.messageFramesRow, List.zip_cons_cons, List.zip_nil_right, List.mem_cons, List.mem_nil_iff, or_false] at hy
    rcases hy with rfl | rfl | rfl | rfl | rfl | rfl | rfl | rfl | rfl | rfl | rfl | rfl | rfl | rfl | rfl | rfl | rfl | rfl | rfl | rfl | rfl | rfl | rfl | rfl | rfl | rfl | rfl
    · cases _e
    · cases _e
    · cases _e
    · cases _e
    · cases _e
    · cases _e
    · cases _e
    · cases _e
    · cases _e
    · cases _e
    · cases _e
    · cases _e
    · cases _e
    · cases _e
    · cases _e
    · cases _e
    · cases _e
    · cases _e
    · cases _e
    · cases _e
    · cases _e
    · cases _e
    · cases _e
    · cases _e
    · cases _e
    · cases _e
    · exact ⟨pin_laid_unicode_utf8_first, by kernel_rfl⟩) fits6
theorem messageSameUpto_row_tie : Rows.messageSameUptoRow.laidByTextAt .later Tryd.pinned [.data, .sentinel, .sentinel, .sentinel, .data, .pinned] true :=
  OpenClaim.laidByTextAt_pinned rfl rfl tie rfl rfl rfl rfl (fun y hy _e => by
    simp only [Rows.messageSameUptoRow, List.zip_cons_cons, List.zip_nil_right, List.mem_cons, List.mem_nil_iff, or_false] at hy
    rcases hy with rfl | rfl | rfl | rfl | rfl | rfl
    · cases _e
    · cases _e
    · cases _e
    · cases _e
    · cases _e
    · exact ⟨pin_laid_unicode_utf8_first, by kernel_rfl⟩) fits1
theorem clientNewUpto_row_tie : Rows.clientNewUptoRow.laidByTextAt .later Tryd.pinned [.data, .sentinel, .sentinel, .sentinel, .sentinel, .sentinel, .sentinel, .sentinel, .sentinel, .sentinel, .sentinel, .sentinel, .sentinel, .sentinel, .sentinel, .sentinel, .sentinel, .sentinel, .sentinel, .sentinel, .sentinel, .sentinel, .sentinel, .data, .pinned] true :=
  OpenClaim.laidByTextAt_pinned rfl rfl tie2 rfl rfl rfl rfl (fun y hy _e => by
    simp only [Rows.clientNewUptoRow, List.zip_cons_cons, List.zip_nil_right, List.mem_cons, List.mem_nil_iff, or_false] at hy
    rcases hy with rfl | rfl | rfl | rfl | rfl | rfl | rfl | rfl | rfl | rfl | rfl | rfl | rfl | rfl | rfl | rfl | rfl | rfl | rfl | rfl | rfl | rfl | rfl | rfl | rfl
    · cases _e
    · cases _e
    · cases _e
    · cases _e
    · cases _e
    · cases _e
    · cases _e
    · cases _e
    · cases _e
    · cases _e
    · cases _e
    · cases _e
    · cases _e
    · cases _e
    · cases _e
    · cases _e
    · cases _e
    · cases _e
    · cases _e
    · cases _e
    · cases _e
    · cases _e
    · cases _e
    · cases _e
    · exact ⟨pin_laid_unicode_utf8_first, by kernel_rfl⟩) fits2
theorem clientEndsUpto_row_tie : Rows.clientEndsUptoRow.laidByTextAt .later Tryd.pinned [.data, .sentinel, .sentinel, .sentinel, .sentinel, .data, .pinned] true :=
  OpenClaim.laidByTextAt_pinned rfl rfl tie3 rfl rfl rfl rfl (fun y hy _e => by
    simp only [Rows.clientEndsUptoRow, List.zip_cons_cons, List.zip_nil_right, List.mem_cons, List.mem_nil_iff, or_false] at hy
    rcases hy with rfl | rfl | rfl | rfl | rfl | rfl | rfl
    · cases _e
    · cases _e
    · cases _e
    · cases _e
    · cases _e
    · cases _e
    · exact ⟨pin_laid_unicode_utf8_first, by kernel_rfl⟩) fits3
theorem clientDeafUpto_row_tie : Rows.clientDeafUptoRow.laidByTextAt .later Tryd.pinned [.data, .sentinel, .sentinel, .sentinel, .sentinel, .data, .pinned] true :=
  OpenClaim.laidByTextAt_pinned rfl rfl tie3 rfl rfl rfl rfl (fun y hy _e => by
    simp only [Rows.clientDeafUptoRow, List.zip_cons_cons, List.zip_nil_right, List.mem_cons, List.mem_nil_iff, or_false] at hy
    rcases hy with rfl | rfl | rfl | rfl | rfl | rfl | rfl
    · cases _e
    · cases _e
    · cases _e
    · cases _e
    · cases _e
    · cases _e
    · exact ⟨pin_laid_unicode_utf8_first, by kernel_rfl⟩) fits3
theorem frameParseUpto_row_tie : Rows.frameParseUptoRow.laidByTextAt .later Tryd.pinned [.data, .sentinel, .sentinel, .sentinel, .sentinel, .sentinel, .sentinel, .sentinel, .sentinel, .sentinel, .sentinel, .sentinel, .sentinel, .sentinel, .sentinel, .sentinel, .sentinel, .sentinel, .sentinel, .sentinel, .sentinel, .sentinel, .sentinel, .data, .data, .pinned] true :=
  OpenClaim.laidByTextAt_pinned rfl rfl tie4 rfl rfl rfl rfl (fun y hy _e => by
    simp only [Rows.frameParseUptoRow, List.zip_cons_cons, List.zip_nil_right, List.mem_cons, List.mem_nil_iff, or_false] at hy
    rcases hy with rfl | rfl | rfl | rfl | rfl | rfl | rfl | rfl | rfl | rfl | rfl | rfl | rfl | rfl | rfl | rfl | rfl | rfl | rfl | rfl | rfl | rfl | rfl | rfl | rfl | rfl
    · cases _e
    · cases _e
    · cases _e
    · cases _e
    · cases _e
    · cases _e
    · cases _e
    · cases _e
    · cases _e
    · cases _e
    · cases _e
    · cases _e
    · cases _e
    · cases _e
    · cases _e
    · cases _e
    · cases _e
    · cases _e
    · cases _e
    · cases _e
    · cases _e
    · cases _e
    · cases _e
    · cases _e
    · cases _e
    · exact ⟨pin_laid_unicode_utf8_first, by kernel_rfl⟩) fits4
theorem frameBytesUpto_row_tie : Rows.frameBytesUptoRow.laidByTextAt .later Tryd.pinned [.data, .sentinel, .sentinel, .sentinel, .sentinel, .sentinel, .sentinel, .sentinel, .sentinel, .sentinel, .sentinel, .sentinel, .sentinel, .sentinel, .sentinel, .sentinel, .sentinel, .sentinel, .sentinel, .sentinel, .sentinel, .sentinel, .sentinel, .data, .data, .pinned] true :=
  OpenClaim.laidByTextAt_pinned rfl rfl tie4 rfl rfl rfl rfl (fun y hy _e => by
    simp only [Rows.frameBytesUptoRow, List.zip_cons_cons, List.zip_nil_right, List.mem_cons, List.mem_nil_iff, or_false] at hy
    rcases hy with rfl | rfl | rfl | rfl | rfl | rfl | rfl | rfl | rfl | rfl | rfl | rfl | rfl | rfl | rfl | rfl | rfl | rfl | rfl | rfl | rfl | rfl | rfl | rfl | rfl | rfl
    · cases _e
    · cases _e
    · cases _e
    · cases _e
    · cases _e
    · cases _e
    · cases _e
    · cases _e
    · cases _e
    · cases _e
    · cases _e
    · cases _e
    · cases _e
    · cases _e
    · cases _e
    · cases _e
    · cases _e
    · cases _e
    · cases _e
    · cases _e
    · cases _e
    · cases _e
    · cases _e
    · cases _e
    · cases _e
    · exact ⟨pin_laid_unicode_utf8_first, by kernel_rfl⟩) fits4
theorem frameNamesUpto_row_tie : Rows.frameNamesUptoRow.laidByTextAt .later Tryd.pinned [.data, .data, .data, .data, .sentinel, .sentinel, .sentinel, .data, .data, .pinned] true :=
  OpenClaim.laidByTextAt_pinned rfl rfl tie5 rfl rfl rfl rfl (fun y hy _e => by
    simp only [Rows.frameNamesUptoRow, List.zip_cons_cons, List.zip_nil_right, List.mem_cons, List.mem_nil_iff, or_false] at hy
    rcases hy with rfl | rfl | rfl | rfl | rfl | rfl | rfl | rfl | rfl | rfl
    · cases _e
    · cases _e
    · cases _e
    · cases _e
    · cases _e
    · cases _e
    · cases _e
    · cases _e
    · cases _e
    · exact ⟨pin_laid_unicode_utf8_first, by kernel_rfl⟩) fits5
theorem frameWhoUpto_row_tie : Rows.frameWhoUptoRow.laidByTextAt .later Tryd.pinned [.data, .data, .data, .data, .sentinel, .sentinel, .sentinel, .data, .data, .pinned] true :=
  OpenClaim.laidByTextAt_pinned rfl rfl tie5 rfl rfl rfl rfl (fun y hy _e => by
    simp only [Rows.frameWhoUptoRow, List.zip_cons_cons, List.zip_nil_right, List.mem_cons, List.mem_nil_iff, or_false] at hy
    rcases hy with rfl | rfl | rfl | rfl | rfl | rfl | rfl | rfl | rfl | rfl
    · cases _e
    · cases _e
    · cases _e
    · cases _e
    · cases _e
    · cases _e
    · cases _e
    · cases _e
    · cases _e
    · exact ⟨pin_laid_unicode_utf8_first, by kernel_rfl⟩) fits5
theorem messageFramesUpto_row_tie : Rows.messageFramesUptoRow.laidByTextAt .later Tryd.pinned [.data, .sentinel, .sentinel, .sentinel, .sentinel, .sentinel, .sentinel, .sentinel, .sentinel, .sentinel, .sentinel, .sentinel, .sentinel, .sentinel, .sentinel, .sentinel, .sentinel, .sentinel, .sentinel, .sentinel, .sentinel, .sentinel, .sentinel, .data, .data, .data, .pinned] true :=
  OpenClaim.laidByTextAt_pinned rfl rfl tie6 rfl rfl rfl rfl (fun y hy _e => by
    simp only [Rows.messageFramesUptoRow, List.zip_cons_cons, List.zip_nil_right, List.mem_cons, List.mem_nil_iff, or_false] at hy
    rcases hy with rfl | rfl | rfl | rfl | rfl | rfl | rfl | rfl | rfl | rfl | rfl | rfl | rfl | rfl | rfl | rfl | rfl | rfl | rfl | rfl | rfl | rfl | rfl | rfl | rfl | rfl | rfl
    · cases _e
    · cases _e
    · cases _e
    · cases _e
    · cases _e
    · cases _e
    · cases _e
    · cases _e
    · cases _e
    · cases _e
    · cases _e
    · cases _e
    · cases _e
    · cases _e
    · cases _e
    · cases _e
    · cases _e
    · cases _e
    · cases _e
    · cases _e
    · cases _e
    · cases _e
    · cases _e
    · cases _e
    · cases _e
    · cases _e
    · exact ⟨pin_laid_unicode_utf8_first, by kernel_rfl⟩) fits6
end Go.Proofs.YtbapkamopelgpaaDoor
