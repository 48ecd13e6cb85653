/-
  NARROWER THAN 'FOR EVERY INPUT', by the rows' own cells (each row's printed sentence says how): LinesParts: laid · LinesWords: laid · ScriptSame: laid · OctetsOne: laid · OctetsTake: laid · OctetsWrite: laid · ScriptDecodes: laid · ScriptJoin: laid.
  DERIVED. THE GIVEN ROWS OF THIS SEAT. 8 by the template 'for every input the law returns true; each argument reads behind the call as it read before'; 0 by the template 'total and deterministic' (their statements: YtmmiimcodbjnmaaDoorTotals.lean).
  GIVEN WITH THE SEED: the statements are not yours to turn. If you find one false, say at which input.
  Laid BY PROGRAM, IN A SANDBOX (cutbox-rows.mjs): the forced cells as the released guide's own fill.sh prints them over the translation bfd7853f291e7d0a… (all of the seat's roots in one cut). By AI agents, Wed Nov 11 2026. No macro, syntax, notation, axiom, sorry.
-/
import Derived.Test.YtmmiimcodbjnmaaDoorChecked
import GoSem.PinnedTables
import GoSem.Claim
import GoSem.ClaimJoined
import GoSem.ClaimMapViews
import Derived.JoinedTies
import Derived.KernelRfl
namespace Go.Proofs.YtmmiimcodbjnmaaDoor
/- THE CELL 'sum', in the pinned program and in every row, IS THE sha256 OF THE DUMP (.gsa) THAT YtmmiimcodbjnmaaDoorProg.lean LOADS. Nothing in Lean hashes anything: it is a label: what it is worth is what the hold of that sum in a sandbox is worth. -/
noncomputable def Tryd.pinned : Pinned := { name := "ytmmiimcodbjnmaadoor", sum := "bfd7853f291e7d0a93446d74450f850aa2a3639db8c86ff757b379dc75fd4e74", checked := Tryd.checked }
namespace Rows
def none {H : Type} : Left H := { results := [], args := [] }

/- WHAT THE LISTED PACKAGE-LEVEL VARIABLES READ AS WHEN THE CALL BEGINS. Each datum BY PROGRAM (the guide's laid-datum.mjs) off the statement by which the dump's own 'gosem.cut.vars' lays the variable. In a bare row this is a premise. The card (YtmmiimcodbjnmaaDoorCards.lean) ties it to the program's text. -/
def laid_math_bits_deBruijn32tab {H : Type} : DataW H := .agg [.lit (.int .u8 0), .lit (.int .u8 1), .lit (.int .u8 28), .lit (.int .u8 2), .lit (.int .u8 29), .lit (.int .u8 14), .lit (.int .u8 24), .lit (.int .u8 3), .lit (.int .u8 30), .lit (.int .u8 22), .lit (.int .u8 20), .lit (.int .u8 15), .lit (.int .u8 25), .lit (.int .u8 17), .lit (.int .u8 4), .lit (.int .u8 8), .lit (.int .u8 31), .lit (.int .u8 27), .lit (.int .u8 13), .lit (.int .u8 23), .lit (.int .u8 21), .lit (.int .u8 19), .lit (.int .u8 16), .lit (.int .u8 7), .lit (.int .u8 26), .lit (.int .u8 12), .lit (.int .u8 18), .lit (.int .u8 6), .lit (.int .u8 11), .lit (.int .u8 5), .lit (.int .u8 10), .lit (.int .u8 9)]
def laid_math_bits_deBruijn64tab {H : Type} : DataW H := .agg [.lit (.int .u8 0), .lit (.int .u8 1), .lit (.int .u8 56), .lit (.int .u8 2), .lit (.int .u8 57), .lit (.int .u8 49), .lit (.int .u8 28), .lit (.int .u8 3), .lit (.int .u8 61), .lit (.int .u8 58), .lit (.int .u8 42), .lit (.int .u8 50), .lit (.int .u8 38), .lit (.int .u8 29), .lit (.int .u8 17), .lit (.int .u8 4), .lit (.int .u8 62), .lit (.int .u8 47), .lit (.int .u8 59), .lit (.int .u8 36), .lit (.int .u8 45), .lit (.int .u8 43), .lit (.int .u8 51), .lit (.int .u8 22), .lit (.int .u8 53), .lit (.int .u8 39), .lit (.int .u8 33), .lit (.int .u8 30), .lit (.int .u8 24), .lit (.int .u8 18), .lit (.int .u8 12), .lit (.int .u8 5), .lit (.int .u8 63), .lit (.int .u8 55), .lit (.int .u8 48), .lit (.int .u8 27), .lit (.int .u8 60), .lit (.int .u8 41), .lit (.int .u8 37), .lit (.int .u8 16), .lit (.int .u8 46), .lit (.int .u8 35), .lit (.int .u8 44), .lit (.int .u8 21), .lit (.int .u8 52), .lit (.int .u8 32), .lit (.int .u8 23), .lit (.int .u8 11), .lit (.int .u8 54), .lit (.int .u8 26), .lit (.int .u8 40), .lit (.int .u8 15), .lit (.int .u8 34), .lit (.int .u8 20), .lit (.int .u8 31), .lit (.int .u8 10), .lit (.int .u8 25), .lit (.int .u8 14), .lit (.int .u8 19), .lit (.int .u8 9), .lit (.int .u8 13), .lit (.int .u8 8), .lit (.int .u8 7), .lit (.int .u8 6)]
def laid_internal_strconv_uint64pow10 {H : Type} : DataW H := .agg [.lit (.int .u64 1), .lit (.int .u64 10), .lit (.int .u64 100), .lit (.int .u64 1000), .lit (.int .u64 10000), .lit (.int .u64 100000), .lit (.int .u64 1000000), .lit (.int .u64 10000000), .lit (.int .u64 100000000), .lit (.int .u64 1000000000), .lit (.int .u64 10000000000), .lit (.int .u64 100000000000), .lit (.int .u64 1000000000000), .lit (.int .u64 10000000000000), .lit (.int .u64 100000000000000), .lit (.int .u64 1000000000000000), .lit (.int .u64 10000000000000000), .lit (.int .u64 100000000000000000), .lit (.int .u64 1000000000000000000), .lit (.int .u64 10000000000000000000)]
def laid_cartage_lines_words {H : Type} : DataW H := .agg [.lit (.string [111, 107]), .lit (.string [109, 97, 108, 102, 111, 114, 109, 101, 100]), .lit (.string [99, 97, 115, 45, 109, 105, 115, 109, 97, 116, 99, 104]), .lit (.string [109, 105, 115, 115, 105, 110, 103, 45, 111, 98, 106, 101, 99, 116]), .lit (.string [113, 117, 111, 116, 97, 45, 102, 117, 108, 108]), .lit (.string [113, 117, 101, 117, 101, 45, 102, 117, 108, 108]), .lit (.string [116, 111, 111, 45, 108, 97, 114, 103, 101]), .lit (.string [110, 111, 45, 114, 101, 112, 111]), .lit (.string [101, 120, 105, 115, 116, 115]), .lit (.string [117, 110, 97, 118, 97, 105, 108, 97, 98, 108, 101]), .lit (.string [116, 105, 109, 101, 111, 117, 116])]
def laid_cartage_lines_ops {H : Type} : DataW H := .agg [.lit (.string []), .lit (.string [99, 114, 101, 97, 116, 101]), .lit (.string [100, 101, 108, 101, 116, 101]), .lit (.string [112, 117, 115, 104]), .lit (.string [108, 105, 115, 116]), .lit (.string [102, 101, 116, 99, 104])]
def laid_unicode_utf8_acceptRanges {H : Type} : DataW H := .agg [.agg [.lit (.int .u8 128), .lit (.int .u8 191)], .agg [.lit (.int .u8 160), .lit (.int .u8 191)], .agg [.lit (.int .u8 128), .lit (.int .u8 159)], .agg [.lit (.int .u8 144), .lit (.int .u8 191)], .agg [.lit (.int .u8 128), .lit (.int .u8 143)], .agg [.lit (.int .u8 0), .lit (.int .u8 0)], .agg [.lit (.int .u8 0), .lit (.int .u8 0)], .agg [.lit (.int .u8 0), .lit (.int .u8 0)], .agg [.lit (.int .u8 0), .lit (.int .u8 0)], .agg [.lit (.int .u8 0), .lit (.int .u8 0)], .agg [.lit (.int .u8 0), .lit (.int .u8 0)], .agg [.lit (.int .u8 0), .lit (.int .u8 0)], .agg [.lit (.int .u8 0), .lit (.int .u8 0)], .agg [.lit (.int .u8 0), .lit (.int .u8 0)], .agg [.lit (.int .u8 0), .lit (.int .u8 0)], .agg [.lit (.int .u8 0), .lit (.int .u8 0)]]
def laid_cartage_api_ErrRange {H : Type} : DataW H := .iface "*errors.errorString" (.ptr (.agg [.lit (.string [97, 32, 110, 117, 109, 98, 101, 114, 32, 105, 115, 32, 111, 117, 116, 32, 111, 102, 32, 105, 116, 115, 32, 114, 97, 110, 103, 101])]))
def laid_cartage_api_ErrKind {H : Type} : DataW H := .iface "*errors.errorString" (.ptr (.agg [.lit (.string [105, 116, 32, 105, 115, 32, 111, 102, 32, 97, 110, 111, 116, 104, 101, 114, 32, 107, 105, 110, 100])]))
/-- One of Go's own tables, pinned by name: the form's constant. -/
def laid_unicode_utf8_first : DataW Unit := Go.Pinned.utf8First
def laid_cartage_api_ErrShort {H : Type} : DataW H := .iface "*errors.errorString" (.ptr (.agg [.lit (.string [115, 111, 109, 101, 116, 104, 105, 110, 103, 32, 105, 115, 32, 109, 105, 115, 115, 105, 110, 103, 32, 97, 116, 32, 116, 104, 101, 32, 101, 110, 100])]))
def laid_cartage_api_ErrLong {H : Type} : DataW H := .iface "*errors.errorString" (.ptr (.agg [.lit (.string [116, 104, 101, 114, 101, 32, 105, 115, 32, 109, 111, 114, 101, 32, 116, 104, 97, 110, 32, 109, 97, 121, 32, 98, 101])]))
def laid_cartage_api_ErrForm {H : Type} : DataW H := .iface "*errors.errorString" (.ptr (.agg [.lit (.string [105, 116, 32, 105, 115, 32, 110, 111, 116, 32, 111, 102, 32, 105, 116, 115, 32, 102, 111, 114, 109])]))
def laid_cartage_api_ErrSum {H : Type} : DataW H := .iface "*errors.errorString" (.ptr (.agg [.lit (.string [116, 104, 101, 32, 115, 117, 109, 32, 105, 115, 32, 110, 111, 116, 32, 114, 105, 103, 104, 116])]))
def laid_cartage_api_ErrName {H : Type} : DataW H := .iface "*errors.errorString" (.ptr (.agg [.lit (.string [105, 116, 32, 105, 115, 32, 110, 111, 32, 114, 105, 103, 104, 116, 32, 110, 97, 109, 101])]))
def laid_cartage_api_ErrDepth {H : Type} : DataW H := .iface "*errors.errorString" (.ptr (.agg [.lit (.string [105, 116, 32, 103, 111, 101, 115, 32, 116, 111, 111, 32, 100, 101, 101, 112])]))
def laid_cartage_api_ErrMissing {H : Type} : DataW H := .iface "*errors.errorString" (.ptr (.agg [.lit (.string [97, 110, 32, 111, 98, 106, 101, 99, 116, 32, 105, 115, 32, 109, 105, 115, 115, 105, 110, 103])]))
def laid_cartage_api_ErrCas {H : Type} : DataW H := .iface "*errors.errorString" (.ptr (.agg [.lit (.string [97, 32, 114, 101, 102, 32, 105, 115, 32, 110, 111, 116, 32, 119, 104, 97, 116, 32, 119, 97, 115, 32, 101, 120, 112, 101, 99, 116, 101, 100])]))
def laid_cartage_api_ErrQuota {H : Type} : DataW H := .iface "*errors.errorString" (.ptr (.agg [.lit (.string [116, 104, 101, 32, 100, 105, 115, 107, 32, 104, 97, 115, 32, 110, 111, 32, 114, 111, 111, 109])]))
def laid_cartage_api_ErrQueue {H : Type} : DataW H := .iface "*errors.errorString" (.ptr (.agg [.lit (.string [116, 104, 101, 32, 113, 117, 101, 117, 101, 32, 104, 97, 115, 32, 110, 111, 32, 114, 111, 111, 109])]))
def laid_cartage_api_ErrLarge {H : Type} : DataW H := .iface "*errors.errorString" (.ptr (.agg [.lit (.string [105, 116, 32, 105, 115, 32, 116, 111, 111, 32, 108, 97, 114, 103, 101])]))
def laid_cartage_api_ErrNoRepo {H : Type} : DataW H := .iface "*errors.errorString" (.ptr (.agg [.lit (.string [116, 104, 101, 114, 101, 32, 105, 115, 32, 110, 111, 32, 115, 117, 99, 104, 32, 114, 101, 112, 111, 115, 105, 116, 111, 114, 121])]))
def laid_cartage_api_ErrExists {H : Type} : DataW H := .iface "*errors.errorString" (.ptr (.agg [.lit (.string [116, 104, 101, 114, 101, 32, 105, 115, 32, 115, 117, 99, 104, 32, 97, 32, 114, 101, 112, 111, 115, 105, 116, 111, 114, 121, 32, 97, 108, 114, 101, 97, 100, 121])]))
def laid_cartage_api_ErrDown {H : Type} : DataW H := .iface "*errors.errorString" (.ptr (.agg [.lit (.string [105, 116, 32, 105, 115, 32, 110, 111, 116, 32, 97, 118, 97, 105, 108, 97, 98, 108, 101, 32, 110, 111, 119])]))
def laid_cartage_api_ErrTimeout {H : Type} : DataW H := .iface "*errors.errorString" (.ptr (.agg [.lit (.string [110, 111, 98, 111, 100, 121, 32, 97, 110, 115, 119, 101, 114, 101, 100, 32, 105, 110, 32, 116, 105, 109, 101])]))
def laid_cartage_api_ErrStale {H : Type} : DataW H := .iface "*errors.errorString" (.ptr (.agg [.lit (.string [116, 104, 101, 32, 101, 112, 111, 99, 104, 32, 105, 115, 32, 110, 111, 116, 32, 116, 104, 101, 32, 99, 117, 114, 114, 101, 110, 116, 32, 111, 110, 101])]))
def laid_cartage_api_ErrState {H : Type} : DataW H := .iface "*errors.errorString" (.ptr (.agg [.lit (.string [105, 116, 32, 99, 97, 110, 32, 110, 111, 116, 32, 98, 101, 32, 100, 111, 110, 101, 32, 105, 110, 32, 116, 104, 105, 115, 32, 115, 116, 97, 116, 101])]))
def laid_cartage_api_ErrDup {H : Type} : DataW H := .iface "*errors.errorString" (.ptr (.agg [.lit (.string [105, 116, 32, 105, 115, 32, 116, 104, 101, 114, 101, 32, 97, 108, 114, 101, 97, 100, 121])]))
def laid_cartage_api_ErrNone {H : Type} : DataW H := .iface "*errors.errorString" (.ptr (.agg [.lit (.string [116, 104, 101, 114, 101, 32, 105, 115, 32, 110, 111, 110, 101])]))
def laid_cartage_api_ErrFull {H : Type} : DataW H := .iface "*errors.errorString" (.ptr (.agg [.lit (.string [116, 104, 101, 114, 101, 32, 97, 114, 101, 32, 97, 115, 32, 109, 97, 110, 121, 32, 97, 115, 32, 109, 97, 121, 32, 98, 101])]))

/-- 'cartagelaw32.LinesParts': WHATEVER THE INPUT: true; the input reads as it did. -/
def linesPartsSpec : ChangeSpec := { name := "linesParts", fn := fun _ => fun
  | [d1, d2] => { results := [.lit (.bool true)], args := [d1, d2] }
  | _ => none }
def linesPartsRow : OpenClaim := { program := "ytmmiimcodbjnmaadoor", sum := "bfd7853f291e7d0a93446d74450f850aa2a3639db8c86ff757b379dc75fd4e74", func := "cartage/cartagelaw32.LinesParts", spec := "linesParts", inPlace := ["internal/abi.NoEscape", "internal/bytealg.MakeNoZero"], named := ["internal/strconv.uint64pow10", "math/bits.deBruijn32tab", "math/bits.deBruijn64tab", "cartage/lines.ops", "cartage/lines.words"], apart := false, laid := [("math/bits.deBruijn32tab", laid_math_bits_deBruijn32tab), ("math/bits.deBruijn64tab", laid_math_bits_deBruijn64tab), ("internal/strconv.uint64pow10", laid_internal_strconv_uint64pow10), ("cartage/lines.words", laid_cartage_lines_words), ("cartage/lines.ops", laid_cartage_lines_ops)] }
def LinesPartsSaid : Prop := linesPartsRow.holds Tryd.pinned (OpenSpec.ofChange linesPartsSpec)

/-- ITS FALSE NEIGHBOUR: 'it returns false'. Refute it at one input. -/
def linesPartsWrong : ChangeSpec := { name := "linesParts", fn := fun _ => fun
  | [d1, d2] => { results := [.lit (.bool false)], args := [d1, d2] }
  | _ => none }
def LinesPartsWrongFalsely : Prop := linesPartsRow.holds Tryd.pinned (OpenSpec.ofChange linesPartsWrong)

/-- 'cartagelaw32.LinesWords': WHATEVER THE INPUT: true; the input reads as it did. -/
def linesWordsSpec : ChangeSpec := { name := "linesWords", fn := fun _ => fun
  | [d1, d2] => { results := [.lit (.bool true)], args := [d1, d2] }
  | _ => none }
def linesWordsRow : OpenClaim := { program := "ytmmiimcodbjnmaadoor", sum := "bfd7853f291e7d0a93446d74450f850aa2a3639db8c86ff757b379dc75fd4e74", func := "cartage/cartagelaw32.LinesWords", spec := "linesWords", inPlace := ["internal/abi.NoEscape", "internal/bytealg.MakeNoZero"], recurses := true, named := ["internal/strconv.uint64pow10", "math/bits.deBruijn32tab", "math/bits.deBruijn64tab", "cartage/lines.ops", "cartage/lines.words"], apart := false, laid := [("math/bits.deBruijn32tab", laid_math_bits_deBruijn32tab), ("math/bits.deBruijn64tab", laid_math_bits_deBruijn64tab), ("internal/strconv.uint64pow10", laid_internal_strconv_uint64pow10), ("cartage/lines.words", laid_cartage_lines_words), ("cartage/lines.ops", laid_cartage_lines_ops)] }
def LinesWordsSaid : Prop := linesWordsRow.holds Tryd.pinned (OpenSpec.ofChange linesWordsSpec)

/-- ITS FALSE NEIGHBOUR: 'it returns false'. Refute it at one input. -/
def linesWordsWrong : ChangeSpec := { name := "linesWords", fn := fun _ => fun
  | [d1, d2] => { results := [.lit (.bool false)], args := [d1, d2] }
  | _ => none }
def LinesWordsWrongFalsely : Prop := linesWordsRow.holds Tryd.pinned (OpenSpec.ofChange linesWordsWrong)

/-- 'cartagelaw31.ScriptSame': WHATEVER THE INPUT: true; the input reads as it did. -/
def scriptSameSpec : ChangeSpec := { name := "scriptSame", fn := fun _ => fun
  | [d1, d2] => { results := [.lit (.bool true)], args := [d1, d2] }
  | _ => none }
def scriptSameRow : OpenClaim := { program := "ytmmiimcodbjnmaadoor", sum := "bfd7853f291e7d0a93446d74450f850aa2a3639db8c86ff757b379dc75fd4e74", func := "cartage/cartagelaw31.ScriptSame", spec := "scriptSame", inPlace := ["internal/bytealg.IndexByteString", "internal/bytealg.IndexString"], named := ["cartage/api.ErrKind", "cartage/api.ErrRange", "unicode/utf8.first", "unicode/utf8.acceptRanges", "internal/bytealg.MaxLen"], apart := false, laid := [("unicode/utf8.acceptRanges", laid_unicode_utf8_acceptRanges), ("cartage/api.ErrRange", laid_cartage_api_ErrRange), ("cartage/api.ErrKind", laid_cartage_api_ErrKind), ("unicode/utf8.first", laid_unicode_utf8_first)] }
def ScriptSameSaid : Prop := scriptSameRow.holds Tryd.pinned (OpenSpec.ofChange scriptSameSpec)

/-- ITS FALSE NEIGHBOUR: 'it returns false'. Refute it at one input. -/
def scriptSameWrong : ChangeSpec := { name := "scriptSame", fn := fun _ => fun
  | [d1, d2] => { results := [.lit (.bool false)], args := [d1, d2] }
  | _ => none }
def ScriptSameWrongFalsely : Prop := scriptSameRow.holds Tryd.pinned (OpenSpec.ofChange scriptSameWrong)

/-- 'cartagelaw02.OctetsOne': WHATEVER THE INPUT: true; the input reads as it did. -/
def octetsOneSpec : ChangeSpec := { name := "octetsOne", fn := fun _ => fun
  | [d1, d2] => { results := [.lit (.bool true)], args := [d1, d2] }
  | _ => none }
def octetsOneRow : OpenClaim := { program := "ytmmiimcodbjnmaadoor", sum := "bfd7853f291e7d0a93446d74450f850aa2a3639db8c86ff757b379dc75fd4e74", func := "cartage/cartagelaw02.OctetsOne", spec := "octetsOne", inPlace := ["internal/bytealg.IndexByteString", "internal/bytealg.IndexString"], unfollowed := true, recurses := true, named := ["cartage/api.ErrKind", "cartage/api.ErrRange", "unicode/utf8.first", "unicode/utf8.acceptRanges", "cartage/api.ErrShort", "internal/bytealg.MaxLen"], apart := false, laid := [("unicode/utf8.acceptRanges", laid_unicode_utf8_acceptRanges), ("cartage/api.ErrRange", laid_cartage_api_ErrRange), ("cartage/api.ErrShort", laid_cartage_api_ErrShort), ("cartage/api.ErrKind", laid_cartage_api_ErrKind), ("unicode/utf8.first", laid_unicode_utf8_first)] }
def OctetsOneSaid : Prop := octetsOneRow.holds Tryd.pinned (OpenSpec.ofChange octetsOneSpec)

/-- ITS FALSE NEIGHBOUR: 'it returns false'. Refute it at one input. -/
def octetsOneWrong : ChangeSpec := { name := "octetsOne", fn := fun _ => fun
  | [d1, d2] => { results := [.lit (.bool false)], args := [d1, d2] }
  | _ => none }
def OctetsOneWrongFalsely : Prop := octetsOneRow.holds Tryd.pinned (OpenSpec.ofChange octetsOneWrong)

/-- 'cartagelaw02.OctetsTake': WHATEVER THE INPUT: true; the input reads as it did. -/
def octetsTakeSpec : ChangeSpec := { name := "octetsTake", fn := fun _ => fun
  | [d] => { results := [.lit (.bool true)], args := [d] }
  | _ => none }
def octetsTakeRow : OpenClaim := { program := "ytmmiimcodbjnmaadoor", sum := "bfd7853f291e7d0a93446d74450f850aa2a3639db8c86ff757b379dc75fd4e74", func := "cartage/cartagelaw02.OctetsTake", spec := "octetsTake", inPlace := ["internal/bytealg.IndexByteString", "internal/bytealg.IndexString", "internal/reflectlite.TypeOf"], unfollowed := true, recurses := true, named := ["cartage/api.ErrKind", "cartage/api.ErrRange", "unicode/utf8.first", "unicode/utf8.acceptRanges", "cartage/api.ErrLong", "cartage/api.ErrShort", "cartage/api.ErrForm", "cartage/api.ErrSum", "cartage/api.ErrName", "cartage/api.ErrDepth", "cartage/api.ErrMissing", "cartage/api.ErrCas", "cartage/api.ErrQuota", "cartage/api.ErrQueue", "cartage/api.ErrLarge", "cartage/api.ErrNoRepo", "cartage/api.ErrExists", "cartage/api.ErrDown", "cartage/api.ErrTimeout", "cartage/api.ErrStale", "cartage/api.ErrState", "cartage/api.ErrDup", "cartage/api.ErrNone", "cartage/api.ErrFull", "internal/bytealg.MaxLen"], apart := false, laid := [("unicode/utf8.acceptRanges", laid_unicode_utf8_acceptRanges), ("cartage/api.ErrRange", laid_cartage_api_ErrRange), ("cartage/api.ErrShort", laid_cartage_api_ErrShort), ("cartage/api.ErrLong", laid_cartage_api_ErrLong), ("cartage/api.ErrForm", laid_cartage_api_ErrForm), ("cartage/api.ErrSum", laid_cartage_api_ErrSum), ("cartage/api.ErrName", laid_cartage_api_ErrName), ("cartage/api.ErrKind", laid_cartage_api_ErrKind), ("cartage/api.ErrDepth", laid_cartage_api_ErrDepth), ("cartage/api.ErrMissing", laid_cartage_api_ErrMissing), ("cartage/api.ErrCas", laid_cartage_api_ErrCas), ("cartage/api.ErrQuota", laid_cartage_api_ErrQuota), ("cartage/api.ErrQueue", laid_cartage_api_ErrQueue), ("cartage/api.ErrLarge", laid_cartage_api_ErrLarge), ("cartage/api.ErrNoRepo", laid_cartage_api_ErrNoRepo), ("cartage/api.ErrExists", laid_cartage_api_ErrExists), ("cartage/api.ErrDown", laid_cartage_api_ErrDown), ("cartage/api.ErrTimeout", laid_cartage_api_ErrTimeout), ("cartage/api.ErrStale", laid_cartage_api_ErrStale), ("cartage/api.ErrState", laid_cartage_api_ErrState), ("cartage/api.ErrDup", laid_cartage_api_ErrDup), ("cartage/api.ErrNone", laid_cartage_api_ErrNone), ("cartage/api.ErrFull", laid_cartage_api_ErrFull), ("unicode/utf8.first", laid_unicode_utf8_first)] }
def OctetsTakeSaid : Prop := octetsTakeRow.holds Tryd.pinned (OpenSpec.ofChange octetsTakeSpec)

/-- ITS FALSE NEIGHBOUR: 'it returns false'. Refute it at one input. -/
def octetsTakeWrong : ChangeSpec := { name := "octetsTake", fn := fun _ => fun
  | [d] => { results := [.lit (.bool false)], args := [d] }
  | _ => none }
def OctetsTakeWrongFalsely : Prop := octetsTakeRow.holds Tryd.pinned (OpenSpec.ofChange octetsTakeWrong)

/-- 'cartagelaw02.OctetsWrite': WHATEVER THE INPUT: true; the input reads as it did. -/
def octetsWriteSpec : ChangeSpec := { name := "octetsWrite", fn := fun _ => fun
  | [d1, d2] => { results := [.lit (.bool true)], args := [d1, d2] }
  | _ => none }
def octetsWriteRow : OpenClaim := { program := "ytmmiimcodbjnmaadoor", sum := "bfd7853f291e7d0a93446d74450f850aa2a3639db8c86ff757b379dc75fd4e74", func := "cartage/cartagelaw02.OctetsWrite", spec := "octetsWrite", inPlace := ["internal/bytealg.IndexByteString", "internal/bytealg.IndexString", "internal/reflectlite.TypeOf"], unfollowed := true, recurses := true, named := ["cartage/api.ErrKind", "cartage/api.ErrRange", "unicode/utf8.first", "unicode/utf8.acceptRanges", "cartage/api.ErrShort", "cartage/api.ErrLong", "cartage/api.ErrForm", "cartage/api.ErrSum", "cartage/api.ErrName", "cartage/api.ErrDepth", "cartage/api.ErrMissing", "cartage/api.ErrCas", "cartage/api.ErrQuota", "cartage/api.ErrQueue", "cartage/api.ErrLarge", "cartage/api.ErrNoRepo", "cartage/api.ErrExists", "cartage/api.ErrDown", "cartage/api.ErrTimeout", "cartage/api.ErrStale", "cartage/api.ErrState", "cartage/api.ErrDup", "cartage/api.ErrNone", "cartage/api.ErrFull", "internal/bytealg.MaxLen"], apart := false, laid := [("unicode/utf8.acceptRanges", laid_unicode_utf8_acceptRanges), ("cartage/api.ErrRange", laid_cartage_api_ErrRange), ("cartage/api.ErrShort", laid_cartage_api_ErrShort), ("cartage/api.ErrLong", laid_cartage_api_ErrLong), ("cartage/api.ErrForm", laid_cartage_api_ErrForm), ("cartage/api.ErrSum", laid_cartage_api_ErrSum), ("cartage/api.ErrName", laid_cartage_api_ErrName), ("cartage/api.ErrKind", laid_cartage_api_ErrKind), ("cartage/api.ErrDepth", laid_cartage_api_ErrDepth), ("cartage/api.ErrMissing", laid_cartage_api_ErrMissing), ("cartage/api.ErrCas", laid_cartage_api_ErrCas), ("cartage/api.ErrQuota", laid_cartage_api_ErrQuota), ("cartage/api.ErrQueue", laid_cartage_api_ErrQueue), ("cartage/api.ErrLarge", laid_cartage_api_ErrLarge), ("cartage/api.ErrNoRepo", laid_cartage_api_ErrNoRepo), ("cartage/api.ErrExists", laid_cartage_api_ErrExists), ("cartage/api.ErrDown", laid_cartage_api_ErrDown), ("cartage/api.ErrTimeout", laid_cartage_api_ErrTimeout), ("cartage/api.ErrStale", laid_cartage_api_ErrStale), ("cartage/api.ErrState", laid_cartage_api_ErrState), ("cartage/api.ErrDup", laid_cartage_api_ErrDup), ("cartage/api.ErrNone", laid_cartage_api_ErrNone), ("cartage/api.ErrFull", laid_cartage_api_ErrFull), ("unicode/utf8.first", laid_unicode_utf8_first)] }
def OctetsWriteSaid : Prop := octetsWriteRow.holds Tryd.pinned (OpenSpec.ofChange octetsWriteSpec)

/-- ITS FALSE NEIGHBOUR: 'it returns false'. Refute it at one input. -/
def octetsWriteWrong : ChangeSpec := { name := "octetsWrite", fn := fun _ => fun
  | [d1, d2] => { results := [.lit (.bool false)], args := [d1, d2] }
  | _ => none }
def OctetsWriteWrongFalsely : Prop := octetsWriteRow.holds Tryd.pinned (OpenSpec.ofChange octetsWriteWrong)

/-- 'cartagelaw31.ScriptDecodes': WHATEVER THE INPUT: true; the input reads as it did. -/
def scriptDecodesSpec : ChangeSpec := { name := "scriptDecodes", fn := fun _ => fun
  | [d] => { results := [.lit (.bool true)], args := [d] }
  | _ => none }
def scriptDecodesRow : OpenClaim := { program := "ytmmiimcodbjnmaadoor", sum := "bfd7853f291e7d0a93446d74450f850aa2a3639db8c86ff757b379dc75fd4e74", func := "cartage/cartagelaw31.ScriptDecodes", spec := "scriptDecodes", inPlace := ["internal/bytealg.IndexByteString", "internal/bytealg.IndexString"], unfollowed := true, recurses := true, named := ["cartage/api.ErrKind", "cartage/api.ErrRange", "unicode/utf8.first", "unicode/utf8.acceptRanges", "cartage/api.ErrShort", "cartage/api.ErrLong", "cartage/api.ErrForm", "internal/bytealg.MaxLen"], apart := false, laid := [("unicode/utf8.acceptRanges", laid_unicode_utf8_acceptRanges), ("cartage/api.ErrRange", laid_cartage_api_ErrRange), ("cartage/api.ErrShort", laid_cartage_api_ErrShort), ("cartage/api.ErrLong", laid_cartage_api_ErrLong), ("cartage/api.ErrForm", laid_cartage_api_ErrForm), ("cartage/api.ErrKind", laid_cartage_api_ErrKind), ("unicode/utf8.first", laid_unicode_utf8_first)] }
def ScriptDecodesSaid : Prop := scriptDecodesRow.holds Tryd.pinned (OpenSpec.ofChange scriptDecodesSpec)

/-- ITS FALSE NEIGHBOUR: 'it returns false'. Refute it at one input. -/
def scriptDecodesWrong : ChangeSpec := { name := "scriptDecodes", fn := fun _ => fun
  | [d] => { results := [.lit (.bool false)], args := [d] }
  | _ => none }
def ScriptDecodesWrongFalsely : Prop := scriptDecodesRow.holds Tryd.pinned (OpenSpec.ofChange scriptDecodesWrong)

/-- 'cartagelaw31.ScriptJoin': WHATEVER THE INPUT: true; the input reads as it did. -/
def scriptJoinSpec : ChangeSpec := { name := "scriptJoin", fn := fun _ => fun
  | [d1, d2] => { results := [.lit (.bool true)], args := [d1, d2] }
  | _ => none }
def scriptJoinRow : OpenClaim := { program := "ytmmiimcodbjnmaadoor", sum := "bfd7853f291e7d0a93446d74450f850aa2a3639db8c86ff757b379dc75fd4e74", func := "cartage/cartagelaw31.ScriptJoin", spec := "scriptJoin", inPlace := ["internal/bytealg.IndexByteString", "internal/bytealg.IndexString"], unfollowed := true, recurses := true, named := ["cartage/api.ErrKind", "cartage/api.ErrRange", "unicode/utf8.first", "unicode/utf8.acceptRanges", "cartage/api.ErrShort", "cartage/api.ErrLong", "cartage/api.ErrForm", "internal/bytealg.MaxLen"], apart := false, laid := [("unicode/utf8.acceptRanges", laid_unicode_utf8_acceptRanges), ("cartage/api.ErrRange", laid_cartage_api_ErrRange), ("cartage/api.ErrShort", laid_cartage_api_ErrShort), ("cartage/api.ErrLong", laid_cartage_api_ErrLong), ("cartage/api.ErrForm", laid_cartage_api_ErrForm), ("cartage/api.ErrKind", laid_cartage_api_ErrKind), ("unicode/utf8.first", laid_unicode_utf8_first)] }
def ScriptJoinSaid : Prop := scriptJoinRow.holds Tryd.pinned (OpenSpec.ofChange scriptJoinSpec)

/-- ITS FALSE NEIGHBOUR: 'it returns false'. Refute it at one input. -/
def scriptJoinWrong : ChangeSpec := { name := "scriptJoin", fn := fun _ => fun
  | [d1, d2] => { results := [.lit (.bool false)], args := [d1, d2] }
  | _ => none }
def ScriptJoinWrongFalsely : Prop := scriptJoinRow.holds Tryd.pinned (OpenSpec.ofChange scriptJoinWrong)

/- THE SECOND FORM. 'bulk': how many values and letters a reading holds, each counted each time it is reached (what is shared counts as often as it is met; a slice's spare places count too). A statement '..UptoSaid' is the law's where the arguments, and the package variables that the reading takes, are together of bulk at most 1048576: NARROWER than '..Said'. Prove '..Said' where nothing that the law and all that it calls make is longer than what came in: it says more and counts as full. Else prove '..UptoSaid'. A law counts once. -/
mutual
def uptoBulk {H : Type} : DataW H → Nat
  | .lit (.string bytes) => bytes.length + 1
  | .lit _ => 1
  | .nil => 1
  | .ptr d => uptoBulk d + 1
  | .slice elems spare => uptoBulkAll elems + uptoBulkAll spare + 1
  | .agg parts => uptoBulkAll parts + 1
  | .iface _ d => uptoBulk d + 1
  | .map entries => uptoBulkEntries entries + 1
  | .held _ => 1
def uptoBulkAll {H : Type} : List (DataW H) → Nat
  | [] => 0
  | d :: r => uptoBulk d + uptoBulkAll r
def uptoBulkEntries {H : Type} : List (Lit × DataW H) → Nat
  | [] => 0
  | x :: r => uptoBulkEntry x + uptoBulkEntries r
def uptoBulkEntry {H : Type} : Lit × DataW H → Nat
  | (.string bytes, d) => bytes.length + uptoBulk d + 1
  | (_, d) => uptoBulk d + 1
 end
def uptoSmall : (H : Type) → List (DataW H) → Bool := fun _ ds => decide (uptoBulkAll ds ≤ 1048576)
def OpenSpec.upto (s : _root_.Go.ChangeSpec) : _root_.Go.OpenSpec := { _root_.Go.OpenSpec.ofChange s with cond := some uptoSmall }

/-- 'cartagelaw32.LinesParts', WHERE WHAT IT READS IS OF BULK AT MOST 1048576: true; the input reads as it did. -/
def linesPartsUptoRow : OpenClaim := { program := "ytmmiimcodbjnmaadoor", sum := "bfd7853f291e7d0a93446d74450f850aa2a3639db8c86ff757b379dc75fd4e74", func := "cartage/cartagelaw32.LinesParts", spec := "linesParts", inPlace := ["internal/abi.NoEscape", "internal/bytealg.MakeNoZero"], named := ["internal/strconv.uint64pow10", "math/bits.deBruijn32tab", "math/bits.deBruijn64tab", "cartage/lines.ops", "cartage/lines.words"], apart := false, laid := [("math/bits.deBruijn32tab", laid_math_bits_deBruijn32tab), ("math/bits.deBruijn64tab", laid_math_bits_deBruijn64tab), ("internal/strconv.uint64pow10", laid_internal_strconv_uint64pow10), ("cartage/lines.words", laid_cartage_lines_words), ("cartage/lines.ops", laid_cartage_lines_ops)], narrowed := true }
def LinesPartsUptoSaid : Prop := linesPartsUptoRow.holds Tryd.pinned (OpenSpec.upto linesPartsSpec)

/-- 'cartagelaw32.LinesWords', WHERE WHAT IT READS IS OF BULK AT MOST 1048576: true; the input reads as it did. -/
def linesWordsUptoRow : OpenClaim := { program := "ytmmiimcodbjnmaadoor", sum := "bfd7853f291e7d0a93446d74450f850aa2a3639db8c86ff757b379dc75fd4e74", func := "cartage/cartagelaw32.LinesWords", spec := "linesWords", inPlace := ["internal/abi.NoEscape", "internal/bytealg.MakeNoZero"], recurses := true, named := ["internal/strconv.uint64pow10", "math/bits.deBruijn32tab", "math/bits.deBruijn64tab", "cartage/lines.ops", "cartage/lines.words"], apart := false, laid := [("math/bits.deBruijn32tab", laid_math_bits_deBruijn32tab), ("math/bits.deBruijn64tab", laid_math_bits_deBruijn64tab), ("internal/strconv.uint64pow10", laid_internal_strconv_uint64pow10), ("cartage/lines.words", laid_cartage_lines_words), ("cartage/lines.ops", laid_cartage_lines_ops)], narrowed := true }
def LinesWordsUptoSaid : Prop := linesWordsUptoRow.holds Tryd.pinned (OpenSpec.upto linesWordsSpec)

/-- 'cartagelaw31.ScriptSame', WHERE WHAT IT READS IS OF BULK AT MOST 1048576: true; the input reads as it did. -/
def scriptSameUptoRow : OpenClaim := { program := "ytmmiimcodbjnmaadoor", sum := "bfd7853f291e7d0a93446d74450f850aa2a3639db8c86ff757b379dc75fd4e74", func := "cartage/cartagelaw31.ScriptSame", spec := "scriptSame", inPlace := ["internal/bytealg.IndexByteString", "internal/bytealg.IndexString"], named := ["cartage/api.ErrKind", "cartage/api.ErrRange", "unicode/utf8.first", "unicode/utf8.acceptRanges", "internal/bytealg.MaxLen"], apart := false, laid := [("unicode/utf8.acceptRanges", laid_unicode_utf8_acceptRanges), ("cartage/api.ErrRange", laid_cartage_api_ErrRange), ("cartage/api.ErrKind", laid_cartage_api_ErrKind), ("unicode/utf8.first", laid_unicode_utf8_first)], narrowed := true }
def ScriptSameUptoSaid : Prop := scriptSameUptoRow.holds Tryd.pinned (OpenSpec.upto scriptSameSpec)

/-- 'cartagelaw02.OctetsOne', WHERE WHAT IT READS IS OF BULK AT MOST 1048576: true; the input reads as it did. -/
def octetsOneUptoRow : OpenClaim := { program := "ytmmiimcodbjnmaadoor", sum := "bfd7853f291e7d0a93446d74450f850aa2a3639db8c86ff757b379dc75fd4e74", func := "cartage/cartagelaw02.OctetsOne", spec := "octetsOne", inPlace := ["internal/bytealg.IndexByteString", "internal/bytealg.IndexString"], unfollowed := true, recurses := true, named := ["cartage/api.ErrKind", "cartage/api.ErrRange", "unicode/utf8.first", "unicode/utf8.acceptRanges", "cartage/api.ErrShort", "internal/bytealg.MaxLen"], apart := false, laid := [("unicode/utf8.acceptRanges", laid_unicode_utf8_acceptRanges), ("cartage/api.ErrRange", laid_cartage_api_ErrRange), ("cartage/api.ErrShort", laid_cartage_api_ErrShort), ("cartage/api.ErrKind", laid_cartage_api_ErrKind), ("unicode/utf8.first", laid_unicode_utf8_first)], narrowed := true }
def OctetsOneUptoSaid : Prop := octetsOneUptoRow.holds Tryd.pinned (OpenSpec.upto octetsOneSpec)

/-- 'cartagelaw02.OctetsTake', WHERE WHAT IT READS IS OF BULK AT MOST 1048576: true; the input reads as it did. -/
def octetsTakeUptoRow : OpenClaim := { program := "ytmmiimcodbjnmaadoor", sum := "bfd7853f291e7d0a93446d74450f850aa2a3639db8c86ff757b379dc75fd4e74", func := "cartage/cartagelaw02.OctetsTake", spec := "octetsTake", inPlace := ["internal/bytealg.IndexByteString", "internal/bytealg.IndexString", "internal/reflectlite.TypeOf"], unfollowed := true, recurses := true, named := ["cartage/api.ErrKind", "cartage/api.ErrRange", "unicode/utf8.first", "unicode/utf8.acceptRanges", "cartage/api.ErrLong", "cartage/api.ErrShort", "cartage/api.ErrForm", "cartage/api.ErrSum", "cartage/api.ErrName", "cartage/api.ErrDepth", "cartage/api.ErrMissing", "cartage/api.ErrCas", "cartage/api.ErrQuota", "cartage/api.ErrQueue", "cartage/api.ErrLarge", "cartage/api.ErrNoRepo", "cartage/api.ErrExists", "cartage/api.ErrDown", "cartage/api.ErrTimeout", "cartage/api.ErrStale", "cartage/api.ErrState", "cartage/api.ErrDup", "cartage/api.ErrNone", "cartage/api.ErrFull", "internal/bytealg.MaxLen"], apart := false, laid := [("unicode/utf8.acceptRanges", laid_unicode_utf8_acceptRanges), ("cartage/api.ErrRange", laid_cartage_api_ErrRange), ("cartage/api.ErrShort", laid_cartage_api_ErrShort), ("cartage/api.ErrLong", laid_cartage_api_ErrLong), ("cartage/api.ErrForm", laid_cartage_api_ErrForm), ("cartage/api.ErrSum", laid_cartage_api_ErrSum), ("cartage/api.ErrName", laid_cartage_api_ErrName), ("cartage/api.ErrKind", laid_cartage_api_ErrKind), ("cartage/api.ErrDepth", laid_cartage_api_ErrDepth), ("cartage/api.ErrMissing", laid_cartage_api_ErrMissing), ("cartage/api.ErrCas", laid_cartage_api_ErrCas), ("cartage/api.ErrQuota", laid_cartage_api_ErrQuota), ("cartage/api.ErrQueue", laid_cartage_api_ErrQueue), ("cartage/api.ErrLarge", laid_cartage_api_ErrLarge), ("cartage/api.ErrNoRepo", laid_cartage_api_ErrNoRepo), ("cartage/api.ErrExists", laid_cartage_api_ErrExists), ("cartage/api.ErrDown", laid_cartage_api_ErrDown), ("cartage/api.ErrTimeout", laid_cartage_api_ErrTimeout), ("cartage/api.ErrStale", laid_cartage_api_ErrStale), ("cartage/api.ErrState", laid_cartage_api_ErrState), ("cartage/api.ErrDup", laid_cartage_api_ErrDup), ("cartage/api.ErrNone", laid_cartage_api_ErrNone), ("cartage/api.ErrFull", laid_cartage_api_ErrFull), ("unicode/utf8.first", laid_unicode_utf8_first)], narrowed := true }
def OctetsTakeUptoSaid : Prop := octetsTakeUptoRow.holds Tryd.pinned (OpenSpec.upto octetsTakeSpec)

/-- 'cartagelaw02.OctetsWrite', WHERE WHAT IT READS IS OF BULK AT MOST 1048576: true; the input reads as it did. -/
def octetsWriteUptoRow : OpenClaim := { program := "ytmmiimcodbjnmaadoor", sum := "bfd7853f291e7d0a93446d74450f850aa2a3639db8c86ff757b379dc75fd4e74", func := "cartage/cartagelaw02.OctetsWrite", spec := "octetsWrite", inPlace := ["internal/bytealg.IndexByteString", "internal/bytealg.IndexString", "internal/reflectlite.TypeOf"], unfollowed := true, recurses := true, named := ["cartage/api.ErrKind", "cartage/api.ErrRange", "unicode/utf8.first", "unicode/utf8.acceptRanges", "cartage/api.ErrShort", "cartage/api.ErrLong", "cartage/api.ErrForm", "cartage/api.ErrSum", "cartage/api.ErrName", "cartage/api.ErrDepth", "cartage/api.ErrMissing", "cartage/api.ErrCas", "cartage/api.ErrQuota", "cartage/api.ErrQueue", "cartage/api.ErrLarge", "cartage/api.ErrNoRepo", "cartage/api.ErrExists", "cartage/api.ErrDown", "cartage/api.ErrTimeout", "cartage/api.ErrStale", "cartage/api.ErrState", "cartage/api.ErrDup", "cartage/api.ErrNone", "cartage/api.ErrFull", "internal/bytealg.MaxLen"], apart := false, laid := [("unicode/utf8.acceptRanges", laid_unicode_utf8_acceptRanges), ("cartage/api.ErrRange", laid_cartage_api_ErrRange), ("cartage/api.ErrShort", laid_cartage_api_ErrShort), ("cartage/api.ErrLong", laid_cartage_api_ErrLong), ("cartage/api.ErrForm", laid_cartage_api_ErrForm), ("cartage/api.ErrSum", laid_cartage_api_ErrSum), ("cartage/api.ErrName", laid_cartage_api_ErrName), ("cartage/api.ErrKind", laid_cartage_api_ErrKind), ("cartage/api.ErrDepth", laid_cartage_api_ErrDepth), ("cartage/api.ErrMissing", laid_cartage_api_ErrMissing), ("cartage/api.ErrCas", laid_cartage_api_ErrCas), ("cartage/api.ErrQuota", laid_cartage_api_ErrQuota), ("cartage/api.ErrQueue", laid_cartage_api_ErrQueue), ("cartage/api.ErrLarge", laid_cartage_api_ErrLarge), ("cartage/api.ErrNoRepo", laid_cartage_api_ErrNoRepo), ("cartage/api.ErrExists", laid_cartage_api_ErrExists), ("cartage/api.ErrDown", laid_cartage_api_ErrDown), ("cartage/api.ErrTimeout", laid_cartage_api_ErrTimeout), ("cartage/api.ErrStale", laid_cartage_api_ErrStale), ("cartage/api.ErrState", laid_cartage_api_ErrState), ("cartage/api.ErrDup", laid_cartage_api_ErrDup), ("cartage/api.ErrNone", laid_cartage_api_ErrNone), ("cartage/api.ErrFull", laid_cartage_api_ErrFull), ("unicode/utf8.first", laid_unicode_utf8_first)], narrowed := true }
def OctetsWriteUptoSaid : Prop := octetsWriteUptoRow.holds Tryd.pinned (OpenSpec.upto octetsWriteSpec)

/-- 'cartagelaw31.ScriptDecodes', WHERE WHAT IT READS IS OF BULK AT MOST 1048576: true; the input reads as it did. -/
def scriptDecodesUptoRow : OpenClaim := { program := "ytmmiimcodbjnmaadoor", sum := "bfd7853f291e7d0a93446d74450f850aa2a3639db8c86ff757b379dc75fd4e74", func := "cartage/cartagelaw31.ScriptDecodes", spec := "scriptDecodes", inPlace := ["internal/bytealg.IndexByteString", "internal/bytealg.IndexString"], unfollowed := true, recurses := true, named := ["cartage/api.ErrKind", "cartage/api.ErrRange", "unicode/utf8.first", "unicode/utf8.acceptRanges", "cartage/api.ErrShort", "cartage/api.ErrLong", "cartage/api.ErrForm", "internal/bytealg.MaxLen"], apart := false, laid := [("unicode/utf8.acceptRanges", laid_unicode_utf8_acceptRanges), ("cartage/api.ErrRange", laid_cartage_api_ErrRange), ("cartage/api.ErrShort", laid_cartage_api_ErrShort), ("cartage/api.ErrLong", laid_cartage_api_ErrLong), ("cartage/api.ErrForm", laid_cartage_api_ErrForm), ("cartage/api.ErrKind", laid_cartage_api_ErrKind), ("unicode/utf8.first", laid_unicode_utf8_first)], narrowed := true }
def ScriptDecodesUptoSaid : Prop := scriptDecodesUptoRow.holds Tryd.pinned (OpenSpec.upto scriptDecodesSpec)

/-- 'cartagelaw31.ScriptJoin', WHERE WHAT IT READS IS OF BULK AT MOST 1048576: true; the input reads as it did. -/
def scriptJoinUptoRow : OpenClaim := { program := "ytmmiimcodbjnmaadoor", sum := "bfd7853f291e7d0a93446d74450f850aa2a3639db8c86ff757b379dc75fd4e74", func := "cartage/cartagelaw31.ScriptJoin", spec := "scriptJoin", inPlace := ["internal/bytealg.IndexByteString", "internal/bytealg.IndexString"], unfollowed := true, recurses := true, named := ["cartage/api.ErrKind", "cartage/api.ErrRange", "unicode/utf8.first", "unicode/utf8.acceptRanges", "cartage/api.ErrShort", "cartage/api.ErrLong", "cartage/api.ErrForm", "internal/bytealg.MaxLen"], apart := false, laid := [("unicode/utf8.acceptRanges", laid_unicode_utf8_acceptRanges), ("cartage/api.ErrRange", laid_cartage_api_ErrRange), ("cartage/api.ErrShort", laid_cartage_api_ErrShort), ("cartage/api.ErrLong", laid_cartage_api_ErrLong), ("cartage/api.ErrForm", laid_cartage_api_ErrForm), ("cartage/api.ErrKind", laid_cartage_api_ErrKind), ("unicode/utf8.first", laid_unicode_utf8_first)], narrowed := true }
def ScriptJoinUptoSaid : Prop := scriptJoinUptoRow.holds Tryd.pinned (OpenSpec.upto scriptJoinSpec)

end Rows
end Go.Proofs.YtmmiimcodbjnmaaDoor
