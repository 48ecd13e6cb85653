/-
  NARROWER THAN 'FOR EVERY INPUT', by the rows' own cells (each row's printed sentence says how): ObjectSame: laid · ShaSums: laid · ShaRoots: laid · ShaTexts: laid · ObjectParse: laid · ObjectLinks: laid · ShaSorts: laid · ShaOrder: laid.
  DERIVED. THE GIVEN ROWS OF THIS SEAT. 8 by the template 'for every input the law returns true; each argument reads behind the call as it read before'; 0 by the template 'total and deterministic' (their statements: YtdpiplllcinieaaDoorTotals.lean).
  GIVEN WITH THE SEED: the statements are not yours to turn. If you find one false, say at which input.
  Laid BY PROGRAM, IN A SANDBOX (cutbox-rows.mjs): the forced cells as the released guide's own fill.sh prints them over the translation 1273f6b414cea77b… (all of the seat's roots in one cut). By AI agents, Wed Nov 11 2026. No macro, syntax, notation, axiom, sorry.
-/
import Derived.Test.YtdpiplllcinieaaDoorChecked
import GoSem.Claim
import GoSem.ClaimJoined
import GoSem.ClaimMapViews
import Derived.JoinedTies
import Derived.KernelRfl
namespace Go.Proofs.YtdpiplllcinieaaDoor
/- THE CELL 'sum', in the pinned program and in every row, IS THE sha256 OF THE DUMP (.gsa) THAT YtdpiplllcinieaaDoorProg.lean LOADS. Nothing in Lean hashes anything: it is a label: what it is worth is what the hold of that sum in a sandbox is worth. -/
noncomputable def Tryd.pinned : Pinned := { name := "ytdpiplllcinieaadoor", sum := "1273f6b414cea77b091812d2a8085253a5e1f808a20953c30815487d0011e440", checked := Tryd.checked }
namespace Rows
def none {H : Type} : Left H := { results := [], args := [] }

/- WHAT THE LISTED PACKAGE-LEVEL VARIABLES READ AS WHEN THE CALL BEGINS. Each datum BY PROGRAM (the guide's laid-datum.mjs) off the statement by which the dump's own 'gosem.cut.vars' lays the variable. In a bare row this is a premise. The card (YtdpiplllcinieaaDoorCards.lean) ties it to the program's text. -/
def laid_cartage_api_ErrForm {H : Type} : DataW H := .iface "*errors.errorString" (.ptr (.agg [.lit (.string [105, 116, 32, 105, 115, 32, 110, 111, 116, 32, 111, 102, 32, 105, 116, 115, 32, 102, 111, 114, 109])]))
def laid_cartage_sha_grains {H : Type} : DataW H := .agg [.lit (.int .u32 1116352408), .lit (.int .u32 1899447441), .lit (.int .u32 3049323471), .lit (.int .u32 3921009573), .lit (.int .u32 961987163), .lit (.int .u32 1508970993), .lit (.int .u32 2453635748), .lit (.int .u32 2870763221), .lit (.int .u32 3624381080), .lit (.int .u32 310598401), .lit (.int .u32 607225278), .lit (.int .u32 1426881987), .lit (.int .u32 1925078388), .lit (.int .u32 2162078206), .lit (.int .u32 2614888103), .lit (.int .u32 3248222580), .lit (.int .u32 3835390401), .lit (.int .u32 4022224774), .lit (.int .u32 264347078), .lit (.int .u32 604807628), .lit (.int .u32 770255983), .lit (.int .u32 1249150122), .lit (.int .u32 1555081692), .lit (.int .u32 1996064986), .lit (.int .u32 2554220882), .lit (.int .u32 2821834349), .lit (.int .u32 2952996808), .lit (.int .u32 3210313671), .lit (.int .u32 3336571891), .lit (.int .u32 3584528711), .lit (.int .u32 113926993), .lit (.int .u32 338241895), .lit (.int .u32 666307205), .lit (.int .u32 773529912), .lit (.int .u32 1294757372), .lit (.int .u32 1396182291), .lit (.int .u32 1695183700), .lit (.int .u32 1986661051), .lit (.int .u32 2177026350), .lit (.int .u32 2456956037), .lit (.int .u32 2730485921), .lit (.int .u32 2820302411), .lit (.int .u32 3259730800), .lit (.int .u32 3345764771), .lit (.int .u32 3516065817), .lit (.int .u32 3600352804), .lit (.int .u32 4094571909), .lit (.int .u32 275423344), .lit (.int .u32 430227734), .lit (.int .u32 506948616), .lit (.int .u32 659060556), .lit (.int .u32 883997877), .lit (.int .u32 958139571), .lit (.int .u32 1322822218), .lit (.int .u32 1537002063), .lit (.int .u32 1747873779), .lit (.int .u32 1955562222), .lit (.int .u32 2024104815), .lit (.int .u32 2227730452), .lit (.int .u32 2361852424), .lit (.int .u32 2428436474), .lit (.int .u32 2756734187), .lit (.int .u32 3204031479), .lit (.int .u32 3329325298)]
def laid_cartage_sha_start {H : Type} : DataW H := .agg [.lit (.int .u32 1779033703), .lit (.int .u32 3144134277), .lit (.int .u32 1013904242), .lit (.int .u32 2773480762), .lit (.int .u32 1359893119), .lit (.int .u32 2600822924), .lit (.int .u32 528734635), .lit (.int .u32 1541459225)]
def laid_cartage_api_ErrRange {H : Type} : DataW H := .iface "*errors.errorString" (.ptr (.agg [.lit (.string [97, 32, 110, 117, 109, 98, 101, 114, 32, 105, 115, 32, 111, 117, 116, 32, 111, 102, 32, 105, 116, 115, 32, 114, 97, 110, 103, 101])]))
def laid_cartage_api_ErrShort {H : Type} : DataW H := .iface "*errors.errorString" (.ptr (.agg [.lit (.string [115, 111, 109, 101, 116, 104, 105, 110, 103, 32, 105, 115, 32, 109, 105, 115, 115, 105, 110, 103, 32, 97, 116, 32, 116, 104, 101, 32, 101, 110, 100])]))
def laid_cartage_api_ErrLong {H : Type} : DataW H := .iface "*errors.errorString" (.ptr (.agg [.lit (.string [116, 104, 101, 114, 101, 32, 105, 115, 32, 109, 111, 114, 101, 32, 116, 104, 97, 110, 32, 109, 97, 121, 32, 98, 101])]))
def laid_cartage_api_ErrSum {H : Type} : DataW H := .iface "*errors.errorString" (.ptr (.agg [.lit (.string [116, 104, 101, 32, 115, 117, 109, 32, 105, 115, 32, 110, 111, 116, 32, 114, 105, 103, 104, 116])]))
def laid_cartage_api_ErrName {H : Type} : DataW H := .iface "*errors.errorString" (.ptr (.agg [.lit (.string [105, 116, 32, 105, 115, 32, 110, 111, 32, 114, 105, 103, 104, 116, 32, 110, 97, 109, 101])]))
def laid_cartage_api_ErrKind {H : Type} : DataW H := .iface "*errors.errorString" (.ptr (.agg [.lit (.string [105, 116, 32, 105, 115, 32, 111, 102, 32, 97, 110, 111, 116, 104, 101, 114, 32, 107, 105, 110, 100])]))
def laid_cartage_api_ErrDepth {H : Type} : DataW H := .iface "*errors.errorString" (.ptr (.agg [.lit (.string [105, 116, 32, 103, 111, 101, 115, 32, 116, 111, 111, 32, 100, 101, 101, 112])]))
def laid_cartage_api_ErrMissing {H : Type} : DataW H := .iface "*errors.errorString" (.ptr (.agg [.lit (.string [97, 110, 32, 111, 98, 106, 101, 99, 116, 32, 105, 115, 32, 109, 105, 115, 115, 105, 110, 103])]))
def laid_cartage_api_ErrCas {H : Type} : DataW H := .iface "*errors.errorString" (.ptr (.agg [.lit (.string [97, 32, 114, 101, 102, 32, 105, 115, 32, 110, 111, 116, 32, 119, 104, 97, 116, 32, 119, 97, 115, 32, 101, 120, 112, 101, 99, 116, 101, 100])]))
def laid_cartage_api_ErrQuota {H : Type} : DataW H := .iface "*errors.errorString" (.ptr (.agg [.lit (.string [116, 104, 101, 32, 100, 105, 115, 107, 32, 104, 97, 115, 32, 110, 111, 32, 114, 111, 111, 109])]))
def laid_cartage_api_ErrQueue {H : Type} : DataW H := .iface "*errors.errorString" (.ptr (.agg [.lit (.string [116, 104, 101, 32, 113, 117, 101, 117, 101, 32, 104, 97, 115, 32, 110, 111, 32, 114, 111, 111, 109])]))
def laid_cartage_api_ErrLarge {H : Type} : DataW H := .iface "*errors.errorString" (.ptr (.agg [.lit (.string [105, 116, 32, 105, 115, 32, 116, 111, 111, 32, 108, 97, 114, 103, 101])]))
def laid_cartage_api_ErrNoRepo {H : Type} : DataW H := .iface "*errors.errorString" (.ptr (.agg [.lit (.string [116, 104, 101, 114, 101, 32, 105, 115, 32, 110, 111, 32, 115, 117, 99, 104, 32, 114, 101, 112, 111, 115, 105, 116, 111, 114, 121])]))
def laid_cartage_api_ErrExists {H : Type} : DataW H := .iface "*errors.errorString" (.ptr (.agg [.lit (.string [116, 104, 101, 114, 101, 32, 105, 115, 32, 115, 117, 99, 104, 32, 97, 32, 114, 101, 112, 111, 115, 105, 116, 111, 114, 121, 32, 97, 108, 114, 101, 97, 100, 121])]))
def laid_cartage_api_ErrDown {H : Type} : DataW H := .iface "*errors.errorString" (.ptr (.agg [.lit (.string [105, 116, 32, 105, 115, 32, 110, 111, 116, 32, 97, 118, 97, 105, 108, 97, 98, 108, 101, 32, 110, 111, 119])]))
def laid_cartage_api_ErrTimeout {H : Type} : DataW H := .iface "*errors.errorString" (.ptr (.agg [.lit (.string [110, 111, 98, 111, 100, 121, 32, 97, 110, 115, 119, 101, 114, 101, 100, 32, 105, 110, 32, 116, 105, 109, 101])]))
def laid_cartage_api_ErrStale {H : Type} : DataW H := .iface "*errors.errorString" (.ptr (.agg [.lit (.string [116, 104, 101, 32, 101, 112, 111, 99, 104, 32, 105, 115, 32, 110, 111, 116, 32, 116, 104, 101, 32, 99, 117, 114, 114, 101, 110, 116, 32, 111, 110, 101])]))
def laid_cartage_api_ErrState {H : Type} : DataW H := .iface "*errors.errorString" (.ptr (.agg [.lit (.string [105, 116, 32, 99, 97, 110, 32, 110, 111, 116, 32, 98, 101, 32, 100, 111, 110, 101, 32, 105, 110, 32, 116, 104, 105, 115, 32, 115, 116, 97, 116, 101])]))
def laid_cartage_api_ErrDup {H : Type} : DataW H := .iface "*errors.errorString" (.ptr (.agg [.lit (.string [105, 116, 32, 105, 115, 32, 116, 104, 101, 114, 101, 32, 97, 108, 114, 101, 97, 100, 121])]))
def laid_cartage_api_ErrNone {H : Type} : DataW H := .iface "*errors.errorString" (.ptr (.agg [.lit (.string [116, 104, 101, 114, 101, 32, 105, 115, 32, 110, 111, 110, 101])]))
def laid_cartage_api_ErrFull {H : Type} : DataW H := .iface "*errors.errorString" (.ptr (.agg [.lit (.string [116, 104, 101, 114, 101, 32, 97, 114, 101, 32, 97, 115, 32, 109, 97, 110, 121, 32, 97, 115, 32, 109, 97, 121, 32, 98, 101])]))

/-- 'cartagelaw06.ObjectSame': WHATEVER THE INPUT: true; the input reads as it did. -/
def objectSameSpec : ChangeSpec := { name := "objectSame", fn := fun _ => fun
  | [d1, d2] => { results := [.lit (.bool true)], args := [d1, d2] }
  | _ => none }
def objectSameRow : OpenClaim := { program := "ytdpiplllcinieaadoor", sum := "1273f6b414cea77b091812d2a8085253a5e1f808a20953c30815487d0011e440", func := "cartage/cartagelaw06.ObjectSame", spec := "objectSame", named := ["cartage/api.ErrForm"], apart := false, laid := [("cartage/api.ErrForm", laid_cartage_api_ErrForm)] }
def ObjectSameSaid : Prop := objectSameRow.holds Tryd.pinned (OpenSpec.ofChange objectSameSpec)

/-- ITS FALSE NEIGHBOUR: 'it returns false'. Refute it at one input. -/
def objectSameWrong : ChangeSpec := { name := "objectSame", fn := fun _ => fun
  | [d1, d2] => { results := [.lit (.bool false)], args := [d1, d2] }
  | _ => none }
def ObjectSameWrongFalsely : Prop := objectSameRow.holds Tryd.pinned (OpenSpec.ofChange objectSameWrong)

/-- 'cartagelaw01.ShaSums': WHATEVER THE INPUT: true; the input reads as it did. -/
def shaSumsSpec : ChangeSpec := { name := "shaSums", fn := fun _ => fun
  | [d] => { results := [.lit (.bool true)], args := [d] }
  | _ => none }
def shaSumsRow : OpenClaim := { program := "ytdpiplllcinieaadoor", sum := "1273f6b414cea77b091812d2a8085253a5e1f808a20953c30815487d0011e440", func := "cartage/cartagelaw01.ShaSums", spec := "shaSums", named := ["cartage/sha.start", "cartage/sha.grains"], apart := false, laid := [("cartage/sha.grains", laid_cartage_sha_grains), ("cartage/sha.start", laid_cartage_sha_start)] }
def ShaSumsSaid : Prop := shaSumsRow.holds Tryd.pinned (OpenSpec.ofChange shaSumsSpec)

/-- ITS FALSE NEIGHBOUR: 'it returns false'. Refute it at one input. -/
def shaSumsWrong : ChangeSpec := { name := "shaSums", fn := fun _ => fun
  | [d] => { results := [.lit (.bool false)], args := [d] }
  | _ => none }
def ShaSumsWrongFalsely : Prop := shaSumsRow.holds Tryd.pinned (OpenSpec.ofChange shaSumsWrong)

/-- 'cartagelaw01.ShaRoots': WHATEVER THE INPUT: true; the input reads as it did. -/
def shaRootsSpec : ChangeSpec := { name := "shaRoots", fn := fun _ => fun
  | [] => { results := [.lit (.bool true)], args := [] }
  | _ => none }
def shaRootsRow : OpenClaim := { program := "ytdpiplllcinieaadoor", sum := "1273f6b414cea77b091812d2a8085253a5e1f808a20953c30815487d0011e440", func := "cartage/cartagelaw01.ShaRoots", spec := "shaRoots", named := ["cartage/sha.start", "cartage/sha.grains"], apart := false, laid := [("cartage/sha.grains", laid_cartage_sha_grains), ("cartage/sha.start", laid_cartage_sha_start)] }
def ShaRootsSaid : Prop := shaRootsRow.holds Tryd.pinned (OpenSpec.ofChange shaRootsSpec)

/-- ITS FALSE NEIGHBOUR: 'it returns false'. Refute it at one input. -/
def shaRootsWrong : ChangeSpec := { name := "shaRoots", fn := fun _ => fun
  | [] => { results := [.lit (.bool false)], args := [] }
  | _ => none }
def ShaRootsWrongFalsely : Prop := shaRootsRow.holds Tryd.pinned (OpenSpec.ofChange shaRootsWrong)

/-- 'cartagelaw01.ShaTexts': WHATEVER THE INPUT: true; the input reads as it did. -/
def shaTextsSpec : ChangeSpec := { name := "shaTexts", fn := fun _ => fun
  | [d1, d2, d3] => { results := [.lit (.bool true)], args := [d1, d2, d3] }
  | _ => none }
def shaTextsRow : OpenClaim := { program := "ytdpiplllcinieaadoor", sum := "1273f6b414cea77b091812d2a8085253a5e1f808a20953c30815487d0011e440", func := "cartage/cartagelaw01.ShaTexts", spec := "shaTexts", inPlace := ["internal/bytealg.IndexByte", "internal/reflectlite.TypeOf", "internal/bytealg.Compare"], unfollowed := true, recurses := true, named := ["cartage/sha.start", "cartage/sha.grains", "cartage/api.ErrForm", "cartage/api.ErrRange", "cartage/api.ErrShort", "cartage/api.ErrLong", "cartage/api.ErrSum", "cartage/api.ErrName", "cartage/api.ErrKind", "cartage/api.ErrDepth", "cartage/api.ErrMissing", "cartage/api.ErrCas", "cartage/api.ErrQuota", "cartage/api.ErrQueue", "cartage/api.ErrLarge", "cartage/api.ErrNoRepo", "cartage/api.ErrExists", "cartage/api.ErrDown", "cartage/api.ErrTimeout", "cartage/api.ErrStale", "cartage/api.ErrState", "cartage/api.ErrDup", "cartage/api.ErrNone", "cartage/api.ErrFull"], apart := false, laid := [("cartage/api.ErrRange", laid_cartage_api_ErrRange), ("cartage/api.ErrShort", laid_cartage_api_ErrShort), ("cartage/api.ErrLong", laid_cartage_api_ErrLong), ("cartage/api.ErrForm", laid_cartage_api_ErrForm), ("cartage/api.ErrSum", laid_cartage_api_ErrSum), ("cartage/api.ErrName", laid_cartage_api_ErrName), ("cartage/api.ErrKind", laid_cartage_api_ErrKind), ("cartage/api.ErrDepth", laid_cartage_api_ErrDepth), ("cartage/api.ErrMissing", laid_cartage_api_ErrMissing), ("cartage/api.ErrCas", laid_cartage_api_ErrCas), ("cartage/api.ErrQuota", laid_cartage_api_ErrQuota), ("cartage/api.ErrQueue", laid_cartage_api_ErrQueue), ("cartage/api.ErrLarge", laid_cartage_api_ErrLarge), ("cartage/api.ErrNoRepo", laid_cartage_api_ErrNoRepo), ("cartage/api.ErrExists", laid_cartage_api_ErrExists), ("cartage/api.ErrDown", laid_cartage_api_ErrDown), ("cartage/api.ErrTimeout", laid_cartage_api_ErrTimeout), ("cartage/api.ErrStale", laid_cartage_api_ErrStale), ("cartage/api.ErrState", laid_cartage_api_ErrState), ("cartage/api.ErrDup", laid_cartage_api_ErrDup), ("cartage/api.ErrNone", laid_cartage_api_ErrNone), ("cartage/api.ErrFull", laid_cartage_api_ErrFull), ("cartage/sha.grains", laid_cartage_sha_grains), ("cartage/sha.start", laid_cartage_sha_start)] }
def ShaTextsSaid : Prop := shaTextsRow.holds Tryd.pinned (OpenSpec.ofChange shaTextsSpec)

/-- ITS FALSE NEIGHBOUR: 'it returns false'. Refute it at one input. -/
def shaTextsWrong : ChangeSpec := { name := "shaTexts", fn := fun _ => fun
  | [d1, d2, d3] => { results := [.lit (.bool false)], args := [d1, d2, d3] }
  | _ => none }
def ShaTextsWrongFalsely : Prop := shaTextsRow.holds Tryd.pinned (OpenSpec.ofChange shaTextsWrong)

/-- 'cartagelaw06.ObjectParse': WHATEVER THE INPUT: true; the input reads as it did. -/
def objectParseSpec : ChangeSpec := { name := "objectParse", fn := fun _ => fun
  | [d] => { results := [.lit (.bool true)], args := [d] }
  | _ => none }
def objectParseRow : OpenClaim := { program := "ytdpiplllcinieaadoor", sum := "1273f6b414cea77b091812d2a8085253a5e1f808a20953c30815487d0011e440", func := "cartage/cartagelaw06.ObjectParse", spec := "objectParse", inPlace := ["internal/bytealg.IndexByte", "internal/reflectlite.TypeOf"], unfollowed := true, recurses := true, named := ["cartage/api.ErrForm", "cartage/api.ErrLarge", "cartage/api.ErrLong", "cartage/api.ErrKind", "cartage/api.ErrRange", "cartage/api.ErrShort", "cartage/api.ErrSum", "cartage/api.ErrName", "cartage/api.ErrDepth", "cartage/api.ErrMissing", "cartage/api.ErrCas", "cartage/api.ErrQuota", "cartage/api.ErrQueue", "cartage/api.ErrNoRepo", "cartage/api.ErrExists", "cartage/api.ErrDown", "cartage/api.ErrTimeout", "cartage/api.ErrStale", "cartage/api.ErrState", "cartage/api.ErrDup", "cartage/api.ErrNone", "cartage/api.ErrFull"], apart := false, laid := [("cartage/api.ErrRange", laid_cartage_api_ErrRange), ("cartage/api.ErrShort", laid_cartage_api_ErrShort), ("cartage/api.ErrLong", laid_cartage_api_ErrLong), ("cartage/api.ErrForm", laid_cartage_api_ErrForm), ("cartage/api.ErrSum", laid_cartage_api_ErrSum), ("cartage/api.ErrName", laid_cartage_api_ErrName), ("cartage/api.ErrKind", laid_cartage_api_ErrKind), ("cartage/api.ErrDepth", laid_cartage_api_ErrDepth), ("cartage/api.ErrMissing", laid_cartage_api_ErrMissing), ("cartage/api.ErrCas", laid_cartage_api_ErrCas), ("cartage/api.ErrQuota", laid_cartage_api_ErrQuota), ("cartage/api.ErrQueue", laid_cartage_api_ErrQueue), ("cartage/api.ErrLarge", laid_cartage_api_ErrLarge), ("cartage/api.ErrNoRepo", laid_cartage_api_ErrNoRepo), ("cartage/api.ErrExists", laid_cartage_api_ErrExists), ("cartage/api.ErrDown", laid_cartage_api_ErrDown), ("cartage/api.ErrTimeout", laid_cartage_api_ErrTimeout), ("cartage/api.ErrStale", laid_cartage_api_ErrStale), ("cartage/api.ErrState", laid_cartage_api_ErrState), ("cartage/api.ErrDup", laid_cartage_api_ErrDup), ("cartage/api.ErrNone", laid_cartage_api_ErrNone), ("cartage/api.ErrFull", laid_cartage_api_ErrFull)] }
def ObjectParseSaid : Prop := objectParseRow.holds Tryd.pinned (OpenSpec.ofChange objectParseSpec)

/-- ITS FALSE NEIGHBOUR: 'it returns false'. Refute it at one input. -/
def objectParseWrong : ChangeSpec := { name := "objectParse", fn := fun _ => fun
  | [d] => { results := [.lit (.bool false)], args := [d] }
  | _ => none }
def ObjectParseWrongFalsely : Prop := objectParseRow.holds Tryd.pinned (OpenSpec.ofChange objectParseWrong)

/-- 'cartagelaw06.ObjectLinks': WHATEVER THE INPUT: true; the input reads as it did. -/
def objectLinksSpec : ChangeSpec := { name := "objectLinks", fn := fun _ => fun
  | [d] => { results := [.lit (.bool true)], args := [d] }
  | _ => none }
def objectLinksRow : OpenClaim := { program := "ytdpiplllcinieaadoor", sum := "1273f6b414cea77b091812d2a8085253a5e1f808a20953c30815487d0011e440", func := "cartage/cartagelaw06.ObjectLinks", spec := "objectLinks", inPlace := ["internal/bytealg.IndexByte"], unfollowed := true, recurses := true, named := ["cartage/api.ErrForm", "cartage/api.ErrLarge", "cartage/api.ErrLong", "cartage/api.ErrKind", "cartage/api.ErrRange", "cartage/api.ErrShort", "cartage/sha.start", "cartage/sha.grains"], apart := false, laid := [("cartage/api.ErrRange", laid_cartage_api_ErrRange), ("cartage/api.ErrShort", laid_cartage_api_ErrShort), ("cartage/api.ErrLong", laid_cartage_api_ErrLong), ("cartage/api.ErrForm", laid_cartage_api_ErrForm), ("cartage/api.ErrKind", laid_cartage_api_ErrKind), ("cartage/api.ErrLarge", laid_cartage_api_ErrLarge), ("cartage/sha.grains", laid_cartage_sha_grains), ("cartage/sha.start", laid_cartage_sha_start)] }
def ObjectLinksSaid : Prop := objectLinksRow.holds Tryd.pinned (OpenSpec.ofChange objectLinksSpec)

/-- ITS FALSE NEIGHBOUR: 'it returns false'. Refute it at one input. -/
def objectLinksWrong : ChangeSpec := { name := "objectLinks", fn := fun _ => fun
  | [d] => { results := [.lit (.bool false)], args := [d] }
  | _ => none }
def ObjectLinksWrongFalsely : Prop := objectLinksRow.holds Tryd.pinned (OpenSpec.ofChange objectLinksWrong)

/-- 'cartagelaw01.ShaSorts': WHATEVER THE INPUT: true; the input reads as it did. -/
def shaSortsSpec : ChangeSpec := { name := "shaSorts", fn := fun _ => fun
  | [d] => { results := [.lit (.bool true)], args := [d] }
  | _ => none }
def shaSortsRow : OpenClaim := { program := "ytdpiplllcinieaadoor", sum := "1273f6b414cea77b091812d2a8085253a5e1f808a20953c30815487d0011e440", func := "cartage/cartagelaw01.ShaSorts", spec := "shaSorts", inPlace := ["internal/bytealg.Compare"], unfollowed := true, recurses := true, named := ["cartage/sha.start", "cartage/sha.grains"], apart := false, laid := [("cartage/sha.grains", laid_cartage_sha_grains), ("cartage/sha.start", laid_cartage_sha_start)] }
def ShaSortsSaid : Prop := shaSortsRow.holds Tryd.pinned (OpenSpec.ofChange shaSortsSpec)

/-- ITS FALSE NEIGHBOUR: 'it returns false'. Refute it at one input. -/
def shaSortsWrong : ChangeSpec := { name := "shaSorts", fn := fun _ => fun
  | [d] => { results := [.lit (.bool false)], args := [d] }
  | _ => none }
def ShaSortsWrongFalsely : Prop := shaSortsRow.holds Tryd.pinned (OpenSpec.ofChange shaSortsWrong)

/-- 'cartagelaw01.ShaOrder': WHATEVER THE INPUT: true; the input reads as it did. -/
def shaOrderSpec : ChangeSpec := { name := "shaOrder", fn := fun _ => fun
  | [d1, d2] => { results := [.lit (.bool true)], args := [d1, d2] }
  | _ => none }
def shaOrderRow : OpenClaim := { program := "ytdpiplllcinieaadoor", sum := "1273f6b414cea77b091812d2a8085253a5e1f808a20953c30815487d0011e440", func := "cartage/cartagelaw01.ShaOrder", spec := "shaOrder", inPlace := ["internal/bytealg.Compare"], unfollowed := true, recurses := true, named := ["cartage/sha.start", "cartage/sha.grains"], apart := false, laid := [("cartage/sha.grains", laid_cartage_sha_grains), ("cartage/sha.start", laid_cartage_sha_start)] }
def ShaOrderSaid : Prop := shaOrderRow.holds Tryd.pinned (OpenSpec.ofChange shaOrderSpec)

/-- ITS FALSE NEIGHBOUR: 'it returns false'. Refute it at one input. -/
def shaOrderWrong : ChangeSpec := { name := "shaOrder", fn := fun _ => fun
  | [d1, d2] => { results := [.lit (.bool false)], args := [d1, d2] }
  | _ => none }
def ShaOrderWrongFalsely : Prop := shaOrderRow.holds Tryd.pinned (OpenSpec.ofChange shaOrderWrong)

/- THE SECOND FORM. 'bulk': how many values and letters a reading holds, each counted each time it is reached (what is shared counts as often as it is met; a slice's spare places count too). A statement '..UptoSaid' is the law's where the arguments, and the package variables that the reading takes, are together of bulk at most 1048576: NARROWER than '..Said'. Prove '..Said' where nothing that the law and all that it calls make is longer than what came in: it says more and counts as full. Else prove '..UptoSaid'. A law counts once. -/
mutual
def uptoBulk {H : Type} : DataW H → Nat
  | .lit (.string bytes) => bytes.length + 1
  | .lit _ => 1
  | .nil => 1
  | .ptr d => uptoBulk d + 1
  | .slice elems spare => uptoBulkAll elems + uptoBulkAll spare + 1
  | .agg parts => uptoBulkAll parts + 1
  | .iface _ d => uptoBulk d + 1
  | .map entries => uptoBulkEntries entries + 1
  | .held _ => 1
def uptoBulkAll {H : Type} : List (DataW H) → Nat
  | [] => 0
  | d :: r => uptoBulk d + uptoBulkAll r
def uptoBulkEntries {H : Type} : List (Lit × DataW H) → Nat
  | [] => 0
  | x :: r => uptoBulkEntry x + uptoBulkEntries r
def uptoBulkEntry {H : Type} : Lit × DataW H → Nat
  | (.string bytes, d) => bytes.length + uptoBulk d + 1
  | (_, d) => uptoBulk d + 1
 end
def uptoSmall : (H : Type) → List (DataW H) → Bool := fun _ ds => decide (uptoBulkAll ds ≤ 1048576)
def OpenSpec.upto (s : _root_.Go.ChangeSpec) : _root_.Go.OpenSpec := { _root_.Go.OpenSpec.ofChange s with cond := some uptoSmall }

/-- 'cartagelaw06.ObjectSame', WHERE WHAT IT READS IS OF BULK AT MOST 1048576: true; the input reads as it did. -/
def objectSameUptoRow : OpenClaim := { program := "ytdpiplllcinieaadoor", sum := "1273f6b414cea77b091812d2a8085253a5e1f808a20953c30815487d0011e440", func := "cartage/cartagelaw06.ObjectSame", spec := "objectSame", named := ["cartage/api.ErrForm"], apart := false, laid := [("cartage/api.ErrForm", laid_cartage_api_ErrForm)], narrowed := true }
def ObjectSameUptoSaid : Prop := objectSameUptoRow.holds Tryd.pinned (OpenSpec.upto objectSameSpec)

/-- 'cartagelaw01.ShaSums', WHERE WHAT IT READS IS OF BULK AT MOST 1048576: true; the input reads as it did. -/
def shaSumsUptoRow : OpenClaim := { program := "ytdpiplllcinieaadoor", sum := "1273f6b414cea77b091812d2a8085253a5e1f808a20953c30815487d0011e440", func := "cartage/cartagelaw01.ShaSums", spec := "shaSums", named := ["cartage/sha.start", "cartage/sha.grains"], apart := false, laid := [("cartage/sha.grains", laid_cartage_sha_grains), ("cartage/sha.start", laid_cartage_sha_start)], narrowed := true }
def ShaSumsUptoSaid : Prop := shaSumsUptoRow.holds Tryd.pinned (OpenSpec.upto shaSumsSpec)

/-- 'cartagelaw01.ShaRoots', WHERE WHAT IT READS IS OF BULK AT MOST 1048576: true; the input reads as it did. -/
def shaRootsUptoRow : OpenClaim := { program := "ytdpiplllcinieaadoor", sum := "1273f6b414cea77b091812d2a8085253a5e1f808a20953c30815487d0011e440", func := "cartage/cartagelaw01.ShaRoots", spec := "shaRoots", named := ["cartage/sha.start", "cartage/sha.grains"], apart := false, laid := [("cartage/sha.grains", laid_cartage_sha_grains), ("cartage/sha.start", laid_cartage_sha_start)], narrowed := true }
def ShaRootsUptoSaid : Prop := shaRootsUptoRow.holds Tryd.pinned (OpenSpec.upto shaRootsSpec)

/-- 'cartagelaw01.ShaTexts', WHERE WHAT IT READS IS OF BULK AT MOST 1048576: true; the input reads as it did. -/
def shaTextsUptoRow : OpenClaim := { program := "ytdpiplllcinieaadoor", sum := "1273f6b414cea77b091812d2a8085253a5e1f808a20953c30815487d0011e440", func := "cartage/cartagelaw01.ShaTexts", spec := "shaTexts", inPlace := ["internal/bytealg.IndexByte", "internal/reflectlite.TypeOf", "internal/bytealg.Compare"], unfollowed := true, recurses := true, named := ["cartage/sha.start", "cartage/sha.grains", "cartage/api.ErrForm", "cartage/api.ErrRange", "cartage/api.ErrShort", "cartage/api.ErrLong", "cartage/api.ErrSum", "cartage/api.ErrName", "cartage/api.ErrKind", "cartage/api.ErrDepth", "cartage/api.ErrMissing", "cartage/api.ErrCas", "cartage/api.ErrQuota", "cartage/api.ErrQueue", "cartage/api.ErrLarge", "cartage/api.ErrNoRepo", "cartage/api.ErrExists", "cartage/api.ErrDown", "cartage/api.ErrTimeout", "cartage/api.ErrStale", "cartage/api.ErrState", "cartage/api.ErrDup", "cartage/api.ErrNone", "cartage/api.ErrFull"], apart := false, laid := [("cartage/api.ErrRange", laid_cartage_api_ErrRange), ("cartage/api.ErrShort", laid_cartage_api_ErrShort), ("cartage/api.ErrLong", laid_cartage_api_ErrLong), ("cartage/api.ErrForm", laid_cartage_api_ErrForm), ("cartage/api.ErrSum", laid_cartage_api_ErrSum), ("cartage/api.ErrName", laid_cartage_api_ErrName), ("cartage/api.ErrKind", laid_cartage_api_ErrKind), ("cartage/api.ErrDepth", laid_cartage_api_ErrDepth), ("cartage/api.ErrMissing", laid_cartage_api_ErrMissing), ("cartage/api.ErrCas", laid_cartage_api_ErrCas), ("cartage/api.ErrQuota", laid_cartage_api_ErrQuota), ("cartage/api.ErrQueue", laid_cartage_api_ErrQueue), ("cartage/api.ErrLarge", laid_cartage_api_ErrLarge), ("cartage/api.ErrNoRepo", laid_cartage_api_ErrNoRepo), ("cartage/api.ErrExists", laid_cartage_api_ErrExists), ("cartage/api.ErrDown", laid_cartage_api_ErrDown), ("cartage/api.ErrTimeout", laid_cartage_api_ErrTimeout), ("cartage/api.ErrStale", laid_cartage_api_ErrStale), ("cartage/api.ErrState", laid_cartage_api_ErrState), ("cartage/api.ErrDup", laid_cartage_api_ErrDup), ("cartage/api.ErrNone", laid_cartage_api_ErrNone), ("cartage/api.ErrFull", laid_cartage_api_ErrFull), ("cartage/sha.grains", laid_cartage_sha_grains), ("cartage/sha.start", laid_cartage_sha_start)], narrowed := true }
def ShaTextsUptoSaid : Prop := shaTextsUptoRow.holds Tryd.pinned (OpenSpec.upto shaTextsSpec)

/-- 'cartagelaw06.ObjectParse', WHERE WHAT IT READS IS OF BULK AT MOST 1048576: true; the input reads as it did. -/
def objectParseUptoRow : OpenClaim := { program := "ytdpiplllcinieaadoor", sum := "1273f6b414cea77b091812d2a8085253a5e1f808a20953c30815487d0011e440", func := "cartage/cartagelaw06.ObjectParse", spec := "objectParse", inPlace := ["internal/bytealg.IndexByte", "internal/reflectlite.TypeOf"], unfollowed := true, recurses := true, named := ["cartage/api.ErrForm", "cartage/api.ErrLarge", "cartage/api.ErrLong", "cartage/api.ErrKind", "cartage/api.ErrRange", "cartage/api.ErrShort", "cartage/api.ErrSum", "cartage/api.ErrName", "cartage/api.ErrDepth", "cartage/api.ErrMissing", "cartage/api.ErrCas", "cartage/api.ErrQuota", "cartage/api.ErrQueue", "cartage/api.ErrNoRepo", "cartage/api.ErrExists", "cartage/api.ErrDown", "cartage/api.ErrTimeout", "cartage/api.ErrStale", "cartage/api.ErrState", "cartage/api.ErrDup", "cartage/api.ErrNone", "cartage/api.ErrFull"], apart := false, laid := [("cartage/api.ErrRange", laid_cartage_api_ErrRange), ("cartage/api.ErrShort", laid_cartage_api_ErrShort), ("cartage/api.ErrLong", laid_cartage_api_ErrLong), ("cartage/api.ErrForm", laid_cartage_api_ErrForm), ("cartage/api.ErrSum", laid_cartage_api_ErrSum), ("cartage/api.ErrName", laid_cartage_api_ErrName), ("cartage/api.ErrKind", laid_cartage_api_ErrKind), ("cartage/api.ErrDepth", laid_cartage_api_ErrDepth), ("cartage/api.ErrMissing", laid_cartage_api_ErrMissing), ("cartage/api.ErrCas", laid_cartage_api_ErrCas), ("cartage/api.ErrQuota", laid_cartage_api_ErrQuota), ("cartage/api.ErrQueue", laid_cartage_api_ErrQueue), ("cartage/api.ErrLarge", laid_cartage_api_ErrLarge), ("cartage/api.ErrNoRepo", laid_cartage_api_ErrNoRepo), ("cartage/api.ErrExists", laid_cartage_api_ErrExists), ("cartage/api.ErrDown", laid_cartage_api_ErrDown), ("cartage/api.ErrTimeout", laid_cartage_api_ErrTimeout), ("cartage/api.ErrStale", laid_cartage_api_ErrStale), ("cartage/api.ErrState", laid_cartage_api_ErrState), ("cartage/api.ErrDup", laid_cartage_api_ErrDup), ("cartage/api.ErrNone", laid_cartage_api_ErrNone), ("cartage/api.ErrFull", laid_cartage_api_ErrFull)], narrowed := true }
def ObjectParseUptoSaid : Prop := objectParseUptoRow.holds Tryd.pinned (OpenSpec.upto objectParseSpec)

/-- 'cartagelaw06.ObjectLinks', WHERE WHAT IT READS IS OF BULK AT MOST 1048576: true; the input reads as it did. -/
def objectLinksUptoRow : OpenClaim := { program := "ytdpiplllcinieaadoor", sum := "1273f6b414cea77b091812d2a8085253a5e1f808a20953c30815487d0011e440", func := "cartage/cartagelaw06.ObjectLinks", spec := "objectLinks", inPlace := ["internal/bytealg.IndexByte"], unfollowed := true, recurses := true, named := ["cartage/api.ErrForm", "cartage/api.ErrLarge", "cartage/api.ErrLong", "cartage/api.ErrKind", "cartage/api.ErrRange", "cartage/api.ErrShort", "cartage/sha.start", "cartage/sha.grains"], apart := false, laid := [("cartage/api.ErrRange", laid_cartage_api_ErrRange), ("cartage/api.ErrShort", laid_cartage_api_ErrShort), ("cartage/api.ErrLong", laid_cartage_api_ErrLong), ("cartage/api.ErrForm", laid_cartage_api_ErrForm), ("cartage/api.ErrKind", laid_cartage_api_ErrKind), ("cartage/api.ErrLarge", laid_cartage_api_ErrLarge), ("cartage/sha.grains", laid_cartage_sha_grains), ("cartage/sha.start", laid_cartage_sha_start)], narrowed := true }
def ObjectLinksUptoSaid : Prop := objectLinksUptoRow.holds Tryd.pinned (OpenSpec.upto objectLinksSpec)

/-- 'cartagelaw01.ShaSorts', WHERE WHAT IT READS IS OF BULK AT MOST 1048576: true; the input reads as it did. -/
def shaSortsUptoRow : OpenClaim := { program := "ytdpiplllcinieaadoor", sum := "1273f6b414cea77b091812d2a8085253a5e1f808a20953c30815487d0011e440", func := "cartage/cartagelaw01.ShaSorts", spec := "shaSorts", inPlace := ["internal/bytealg.Compare"], unfollowed := true, recurses := true, named := ["cartage/sha.start", "cartage/sha.grains"], apart := false, laid := [("cartage/sha.grains", laid_cartage_sha_grains), ("cartage/sha.start", laid_cartage_sha_start)], narrowed := true }
def ShaSortsUptoSaid : Prop := shaSortsUptoRow.holds Tryd.pinned (OpenSpec.upto shaSortsSpec)

/-- 'cartagelaw01.ShaOrder', WHERE WHAT IT READS IS OF BULK AT MOST 1048576: true; the input reads as it did. -/
def shaOrderUptoRow : OpenClaim := { program := "ytdpiplllcinieaadoor", sum := "1273f6b414cea77b091812d2a8085253a5e1f808a20953c30815487d0011e440", func := "cartage/cartagelaw01.ShaOrder", spec := "shaOrder", inPlace := ["internal/bytealg.Compare"], unfollowed := true, recurses := true, named := ["cartage/sha.start", "cartage/sha.grains"], apart := false, laid := [("cartage/sha.grains", laid_cartage_sha_grains), ("cartage/sha.start", laid_cartage_sha_start)], narrowed := true }
def ShaOrderUptoSaid : Prop := shaOrderUptoRow.holds Tryd.pinned (OpenSpec.upto shaOrderSpec)

end Rows
end Go.Proofs.YtdpiplllcinieaaDoor
