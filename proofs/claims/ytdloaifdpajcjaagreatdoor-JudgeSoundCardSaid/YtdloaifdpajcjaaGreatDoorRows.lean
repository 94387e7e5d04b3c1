/-
  NARROWER THAN 'FOR EVERY INPUT', by the rows' own cells (each row's printed sentence says how): JudgeSound: laid · JudgeHonest: laid · AheadFits: laid.
  DERIVED. THE GIVEN ROWS OF THIS SEAT. 3 by the template 'for every input the law returns true; each argument reads behind the call as it read before'; 0 by the template 'total and deterministic' (their statements: YtdloaifdpajcjaaGreatDoorTotals.lean).
  GIVEN WITH THE SEED: the statements are not yours to turn. If you find one false, say at which input.
  Laid BY PROGRAM, IN A SANDBOX (cutbox-rows.mjs): the forced cells as the released guide's own fill.sh prints them over the translation 922e76e614bd424d… (all of the seat's roots in one cut). By AI agents, Wed Nov 11 2026. No macro, syntax, notation, axiom, sorry.
-/
import Derived.Test.YtdloaifdpajcjaaGreatDoorChecked
import GoSem.PinnedTables
import GoSem.Claim
import GoSem.ClaimJoined
import GoSem.ClaimMapViews
import Derived.JoinedTies
import Derived.KernelRfl
namespace Go.Proofs.YtdloaifdpajcjaaGreatDoor
/- THE CELL 'sum', in the pinned program and in every row, IS THE sha256 OF THE DUMP (.gsa) THAT YtdloaifdpajcjaaGreatDoorProg.lean LOADS. Nothing in Lean hashes anything: it is a label: what it is worth is what the hold of that sum in a sandbox is worth. -/
noncomputable def Tryz.pinned : Pinned := { name := "ytdloaifdpajcjaagreatdoor", sum := "922e76e614bd424dcb8281b1ff94139f61d82e50f13df3ee9f701ee9c39bd0d8", checked := Tryz.checked }
namespace Rows
def none {H : Type} : Left H := { results := [], args := [] }

/- WHAT THE LISTED PACKAGE-LEVEL VARIABLES READ AS WHEN THE CALL BEGINS. Each datum BY PROGRAM (the guide's laid-datum.mjs) off the statement by which the dump's own 'gosem.cut.vars' lays the variable. In a bare row this is a premise. The card (YtdloaifdpajcjaaGreatDoorCards.lean) ties it to the program's text. -/
def laid_unicode_utf8_acceptRanges {H : Type} : DataW H := .agg [.agg [.lit (.int .u8 128), .lit (.int .u8 191)], .agg [.lit (.int .u8 160), .lit (.int .u8 191)], .agg [.lit (.int .u8 128), .lit (.int .u8 159)], .agg [.lit (.int .u8 144), .lit (.int .u8 191)], .agg [.lit (.int .u8 128), .lit (.int .u8 143)], .agg [.lit (.int .u8 0), .lit (.int .u8 0)], .agg [.lit (.int .u8 0), .lit (.int .u8 0)], .agg [.lit (.int .u8 0), .lit (.int .u8 0)], .agg [.lit (.int .u8 0), .lit (.int .u8 0)], .agg [.lit (.int .u8 0), .lit (.int .u8 0)], .agg [.lit (.int .u8 0), .lit (.int .u8 0)], .agg [.lit (.int .u8 0), .lit (.int .u8 0)], .agg [.lit (.int .u8 0), .lit (.int .u8 0)], .agg [.lit (.int .u8 0), .lit (.int .u8 0)], .agg [.lit (.int .u8 0), .lit (.int .u8 0)], .agg [.lit (.int .u8 0), .lit (.int .u8 0)]]
def laid_bailee_api_ErrRange {H : Type} : DataW H := .iface "*errors.errorString" (.ptr (.agg [.lit (.string [97, 32, 110, 117, 109, 98, 101, 114, 32, 105, 115, 32, 111, 117, 116, 32, 111, 102, 32, 105, 116, 115, 32, 114, 97, 110, 103, 101])]))
def laid_bailee_api_ErrForm {H : Type} : DataW H := .iface "*errors.errorString" (.ptr (.agg [.lit (.string [105, 116, 32, 105, 115, 32, 110, 111, 116, 32, 111, 102, 32, 105, 116, 115, 32, 102, 111, 114, 109])]))
def laid_bailee_api_ErrName {H : Type} : DataW H := .iface "*errors.errorString" (.ptr (.agg [.lit (.string [105, 116, 32, 105, 115, 32, 110, 111, 32, 114, 105, 103, 104, 116, 32, 110, 97, 109, 101])]))
def laid_bailee_api_ErrKind {H : Type} : DataW H := .iface "*errors.errorString" (.ptr (.agg [.lit (.string [105, 116, 32, 105, 115, 32, 111, 102, 32, 97, 110, 111, 116, 104, 101, 114, 32, 107, 105, 110, 100])]))
def laid_bailee_api_ErrSize {H : Type} : DataW H := .iface "*errors.errorString" (.ptr (.agg [.lit (.string [105, 116, 32, 105, 115, 32, 110, 111, 116, 32, 111, 102, 32, 116, 104, 97, 116, 32, 115, 105, 122, 101])]))
def laid_bailee_api_ErrKey {H : Type} : DataW H := .iface "*errors.errorString" (.ptr (.agg [.lit (.string [116, 104, 101, 32, 107, 101, 121, 32, 105, 115, 32, 110, 111, 116, 32, 114, 105, 103, 104, 116])]))
def laid_bailee_api_ErrProof {H : Type} : DataW H := .iface "*errors.errorString" (.ptr (.agg [.lit (.string [116, 104, 101, 32, 112, 114, 111, 111, 102, 32, 100, 111, 101, 115, 32, 110, 111, 116, 32, 104, 111, 108, 100])]))
def laid_bailee_api_ErrBudget {H : Type} : DataW H := .iface "*errors.errorString" (.ptr (.agg [.lit (.string [110, 111, 116, 104, 105, 110, 103, 32, 111, 102, 32, 116, 104, 101, 32, 107, 105, 110, 100, 32, 105, 115, 32, 108, 101, 102, 116])]))
def laid_bailee_sha_first {H : Type} : DataW H := .agg [.lit (.int .u32 1779033703), .lit (.int .u32 3144134277), .lit (.int .u32 1013904242), .lit (.int .u32 2773480762), .lit (.int .u32 1359893119), .lit (.int .u32 2600822924), .lit (.int .u32 528734635), .lit (.int .u32 1541459225)]
def laid_bailee_sha_added {H : Type} : DataW H := .agg [.lit (.int .u32 1116352408), .lit (.int .u32 1899447441), .lit (.int .u32 3049323471), .lit (.int .u32 3921009573), .lit (.int .u32 961987163), .lit (.int .u32 1508970993), .lit (.int .u32 2453635748), .lit (.int .u32 2870763221), .lit (.int .u32 3624381080), .lit (.int .u32 310598401), .lit (.int .u32 607225278), .lit (.int .u32 1426881987), .lit (.int .u32 1925078388), .lit (.int .u32 2162078206), .lit (.int .u32 2614888103), .lit (.int .u32 3248222580), .lit (.int .u32 3835390401), .lit (.int .u32 4022224774), .lit (.int .u32 264347078), .lit (.int .u32 604807628), .lit (.int .u32 770255983), .lit (.int .u32 1249150122), .lit (.int .u32 1555081692), .lit (.int .u32 1996064986), .lit (.int .u32 2554220882), .lit (.int .u32 2821834349), .lit (.int .u32 2952996808), .lit (.int .u32 3210313671), .lit (.int .u32 3336571891), .lit (.int .u32 3584528711), .lit (.int .u32 113926993), .lit (.int .u32 338241895), .lit (.int .u32 666307205), .lit (.int .u32 773529912), .lit (.int .u32 1294757372), .lit (.int .u32 1396182291), .lit (.int .u32 1695183700), .lit (.int .u32 1986661051), .lit (.int .u32 2177026350), .lit (.int .u32 2456956037), .lit (.int .u32 2730485921), .lit (.int .u32 2820302411), .lit (.int .u32 3259730800), .lit (.int .u32 3345764771), .lit (.int .u32 3516065817), .lit (.int .u32 3600352804), .lit (.int .u32 4094571909), .lit (.int .u32 275423344), .lit (.int .u32 430227734), .lit (.int .u32 506948616), .lit (.int .u32 659060556), .lit (.int .u32 883997877), .lit (.int .u32 958139571), .lit (.int .u32 1322822218), .lit (.int .u32 1537002063), .lit (.int .u32 1747873779), .lit (.int .u32 1955562222), .lit (.int .u32 2024104815), .lit (.int .u32 2227730452), .lit (.int .u32 2361852424), .lit (.int .u32 2428436474), .lit (.int .u32 2756734187), .lit (.int .u32 3204031479), .lit (.int .u32 3329325298)]
/-- One of Go's own tables, pinned by name: the form's constant. -/
def laid_unicode_utf8_first : DataW Unit := Go.Pinned.utf8First
def laid_bailee_api_ErrLong {H : Type} : DataW H := .iface "*errors.errorString" (.ptr (.agg [.lit (.string [116, 104, 101, 114, 101, 32, 105, 115, 32, 109, 111, 114, 101, 32, 116, 104, 97, 110, 32, 109, 97, 121, 32, 98, 101])]))
def laid_bailee_api_ErrShort {H : Type} : DataW H := .iface "*errors.errorString" (.ptr (.agg [.lit (.string [115, 111, 109, 101, 116, 104, 105, 110, 103, 32, 105, 115, 32, 109, 105, 115, 115, 105, 110, 103, 32, 97, 116, 32, 116, 104, 101, 32, 101, 110, 100])]))
def laid_bailee_api_ErrSum {H : Type} : DataW H := .iface "*errors.errorString" (.ptr (.agg [.lit (.string [116, 104, 101, 32, 100, 105, 103, 101, 115, 116, 32, 105, 115, 32, 110, 111, 116, 32, 114, 105, 103, 104, 116])]))
def laid_bailee_api_ErrDup {H : Type} : DataW H := .iface "*errors.errorString" (.ptr (.agg [.lit (.string [105, 116, 32, 105, 115, 32, 116, 104, 101, 114, 101, 32, 97, 108, 114, 101, 97, 100, 121])]))
def laid_bailee_api_ErrNone {H : Type} : DataW H := .iface "*errors.errorString" (.ptr (.agg [.lit (.string [116, 104, 101, 114, 101, 32, 105, 115, 32, 110, 111, 110, 101])]))
def laid_bailee_api_ErrFull {H : Type} : DataW H := .iface "*errors.errorString" (.ptr (.agg [.lit (.string [116, 104, 101, 114, 101, 32, 105, 115, 32, 110, 111, 32, 109, 111, 114, 101, 32, 114, 111, 111, 109])]))
def laid_bailee_api_ErrState {H : Type} : DataW H := .iface "*errors.errorString" (.ptr (.agg [.lit (.string [105, 116, 32, 99, 97, 110, 32, 110, 111, 116, 32, 98, 101, 32, 100, 111, 110, 101, 32, 105, 110, 32, 116, 104, 105, 115, 32, 115, 116, 97, 116, 101])]))
def laid_bailee_api_ErrPower {H : Type} : DataW H := .iface "*errors.errorString" (.ptr (.agg [.lit (.string [116, 104, 101, 32, 112, 111, 119, 101, 114, 32, 105, 115, 32, 103, 111, 110, 101])]))
def laid_bailee_api_ErrSpare {H : Type} : DataW H := .iface "*errors.errorString" (.ptr (.agg [.lit (.string [116, 104, 101, 114, 101, 32, 105, 115, 32, 116, 111, 111, 32, 108, 105, 116, 116, 108, 101, 32, 116, 111, 32, 103, 111, 32, 98, 121])]))
def laid_bailee_api_ErrLost {H : Type} : DataW H := .iface "*errors.errorString" (.ptr (.agg [.lit (.string [105, 116, 32, 99, 97, 110, 32, 110, 111, 116, 32, 98, 101, 32, 114, 101, 115, 116, 111, 114, 101, 100])]))
def laid_bailee_api_ErrLate {H : Type} : DataW H := .iface "*errors.errorString" (.ptr (.agg [.lit (.string [105, 116, 32, 99, 97, 109, 101, 32, 116, 111, 111, 32, 108, 97, 116, 101])]))
def laid_bailee_api_ErrZero {H : Type} : DataW H := .iface "*errors.errorString" (.ptr (.agg [.lit (.string [116, 104, 101, 114, 101, 32, 105, 115, 32, 110, 111, 32, 100, 105, 118, 105, 100, 105, 110, 103, 32, 98, 121, 32, 122, 101, 114, 111])]))

/-- 'baileelaw27.JudgeSound': WHATEVER THE INPUT: true; the input reads as it did. -/
def judgeSoundSpec : ChangeSpec := { name := "judgeSound", fn := fun _ => fun
  | [d1, d2, d3] => { results := [.lit (.bool true)], args := [d1, d2, d3] }
  | _ => none }
def judgeSoundRow : OpenClaim := { program := "ytdloaifdpajcjaagreatdoor", sum := "922e76e614bd424dcb8281b1ff94139f61d82e50f13df3ee9f701ee9c39bd0d8", func := "bailee/baileelaw27.JudgeSound", spec := "judgeSound", inPlace := ["internal/bytealg.IndexByteString", "internal/bytealg.IndexString", "slices.overlaps[[]byte]"], unfollowed := true, recurses := true, named := ["bailee/api.ErrKind", "bailee/api.ErrSize", "bailee/api.ErrBudget", "bailee/api.ErrRange", "bailee/api.ErrKey", "bailee/api.ErrName", "unicode/utf8.first", "unicode/utf8.acceptRanges", "bailee/sha.first", "bailee/sha.added", "bailee/api.ErrForm", "bailee/api.ErrProof", "internal/bytealg.MaxLen"], apart := false, laid := [("unicode/utf8.acceptRanges", laid_unicode_utf8_acceptRanges), ("bailee/api.ErrRange", laid_bailee_api_ErrRange), ("bailee/api.ErrForm", laid_bailee_api_ErrForm), ("bailee/api.ErrName", laid_bailee_api_ErrName), ("bailee/api.ErrKind", laid_bailee_api_ErrKind), ("bailee/api.ErrSize", laid_bailee_api_ErrSize), ("bailee/api.ErrKey", laid_bailee_api_ErrKey), ("bailee/api.ErrProof", laid_bailee_api_ErrProof), ("bailee/api.ErrBudget", laid_bailee_api_ErrBudget), ("bailee/sha.first", laid_bailee_sha_first), ("bailee/sha.added", laid_bailee_sha_added), ("unicode/utf8.first", laid_unicode_utf8_first)] }
def JudgeSoundSaid : Prop := judgeSoundRow.holds Tryz.pinned (OpenSpec.ofChange judgeSoundSpec)

/-- ITS FALSE NEIGHBOUR: 'it returns false'. Refute it at one input. -/
def judgeSoundWrong : ChangeSpec := { name := "judgeSound", fn := fun _ => fun
  | [d1, d2, d3] => { results := [.lit (.bool false)], args := [d1, d2, d3] }
  | _ => none }
def JudgeSoundWrongFalsely : Prop := judgeSoundRow.holds Tryz.pinned (OpenSpec.ofChange judgeSoundWrong)

/-- 'baileelaw27.JudgeHonest': WHATEVER THE INPUT: true; the input reads as it did. -/
def judgeHonestSpec : ChangeSpec := { name := "judgeHonest", fn := fun _ => fun
  | [d1, d2] => { results := [.lit (.bool true)], args := [d1, d2] }
  | _ => none }
def judgeHonestRow : OpenClaim := { program := "ytdloaifdpajcjaagreatdoor", sum := "922e76e614bd424dcb8281b1ff94139f61d82e50f13df3ee9f701ee9c39bd0d8", func := "bailee/baileelaw27.JudgeHonest", spec := "judgeHonest", inPlace := ["internal/bytealg.IndexByteString", "internal/bytealg.IndexString", "slices.overlaps[[]byte]"], unfollowed := true, recurses := true, named := ["bailee/api.ErrKind", "bailee/api.ErrSize", "bailee/api.ErrBudget", "bailee/api.ErrRange", "bailee/api.ErrKey", "bailee/api.ErrName", "unicode/utf8.first", "unicode/utf8.acceptRanges", "bailee/sha.first", "bailee/sha.added", "bailee/api.ErrForm", "bailee/api.ErrProof", "bailee/api.ErrLong", "internal/bytealg.MaxLen"], apart := false, laid := [("unicode/utf8.acceptRanges", laid_unicode_utf8_acceptRanges), ("bailee/api.ErrRange", laid_bailee_api_ErrRange), ("bailee/api.ErrLong", laid_bailee_api_ErrLong), ("bailee/api.ErrForm", laid_bailee_api_ErrForm), ("bailee/api.ErrName", laid_bailee_api_ErrName), ("bailee/api.ErrKind", laid_bailee_api_ErrKind), ("bailee/api.ErrSize", laid_bailee_api_ErrSize), ("bailee/api.ErrKey", laid_bailee_api_ErrKey), ("bailee/api.ErrProof", laid_bailee_api_ErrProof), ("bailee/api.ErrBudget", laid_bailee_api_ErrBudget), ("bailee/sha.first", laid_bailee_sha_first), ("bailee/sha.added", laid_bailee_sha_added), ("unicode/utf8.first", laid_unicode_utf8_first)] }
def JudgeHonestSaid : Prop := judgeHonestRow.holds Tryz.pinned (OpenSpec.ofChange judgeHonestSpec)

/-- ITS FALSE NEIGHBOUR: 'it returns false'. Refute it at one input. -/
def judgeHonestWrong : ChangeSpec := { name := "judgeHonest", fn := fun _ => fun
  | [d1, d2] => { results := [.lit (.bool false)], args := [d1, d2] }
  | _ => none }
def JudgeHonestWrongFalsely : Prop := judgeHonestRow.holds Tryz.pinned (OpenSpec.ofChange judgeHonestWrong)

/-- 'baileelaw40.AheadFits': WHATEVER THE INPUT: true; the input reads as it did. -/
def aheadFitsSpec : ChangeSpec := { name := "aheadFits", fn := fun _ => fun
  | [d1, d2] => { results := [.lit (.bool true)], args := [d1, d2] }
  | _ => none }
def aheadFitsRow : OpenClaim := { program := "ytdloaifdpajcjaagreatdoor", sum := "922e76e614bd424dcb8281b1ff94139f61d82e50f13df3ee9f701ee9c39bd0d8", func := "bailee/baileelaw40.AheadFits", spec := "aheadFits", inPlace := ["internal/abi.NoEscape", "internal/bytealg.MakeNoZero", "internal/bytealg.IndexByteString", "internal/bytealg.IndexString", "internal/reflectlite.TypeOf"], unfollowed := true, recurses := true, named := ["bailee/api.ErrRange", "bailee/api.ErrSize", "bailee/api.ErrBudget", "bailee/api.ErrKind", "bailee/api.ErrName", "bailee/api.ErrForm", "unicode/utf8.first", "unicode/utf8.acceptRanges", "bailee/api.ErrShort", "bailee/api.ErrLong", "bailee/api.ErrSum", "bailee/api.ErrKey", "bailee/api.ErrDup", "bailee/api.ErrNone", "bailee/api.ErrFull", "bailee/api.ErrState", "bailee/api.ErrPower", "bailee/api.ErrProof", "bailee/api.ErrSpare", "bailee/api.ErrLost", "bailee/api.ErrLate", "bailee/api.ErrZero", "bailee/sha.first", "bailee/sha.added", "internal/bytealg.MaxLen"], apart := false, laid := [("unicode/utf8.acceptRanges", laid_unicode_utf8_acceptRanges), ("bailee/api.ErrRange", laid_bailee_api_ErrRange), ("bailee/api.ErrShort", laid_bailee_api_ErrShort), ("bailee/api.ErrLong", laid_bailee_api_ErrLong), ("bailee/api.ErrForm", laid_bailee_api_ErrForm), ("bailee/api.ErrSum", laid_bailee_api_ErrSum), ("bailee/api.ErrName", laid_bailee_api_ErrName), ("bailee/api.ErrKind", laid_bailee_api_ErrKind), ("bailee/api.ErrSize", laid_bailee_api_ErrSize), ("bailee/api.ErrKey", laid_bailee_api_ErrKey), ("bailee/api.ErrDup", laid_bailee_api_ErrDup), ("bailee/api.ErrNone", laid_bailee_api_ErrNone), ("bailee/api.ErrFull", laid_bailee_api_ErrFull), ("bailee/api.ErrState", laid_bailee_api_ErrState), ("bailee/api.ErrPower", laid_bailee_api_ErrPower), ("bailee/api.ErrProof", laid_bailee_api_ErrProof), ("bailee/api.ErrSpare", laid_bailee_api_ErrSpare), ("bailee/api.ErrLost", laid_bailee_api_ErrLost), ("bailee/api.ErrBudget", laid_bailee_api_ErrBudget), ("bailee/api.ErrLate", laid_bailee_api_ErrLate), ("bailee/api.ErrZero", laid_bailee_api_ErrZero), ("bailee/sha.first", laid_bailee_sha_first), ("bailee/sha.added", laid_bailee_sha_added), ("unicode/utf8.first", laid_unicode_utf8_first)] }
def AheadFitsSaid : Prop := aheadFitsRow.holds Tryz.pinned (OpenSpec.ofChange aheadFitsSpec)

/-- ITS FALSE NEIGHBOUR: 'it returns false'. Refute it at one input. -/
def aheadFitsWrong : ChangeSpec := { name := "aheadFits", fn := fun _ => fun
  | [d1, d2] => { results := [.lit (.bool false)], args := [d1, d2] }
  | _ => none }
def AheadFitsWrongFalsely : Prop := aheadFitsRow.holds Tryz.pinned (OpenSpec.ofChange aheadFitsWrong)

/- THE SECOND FORM. 'bulk': how many values and letters a reading holds, each counted each time it is reached (what is shared counts as often as it is met; a slice's spare places count too). A statement '..UptoSaid' is the law's where the arguments, and the package variables that the reading takes, are together of bulk at most 1048576: NARROWER than '..Said'. Prove '..Said' where nothing that the law and all that it calls make is longer than what came in: it says more and counts as full. Else prove '..UptoSaid'. A law counts once. -/
mutual
def uptoBulk {H : Type} : DataW H → Nat
  | .lit (.string bytes) => bytes.length + 1
  | .lit _ => 1
  | .nil => 1
  | .ptr d => uptoBulk d + 1
  | .slice elems spare => uptoBulkAll elems + uptoBulkAll spare + 1
  | .agg parts => uptoBulkAll parts + 1
  | .iface _ d => uptoBulk d + 1
  | .map entries => uptoBulkEntries entries + 1
  | .held _ => 1
def uptoBulkAll {H : Type} : List (DataW H) → Nat
  | [] => 0
  | d :: r => uptoBulk d + uptoBulkAll r
def uptoBulkEntries {H : Type} : List (Lit × DataW H) → Nat
  | [] => 0
  | x :: r => uptoBulkEntry x + uptoBulkEntries r
def uptoBulkEntry {H : Type} : Lit × DataW H → Nat
  | (.string bytes, d) => bytes.length + uptoBulk d + 1
  | (_, d) => uptoBulk d + 1
 end
def uptoSmall : (H : Type) → List (DataW H) → Bool := fun _ ds => decide (uptoBulkAll ds ≤ 1048576)
def OpenSpec.upto (s : _root_.Go.ChangeSpec) : _root_.Go.OpenSpec := { _root_.Go.OpenSpec.ofChange s with cond := some uptoSmall }

/-- 'baileelaw27.JudgeSound', WHERE WHAT IT READS IS OF BULK AT MOST 1048576: true; the input reads as it did. -/
def judgeSoundUptoRow : OpenClaim := { program := "ytdloaifdpajcjaagreatdoor", sum := "922e76e614bd424dcb8281b1ff94139f61d82e50f13df3ee9f701ee9c39bd0d8", func := "bailee/baileelaw27.JudgeSound", spec := "judgeSound", inPlace := ["internal/bytealg.IndexByteString", "internal/bytealg.IndexString", "slices.overlaps[[]byte]"], unfollowed := true, recurses := true, named := ["bailee/api.ErrKind", "bailee/api.ErrSize", "bailee/api.ErrBudget", "bailee/api.ErrRange", "bailee/api.ErrKey", "bailee/api.ErrName", "unicode/utf8.first", "unicode/utf8.acceptRanges", "bailee/sha.first", "bailee/sha.added", "bailee/api.ErrForm", "bailee/api.ErrProof", "internal/bytealg.MaxLen"], apart := false, laid := [("unicode/utf8.acceptRanges", laid_unicode_utf8_acceptRanges), ("bailee/api.ErrRange", laid_bailee_api_ErrRange), ("bailee/api.ErrForm", laid_bailee_api_ErrForm), ("bailee/api.ErrName", laid_bailee_api_ErrName), ("bailee/api.ErrKind", laid_bailee_api_ErrKind), ("bailee/api.ErrSize", laid_bailee_api_ErrSize), ("bailee/api.ErrKey", laid_bailee_api_ErrKey), ("bailee/api.ErrProof", laid_bailee_api_ErrProof), ("bailee/api.ErrBudget", laid_bailee_api_ErrBudget), ("bailee/sha.first", laid_bailee_sha_first), ("bailee/sha.added", laid_bailee_sha_added), ("unicode/utf8.first", laid_unicode_utf8_first)], narrowed := true }
def JudgeSoundUptoSaid : Prop := judgeSoundUptoRow.holds Tryz.pinned (OpenSpec.upto judgeSoundSpec)

/-- 'baileelaw27.JudgeHonest', WHERE WHAT IT READS IS OF BULK AT MOST 1048576: true; the input reads as it did. -/
def judgeHonestUptoRow : OpenClaim := { program := "ytdloaifdpajcjaagreatdoor", sum := "922e76e614bd424dcb8281b1ff94139f61d82e50f13df3ee9f701ee9c39bd0d8", func := "bailee/baileelaw27.JudgeHonest", spec := "judgeHonest", inPlace := ["internal/bytealg.IndexByteString", "internal/bytealg.IndexString", "slices.overlaps[[]byte]"], unfollowed := true, recurses := true, named := ["bailee/api.ErrKind", "bailee/api.ErrSize", "bailee/api.ErrBudget", "bailee/api.ErrRange", "bailee/api.ErrKey", "bailee/api.ErrName", "unicode/utf8.first", "unicode/utf8.acceptRanges", "bailee/sha.first", "bailee/sha.added", "bailee/api.ErrForm", "bailee/api.ErrProof", "bailee/api.ErrLong", "internal/bytealg.MaxLen"], apart := false, laid := [("unicode/utf8.acceptRanges", laid_unicode_utf8_acceptRanges), ("bailee/api.ErrRange", laid_bailee_api_ErrRange), ("bailee/api.ErrLong", laid_bailee_api_ErrLong), ("bailee/api.ErrForm", laid_bailee_api_ErrForm), ("bailee/api.ErrName", laid_bailee_api_ErrName), ("bailee/api.ErrKind", laid_bailee_api_ErrKind), ("bailee/api.ErrSize", laid_bailee_api_ErrSize), ("bailee/api.ErrKey", laid_bailee_api_ErrKey), ("bailee/api.ErrProof", laid_bailee_api_ErrProof), ("bailee/api.ErrBudget", laid_bailee_api_ErrBudget), ("bailee/sha.first", laid_bailee_sha_first), ("bailee/sha.added", laid_bailee_sha_added), ("unicode/utf8.first", laid_unicode_utf8_first)], narrowed := true }
def JudgeHonestUptoSaid : Prop := judgeHonestUptoRow.holds Tryz.pinned (OpenSpec.upto judgeHonestSpec)

/-- 'baileelaw40.AheadFits', WHERE WHAT IT READS IS OF BULK AT MOST 1048576: true; the input reads as it did. -/
def aheadFitsUptoRow : OpenClaim := { program := "ytdloaifdpajcjaagreatdoor", sum := "922e76e614bd424dcb8281b1ff94139f61d82e50f13df3ee9f701ee9c39bd0d8", func := "bailee/baileelaw40.AheadFits", spec := "aheadFits", inPlace := ["internal/abi.NoEscape", "internal/bytealg.MakeNoZero", "internal/bytealg.IndexByteString", "internal/bytealg.IndexString", "internal/reflectlite.TypeOf"], unfollowed := true, recurses := true, named := ["bailee/api.ErrRange", "bailee/api.ErrSize", "bailee/api.ErrBudget", "bailee/api.ErrKind", "bailee/api.ErrName", "bailee/api.ErrForm", "unicode/utf8.first", "unicode/utf8.acceptRanges", "bailee/api.ErrShort", "bailee/api.ErrLong", "bailee/api.ErrSum", "bailee/api.ErrKey", "bailee/api.ErrDup", "bailee/api.ErrNone", "bailee/api.ErrFull", "bailee/api.ErrState", "bailee/api.ErrPower", "bailee/api.ErrProof", "bailee/api.ErrSpare", "bailee/api.ErrLost", "bailee/api.ErrLate", "bailee/api.ErrZero", "bailee/sha.first", "bailee/sha.added", "internal/bytealg.MaxLen"], apart := false, laid := [("unicode/utf8.acceptRanges", laid_unicode_utf8_acceptRanges), ("bailee/api.ErrRange", laid_bailee_api_ErrRange), ("bailee/api.ErrShort", laid_bailee_api_ErrShort), ("bailee/api.ErrLong", laid_bailee_api_ErrLong), ("bailee/api.ErrForm", laid_bailee_api_ErrForm), ("bailee/api.ErrSum", laid_bailee_api_ErrSum), ("bailee/api.ErrName", laid_bailee_api_ErrName), ("bailee/api.ErrKind", laid_bailee_api_ErrKind), ("bailee/api.ErrSize", laid_bailee_api_ErrSize), ("bailee/api.ErrKey", laid_bailee_api_ErrKey), ("bailee/api.ErrDup", laid_bailee_api_ErrDup), ("bailee/api.ErrNone", laid_bailee_api_ErrNone), ("bailee/api.ErrFull", laid_bailee_api_ErrFull), ("bailee/api.ErrState", laid_bailee_api_ErrState), ("bailee/api.ErrPower", laid_bailee_api_ErrPower), ("bailee/api.ErrProof", laid_bailee_api_ErrProof), ("bailee/api.ErrSpare", laid_bailee_api_ErrSpare), ("bailee/api.ErrLost", laid_bailee_api_ErrLost), ("bailee/api.ErrBudget", laid_bailee_api_ErrBudget), ("bailee/api.ErrLate", laid_bailee_api_ErrLate), ("bailee/api.ErrZero", laid_bailee_api_ErrZero), ("bailee/sha.first", laid_bailee_sha_first), ("bailee/sha.added", laid_bailee_sha_added), ("unicode/utf8.first", laid_unicode_utf8_first)], narrowed := true }
def AheadFitsUptoSaid : Prop := aheadFitsUptoRow.holds Tryz.pinned (OpenSpec.upto aheadFitsSpec)

end Rows
end Go.Proofs.YtdloaifdpajcjaaGreatDoor
