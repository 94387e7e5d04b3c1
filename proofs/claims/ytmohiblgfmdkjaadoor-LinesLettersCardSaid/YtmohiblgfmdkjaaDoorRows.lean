/-
  NARROWER THAN 'FOR EVERY INPUT', by the rows' own cells (each row's printed sentence says how): StripeBack: laid · LinesLetters: laid · LinesStates: laid.
  DERIVED. THE GIVEN ROWS OF THIS SEAT. 3 by the template 'for every input the law returns true; each argument reads behind the call as it read before'; 0 by the template 'total and deterministic' (their statements: YtmohiblgfmdkjaaDoorTotals.lean).
  GIVEN WITH THE SEED: the statements are not yours to turn. If you find one false, say at which input.
  Laid BY PROGRAM, IN A SANDBOX (cutbox-rows.mjs): the forced cells as the released guide's own fill.sh prints them over the translation 118a43567ca856a1… (all of the seat's roots in one cut). By AI agents, Wed Nov 11 2026. No macro, syntax, notation, axiom, sorry.
-/
import Derived.Test.YtmohiblgfmdkjaaDoorChecked
import GoSem.PinnedTables
import GoSem.Claim
import GoSem.ClaimJoined
import GoSem.ClaimMapViews
import Derived.JoinedTies
import Derived.KernelRfl
namespace Go.Proofs.YtmohiblgfmdkjaaDoor
/- THE CELL 'sum', in the pinned program and in every row, IS THE sha256 OF THE DUMP (.gsa) THAT YtmohiblgfmdkjaaDoorProg.lean LOADS. Nothing in Lean hashes anything: it is a label: what it is worth is what the hold of that sum in a sandbox is worth. -/
noncomputable def Tryd.pinned : Pinned := { name := "ytmohiblgfmdkjaadoor", sum := "118a43567ca856a1c4c3210418d4d4393976e2d4eab41f21bb275d7258fe1eb1", checked := Tryd.checked }
namespace Rows
def none {H : Type} : Left H := { results := [], args := [] }

/- WHAT THE LISTED PACKAGE-LEVEL VARIABLES READ AS WHEN THE CALL BEGINS. Each datum BY PROGRAM (the guide's laid-datum.mjs) off the statement by which the dump's own 'gosem.cut.vars' lays the variable. In a bare row this is a premise. The card (YtmohiblgfmdkjaaDoorCards.lean) ties it to the program's text. -/
def laid_bailee_api_ErrRange {H : Type} : DataW H := .iface "*errors.errorString" (.ptr (.agg [.lit (.string [97, 32, 110, 117, 109, 98, 101, 114, 32, 105, 115, 32, 111, 117, 116, 32, 111, 102, 32, 105, 116, 115, 32, 114, 97, 110, 103, 101])]))
def laid_bailee_api_ErrForm {H : Type} : DataW H := .iface "*errors.errorString" (.ptr (.agg [.lit (.string [105, 116, 32, 105, 115, 32, 110, 111, 116, 32, 111, 102, 32, 105, 116, 115, 32, 102, 111, 114, 109])]))
def laid_bailee_api_ErrSize {H : Type} : DataW H := .iface "*errors.errorString" (.ptr (.agg [.lit (.string [105, 116, 32, 105, 115, 32, 110, 111, 116, 32, 111, 102, 32, 116, 104, 97, 116, 32, 115, 105, 122, 101])]))
def laid_bailee_api_ErrDup {H : Type} : DataW H := .iface "*errors.errorString" (.ptr (.agg [.lit (.string [105, 116, 32, 105, 115, 32, 116, 104, 101, 114, 101, 32, 97, 108, 114, 101, 97, 100, 121])]))
def laid_bailee_api_ErrSpare {H : Type} : DataW H := .iface "*errors.errorString" (.ptr (.agg [.lit (.string [116, 104, 101, 114, 101, 32, 105, 115, 32, 116, 111, 111, 32, 108, 105, 116, 116, 108, 101, 32, 116, 111, 32, 103, 111, 32, 98, 121])]))
def laid_bailee_api_ErrLost {H : Type} : DataW H := .iface "*errors.errorString" (.ptr (.agg [.lit (.string [105, 116, 32, 99, 97, 110, 32, 110, 111, 116, 32, 98, 101, 32, 114, 101, 115, 116, 111, 114, 101, 100])]))
def laid_bailee_api_ErrZero {H : Type} : DataW H := .iface "*errors.errorString" (.ptr (.agg [.lit (.string [116, 104, 101, 114, 101, 32, 105, 115, 32, 110, 111, 32, 100, 105, 118, 105, 100, 105, 110, 103, 32, 98, 121, 32, 122, 101, 114, 111])]))
def laid_math_bits_deBruijn32tab {H : Type} : DataW H := .agg [.lit (.int .u8 0), .lit (.int .u8 1), .lit (.int .u8 28), .lit (.int .u8 2), .lit (.int .u8 29), .lit (.int .u8 14), .lit (.int .u8 24), .lit (.int .u8 3), .lit (.int .u8 30), .lit (.int .u8 22), .lit (.int .u8 20), .lit (.int .u8 15), .lit (.int .u8 25), .lit (.int .u8 17), .lit (.int .u8 4), .lit (.int .u8 8), .lit (.int .u8 31), .lit (.int .u8 27), .lit (.int .u8 13), .lit (.int .u8 23), .lit (.int .u8 21), .lit (.int .u8 19), .lit (.int .u8 16), .lit (.int .u8 7), .lit (.int .u8 26), .lit (.int .u8 12), .lit (.int .u8 18), .lit (.int .u8 6), .lit (.int .u8 11), .lit (.int .u8 5), .lit (.int .u8 10), .lit (.int .u8 9)]
def laid_math_bits_deBruijn64tab {H : Type} : DataW H := .agg [.lit (.int .u8 0), .lit (.int .u8 1), .lit (.int .u8 56), .lit (.int .u8 2), .lit (.int .u8 57), .lit (.int .u8 49), .lit (.int .u8 28), .lit (.int .u8 3), .lit (.int .u8 61), .lit (.int .u8 58), .lit (.int .u8 42), .lit (.int .u8 50), .lit (.int .u8 38), .lit (.int .u8 29), .lit (.int .u8 17), .lit (.int .u8 4), .lit (.int .u8 62), .lit (.int .u8 47), .lit (.int .u8 59), .lit (.int .u8 36), .lit (.int .u8 45), .lit (.int .u8 43), .lit (.int .u8 51), .lit (.int .u8 22), .lit (.int .u8 53), .lit (.int .u8 39), .lit (.int .u8 33), .lit (.int .u8 30), .lit (.int .u8 24), .lit (.int .u8 18), .lit (.int .u8 12), .lit (.int .u8 5), .lit (.int .u8 63), .lit (.int .u8 55), .lit (.int .u8 48), .lit (.int .u8 27), .lit (.int .u8 60), .lit (.int .u8 41), .lit (.int .u8 37), .lit (.int .u8 16), .lit (.int .u8 46), .lit (.int .u8 35), .lit (.int .u8 44), .lit (.int .u8 21), .lit (.int .u8 52), .lit (.int .u8 32), .lit (.int .u8 23), .lit (.int .u8 11), .lit (.int .u8 54), .lit (.int .u8 26), .lit (.int .u8 40), .lit (.int .u8 15), .lit (.int .u8 34), .lit (.int .u8 20), .lit (.int .u8 31), .lit (.int .u8 10), .lit (.int .u8 25), .lit (.int .u8 14), .lit (.int .u8 19), .lit (.int .u8 9), .lit (.int .u8 13), .lit (.int .u8 8), .lit (.int .u8 7), .lit (.int .u8 6)]
def laid_internal_strconv_uint64pow10 {H : Type} : DataW H := .agg [.lit (.int .u64 1), .lit (.int .u64 10), .lit (.int .u64 100), .lit (.int .u64 1000), .lit (.int .u64 10000), .lit (.int .u64 100000), .lit (.int .u64 1000000), .lit (.int .u64 10000000), .lit (.int .u64 100000000), .lit (.int .u64 1000000000), .lit (.int .u64 10000000000), .lit (.int .u64 100000000000), .lit (.int .u64 1000000000000), .lit (.int .u64 10000000000000), .lit (.int .u64 100000000000000), .lit (.int .u64 1000000000000000), .lit (.int .u64 10000000000000000), .lit (.int .u64 100000000000000000), .lit (.int .u64 1000000000000000000), .lit (.int .u64 10000000000000000000)]
def laid_bailee_letter_words {H : Type} : DataW H := .agg [.lit (.string []), .lit (.string [112, 117, 116]), .lit (.string [97, 99, 107]), .lit (.string [97, 115, 107]), .lit (.string [97, 110, 115, 119, 101, 114]), .lit (.string [102, 101, 116, 99, 104]), .lit (.string [103, 105, 118, 101]), .lit (.string [114, 101, 102, 117, 115, 101])]
def laid_bailee_world_words {H : Type} : DataW H := .agg [.lit (.string []), .lit (.string [112, 117, 116]), .lit (.string [116, 105, 99, 107]), .lit (.string [115, 101, 114, 118, 101]), .lit (.string [114, 101, 112, 108, 121]), .lit (.string [100, 114, 111, 112]), .lit (.string [100, 111, 117, 98, 108, 101]), .lit (.string [98, 101, 110, 100]), .lit (.string [116, 114, 105, 99, 107]), .lit (.string [115, 112, 111, 105, 108]), .lit (.string [99, 114, 97, 115, 104]), .lit (.string [97, 114, 109]), .lit (.string [102, 101, 116, 99, 104]), .lit (.string [105, 110, 106, 101, 99, 116])]
def laid_unicode_utf8_acceptRanges {H : Type} : DataW H := .agg [.agg [.lit (.int .u8 128), .lit (.int .u8 191)], .agg [.lit (.int .u8 160), .lit (.int .u8 191)], .agg [.lit (.int .u8 128), .lit (.int .u8 159)], .agg [.lit (.int .u8 144), .lit (.int .u8 191)], .agg [.lit (.int .u8 128), .lit (.int .u8 143)], .agg [.lit (.int .u8 0), .lit (.int .u8 0)], .agg [.lit (.int .u8 0), .lit (.int .u8 0)], .agg [.lit (.int .u8 0), .lit (.int .u8 0)], .agg [.lit (.int .u8 0), .lit (.int .u8 0)], .agg [.lit (.int .u8 0), .lit (.int .u8 0)], .agg [.lit (.int .u8 0), .lit (.int .u8 0)], .agg [.lit (.int .u8 0), .lit (.int .u8 0)], .agg [.lit (.int .u8 0), .lit (.int .u8 0)], .agg [.lit (.int .u8 0), .lit (.int .u8 0)], .agg [.lit (.int .u8 0), .lit (.int .u8 0)], .agg [.lit (.int .u8 0), .lit (.int .u8 0)]]
/-- One of Go's own tables, pinned by name: the form's constant. -/
def laid_unicode_CaseRanges : DataW Unit := Go.Pinned.caseRanges
/-- One of Go's own tables, pinned by name: the form's constant. -/
def laid_unicode_utf8_first : DataW Unit := Go.Pinned.utf8First

/-- 'baileelaw06.StripeBack': WHATEVER THE INPUT: true; the input reads as it did. -/
def stripeBackSpec : ChangeSpec := { name := "stripeBack", fn := fun _ => fun
  | [d1, d2] => { results := [.lit (.bool true)], args := [d1, d2] }
  | _ => none }
def stripeBackRow : OpenClaim := { program := "ytmohiblgfmdkjaadoor", sum := "118a43567ca856a1c4c3210418d4d4393976e2d4eab41f21bb275d7258fe1eb1", func := "bailee/baileelaw06.StripeBack", spec := "stripeBack", unfollowed := true, recurses := true, named := ["bailee/api.ErrSize", "bailee/api.ErrForm", "bailee/api.ErrLost", "bailee/api.ErrRange", "bailee/api.ErrDup", "bailee/api.ErrSpare", "bailee/api.ErrZero"], apart := false, laid := [("bailee/api.ErrRange", laid_bailee_api_ErrRange), ("bailee/api.ErrForm", laid_bailee_api_ErrForm), ("bailee/api.ErrSize", laid_bailee_api_ErrSize), ("bailee/api.ErrDup", laid_bailee_api_ErrDup), ("bailee/api.ErrSpare", laid_bailee_api_ErrSpare), ("bailee/api.ErrLost", laid_bailee_api_ErrLost), ("bailee/api.ErrZero", laid_bailee_api_ErrZero)] }
def StripeBackSaid : Prop := stripeBackRow.holds Tryd.pinned (OpenSpec.ofChange stripeBackSpec)

/-- ITS FALSE NEIGHBOUR: 'it returns false'. Refute it at one input. -/
def stripeBackWrong : ChangeSpec := { name := "stripeBack", fn := fun _ => fun
  | [d1, d2] => { results := [.lit (.bool false)], args := [d1, d2] }
  | _ => none }
def StripeBackWrongFalsely : Prop := stripeBackRow.holds Tryd.pinned (OpenSpec.ofChange stripeBackWrong)

/-- 'baileelaw35.LinesLetters': WHATEVER THE INPUT: true; the input reads as it did. -/
def linesLettersSpec : ChangeSpec := { name := "linesLetters", fn := fun _ => fun
  | [d1, d2, d3] => { results := [.lit (.bool true)], args := [d1, d2, d3] }
  | _ => none }
def linesLettersRow : OpenClaim := { program := "ytmohiblgfmdkjaadoor", sum := "118a43567ca856a1c4c3210418d4d4393976e2d4eab41f21bb275d7258fe1eb1", func := "bailee/baileelaw35.LinesLetters", spec := "linesLetters", inPlace := ["internal/abi.NoEscape", "internal/bytealg.MakeNoZero"], recurses := true, named := ["internal/strconv.uint64pow10", "math/bits.deBruijn32tab", "math/bits.deBruijn64tab", "bailee/letter.words", "bailee/world.words"], apart := false, laid := [("math/bits.deBruijn32tab", laid_math_bits_deBruijn32tab), ("math/bits.deBruijn64tab", laid_math_bits_deBruijn64tab), ("internal/strconv.uint64pow10", laid_internal_strconv_uint64pow10), ("bailee/letter.words", laid_bailee_letter_words), ("bailee/world.words", laid_bailee_world_words)] }
def LinesLettersSaid : Prop := linesLettersRow.holds Tryd.pinned (OpenSpec.ofChange linesLettersSpec)

/-- ITS FALSE NEIGHBOUR: 'it returns false'. Refute it at one input. -/
def linesLettersWrong : ChangeSpec := { name := "linesLetters", fn := fun _ => fun
  | [d1, d2, d3] => { results := [.lit (.bool false)], args := [d1, d2, d3] }
  | _ => none }
def LinesLettersWrongFalsely : Prop := linesLettersRow.holds Tryd.pinned (OpenSpec.ofChange linesLettersWrong)

/-- 'baileelaw35.LinesStates': WHATEVER THE INPUT: true; the input reads as it did. -/
def linesStatesSpec : ChangeSpec := { name := "linesStates", fn := fun _ => fun
  | [d1, d2] => { results := [.lit (.bool true)], args := [d1, d2] }
  | _ => none }
def linesStatesRow : OpenClaim := { program := "ytmohiblgfmdkjaadoor", sum := "118a43567ca856a1c4c3210418d4d4393976e2d4eab41f21bb275d7258fe1eb1", func := "bailee/baileelaw35.LinesStates", spec := "linesStates", inPlace := ["internal/abi.NoEscape", "internal/bytealg.MakeNoZero"], unfollowed := true, recurses := true, named := ["internal/strconv.uint64pow10", "math/bits.deBruijn32tab", "math/bits.deBruijn64tab", "unicode/utf8.first", "unicode/utf8.acceptRanges", "unicode.CaseRanges"], apart := false, laid := [("math/bits.deBruijn32tab", laid_math_bits_deBruijn32tab), ("math/bits.deBruijn64tab", laid_math_bits_deBruijn64tab), ("internal/strconv.uint64pow10", laid_internal_strconv_uint64pow10), ("unicode/utf8.acceptRanges", laid_unicode_utf8_acceptRanges), ("unicode.CaseRanges", laid_unicode_CaseRanges), ("unicode/utf8.first", laid_unicode_utf8_first)] }
def LinesStatesSaid : Prop := linesStatesRow.holds Tryd.pinned (OpenSpec.ofChange linesStatesSpec)

/-- ITS FALSE NEIGHBOUR: 'it returns false'. Refute it at one input. -/
def linesStatesWrong : ChangeSpec := { name := "linesStates", fn := fun _ => fun
  | [d1, d2] => { results := [.lit (.bool false)], args := [d1, d2] }
  | _ => none }
def LinesStatesWrongFalsely : Prop := linesStatesRow.holds Tryd.pinned (OpenSpec.ofChange linesStatesWrong)

/- THE SECOND FORM. 'bulk': how many values and letters a reading holds, each counted each time it is reached (what is shared counts as often as it is met; a slice's spare places count too). A statement '..UptoSaid' is the law's where the arguments, and the package variables that the reading takes, are together of bulk at most 1048576: NARROWER than '..Said'. Prove '..Said' where nothing that the law and all that it calls make is longer than what came in: it says more and counts as full. Else prove '..UptoSaid'. A law counts once. -/
mutual
def uptoBulk {H : Type} : DataW H → Nat
  | .lit (.string bytes) => bytes.length + 1
  | .lit _ => 1
  | .nil => 1
  | .ptr d => uptoBulk d + 1
  | .slice elems spare => uptoBulkAll elems + uptoBulkAll spare + 1
  | .agg parts => uptoBulkAll parts + 1
  | .iface _ d => uptoBulk d + 1
  | .map entries => uptoBulkEntries entries + 1
  | .held _ => 1
def uptoBulkAll {H : Type} : List (DataW H) → Nat
  | [] => 0
  | d :: r => uptoBulk d + uptoBulkAll r
def uptoBulkEntries {H : Type} : List (Lit × DataW H) → Nat
  | [] => 0
  | x :: r => uptoBulkEntry x + uptoBulkEntries r
def uptoBulkEntry {H : Type} : Lit × DataW H → Nat
  | (.string bytes, d) => bytes.length + uptoBulk d + 1
  | (_, d) => uptoBulk d + 1
 end
def uptoSmall : (H : Type) → List (DataW H) → Bool := fun _ ds => decide (uptoBulkAll ds ≤ 1048576)
def OpenSpec.upto (s : _root_.Go.ChangeSpec) : _root_.Go.OpenSpec := { _root_.Go.OpenSpec.ofChange s with cond := some uptoSmall }

/-- 'baileelaw06.StripeBack', WHERE WHAT IT READS IS OF BULK AT MOST 1048576: true; the input reads as it did. -/
def stripeBackUptoRow : OpenClaim := { program := "ytmohiblgfmdkjaadoor", sum := "118a43567ca856a1c4c3210418d4d4393976e2d4eab41f21bb275d7258fe1eb1", func := "bailee/baileelaw06.StripeBack", spec := "stripeBack", unfollowed := true, recurses := true, named := ["bailee/api.ErrSize", "bailee/api.ErrForm", "bailee/api.ErrLost", "bailee/api.ErrRange", "bailee/api.ErrDup", "bailee/api.ErrSpare", "bailee/api.ErrZero"], apart := false, laid := [("bailee/api.ErrRange", laid_bailee_api_ErrRange), ("bailee/api.ErrForm", laid_bailee_api_ErrForm), ("bailee/api.ErrSize", laid_bailee_api_ErrSize), ("bailee/api.ErrDup", laid_bailee_api_ErrDup), ("bailee/api.ErrSpare", laid_bailee_api_ErrSpare), ("bailee/api.ErrLost", laid_bailee_api_ErrLost), ("bailee/api.ErrZero", laid_bailee_api_ErrZero)], narrowed := true }
def StripeBackUptoSaid : Prop := stripeBackUptoRow.holds Tryd.pinned (OpenSpec.upto stripeBackSpec)

/-- 'baileelaw35.LinesLetters', WHERE WHAT IT READS IS OF BULK AT MOST 1048576: true; the input reads as it did. -/
def linesLettersUptoRow : OpenClaim := { program := "ytmohiblgfmdkjaadoor", sum := "118a43567ca856a1c4c3210418d4d4393976e2d4eab41f21bb275d7258fe1eb1", func := "bailee/baileelaw35.LinesLetters", spec := "linesLetters", inPlace := ["internal/abi.NoEscape", "internal/bytealg.MakeNoZero"], recurses := true, named := ["internal/strconv.uint64pow10", "math/bits.deBruijn32tab", "math/bits.deBruijn64tab", "bailee/letter.words", "bailee/world.words"], apart := false, laid := [("math/bits.deBruijn32tab", laid_math_bits_deBruijn32tab), ("math/bits.deBruijn64tab", laid_math_bits_deBruijn64tab), ("internal/strconv.uint64pow10", laid_internal_strconv_uint64pow10), ("bailee/letter.words", laid_bailee_letter_words), ("bailee/world.words", laid_bailee_world_words)], narrowed := true }
def LinesLettersUptoSaid : Prop := linesLettersUptoRow.holds Tryd.pinned (OpenSpec.upto linesLettersSpec)

/-- 'baileelaw35.LinesStates', WHERE WHAT IT READS IS OF BULK AT MOST 1048576: true; the input reads as it did. -/
def linesStatesUptoRow : OpenClaim := { program := "ytmohiblgfmdkjaadoor", sum := "118a43567ca856a1c4c3210418d4d4393976e2d4eab41f21bb275d7258fe1eb1", func := "bailee/baileelaw35.LinesStates", spec := "linesStates", inPlace := ["internal/abi.NoEscape", "internal/bytealg.MakeNoZero"], unfollowed := true, recurses := true, named := ["internal/strconv.uint64pow10", "math/bits.deBruijn32tab", "math/bits.deBruijn64tab", "unicode/utf8.first", "unicode/utf8.acceptRanges", "unicode.CaseRanges"], apart := false, laid := [("math/bits.deBruijn32tab", laid_math_bits_deBruijn32tab), ("math/bits.deBruijn64tab", laid_math_bits_deBruijn64tab), ("internal/strconv.uint64pow10", laid_internal_strconv_uint64pow10), ("unicode/utf8.acceptRanges", laid_unicode_utf8_acceptRanges), ("unicode.CaseRanges", laid_unicode_CaseRanges), ("unicode/utf8.first", laid_unicode_utf8_first)], narrowed := true }
def LinesStatesUptoSaid : Prop := linesStatesUptoRow.holds Tryd.pinned (OpenSpec.upto linesStatesSpec)

end Rows
end Go.Proofs.YtmohiblgfmdkjaaDoor
