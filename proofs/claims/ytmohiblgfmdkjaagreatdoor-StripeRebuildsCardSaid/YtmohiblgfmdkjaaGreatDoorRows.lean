/-
  NARROWER THAN 'FOR EVERY INPUT', by the rows' own cells (each row's printed sentence says how): RepairFixes: laid · StripeRebuilds: laid.
  DERIVED. THE GIVEN ROWS OF THIS SEAT. 2 by the template 'for every input the law returns true; each argument reads behind the call as it read before'; 0 by the template 'total and deterministic' (their statements: YtmohiblgfmdkjaaGreatDoorTotals.lean).
  GIVEN WITH THE SEED: the statements are not yours to turn. If you find one false, say at which input.
  Laid BY PROGRAM, IN A SANDBOX (cutbox-rows.mjs): the forced cells as the released guide's own fill.sh prints them over the translation 4b288cd898d5aab5… (all of the seat's roots in one cut). By AI agents, Wed Nov 11 2026. No macro, syntax, notation, axiom, sorry.
-/
import Derived.Test.YtmohiblgfmdkjaaGreatDoorChecked
import GoSem.Claim
import GoSem.ClaimJoined
import GoSem.ClaimMapViews
import Derived.JoinedTies
import Derived.KernelRfl
namespace Go.Proofs.YtmohiblgfmdkjaaGreatDoor
/- THE CELL 'sum', in the pinned program and in every row, IS THE sha256 OF THE DUMP (.gsa) THAT YtmohiblgfmdkjaaGreatDoorProg.lean LOADS. Nothing in Lean hashes anything: it is a label: what it is worth is what the hold of that sum in a sandbox is worth. -/
noncomputable def Tryz.pinned : Pinned := { name := "ytmohiblgfmdkjaagreatdoor", sum := "4b288cd898d5aab5b0758693cc5df2951f9e5f62f12b3f46c5c42c6578c21acd", checked := Tryz.checked }
namespace Rows
def none {H : Type} : Left H := { results := [], args := [] }

/- WHAT THE LISTED PACKAGE-LEVEL VARIABLES READ AS WHEN THE CALL BEGINS. Each datum BY PROGRAM (the guide's laid-datum.mjs) off the statement by which the dump's own 'gosem.cut.vars' lays the variable. In a bare row this is a premise. The card (YtmohiblgfmdkjaaGreatDoorCards.lean) ties it to the program's text. -/
def laid_bailee_api_ErrRange {H : Type} : DataW H := .iface "*errors.errorString" (.ptr (.agg [.lit (.string [97, 32, 110, 117, 109, 98, 101, 114, 32, 105, 115, 32, 111, 117, 116, 32, 111, 102, 32, 105, 116, 115, 32, 114, 97, 110, 103, 101])]))
def laid_bailee_api_ErrShort {H : Type} : DataW H := .iface "*errors.errorString" (.ptr (.agg [.lit (.string [115, 111, 109, 101, 116, 104, 105, 110, 103, 32, 105, 115, 32, 109, 105, 115, 115, 105, 110, 103, 32, 97, 116, 32, 116, 104, 101, 32, 101, 110, 100])]))
def laid_bailee_api_ErrLong {H : Type} : DataW H := .iface "*errors.errorString" (.ptr (.agg [.lit (.string [116, 104, 101, 114, 101, 32, 105, 115, 32, 109, 111, 114, 101, 32, 116, 104, 97, 110, 32, 109, 97, 121, 32, 98, 101])]))
def laid_bailee_api_ErrForm {H : Type} : DataW H := .iface "*errors.errorString" (.ptr (.agg [.lit (.string [105, 116, 32, 105, 115, 32, 110, 111, 116, 32, 111, 102, 32, 105, 116, 115, 32, 102, 111, 114, 109])]))
def laid_bailee_api_ErrSum {H : Type} : DataW H := .iface "*errors.errorString" (.ptr (.agg [.lit (.string [116, 104, 101, 32, 100, 105, 103, 101, 115, 116, 32, 105, 115, 32, 110, 111, 116, 32, 114, 105, 103, 104, 116])]))
def laid_bailee_api_ErrName {H : Type} : DataW H := .iface "*errors.errorString" (.ptr (.agg [.lit (.string [105, 116, 32, 105, 115, 32, 110, 111, 32, 114, 105, 103, 104, 116, 32, 110, 97, 109, 101])]))
def laid_bailee_api_ErrKind {H : Type} : DataW H := .iface "*errors.errorString" (.ptr (.agg [.lit (.string [105, 116, 32, 105, 115, 32, 111, 102, 32, 97, 110, 111, 116, 104, 101, 114, 32, 107, 105, 110, 100])]))
def laid_bailee_api_ErrSize {H : Type} : DataW H := .iface "*errors.errorString" (.ptr (.agg [.lit (.string [105, 116, 32, 105, 115, 32, 110, 111, 116, 32, 111, 102, 32, 116, 104, 97, 116, 32, 115, 105, 122, 101])]))
def laid_bailee_api_ErrKey {H : Type} : DataW H := .iface "*errors.errorString" (.ptr (.agg [.lit (.string [116, 104, 101, 32, 107, 101, 121, 32, 105, 115, 32, 110, 111, 116, 32, 114, 105, 103, 104, 116])]))
def laid_bailee_api_ErrDup {H : Type} : DataW H := .iface "*errors.errorString" (.ptr (.agg [.lit (.string [105, 116, 32, 105, 115, 32, 116, 104, 101, 114, 101, 32, 97, 108, 114, 101, 97, 100, 121])]))
def laid_bailee_api_ErrNone {H : Type} : DataW H := .iface "*errors.errorString" (.ptr (.agg [.lit (.string [116, 104, 101, 114, 101, 32, 105, 115, 32, 110, 111, 110, 101])]))
def laid_bailee_api_ErrFull {H : Type} : DataW H := .iface "*errors.errorString" (.ptr (.agg [.lit (.string [116, 104, 101, 114, 101, 32, 105, 115, 32, 110, 111, 32, 109, 111, 114, 101, 32, 114, 111, 111, 109])]))
def laid_bailee_api_ErrState {H : Type} : DataW H := .iface "*errors.errorString" (.ptr (.agg [.lit (.string [105, 116, 32, 99, 97, 110, 32, 110, 111, 116, 32, 98, 101, 32, 100, 111, 110, 101, 32, 105, 110, 32, 116, 104, 105, 115, 32, 115, 116, 97, 116, 101])]))
def laid_bailee_api_ErrPower {H : Type} : DataW H := .iface "*errors.errorString" (.ptr (.agg [.lit (.string [116, 104, 101, 32, 112, 111, 119, 101, 114, 32, 105, 115, 32, 103, 111, 110, 101])]))
def laid_bailee_api_ErrProof {H : Type} : DataW H := .iface "*errors.errorString" (.ptr (.agg [.lit (.string [116, 104, 101, 32, 112, 114, 111, 111, 102, 32, 100, 111, 101, 115, 32, 110, 111, 116, 32, 104, 111, 108, 100])]))
def laid_bailee_api_ErrSpare {H : Type} : DataW H := .iface "*errors.errorString" (.ptr (.agg [.lit (.string [116, 104, 101, 114, 101, 32, 105, 115, 32, 116, 111, 111, 32, 108, 105, 116, 116, 108, 101, 32, 116, 111, 32, 103, 111, 32, 98, 121])]))
def laid_bailee_api_ErrLost {H : Type} : DataW H := .iface "*errors.errorString" (.ptr (.agg [.lit (.string [105, 116, 32, 99, 97, 110, 32, 110, 111, 116, 32, 98, 101, 32, 114, 101, 115, 116, 111, 114, 101, 100])]))
def laid_bailee_api_ErrBudget {H : Type} : DataW H := .iface "*errors.errorString" (.ptr (.agg [.lit (.string [110, 111, 116, 104, 105, 110, 103, 32, 111, 102, 32, 116, 104, 101, 32, 107, 105, 110, 100, 32, 105, 115, 32, 108, 101, 102, 116])]))
def laid_bailee_api_ErrLate {H : Type} : DataW H := .iface "*errors.errorString" (.ptr (.agg [.lit (.string [105, 116, 32, 99, 97, 109, 101, 32, 116, 111, 111, 32, 108, 97, 116, 101])]))
def laid_bailee_api_ErrZero {H : Type} : DataW H := .iface "*errors.errorString" (.ptr (.agg [.lit (.string [116, 104, 101, 114, 101, 32, 105, 115, 32, 110, 111, 32, 100, 105, 118, 105, 100, 105, 110, 103, 32, 98, 121, 32, 122, 101, 114, 111])]))

/-- 'baileelaw05.RepairFixes': WHATEVER THE INPUT: true; the input reads as it did. -/
def repairFixesSpec : ChangeSpec := { name := "repairFixes", fn := fun _ => fun
  | [d1, d2] => { results := [.lit (.bool true)], args := [d1, d2] }
  | _ => none }
def repairFixesRow : OpenClaim := { program := "ytmohiblgfmdkjaagreatdoor", sum := "4b288cd898d5aab5b0758693cc5df2951f9e5f62f12b3f46c5c42c6578c21acd", func := "bailee/baileelaw05.RepairFixes", spec := "repairFixes", inPlace := ["internal/reflectlite.TypeOf"], unfollowed := true, recurses := true, named := ["bailee/api.ErrSize", "bailee/api.ErrLost", "bailee/api.ErrRange", "bailee/api.ErrDup", "bailee/api.ErrSpare", "bailee/api.ErrZero", "bailee/api.ErrShort", "bailee/api.ErrLong", "bailee/api.ErrForm", "bailee/api.ErrSum", "bailee/api.ErrName", "bailee/api.ErrKind", "bailee/api.ErrKey", "bailee/api.ErrNone", "bailee/api.ErrFull", "bailee/api.ErrState", "bailee/api.ErrPower", "bailee/api.ErrProof", "bailee/api.ErrBudget", "bailee/api.ErrLate"], apart := false, laid := [("bailee/api.ErrRange", laid_bailee_api_ErrRange), ("bailee/api.ErrShort", laid_bailee_api_ErrShort), ("bailee/api.ErrLong", laid_bailee_api_ErrLong), ("bailee/api.ErrForm", laid_bailee_api_ErrForm), ("bailee/api.ErrSum", laid_bailee_api_ErrSum), ("bailee/api.ErrName", laid_bailee_api_ErrName), ("bailee/api.ErrKind", laid_bailee_api_ErrKind), ("bailee/api.ErrSize", laid_bailee_api_ErrSize), ("bailee/api.ErrKey", laid_bailee_api_ErrKey), ("bailee/api.ErrDup", laid_bailee_api_ErrDup), ("bailee/api.ErrNone", laid_bailee_api_ErrNone), ("bailee/api.ErrFull", laid_bailee_api_ErrFull), ("bailee/api.ErrState", laid_bailee_api_ErrState), ("bailee/api.ErrPower", laid_bailee_api_ErrPower), ("bailee/api.ErrProof", laid_bailee_api_ErrProof), ("bailee/api.ErrSpare", laid_bailee_api_ErrSpare), ("bailee/api.ErrLost", laid_bailee_api_ErrLost), ("bailee/api.ErrBudget", laid_bailee_api_ErrBudget), ("bailee/api.ErrLate", laid_bailee_api_ErrLate), ("bailee/api.ErrZero", laid_bailee_api_ErrZero)] }
def RepairFixesSaid : Prop := repairFixesRow.holds Tryz.pinned (OpenSpec.ofChange repairFixesSpec)

/-- ITS FALSE NEIGHBOUR: 'it returns false'. Refute it at one input. -/
def repairFixesWrong : ChangeSpec := { name := "repairFixes", fn := fun _ => fun
  | [d1, d2] => { results := [.lit (.bool false)], args := [d1, d2] }
  | _ => none }
def RepairFixesWrongFalsely : Prop := repairFixesRow.holds Tryz.pinned (OpenSpec.ofChange repairFixesWrong)

/-- 'baileelaw06.StripeRebuilds': WHATEVER THE INPUT: true; the input reads as it did. -/
def stripeRebuildsSpec : ChangeSpec := { name := "stripeRebuilds", fn := fun _ => fun
  | [d1, d2, d3] => { results := [.lit (.bool true)], args := [d1, d2, d3] }
  | _ => none }
def stripeRebuildsRow : OpenClaim := { program := "ytmohiblgfmdkjaagreatdoor", sum := "4b288cd898d5aab5b0758693cc5df2951f9e5f62f12b3f46c5c42c6578c21acd", func := "bailee/baileelaw06.StripeRebuilds", spec := "stripeRebuilds", inPlace := ["internal/reflectlite.TypeOf"], unfollowed := true, recurses := true, named := ["bailee/api.ErrSize", "bailee/api.ErrForm", "bailee/api.ErrLost", "bailee/api.ErrRange", "bailee/api.ErrDup", "bailee/api.ErrSpare", "bailee/api.ErrZero", "bailee/api.ErrShort", "bailee/api.ErrLong", "bailee/api.ErrSum", "bailee/api.ErrName", "bailee/api.ErrKind", "bailee/api.ErrKey", "bailee/api.ErrNone", "bailee/api.ErrFull", "bailee/api.ErrState", "bailee/api.ErrPower", "bailee/api.ErrProof", "bailee/api.ErrBudget", "bailee/api.ErrLate"], apart := false, laid := [("bailee/api.ErrRange", laid_bailee_api_ErrRange), ("bailee/api.ErrShort", laid_bailee_api_ErrShort), ("bailee/api.ErrLong", laid_bailee_api_ErrLong), ("bailee/api.ErrForm", laid_bailee_api_ErrForm), ("bailee/api.ErrSum", laid_bailee_api_ErrSum), ("bailee/api.ErrName", laid_bailee_api_ErrName), ("bailee/api.ErrKind", laid_bailee_api_ErrKind), ("bailee/api.ErrSize", laid_bailee_api_ErrSize), ("bailee/api.ErrKey", laid_bailee_api_ErrKey), ("bailee/api.ErrDup", laid_bailee_api_ErrDup), ("bailee/api.ErrNone", laid_bailee_api_ErrNone), ("bailee/api.ErrFull", laid_bailee_api_ErrFull), ("bailee/api.ErrState", laid_bailee_api_ErrState), ("bailee/api.ErrPower", laid_bailee_api_ErrPower), ("bailee/api.ErrProof", laid_bailee_api_ErrProof), ("bailee/api.ErrSpare", laid_bailee_api_ErrSpare), ("bailee/api.ErrLost", laid_bailee_api_ErrLost), ("bailee/api.ErrBudget", laid_bailee_api_ErrBudget), ("bailee/api.ErrLate", laid_bailee_api_ErrLate), ("bailee/api.ErrZero", laid_bailee_api_ErrZero)] }
def StripeRebuildsSaid : Prop := stripeRebuildsRow.holds Tryz.pinned (OpenSpec.ofChange stripeRebuildsSpec)

/-- ITS FALSE NEIGHBOUR: 'it returns false'. Refute it at one input. -/
def stripeRebuildsWrong : ChangeSpec := { name := "stripeRebuilds", fn := fun _ => fun
  | [d1, d2, d3] => { results := [.lit (.bool false)], args := [d1, d2, d3] }
  | _ => none }
def StripeRebuildsWrongFalsely : Prop := stripeRebuildsRow.holds Tryz.pinned (OpenSpec.ofChange stripeRebuildsWrong)

/- THE SECOND FORM. 'bulk': how many values and letters a reading holds, each counted each time it is reached (what is shared counts as often as it is met; a slice's spare places count too). A statement '..UptoSaid' is the law's where the arguments, and the package variables that the reading takes, are together of bulk at most 1048576: NARROWER than '..Said'. Prove '..Said' where nothing that the law and all that it calls make is longer than what came in: it says more and counts as full. Else prove '..UptoSaid'. A law counts once. -/
mutual
def uptoBulk {H : Type} : DataW H → Nat
  | .lit (.string bytes) => bytes.length + 1
  | .lit _ => 1
  | .nil => 1
  | .ptr d => uptoBulk d + 1
  | .slice elems spare => uptoBulkAll elems + uptoBulkAll spare + 1
  | .agg parts => uptoBulkAll parts + 1
  | .iface _ d => uptoBulk d + 1
  | .map entries => uptoBulkEntries entries + 1
  | .held _ => 1
def uptoBulkAll {H : Type} : List (DataW H) → Nat
  | [] => 0
  | d :: r => uptoBulk d + uptoBulkAll r
def uptoBulkEntries {H : Type} : List (Lit × DataW H) → Nat
  | [] => 0
  | x :: r => uptoBulkEntry x + uptoBulkEntries r
def uptoBulkEntry {H : Type} : Lit × DataW H → Nat
  | (.string bytes, d) => bytes.length + uptoBulk d + 1
  | (_, d) => uptoBulk d + 1
 end
def uptoSmall : (H : Type) → List (DataW H) → Bool := fun _ ds => decide (uptoBulkAll ds ≤ 1048576)
def OpenSpec.upto (s : _root_.Go.ChangeSpec) : _root_.Go.OpenSpec := { _root_.Go.OpenSpec.ofChange s with cond := some uptoSmall }

/-- 'baileelaw05.RepairFixes', WHERE WHAT IT READS IS OF BULK AT MOST 1048576: true; the input reads as it did. -/
def repairFixesUptoRow : OpenClaim := { program := "ytmohiblgfmdkjaagreatdoor", sum := "4b288cd898d5aab5b0758693cc5df2951f9e5f62f12b3f46c5c42c6578c21acd", func := "bailee/baileelaw05.RepairFixes", spec := "repairFixes", inPlace := ["internal/reflectlite.TypeOf"], unfollowed := true, recurses := true, named := ["bailee/api.ErrSize", "bailee/api.ErrLost", "bailee/api.ErrRange", "bailee/api.ErrDup", "bailee/api.ErrSpare", "bailee/api.ErrZero", "bailee/api.ErrShort", "bailee/api.ErrLong", "bailee/api.ErrForm", "bailee/api.ErrSum", "bailee/api.ErrName", "bailee/api.ErrKind", "bailee/api.ErrKey", "bailee/api.ErrNone", "bailee/api.ErrFull", "bailee/api.ErrState", "bailee/api.ErrPower", "bailee/api.ErrProof", "bailee/api.ErrBudget", "bailee/api.ErrLate"], apart := false, laid := [("bailee/api.ErrRange", laid_bailee_api_ErrRange), ("bailee/api.ErrShort", laid_bailee_api_ErrShort), ("bailee/api.ErrLong", laid_bailee_api_ErrLong), ("bailee/api.ErrForm", laid_bailee_api_ErrForm), ("bailee/api.ErrSum", laid_bailee_api_ErrSum), ("bailee/api.ErrName", laid_bailee_api_ErrName), ("bailee/api.ErrKind", laid_bailee_api_ErrKind), ("bailee/api.ErrSize", laid_bailee_api_ErrSize), ("bailee/api.ErrKey", laid_bailee_api_ErrKey), ("bailee/api.ErrDup", laid_bailee_api_ErrDup), ("bailee/api.ErrNone", laid_bailee_api_ErrNone), ("bailee/api.ErrFull", laid_bailee_api_ErrFull), ("bailee/api.ErrState", laid_bailee_api_ErrState), ("bailee/api.ErrPower", laid_bailee_api_ErrPower), ("bailee/api.ErrProof", laid_bailee_api_ErrProof), ("bailee/api.ErrSpare", laid_bailee_api_ErrSpare), ("bailee/api.ErrLost", laid_bailee_api_ErrLost), ("bailee/api.ErrBudget", laid_bailee_api_ErrBudget), ("bailee/api.ErrLate", laid_bailee_api_ErrLate), ("bailee/api.ErrZero", laid_bailee_api_ErrZero)], narrowed := true }
def RepairFixesUptoSaid : Prop := repairFixesUptoRow.holds Tryz.pinned (OpenSpec.upto repairFixesSpec)

/-- 'baileelaw06.StripeRebuilds', WHERE WHAT IT READS IS OF BULK AT MOST 1048576: true; the input reads as it did. -/
def stripeRebuildsUptoRow : OpenClaim := { program := "ytmohiblgfmdkjaagreatdoor", sum := "4b288cd898d5aab5b0758693cc5df2951f9e5f62f12b3f46c5c42c6578c21acd", func := "bailee/baileelaw06.StripeRebuilds", spec := "stripeRebuilds", inPlace := ["internal/reflectlite.TypeOf"], unfollowed := true, recurses := true, named := ["bailee/api.ErrSize", "bailee/api.ErrForm", "bailee/api.ErrLost", "bailee/api.ErrRange", "bailee/api.ErrDup", "bailee/api.ErrSpare", "bailee/api.ErrZero", "bailee/api.ErrShort", "bailee/api.ErrLong", "bailee/api.ErrSum", "bailee/api.ErrName", "bailee/api.ErrKind", "bailee/api.ErrKey", "bailee/api.ErrNone", "bailee/api.ErrFull", "bailee/api.ErrState", "bailee/api.ErrPower", "bailee/api.ErrProof", "bailee/api.ErrBudget", "bailee/api.ErrLate"], apart := false, laid := [("bailee/api.ErrRange", laid_bailee_api_ErrRange), ("bailee/api.ErrShort", laid_bailee_api_ErrShort), ("bailee/api.ErrLong", laid_bailee_api_ErrLong), ("bailee/api.ErrForm", laid_bailee_api_ErrForm), ("bailee/api.ErrSum", laid_bailee_api_ErrSum), ("bailee/api.ErrName", laid_bailee_api_ErrName), ("bailee/api.ErrKind", laid_bailee_api_ErrKind), ("bailee/api.ErrSize", laid_bailee_api_ErrSize), ("bailee/api.ErrKey", laid_bailee_api_ErrKey), ("bailee/api.ErrDup", laid_bailee_api_ErrDup), ("bailee/api.ErrNone", laid_bailee_api_ErrNone), ("bailee/api.ErrFull", laid_bailee_api_ErrFull), ("bailee/api.ErrState", laid_bailee_api_ErrState), ("bailee/api.ErrPower", laid_bailee_api_ErrPower), ("bailee/api.ErrProof", laid_bailee_api_ErrProof), ("bailee/api.ErrSpare", laid_bailee_api_ErrSpare), ("bailee/api.ErrLost", laid_bailee_api_ErrLost), ("bailee/api.ErrBudget", laid_bailee_api_ErrBudget), ("bailee/api.ErrLate", laid_bailee_api_ErrLate), ("bailee/api.ErrZero", laid_bailee_api_ErrZero)], narrowed := true }
def StripeRebuildsUptoSaid : Prop := stripeRebuildsUptoRow.holds Tryz.pinned (OpenSpec.upto stripeRebuildsSpec)

end Rows
end Go.Proofs.YtmohiblgfmdkjaaGreatDoor
