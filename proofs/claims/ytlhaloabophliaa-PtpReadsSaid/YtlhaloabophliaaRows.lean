/-
  No cell of these rows narrows 'for every input' (looked for: loops, veiled, ifaces, maps, wideKeys, modest, calm, conditions, laid).
  DERIVED. THE GIVEN ROWS OF THIS SEAT. 5 by the template 'for every input the law returns true; each argument reads behind the call as it read before'; 0 by the template 'total and deterministic' (their statements: YtlhaloabophliaaTotals.lean).
  GIVEN WITH THE SEED: the statements are not yours to turn. If you find one false, say at which input.
  Laid BY PROGRAM, IN A SANDBOX (cutbox-rows.mjs): the forced cells as the released guide's own fill.sh prints them over the translation 4a44a97f402dee44… (all of the seat's roots in one cut). By AI agents, Wed Nov 11 2026. No macro, syntax, notation, axiom, sorry.
-/
import Derived.Test.YtlhaloabophliaaChecked
import GoSem.Claim
import GoSem.ClaimJoined
import GoSem.ClaimMapViews
import Derived.JoinedTies
import Derived.KernelRfl
namespace Go.Proofs.Ytlhaloabophliaa
/- THE CELL 'sum', in the pinned program and in every row, IS THE sha256 OF THE DUMP (.gsa) THAT YtlhaloabophliaaProg.lean LOADS. Nothing in Lean hashes anything: it is a label: what it is worth is what the hold of that sum in a sandbox is worth. -/
noncomputable def Try.pinned : Pinned := { name := "ytlhaloabophliaa", sum := "4a44a97f402dee4442d609113cefecc8af0e5cccbf924e4a8e8a9fc4e65c4924", checked := Try.checked }
namespace Rows
def none {H : Type} : Left H := { results := [], args := [] }

/-- 'sandglasslaw06.PtpKinds': WHATEVER THE INPUT: true; the input reads as it did. -/
def ptpKindsSpec : ChangeSpec := { name := "ptpKinds", fn := fun _ => fun
  | [d1, d2] => { results := [.lit (.bool true)], args := [d1, d2] }
  | _ => none }
def ptpKindsRow : OpenClaim := { program := "ytlhaloabophliaa", sum := "4a44a97f402dee4442d609113cefecc8af0e5cccbf924e4a8e8a9fc4e65c4924", func := "sandglass/sandglasslaw06.PtpKinds", spec := "ptpKinds", apart := false }
def PtpKindsSaid : Prop := ptpKindsRow.holds Try.pinned (OpenSpec.ofChange ptpKindsSpec)

/-- ITS FALSE NEIGHBOUR: 'it returns false'. Refute it at one input. -/
def ptpKindsWrong : ChangeSpec := { name := "ptpKinds", fn := fun _ => fun
  | [d1, d2] => { results := [.lit (.bool false)], args := [d1, d2] }
  | _ => none }
def PtpKindsWrongFalsely : Prop := ptpKindsRow.holds Try.pinned (OpenSpec.ofChange ptpKindsWrong)

/-- 'sandglasslaw06.PtpUnlike': WHATEVER THE INPUT: true; the input reads as it did. -/
def ptpUnlikeSpec : ChangeSpec := { name := "ptpUnlike", fn := fun _ => fun
  | [d1, d2] => { results := [.lit (.bool true)], args := [d1, d2] }
  | _ => none }
def ptpUnlikeRow : OpenClaim := { program := "ytlhaloabophliaa", sum := "4a44a97f402dee4442d609113cefecc8af0e5cccbf924e4a8e8a9fc4e65c4924", func := "sandglass/sandglasslaw06.PtpUnlike", spec := "ptpUnlike", apart := false }
def PtpUnlikeSaid : Prop := ptpUnlikeRow.holds Try.pinned (OpenSpec.ofChange ptpUnlikeSpec)

/-- ITS FALSE NEIGHBOUR: 'it returns false'. Refute it at one input. -/
def ptpUnlikeWrong : ChangeSpec := { name := "ptpUnlike", fn := fun _ => fun
  | [d1, d2] => { results := [.lit (.bool false)], args := [d1, d2] }
  | _ => none }
def PtpUnlikeWrongFalsely : Prop := ptpUnlikeRow.holds Try.pinned (OpenSpec.ofChange ptpUnlikeWrong)

/-- 'sandglasslaw06.PtpWrites': WHATEVER THE INPUT: true; the input reads as it did. -/
def ptpWritesSpec : ChangeSpec := { name := "ptpWrites", fn := fun _ => fun
  | [d] => { results := [.lit (.bool true)], args := [d] }
  | _ => none }
def ptpWritesRow : OpenClaim := { program := "ytlhaloabophliaa", sum := "4a44a97f402dee4442d609113cefecc8af0e5cccbf924e4a8e8a9fc4e65c4924", func := "sandglass/sandglasslaw06.PtpWrites", spec := "ptpWrites", unfollowed := true, recurses := true, apart := false }
def PtpWritesSaid : Prop := ptpWritesRow.holds Try.pinned (OpenSpec.ofChange ptpWritesSpec)

/-- ITS FALSE NEIGHBOUR: 'it returns false'. Refute it at one input. -/
def ptpWritesWrong : ChangeSpec := { name := "ptpWrites", fn := fun _ => fun
  | [d] => { results := [.lit (.bool false)], args := [d] }
  | _ => none }
def PtpWritesWrongFalsely : Prop := ptpWritesRow.holds Try.pinned (OpenSpec.ofChange ptpWritesWrong)

/-- 'sandglasslaw06.PtpReads': WHATEVER THE INPUT: true; the input reads as it did. -/
def ptpReadsSpec : ChangeSpec := { name := "ptpReads", fn := fun _ => fun
  | [d] => { results := [.lit (.bool true)], args := [d] }
  | _ => none }
def ptpReadsRow : OpenClaim := { program := "ytlhaloabophliaa", sum := "4a44a97f402dee4442d609113cefecc8af0e5cccbf924e4a8e8a9fc4e65c4924", func := "sandglass/sandglasslaw06.PtpReads", spec := "ptpReads", unfollowed := true, recurses := true, apart := false }
def PtpReadsSaid : Prop := ptpReadsRow.holds Try.pinned (OpenSpec.ofChange ptpReadsSpec)

/-- ITS FALSE NEIGHBOUR: 'it returns false'. Refute it at one input. -/
def ptpReadsWrong : ChangeSpec := { name := "ptpReads", fn := fun _ => fun
  | [d] => { results := [.lit (.bool false)], args := [d] }
  | _ => none }
def PtpReadsWrongFalsely : Prop := ptpReadsRow.holds Try.pinned (OpenSpec.ofChange ptpReadsWrong)

/-- 'sandglasslaw06.PtpForm': WHATEVER THE INPUT: true; the input reads as it did. -/
def ptpFormSpec : ChangeSpec := { name := "ptpForm", fn := fun _ => fun
  | [d1, d2, d3] => { results := [.lit (.bool true)], args := [d1, d2, d3] }
  | _ => none }
def ptpFormRow : OpenClaim := { program := "ytlhaloabophliaa", sum := "4a44a97f402dee4442d609113cefecc8af0e5cccbf924e4a8e8a9fc4e65c4924", func := "sandglass/sandglasslaw06.PtpForm", spec := "ptpForm", unfollowed := true, recurses := true, apart := false }
def PtpFormSaid : Prop := ptpFormRow.holds Try.pinned (OpenSpec.ofChange ptpFormSpec)

/-- ITS FALSE NEIGHBOUR: 'it returns false'. Refute it at one input. -/
def ptpFormWrong : ChangeSpec := { name := "ptpForm", fn := fun _ => fun
  | [d1, d2, d3] => { results := [.lit (.bool false)], args := [d1, d2, d3] }
  | _ => none }
def PtpFormWrongFalsely : Prop := ptpFormRow.holds Try.pinned (OpenSpec.ofChange ptpFormWrong)

/- THE SECOND FORM. 'bulk': how many values and letters a reading holds, each counted each time it is reached (what is shared counts as often as it is met; a slice's spare places count too). A statement '..UptoSaid' is the law's where the arguments, and the package variables that the reading takes, are together of bulk at most 1048576: NARROWER than '..Said'. Prove '..Said' where nothing that the law and all that it calls make is longer than what came in: it says more and counts as full. Else prove '..UptoSaid'. A law counts once. -/
mutual
def uptoBulk {H : Type} : DataW H → Nat
  | .lit (.string bytes) => bytes.length + 1
  | .lit _ => 1
  | .nil => 1
  | .ptr d => uptoBulk d + 1
  | .slice elems spare => uptoBulkAll elems + uptoBulkAll spare + 1
  | .agg parts => uptoBulkAll parts + 1
  | .iface _ d => uptoBulk d + 1
  | .map entries => uptoBulkEntries entries + 1
  | .held _ => 1
def uptoBulkAll {H : Type} : List (DataW H) → Nat
  | [] => 0
  | d :: r => uptoBulk d + uptoBulkAll r
def uptoBulkEntries {H : Type} : List (Lit × DataW H) → Nat
  | [] => 0
  | x :: r => uptoBulkEntry x + uptoBulkEntries r
def uptoBulkEntry {H : Type} : Lit × DataW H → Nat
  | (.string bytes, d) => bytes.length + uptoBulk d + 1
  | (_, d) => uptoBulk d + 1
 end
def uptoSmall : (H : Type) → List (DataW H) → Bool := fun _ ds => decide (uptoBulkAll ds ≤ 1048576)
def OpenSpec.upto (s : _root_.Go.ChangeSpec) : _root_.Go.OpenSpec := { _root_.Go.OpenSpec.ofChange s with cond := some uptoSmall }

/-- 'sandglasslaw06.PtpKinds', WHERE WHAT IT READS IS OF BULK AT MOST 1048576: true; the input reads as it did. -/
def ptpKindsUptoRow : OpenClaim := { program := "ytlhaloabophliaa", sum := "4a44a97f402dee4442d609113cefecc8af0e5cccbf924e4a8e8a9fc4e65c4924", func := "sandglass/sandglasslaw06.PtpKinds", spec := "ptpKinds", apart := false, narrowed := true }
def PtpKindsUptoSaid : Prop := ptpKindsUptoRow.holds Try.pinned (OpenSpec.upto ptpKindsSpec)

/-- 'sandglasslaw06.PtpUnlike', WHERE WHAT IT READS IS OF BULK AT MOST 1048576: true; the input reads as it did. -/
def ptpUnlikeUptoRow : OpenClaim := { program := "ytlhaloabophliaa", sum := "4a44a97f402dee4442d609113cefecc8af0e5cccbf924e4a8e8a9fc4e65c4924", func := "sandglass/sandglasslaw06.PtpUnlike", spec := "ptpUnlike", apart := false, narrowed := true }
def PtpUnlikeUptoSaid : Prop := ptpUnlikeUptoRow.holds Try.pinned (OpenSpec.upto ptpUnlikeSpec)

/-- 'sandglasslaw06.PtpWrites', WHERE WHAT IT READS IS OF BULK AT MOST 1048576: true; the input reads as it did. -/
def ptpWritesUptoRow : OpenClaim := { program := "ytlhaloabophliaa", sum := "4a44a97f402dee4442d609113cefecc8af0e5cccbf924e4a8e8a9fc4e65c4924", func := "sandglass/sandglasslaw06.PtpWrites", spec := "ptpWrites", unfollowed := true, recurses := true, apart := false, narrowed := true }
def PtpWritesUptoSaid : Prop := ptpWritesUptoRow.holds Try.pinned (OpenSpec.upto ptpWritesSpec)

/-- 'sandglasslaw06.PtpReads', WHERE WHAT IT READS IS OF BULK AT MOST 1048576: true; the input reads as it did. -/
def ptpReadsUptoRow : OpenClaim := { program := "ytlhaloabophliaa", sum := "4a44a97f402dee4442d609113cefecc8af0e5cccbf924e4a8e8a9fc4e65c4924", func := "sandglass/sandglasslaw06.PtpReads", spec := "ptpReads", unfollowed := true, recurses := true, apart := false, narrowed := true }
def PtpReadsUptoSaid : Prop := ptpReadsUptoRow.holds Try.pinned (OpenSpec.upto ptpReadsSpec)

/-- 'sandglasslaw06.PtpForm', WHERE WHAT IT READS IS OF BULK AT MOST 1048576: true; the input reads as it did. -/
def ptpFormUptoRow : OpenClaim := { program := "ytlhaloabophliaa", sum := "4a44a97f402dee4442d609113cefecc8af0e5cccbf924e4a8e8a9fc4e65c4924", func := "sandglass/sandglasslaw06.PtpForm", spec := "ptpForm", unfollowed := true, recurses := true, apart := false, narrowed := true }
def PtpFormUptoSaid : Prop := ptpFormUptoRow.holds Try.pinned (OpenSpec.upto ptpFormSpec)

end Rows
end Go.Proofs.Ytlhaloabophliaa
