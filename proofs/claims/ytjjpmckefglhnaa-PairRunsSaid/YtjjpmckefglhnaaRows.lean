/-
  No cell of these rows narrows 'for every input' (looked for: loops, veiled, ifaces, maps, wideKeys, modest, calm, conditions, laid).
  DERIVED. THE GIVEN ROWS OF THIS SEAT. 4 by the template 'for every input the law returns true; each argument reads behind the call as it read before'; 0 by the template 'total and deterministic' (their statements: YtjjpmckefglhnaaTotals.lean).
  GIVEN WITH THE SEED: the statements are not yours to turn. If you find one false, say at which input.
  Laid BY PROGRAM, IN A SANDBOX (cutbox-rows.mjs): the forced cells as the released guide's own fill.sh prints them over the translation 8386752fcd62b1c8… (all of the seat's roots in one cut). By AI agents, Wed Nov 11 2026. No macro, syntax, notation, axiom, sorry.
-/
import Derived.Test.YtjjpmckefglhnaaChecked
import GoSem.Claim
import GoSem.ClaimJoined
import GoSem.ClaimMapViews
import Derived.JoinedTies
import Derived.KernelRfl
namespace Go.Proofs.Ytjjpmckefglhnaa
/- THE CELL 'sum', in the pinned program and in every row, IS THE sha256 OF THE DUMP (.gsa) THAT YtjjpmckefglhnaaProg.lean LOADS. Nothing in Lean hashes anything: it is a label: what it is worth is what the hold of that sum in a sandbox is worth. -/
noncomputable def Try.pinned : Pinned := { name := "ytjjpmckefglhnaa", sum := "8386752fcd62b1c8f5ad869e527848fd847ab19ac73b0cc445557f7a9e7bc05e", checked := Try.checked }
namespace Rows
def none {H : Type} : Left H := { results := [], args := [] }

/-- 'sandglasslaw21.PairHolds': WHATEVER THE INPUT: true; the input reads as it did. -/
def pairHoldsSpec : ChangeSpec := { name := "pairHolds", fn := fun _ => fun
  | [d] => { results := [.lit (.bool true)], args := [d] }
  | _ => none }
def pairHoldsRow : OpenClaim := { program := "ytjjpmckefglhnaa", sum := "8386752fcd62b1c8f5ad869e527848fd847ab19ac73b0cc445557f7a9e7bc05e", func := "sandglass/sandglasslaw21.PairHolds", spec := "pairHolds", inPlace := ["math/bits.Add64"], named := ["math/bits.divideError", "math/bits.overflowError"], apart := false }
def PairHoldsSaid : Prop := pairHoldsRow.holds Try.pinned (OpenSpec.ofChange pairHoldsSpec)

/-- ITS FALSE NEIGHBOUR: 'it returns false'. Refute it at one input. -/
def pairHoldsWrong : ChangeSpec := { name := "pairHolds", fn := fun _ => fun
  | [d] => { results := [.lit (.bool false)], args := [d] }
  | _ => none }
def PairHoldsWrongFalsely : Prop := pairHoldsRow.holds Try.pinned (OpenSpec.ofChange pairHoldsWrong)

/-- 'sandglasslaw21.PairSwitch': WHATEVER THE INPUT: true; the input reads as it did. -/
def pairSwitchSpec : ChangeSpec := { name := "pairSwitch", fn := fun _ => fun
  | [d1, d2, d3] => { results := [.lit (.bool true)], args := [d1, d2, d3] }
  | _ => none }
def pairSwitchRow : OpenClaim := { program := "ytjjpmckefglhnaa", sum := "8386752fcd62b1c8f5ad869e527848fd847ab19ac73b0cc445557f7a9e7bc05e", func := "sandglass/sandglasslaw21.PairSwitch", spec := "pairSwitch", inPlace := ["math/bits.Add64"], named := ["math/bits.divideError", "math/bits.overflowError"], apart := false }
def PairSwitchSaid : Prop := pairSwitchRow.holds Try.pinned (OpenSpec.ofChange pairSwitchSpec)

/-- ITS FALSE NEIGHBOUR: 'it returns false'. Refute it at one input. -/
def pairSwitchWrong : ChangeSpec := { name := "pairSwitch", fn := fun _ => fun
  | [d1, d2, d3] => { results := [.lit (.bool false)], args := [d1, d2, d3] }
  | _ => none }
def PairSwitchWrongFalsely : Prop := pairSwitchRow.holds Try.pinned (OpenSpec.ofChange pairSwitchWrong)

/-- 'sandglasslaw21.PairRuns': WHATEVER THE INPUT: true; the input reads as it did. -/
def pairRunsSpec : ChangeSpec := { name := "pairRuns", fn := fun _ => fun
  | [d1, d2] => { results := [.lit (.bool true)], args := [d1, d2] }
  | _ => none }
def pairRunsRow : OpenClaim := { program := "ytjjpmckefglhnaa", sum := "8386752fcd62b1c8f5ad869e527848fd847ab19ac73b0cc445557f7a9e7bc05e", func := "sandglass/sandglasslaw21.PairRuns", spec := "pairRuns", inPlace := ["math/bits.Add64"], unfollowed := true, recurses := true, named := ["math/bits.divideError", "math/bits.overflowError"], apart := false }
def PairRunsSaid : Prop := pairRunsRow.holds Try.pinned (OpenSpec.ofChange pairRunsSpec)

/-- ITS FALSE NEIGHBOUR: 'it returns false'. Refute it at one input. -/
def pairRunsWrong : ChangeSpec := { name := "pairRuns", fn := fun _ => fun
  | [d1, d2] => { results := [.lit (.bool false)], args := [d1, d2] }
  | _ => none }
def PairRunsWrongFalsely : Prop := pairRunsRow.holds Try.pinned (OpenSpec.ofChange pairRunsWrong)

/-- 'sandglasslaw21.PairLends': WHATEVER THE INPUT: true; the input reads as it did. -/
def pairLendsSpec : ChangeSpec := { name := "pairLends", fn := fun _ => fun
  | [d1, d2, d3] => { results := [.lit (.bool true)], args := [d1, d2, d3] }
  | _ => none }
def pairLendsRow : OpenClaim := { program := "ytjjpmckefglhnaa", sum := "8386752fcd62b1c8f5ad869e527848fd847ab19ac73b0cc445557f7a9e7bc05e", func := "sandglass/sandglasslaw21.PairLends", spec := "pairLends", inPlace := ["math/bits.Add64"], named := ["math/bits.divideError", "math/bits.overflowError"], apart := false }
def PairLendsSaid : Prop := pairLendsRow.holds Try.pinned (OpenSpec.ofChange pairLendsSpec)

/-- ITS FALSE NEIGHBOUR: 'it returns false'. Refute it at one input. -/
def pairLendsWrong : ChangeSpec := { name := "pairLends", fn := fun _ => fun
  | [d1, d2, d3] => { results := [.lit (.bool false)], args := [d1, d2, d3] }
  | _ => none }
def PairLendsWrongFalsely : Prop := pairLendsRow.holds Try.pinned (OpenSpec.ofChange pairLendsWrong)

/- THE SECOND FORM. 'bulk': how many values and letters a reading holds, each counted each time it is reached (what is shared counts as often as it is met; a slice's spare places count too). A statement '..UptoSaid' is the law's where the arguments, and the package variables that the reading takes, are together of bulk at most 1048576: NARROWER than '..Said'. Prove '..Said' where nothing that the law and all that it calls make is longer than what came in: it says more and counts as full. Else prove '..UptoSaid'. A law counts once. -/
mutual
def uptoBulk {H : Type} : DataW H → Nat
  | .lit (.string bytes) => bytes.length + 1
  | .lit _ => 1
  | .nil => 1
  | .ptr d => uptoBulk d + 1
  | .slice elems spare => uptoBulkAll elems + uptoBulkAll spare + 1
  | .agg parts => uptoBulkAll parts + 1
  | .iface _ d => uptoBulk d + 1
  | .map entries => uptoBulkEntries entries + 1
  | .held _ => 1
def uptoBulkAll {H : Type} : List (DataW H) → Nat
  | [] => 0
  | d :: r => uptoBulk d + uptoBulkAll r
def uptoBulkEntries {H : Type} : List (Lit × DataW H) → Nat
  | [] => 0
  | x :: r => uptoBulkEntry x + uptoBulkEntries r
def uptoBulkEntry {H : Type} : Lit × DataW H → Nat
  | (.string bytes, d) => bytes.length + uptoBulk d + 1
  | (_, d) => uptoBulk d + 1
 end
def uptoSmall : (H : Type) → List (DataW H) → Bool := fun _ ds => decide (uptoBulkAll ds ≤ 1048576)
def OpenSpec.upto (s : _root_.Go.ChangeSpec) : _root_.Go.OpenSpec := { _root_.Go.OpenSpec.ofChange s with cond := some uptoSmall }

/-- 'sandglasslaw21.PairHolds', WHERE WHAT IT READS IS OF BULK AT MOST 1048576: true; the input reads as it did. -/
def pairHoldsUptoRow : OpenClaim := { program := "ytjjpmckefglhnaa", sum := "8386752fcd62b1c8f5ad869e527848fd847ab19ac73b0cc445557f7a9e7bc05e", func := "sandglass/sandglasslaw21.PairHolds", spec := "pairHolds", inPlace := ["math/bits.Add64"], named := ["math/bits.divideError", "math/bits.overflowError"], apart := false, narrowed := true }
def PairHoldsUptoSaid : Prop := pairHoldsUptoRow.holds Try.pinned (OpenSpec.upto pairHoldsSpec)

/-- 'sandglasslaw21.PairSwitch', WHERE WHAT IT READS IS OF BULK AT MOST 1048576: true; the input reads as it did. -/
def pairSwitchUptoRow : OpenClaim := { program := "ytjjpmckefglhnaa", sum := "8386752fcd62b1c8f5ad869e527848fd847ab19ac73b0cc445557f7a9e7bc05e", func := "sandglass/sandglasslaw21.PairSwitch", spec := "pairSwitch", inPlace := ["math/bits.Add64"], named := ["math/bits.divideError", "math/bits.overflowError"], apart := false, narrowed := true }
def PairSwitchUptoSaid : Prop := pairSwitchUptoRow.holds Try.pinned (OpenSpec.upto pairSwitchSpec)

/-- 'sandglasslaw21.PairRuns', WHERE WHAT IT READS IS OF BULK AT MOST 1048576: true; the input reads as it did. -/
def pairRunsUptoRow : OpenClaim := { program := "ytjjpmckefglhnaa", sum := "8386752fcd62b1c8f5ad869e527848fd847ab19ac73b0cc445557f7a9e7bc05e", func := "sandglass/sandglasslaw21.PairRuns", spec := "pairRuns", inPlace := ["math/bits.Add64"], unfollowed := true, recurses := true, named := ["math/bits.divideError", "math/bits.overflowError"], apart := false, narrowed := true }
def PairRunsUptoSaid : Prop := pairRunsUptoRow.holds Try.pinned (OpenSpec.upto pairRunsSpec)

/-- 'sandglasslaw21.PairLends', WHERE WHAT IT READS IS OF BULK AT MOST 1048576: true; the input reads as it did. -/
def pairLendsUptoRow : OpenClaim := { program := "ytjjpmckefglhnaa", sum := "8386752fcd62b1c8f5ad869e527848fd847ab19ac73b0cc445557f7a9e7bc05e", func := "sandglass/sandglasslaw21.PairLends", spec := "pairLends", inPlace := ["math/bits.Add64"], named := ["math/bits.divideError", "math/bits.overflowError"], apart := false, narrowed := true }
def PairLendsUptoSaid : Prop := pairLendsUptoRow.holds Try.pinned (OpenSpec.upto pairLendsSpec)

end Rows
end Go.Proofs.Ytjjpmckefglhnaa
