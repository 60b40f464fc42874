/-
  No cell of these rows narrows 'for every input' (looked for: loops, veiled, ifaces, maps, wideKeys, modest, calm, conditions, laid).
  DERIVED. THE GIVEN ROWS OF THIS SEAT. 12 by the template 'for every input the law returns true; each argument reads behind the call as it read before'; 0 by the template 'total and deterministic' (their statements: YtbkflmeijjcnhaaTotals.lean).
  GIVEN WITH THE SEED: the statements are not yours to turn. If you find one false, say at which input.
  Laid BY PROGRAM, IN A SANDBOX (cutbox-rows.mjs): the forced cells as the released guide's own fill.sh prints them over the translation 68adf40521829195… (all of the seat's roots in one cut). By AI agents, Wed Nov 11 2026. No macro, syntax, notation, axiom, sorry.
-/
import Derived.Test.YtbkflmeijjcnhaaChecked
import GoSem.Claim
import GoSem.ClaimJoined
import GoSem.ClaimMapViews
import Derived.JoinedTies
import Derived.KernelRfl
namespace Go.Proofs.Ytbkflmeijjcnhaa
/- THE CELL 'sum', in the pinned program and in every row, IS THE sha256 OF THE DUMP (.gsa) THAT YtbkflmeijjcnhaaProg.lean LOADS. Nothing in Lean hashes anything: it is a label: what it is worth is what the hold of that sum in a sandbox is worth. -/
noncomputable def Try.pinned : Pinned := { name := "ytbkflmeijjcnhaa", sum := "68adf4052182919588869eb77f01b05b11676e60a1d835f61898eacfae2b1a49", checked := Try.checked }
namespace Rows
def none {H : Type} : Left H := { results := [], args := [] }

/-- 'sandglasslaw18.SyncTells': WHATEVER THE INPUT: true; the input reads as it did. -/
def syncTellsSpec : ChangeSpec := { name := "syncTells", fn := fun _ => fun
  | [d1, d2, d3, d4, d5] => { results := [.lit (.bool true)], args := [d1, d2, d3, d4, d5] }
  | _ => none }
def syncTellsRow : OpenClaim := { program := "ytbkflmeijjcnhaa", sum := "68adf4052182919588869eb77f01b05b11676e60a1d835f61898eacfae2b1a49", func := "sandglass/sandglasslaw18.SyncTells", spec := "syncTells", inPlace := ["math/bits.Add64"], named := ["math/bits.divideError", "math/bits.overflowError"], apart := false }
def SyncTellsSaid : Prop := syncTellsRow.holds Try.pinned (OpenSpec.ofChange syncTellsSpec)

/-- ITS FALSE NEIGHBOUR: 'it returns false'. Refute it at one input. -/
def syncTellsWrong : ChangeSpec := { name := "syncTells", fn := fun _ => fun
  | [d1, d2, d3, d4, d5] => { results := [.lit (.bool false)], args := [d1, d2, d3, d4, d5] }
  | _ => none }
def SyncTellsWrongFalsely : Prop := syncTellsRow.holds Try.pinned (OpenSpec.ofChange syncTellsWrong)

/-- 'sandglasslaw18.SyncChain': WHATEVER THE INPUT: true; the input reads as it did. -/
def syncChainSpec : ChangeSpec := { name := "syncChain", fn := fun _ => fun
  | [d1, d2, d3, d4] => { results := [.lit (.bool true)], args := [d1, d2, d3, d4] }
  | _ => none }
def syncChainRow : OpenClaim := { program := "ytbkflmeijjcnhaa", sum := "68adf4052182919588869eb77f01b05b11676e60a1d835f61898eacfae2b1a49", func := "sandglass/sandglasslaw18.SyncChain", spec := "syncChain", inPlace := ["math/bits.Add64"], unfollowed := true, recurses := true, named := ["math/bits.divideError", "math/bits.overflowError"], apart := false }
def SyncChainSaid : Prop := syncChainRow.holds Try.pinned (OpenSpec.ofChange syncChainSpec)

/-- ITS FALSE NEIGHBOUR: 'it returns false'. Refute it at one input. -/
def syncChainWrong : ChangeSpec := { name := "syncChain", fn := fun _ => fun
  | [d1, d2, d3, d4] => { results := [.lit (.bool false)], args := [d1, d2, d3, d4] }
  | _ => none }
def SyncChainWrongFalsely : Prop := syncChainRow.holds Try.pinned (OpenSpec.ofChange syncChainWrong)

/-- 'sandglasslaw18.SyncOwn': WHATEVER THE INPUT: true; the input reads as it did. -/
def syncOwnSpec : ChangeSpec := { name := "syncOwn", fn := fun _ => fun
  | [d1, d2, d3, d4] => { results := [.lit (.bool true)], args := [d1, d2, d3, d4] }
  | _ => none }
def syncOwnRow : OpenClaim := { program := "ytbkflmeijjcnhaa", sum := "68adf4052182919588869eb77f01b05b11676e60a1d835f61898eacfae2b1a49", func := "sandglass/sandglasslaw18.SyncOwn", spec := "syncOwn", inPlace := ["math/bits.Add64"], named := ["math/bits.divideError", "math/bits.overflowError"], apart := false }
def SyncOwnSaid : Prop := syncOwnRow.holds Try.pinned (OpenSpec.ofChange syncOwnSpec)

/-- ITS FALSE NEIGHBOUR: 'it returns false'. Refute it at one input. -/
def syncOwnWrong : ChangeSpec := { name := "syncOwn", fn := fun _ => fun
  | [d1, d2, d3, d4] => { results := [.lit (.bool false)], args := [d1, d2, d3, d4] }
  | _ => none }
def SyncOwnWrongFalsely : Prop := syncOwnRow.holds Try.pinned (OpenSpec.ofChange syncOwnWrong)

/-- 'sandglasslaw21.PairHolds': WHATEVER THE INPUT: true; the input reads as it did. -/
def pairHoldsSpec : ChangeSpec := { name := "pairHolds", fn := fun _ => fun
  | [d] => { results := [.lit (.bool true)], args := [d] }
  | _ => none }
def pairHoldsRow : OpenClaim := { program := "ytbkflmeijjcnhaa", sum := "68adf4052182919588869eb77f01b05b11676e60a1d835f61898eacfae2b1a49", func := "sandglass/sandglasslaw21.PairHolds", spec := "pairHolds", inPlace := ["math/bits.Add64"], named := ["math/bits.divideError", "math/bits.overflowError"], apart := false }
def PairHoldsSaid : Prop := pairHoldsRow.holds Try.pinned (OpenSpec.ofChange pairHoldsSpec)

/-- ITS FALSE NEIGHBOUR: 'it returns false'. Refute it at one input. -/
def pairHoldsWrong : ChangeSpec := { name := "pairHolds", fn := fun _ => fun
  | [d] => { results := [.lit (.bool false)], args := [d] }
  | _ => none }
def PairHoldsWrongFalsely : Prop := pairHoldsRow.holds Try.pinned (OpenSpec.ofChange pairHoldsWrong)

/-- 'sandglasslaw21.PairSwitch': WHATEVER THE INPUT: true; the input reads as it did. -/
def pairSwitchSpec : ChangeSpec := { name := "pairSwitch", fn := fun _ => fun
  | [d1, d2, d3] => { results := [.lit (.bool true)], args := [d1, d2, d3] }
  | _ => none }
def pairSwitchRow : OpenClaim := { program := "ytbkflmeijjcnhaa", sum := "68adf4052182919588869eb77f01b05b11676e60a1d835f61898eacfae2b1a49", func := "sandglass/sandglasslaw21.PairSwitch", spec := "pairSwitch", inPlace := ["math/bits.Add64"], named := ["math/bits.divideError", "math/bits.overflowError"], apart := false }
def PairSwitchSaid : Prop := pairSwitchRow.holds Try.pinned (OpenSpec.ofChange pairSwitchSpec)

/-- ITS FALSE NEIGHBOUR: 'it returns false'. Refute it at one input. -/
def pairSwitchWrong : ChangeSpec := { name := "pairSwitch", fn := fun _ => fun
  | [d1, d2, d3] => { results := [.lit (.bool false)], args := [d1, d2, d3] }
  | _ => none }
def PairSwitchWrongFalsely : Prop := pairSwitchRow.holds Try.pinned (OpenSpec.ofChange pairSwitchWrong)

/-- 'sandglasslaw21.PairRuns': WHATEVER THE INPUT: true; the input reads as it did. -/
def pairRunsSpec : ChangeSpec := { name := "pairRuns", fn := fun _ => fun
  | [d1, d2] => { results := [.lit (.bool true)], args := [d1, d2] }
  | _ => none }
def pairRunsRow : OpenClaim := { program := "ytbkflmeijjcnhaa", sum := "68adf4052182919588869eb77f01b05b11676e60a1d835f61898eacfae2b1a49", func := "sandglass/sandglasslaw21.PairRuns", spec := "pairRuns", inPlace := ["math/bits.Add64"], unfollowed := true, recurses := true, named := ["math/bits.divideError", "math/bits.overflowError"], apart := false }
def PairRunsSaid : Prop := pairRunsRow.holds Try.pinned (OpenSpec.ofChange pairRunsSpec)

/-- ITS FALSE NEIGHBOUR: 'it returns false'. Refute it at one input. -/
def pairRunsWrong : ChangeSpec := { name := "pairRuns", fn := fun _ => fun
  | [d1, d2] => { results := [.lit (.bool false)], args := [d1, d2] }
  | _ => none }
def PairRunsWrongFalsely : Prop := pairRunsRow.holds Try.pinned (OpenSpec.ofChange pairRunsWrong)

/-- 'sandglasslaw21.PairLends': WHATEVER THE INPUT: true; the input reads as it did. -/
def pairLendsSpec : ChangeSpec := { name := "pairLends", fn := fun _ => fun
  | [d1, d2, d3] => { results := [.lit (.bool true)], args := [d1, d2, d3] }
  | _ => none }
def pairLendsRow : OpenClaim := { program := "ytbkflmeijjcnhaa", sum := "68adf4052182919588869eb77f01b05b11676e60a1d835f61898eacfae2b1a49", func := "sandglass/sandglasslaw21.PairLends", spec := "pairLends", inPlace := ["math/bits.Add64"], named := ["math/bits.divideError", "math/bits.overflowError"], apart := false }
def PairLendsSaid : Prop := pairLendsRow.holds Try.pinned (OpenSpec.ofChange pairLendsSpec)

/-- ITS FALSE NEIGHBOUR: 'it returns false'. Refute it at one input. -/
def pairLendsWrong : ChangeSpec := { name := "pairLends", fn := fun _ => fun
  | [d1, d2, d3] => { results := [.lit (.bool false)], args := [d1, d2, d3] }
  | _ => none }
def PairLendsWrongFalsely : Prop := pairLendsRow.holds Try.pinned (OpenSpec.ofChange pairLendsWrong)

/-- 'sandglasslaw17.PeerOrder': WHATEVER THE INPUT: true; the input reads as it did. -/
def peerOrderSpec : ChangeSpec := { name := "peerOrder", fn := fun _ => fun
  | [d1, d2] => { results := [.lit (.bool true)], args := [d1, d2] }
  | _ => none }
def peerOrderRow : OpenClaim := { program := "ytbkflmeijjcnhaa", sum := "68adf4052182919588869eb77f01b05b11676e60a1d835f61898eacfae2b1a49", func := "sandglass/sandglasslaw17.PeerOrder", spec := "peerOrder", inPlace := ["math/bits.Add64"], named := ["math/bits.divideError", "math/bits.overflowError"], apart := false }
def PeerOrderSaid : Prop := peerOrderRow.holds Try.pinned (OpenSpec.ofChange peerOrderSpec)

/-- ITS FALSE NEIGHBOUR: 'it returns false'. Refute it at one input. -/
def peerOrderWrong : ChangeSpec := { name := "peerOrder", fn := fun _ => fun
  | [d1, d2] => { results := [.lit (.bool false)], args := [d1, d2] }
  | _ => none }
def PeerOrderWrongFalsely : Prop := peerOrderRow.holds Try.pinned (OpenSpec.ofChange peerOrderWrong)

/-- 'sandglasslaw17.PeerFinds': WHATEVER THE INPUT: true; the input reads as it did. -/
def peerFindsSpec : ChangeSpec := { name := "peerFinds", fn := fun _ => fun
  | [d1, d2, d3, d4, d5, d6] => { results := [.lit (.bool true)], args := [d1, d2, d3, d4, d5, d6] }
  | _ => none }
def peerFindsRow : OpenClaim := { program := "ytbkflmeijjcnhaa", sum := "68adf4052182919588869eb77f01b05b11676e60a1d835f61898eacfae2b1a49", func := "sandglass/sandglasslaw17.PeerFinds", spec := "peerFinds", inPlace := ["math/bits.Add64"], unfollowed := true, recurses := true, named := ["math/bits.divideError", "math/bits.overflowError"], apart := false }
def PeerFindsSaid : Prop := peerFindsRow.holds Try.pinned (OpenSpec.ofChange peerFindsSpec)

/-- ITS FALSE NEIGHBOUR: 'it returns false'. Refute it at one input. -/
def peerFindsWrong : ChangeSpec := { name := "peerFinds", fn := fun _ => fun
  | [d1, d2, d3, d4, d5, d6] => { results := [.lit (.bool false)], args := [d1, d2, d3, d4, d5, d6] }
  | _ => none }
def PeerFindsWrongFalsely : Prop := peerFindsRow.holds Try.pinned (OpenSpec.ofChange peerFindsWrong)

/-- 'sandglasslaw17.PeerFails': WHATEVER THE INPUT: true; the input reads as it did. -/
def peerFailsSpec : ChangeSpec := { name := "peerFails", fn := fun _ => fun
  | [d1, d2] => { results := [.lit (.bool true)], args := [d1, d2] }
  | _ => none }
def peerFailsRow : OpenClaim := { program := "ytbkflmeijjcnhaa", sum := "68adf4052182919588869eb77f01b05b11676e60a1d835f61898eacfae2b1a49", func := "sandglass/sandglasslaw17.PeerFails", spec := "peerFails", inPlace := ["math/bits.Add64"], unfollowed := true, recurses := true, named := ["math/bits.divideError", "math/bits.overflowError"], apart := false }
def PeerFailsSaid : Prop := peerFailsRow.holds Try.pinned (OpenSpec.ofChange peerFailsSpec)

/-- ITS FALSE NEIGHBOUR: 'it returns false'. Refute it at one input. -/
def peerFailsWrong : ChangeSpec := { name := "peerFails", fn := fun _ => fun
  | [d1, d2] => { results := [.lit (.bool false)], args := [d1, d2] }
  | _ => none }
def PeerFailsWrongFalsely : Prop := peerFailsRow.holds Try.pinned (OpenSpec.ofChange peerFailsWrong)

/-- 'sandglasslaw17.PeerSeqs': WHATEVER THE INPUT: true; the input reads as it did. -/
def peerSeqsSpec : ChangeSpec := { name := "peerSeqs", fn := fun _ => fun
  | [d1, d2] => { results := [.lit (.bool true)], args := [d1, d2] }
  | _ => none }
def peerSeqsRow : OpenClaim := { program := "ytbkflmeijjcnhaa", sum := "68adf4052182919588869eb77f01b05b11676e60a1d835f61898eacfae2b1a49", func := "sandglass/sandglasslaw17.PeerSeqs", spec := "peerSeqs", inPlace := ["math/bits.Add64"], named := ["math/bits.divideError", "math/bits.overflowError"], apart := false }
def PeerSeqsSaid : Prop := peerSeqsRow.holds Try.pinned (OpenSpec.ofChange peerSeqsSpec)

/-- ITS FALSE NEIGHBOUR: 'it returns false'. Refute it at one input. -/
def peerSeqsWrong : ChangeSpec := { name := "peerSeqs", fn := fun _ => fun
  | [d1, d2] => { results := [.lit (.bool false)], args := [d1, d2] }
  | _ => none }
def PeerSeqsWrongFalsely : Prop := peerSeqsRow.holds Try.pinned (OpenSpec.ofChange peerSeqsWrong)

/-- 'sandglasslaw17.PeerAnswers': WHATEVER THE INPUT: true; the input reads as it did. -/
def peerAnswersSpec : ChangeSpec := { name := "peerAnswers", fn := fun _ => fun
  | [d1, d2, d3, d4] => { results := [.lit (.bool true)], args := [d1, d2, d3, d4] }
  | _ => none }
def peerAnswersRow : OpenClaim := { program := "ytbkflmeijjcnhaa", sum := "68adf4052182919588869eb77f01b05b11676e60a1d835f61898eacfae2b1a49", func := "sandglass/sandglasslaw17.PeerAnswers", spec := "peerAnswers", inPlace := ["math/bits.Add64"], named := ["math/bits.divideError", "math/bits.overflowError"], apart := false }
def PeerAnswersSaid : Prop := peerAnswersRow.holds Try.pinned (OpenSpec.ofChange peerAnswersSpec)

/-- ITS FALSE NEIGHBOUR: 'it returns false'. Refute it at one input. -/
def peerAnswersWrong : ChangeSpec := { name := "peerAnswers", fn := fun _ => fun
  | [d1, d2, d3, d4] => { results := [.lit (.bool false)], args := [d1, d2, d3, d4] }
  | _ => none }
def PeerAnswersWrongFalsely : Prop := peerAnswersRow.holds Try.pinned (OpenSpec.ofChange peerAnswersWrong)

/- THE SECOND FORM. 'bulk': how many values and letters a reading holds, each counted each time it is reached (what is shared counts as often as it is met; a slice's spare places count too). A statement '..UptoSaid' is the law's where the arguments, and the package variables that the reading takes, are together of bulk at most 1048576: NARROWER than '..Said'. Prove '..Said' where nothing that the law and all that it calls make is longer than what came in: it says more and counts as full. Else prove '..UptoSaid'. A law counts once. -/
mutual
def uptoBulk {H : Type} : DataW H → Nat
  | .lit (.string bytes) => bytes.length + 1
  | .lit _ => 1
  | .nil => 1
  | .ptr d => uptoBulk d + 1
  | .slice elems spare => uptoBulkAll elems + uptoBulkAll spare + 1
  | .agg parts => uptoBulkAll parts + 1
  | .iface _ d => uptoBulk d + 1
  | .map entries => uptoBulkEntries entries + 1
  | .held _ => 1
def uptoBulkAll {H : Type} : List (DataW H) → Nat
  | [] => 0
  | d :: r => uptoBulk d + uptoBulkAll r
def uptoBulkEntries {H : Type} : List (Lit × DataW H) → Nat
  | [] => 0
  | x :: r => uptoBulkEntry x + uptoBulkEntries r
def uptoBulkEntry {H : Type} : Lit × DataW H → Nat
  | (.string bytes, d) => bytes.length + uptoBulk d + 1
  | (_, d) => uptoBulk d + 1
 end
def uptoSmall : (H : Type) → List (DataW H) → Bool := fun _ ds => decide (uptoBulkAll ds ≤ 1048576)
def OpenSpec.upto (s : _root_.Go.ChangeSpec) : _root_.Go.OpenSpec := { _root_.Go.OpenSpec.ofChange s with cond := some uptoSmall }

/-- 'sandglasslaw18.SyncTells', WHERE WHAT IT READS IS OF BULK AT MOST 1048576: true; the input reads as it did. -/
def syncTellsUptoRow : OpenClaim := { program := "ytbkflmeijjcnhaa", sum := "68adf4052182919588869eb77f01b05b11676e60a1d835f61898eacfae2b1a49", func := "sandglass/sandglasslaw18.SyncTells", spec := "syncTells", inPlace := ["math/bits.Add64"], named := ["math/bits.divideError", "math/bits.overflowError"], apart := false, narrowed := true }
def SyncTellsUptoSaid : Prop := syncTellsUptoRow.holds Try.pinned (OpenSpec.upto syncTellsSpec)

/-- 'sandglasslaw18.SyncChain', WHERE WHAT IT READS IS OF BULK AT MOST 1048576: true; the input reads as it did. -/
def syncChainUptoRow : OpenClaim := { program := "ytbkflmeijjcnhaa", sum := "68adf4052182919588869eb77f01b05b11676e60a1d835f61898eacfae2b1a49", func := "sandglass/sandglasslaw18.SyncChain", spec := "syncChain", inPlace := ["math/bits.Add64"], unfollowed := true, recurses := true, named := ["math/bits.divideError", "math/bits.overflowError"], apart := false, narrowed := true }
def SyncChainUptoSaid : Prop := syncChainUptoRow.holds Try.pinned (OpenSpec.upto syncChainSpec)

/-- 'sandglasslaw18.SyncOwn', WHERE WHAT IT READS IS OF BULK AT MOST 1048576: true; the input reads as it did. -/
def syncOwnUptoRow : OpenClaim := { program := "ytbkflmeijjcnhaa", sum := "68adf4052182919588869eb77f01b05b11676e60a1d835f61898eacfae2b1a49", func := "sandglass/sandglasslaw18.SyncOwn", spec := "syncOwn", inPlace := ["math/bits.Add64"], named := ["math/bits.divideError", "math/bits.overflowError"], apart := false, narrowed := true }
def SyncOwnUptoSaid : Prop := syncOwnUptoRow.holds Try.pinned (OpenSpec.upto syncOwnSpec)

/-- 'sandglasslaw21.PairHolds', WHERE WHAT IT READS IS OF BULK AT MOST 1048576: true; the input reads as it did. -/
def pairHoldsUptoRow : OpenClaim := { program := "ytbkflmeijjcnhaa", sum := "68adf4052182919588869eb77f01b05b11676e60a1d835f61898eacfae2b1a49", func := "sandglass/sandglasslaw21.PairHolds", spec := "pairHolds", inPlace := ["math/bits.Add64"], named := ["math/bits.divideError", "math/bits.overflowError"], apart := false, narrowed := true }
def PairHoldsUptoSaid : Prop := pairHoldsUptoRow.holds Try.pinned (OpenSpec.upto pairHoldsSpec)

/-- 'sandglasslaw21.PairSwitch', WHERE WHAT IT READS IS OF BULK AT MOST 1048576: true; the input reads as it did. -/
def pairSwitchUptoRow : OpenClaim := { program := "ytbkflmeijjcnhaa", sum := "68adf4052182919588869eb77f01b05b11676e60a1d835f61898eacfae2b1a49", func := "sandglass/sandglasslaw21.PairSwitch", spec := "pairSwitch", inPlace := ["math/bits.Add64"], named := ["math/bits.divideError", "math/bits.overflowError"], apart := false, narrowed := true }
def PairSwitchUptoSaid : Prop := pairSwitchUptoRow.holds Try.pinned (OpenSpec.upto pairSwitchSpec)

/-- 'sandglasslaw21.PairRuns', WHERE WHAT IT READS IS OF BULK AT MOST 1048576: true; the input reads as it did. -/
def pairRunsUptoRow : OpenClaim := { program := "ytbkflmeijjcnhaa", sum := "68adf4052182919588869eb77f01b05b11676e60a1d835f61898eacfae2b1a49", func := "sandglass/sandglasslaw21.PairRuns", spec := "pairRuns", inPlace := ["math/bits.Add64"], unfollowed := true, recurses := true, named := ["math/bits.divideError", "math/bits.overflowError"], apart := false, narrowed := true }
def PairRunsUptoSaid : Prop := pairRunsUptoRow.holds Try.pinned (OpenSpec.upto pairRunsSpec)

/-- 'sandglasslaw21.PairLends', WHERE WHAT IT READS IS OF BULK AT MOST 1048576: true; the input reads as it did. -/
def pairLendsUptoRow : OpenClaim := { program := "ytbkflmeijjcnhaa", sum := "68adf4052182919588869eb77f01b05b11676e60a1d835f61898eacfae2b1a49", func := "sandglass/sandglasslaw21.PairLends", spec := "pairLends", inPlace := ["math/bits.Add64"], named := ["math/bits.divideError", "math/bits.overflowError"], apart := false, narrowed := true }
def PairLendsUptoSaid : Prop := pairLendsUptoRow.holds Try.pinned (OpenSpec.upto pairLendsSpec)

/-- 'sandglasslaw17.PeerOrder', WHERE WHAT IT READS IS OF BULK AT MOST 1048576: true; the input reads as it did. -/
def peerOrderUptoRow : OpenClaim := { program := "ytbkflmeijjcnhaa", sum := "68adf4052182919588869eb77f01b05b11676e60a1d835f61898eacfae2b1a49", func := "sandglass/sandglasslaw17.PeerOrder", spec := "peerOrder", inPlace := ["math/bits.Add64"], named := ["math/bits.divideError", "math/bits.overflowError"], apart := false, narrowed := true }
def PeerOrderUptoSaid : Prop := peerOrderUptoRow.holds Try.pinned (OpenSpec.upto peerOrderSpec)

/-- 'sandglasslaw17.PeerFinds', WHERE WHAT IT READS IS OF BULK AT MOST 1048576: true; the input reads as it did. -/
def peerFindsUptoRow : OpenClaim := { program := "ytbkflmeijjcnhaa", sum := "68adf4052182919588869eb77f01b05b11676e60a1d835f61898eacfae2b1a49", func := "sandglass/sandglasslaw17.PeerFinds", spec := "peerFinds", inPlace := ["math/bits.Add64"], unfollowed := true, recurses := true, named := ["math/bits.divideError", "math/bits.overflowError"], apart := false, narrowed := true }
def PeerFindsUptoSaid : Prop := peerFindsUptoRow.holds Try.pinned (OpenSpec.upto peerFindsSpec)

/-- 'sandglasslaw17.PeerFails', WHERE WHAT IT READS IS OF BULK AT MOST 1048576: true; the input reads as it did. -/
def peerFailsUptoRow : OpenClaim := { program := "ytbkflmeijjcnhaa", sum := "68adf4052182919588869eb77f01b05b11676e60a1d835f61898eacfae2b1a49", func := "sandglass/sandglasslaw17.PeerFails", spec := "peerFails", inPlace := ["math/bits.Add64"], unfollowed := true, recurses := true, named := ["math/bits.divideError", "math/bits.overflowError"], apart := false, narrowed := true }
def PeerFailsUptoSaid : Prop := peerFailsUptoRow.holds Try.pinned (OpenSpec.upto peerFailsSpec)

/-- 'sandglasslaw17.PeerSeqs', WHERE WHAT IT READS IS OF BULK AT MOST 1048576: true; the input reads as it did. -/
def peerSeqsUptoRow : OpenClaim := { program := "ytbkflmeijjcnhaa", sum := "68adf4052182919588869eb77f01b05b11676e60a1d835f61898eacfae2b1a49", func := "sandglass/sandglasslaw17.PeerSeqs", spec := "peerSeqs", inPlace := ["math/bits.Add64"], named := ["math/bits.divideError", "math/bits.overflowError"], apart := false, narrowed := true }
def PeerSeqsUptoSaid : Prop := peerSeqsUptoRow.holds Try.pinned (OpenSpec.upto peerSeqsSpec)

/-- 'sandglasslaw17.PeerAnswers', WHERE WHAT IT READS IS OF BULK AT MOST 1048576: true; the input reads as it did. -/
def peerAnswersUptoRow : OpenClaim := { program := "ytbkflmeijjcnhaa", sum := "68adf4052182919588869eb77f01b05b11676e60a1d835f61898eacfae2b1a49", func := "sandglass/sandglasslaw17.PeerAnswers", spec := "peerAnswers", inPlace := ["math/bits.Add64"], named := ["math/bits.divideError", "math/bits.overflowError"], apart := false, narrowed := true }
def PeerAnswersUptoSaid : Prop := peerAnswersUptoRow.holds Try.pinned (OpenSpec.upto peerAnswersSpec)

end Rows
end Go.Proofs.Ytbkflmeijjcnhaa
