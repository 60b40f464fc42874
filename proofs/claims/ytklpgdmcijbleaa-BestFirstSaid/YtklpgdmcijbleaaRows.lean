/-
  No cell of these rows narrows 'for every input' (looked for: loops, veiled, ifaces, maps, wideKeys, modest, calm, conditions, laid).
  DERIVED. THE GIVEN ROWS OF THIS SEAT. 6 by the template 'for every input the law returns true; each argument reads behind the call as it read before'; 0 by the template 'total and deterministic' (their statements: YtklpgdmcijbleaaTotals.lean).
  GIVEN WITH THE SEED: the statements are not yours to turn. If you find one false, say at which input.
  Laid BY PROGRAM, IN A SANDBOX (cutbox-rows.mjs): the forced cells as the released guide's own fill.sh prints them over the translation f3166f0cfd89ef08… (all of the seat's roots in one cut). By AI agents, Wed Nov 11 2026. No macro, syntax, notation, axiom, sorry.
-/
import Derived.Test.YtklpgdmcijbleaaChecked
import GoSem.Claim
import GoSem.ClaimJoined
import GoSem.ClaimMapViews
import Derived.JoinedTies
import Derived.KernelRfl
namespace Go.Proofs.Ytklpgdmcijbleaa
/- THE CELL 'sum', in the pinned program and in every row, IS THE sha256 OF THE DUMP (.gsa) THAT YtklpgdmcijbleaaProg.lean LOADS. Nothing in Lean hashes anything: it is a label: what it is worth is what the hold of that sum in a sandbox is worth. -/
noncomputable def Try.pinned : Pinned := { name := "ytklpgdmcijbleaa", sum := "f3166f0cfd89ef08025c5a8b5f9af11280f6027dd013a1ba6f2529c1e9a6c904", checked := Try.checked }
namespace Rows
def none {H : Type} : Left H := { results := [], args := [] }

/-- 'sandglasslaw19.BestOrders': WHATEVER THE INPUT: true; the input reads as it did. -/
def bestOrdersSpec : ChangeSpec := { name := "bestOrders", fn := fun _ => fun
  | [d1, d2, d3] => { results := [.lit (.bool true)], args := [d1, d2, d3] }
  | _ => none }
def bestOrdersRow : OpenClaim := { program := "ytklpgdmcijbleaa", sum := "f3166f0cfd89ef08025c5a8b5f9af11280f6027dd013a1ba6f2529c1e9a6c904", func := "sandglass/sandglasslaw19.BestOrders", spec := "bestOrders", apart := false }
def BestOrdersSaid : Prop := bestOrdersRow.holds Try.pinned (OpenSpec.ofChange bestOrdersSpec)

/-- ITS FALSE NEIGHBOUR: 'it returns false'. Refute it at one input. -/
def bestOrdersWrong : ChangeSpec := { name := "bestOrders", fn := fun _ => fun
  | [d1, d2, d3] => { results := [.lit (.bool false)], args := [d1, d2, d3] }
  | _ => none }
def BestOrdersWrongFalsely : Prop := bestOrdersRow.holds Try.pinned (OpenSpec.ofChange bestOrdersWrong)

/-- 'sandglasslaw19.BestFirst': WHATEVER THE INPUT: true; the input reads as it did. -/
def bestFirstSpec : ChangeSpec := { name := "bestFirst", fn := fun _ => fun
  | [d] => { results := [.lit (.bool true)], args := [d] }
  | _ => none }
def bestFirstRow : OpenClaim := { program := "ytklpgdmcijbleaa", sum := "f3166f0cfd89ef08025c5a8b5f9af11280f6027dd013a1ba6f2529c1e9a6c904", func := "sandglass/sandglasslaw19.BestFirst", spec := "bestFirst", unfollowed := true, recurses := true, apart := false }
def BestFirstSaid : Prop := bestFirstRow.holds Try.pinned (OpenSpec.ofChange bestFirstSpec)

/-- ITS FALSE NEIGHBOUR: 'it returns false'. Refute it at one input. -/
def bestFirstWrong : ChangeSpec := { name := "bestFirst", fn := fun _ => fun
  | [d] => { results := [.lit (.bool false)], args := [d] }
  | _ => none }
def BestFirstWrongFalsely : Prop := bestFirstRow.holds Try.pinned (OpenSpec.ofChange bestFirstWrong)

/-- 'sandglasslaw19.BestChoose': WHATEVER THE INPUT: true; the input reads as it did. -/
def bestChooseSpec : ChangeSpec := { name := "bestChoose", fn := fun _ => fun
  | [d1, d2] => { results := [.lit (.bool true)], args := [d1, d2] }
  | _ => none }
def bestChooseRow : OpenClaim := { program := "ytklpgdmcijbleaa", sum := "f3166f0cfd89ef08025c5a8b5f9af11280f6027dd013a1ba6f2529c1e9a6c904", func := "sandglass/sandglasslaw19.BestChoose", spec := "bestChoose", apart := false }
def BestChooseSaid : Prop := bestChooseRow.holds Try.pinned (OpenSpec.ofChange bestChooseSpec)

/-- ITS FALSE NEIGHBOUR: 'it returns false'. Refute it at one input. -/
def bestChooseWrong : ChangeSpec := { name := "bestChoose", fn := fun _ => fun
  | [d1, d2] => { results := [.lit (.bool false)], args := [d1, d2] }
  | _ => none }
def BestChooseWrongFalsely : Prop := bestChooseRow.holds Try.pinned (OpenSpec.ofChange bestChooseWrong)

/-- 'sandglasslaw19.BestOne': WHATEVER THE INPUT: true; the input reads as it did. -/
def bestOneSpec : ChangeSpec := { name := "bestOne", fn := fun _ => fun
  | [d1, d2] => { results := [.lit (.bool true)], args := [d1, d2] }
  | _ => none }
def bestOneRow : OpenClaim := { program := "ytklpgdmcijbleaa", sum := "f3166f0cfd89ef08025c5a8b5f9af11280f6027dd013a1ba6f2529c1e9a6c904", func := "sandglass/sandglasslaw19.BestOne", spec := "bestOne", apart := false }
def BestOneSaid : Prop := bestOneRow.holds Try.pinned (OpenSpec.ofChange bestOneSpec)

/-- ITS FALSE NEIGHBOUR: 'it returns false'. Refute it at one input. -/
def bestOneWrong : ChangeSpec := { name := "bestOne", fn := fun _ => fun
  | [d1, d2] => { results := [.lit (.bool false)], args := [d1, d2] }
  | _ => none }
def BestOneWrongFalsely : Prop := bestOneRow.holds Try.pinned (OpenSpec.ofChange bestOneWrong)

/-- 'sandglasslaw19.BestQuiet': WHATEVER THE INPUT: true; the input reads as it did. -/
def bestQuietSpec : ChangeSpec := { name := "bestQuiet", fn := fun _ => fun
  | [d1, d2] => { results := [.lit (.bool true)], args := [d1, d2] }
  | _ => none }
def bestQuietRow : OpenClaim := { program := "ytklpgdmcijbleaa", sum := "f3166f0cfd89ef08025c5a8b5f9af11280f6027dd013a1ba6f2529c1e9a6c904", func := "sandglass/sandglasslaw19.BestQuiet", spec := "bestQuiet", apart := false }
def BestQuietSaid : Prop := bestQuietRow.holds Try.pinned (OpenSpec.ofChange bestQuietSpec)

/-- ITS FALSE NEIGHBOUR: 'it returns false'. Refute it at one input. -/
def bestQuietWrong : ChangeSpec := { name := "bestQuiet", fn := fun _ => fun
  | [d1, d2] => { results := [.lit (.bool false)], args := [d1, d2] }
  | _ => none }
def BestQuietWrongFalsely : Prop := bestQuietRow.holds Try.pinned (OpenSpec.ofChange bestQuietWrong)

/-- 'sandglasslaw19.BestTop': WHATEVER THE INPUT: true; the input reads as it did. -/
def bestTopSpec : ChangeSpec := { name := "bestTop", fn := fun _ => fun
  | [d1, d2] => { results := [.lit (.bool true)], args := [d1, d2] }
  | _ => none }
def bestTopRow : OpenClaim := { program := "ytklpgdmcijbleaa", sum := "f3166f0cfd89ef08025c5a8b5f9af11280f6027dd013a1ba6f2529c1e9a6c904", func := "sandglass/sandglasslaw19.BestTop", spec := "bestTop", apart := false }
def BestTopSaid : Prop := bestTopRow.holds Try.pinned (OpenSpec.ofChange bestTopSpec)

/-- ITS FALSE NEIGHBOUR: 'it returns false'. Refute it at one input. -/
def bestTopWrong : ChangeSpec := { name := "bestTop", fn := fun _ => fun
  | [d1, d2] => { results := [.lit (.bool false)], args := [d1, d2] }
  | _ => none }
def BestTopWrongFalsely : Prop := bestTopRow.holds Try.pinned (OpenSpec.ofChange bestTopWrong)

/- THE SECOND FORM. 'bulk': how many values and letters a reading holds, each counted each time it is reached (what is shared counts as often as it is met; a slice's spare places count too). A statement '..UptoSaid' is the law's where the arguments, and the package variables that the reading takes, are together of bulk at most 1048576: NARROWER than '..Said'. Prove '..Said' where nothing that the law and all that it calls make is longer than what came in: it says more and counts as full. Else prove '..UptoSaid'. A law counts once. -/
mutual
def uptoBulk {H : Type} : DataW H → Nat
  | .lit (.string bytes) => bytes.length + 1
  | .lit _ => 1
  | .nil => 1
  | .ptr d => uptoBulk d + 1
  | .slice elems spare => uptoBulkAll elems + uptoBulkAll spare + 1
  | .agg parts => uptoBulkAll parts + 1
  | .iface _ d => uptoBulk d + 1
  | .map entries => uptoBulkEntries entries + 1
  | .held _ => 1
def uptoBulkAll {H : Type} : List (DataW H) → Nat
  | [] => 0
  | d :: r => uptoBulk d + uptoBulkAll r
def uptoBulkEntries {H : Type} : List (Lit × DataW H) → Nat
  | [] => 0
  | x :: r => uptoBulkEntry x + uptoBulkEntries r
def uptoBulkEntry {H : Type} : Lit × DataW H → Nat
  | (.string bytes, d) => bytes.length + uptoBulk d + 1
  | (_, d) => uptoBulk d + 1
 end
def uptoSmall : (H : Type) → List (DataW H) → Bool := fun _ ds => decide (uptoBulkAll ds ≤ 1048576)
def OpenSpec.upto (s : _root_.Go.ChangeSpec) : _root_.Go.OpenSpec := { _root_.Go.OpenSpec.ofChange s with cond := some uptoSmall }

/-- 'sandglasslaw19.BestOrders', WHERE WHAT IT READS IS OF BULK AT MOST 1048576: true; the input reads as it did. -/
def bestOrdersUptoRow : OpenClaim := { program := "ytklpgdmcijbleaa", sum := "f3166f0cfd89ef08025c5a8b5f9af11280f6027dd013a1ba6f2529c1e9a6c904", func := "sandglass/sandglasslaw19.BestOrders", spec := "bestOrders", apart := false, narrowed := true }
def BestOrdersUptoSaid : Prop := bestOrdersUptoRow.holds Try.pinned (OpenSpec.upto bestOrdersSpec)

/-- 'sandglasslaw19.BestFirst', WHERE WHAT IT READS IS OF BULK AT MOST 1048576: true; the input reads as it did. -/
def bestFirstUptoRow : OpenClaim := { program := "ytklpgdmcijbleaa", sum := "f3166f0cfd89ef08025c5a8b5f9af11280f6027dd013a1ba6f2529c1e9a6c904", func := "sandglass/sandglasslaw19.BestFirst", spec := "bestFirst", unfollowed := true, recurses := true, apart := false, narrowed := true }
def BestFirstUptoSaid : Prop := bestFirstUptoRow.holds Try.pinned (OpenSpec.upto bestFirstSpec)

/-- 'sandglasslaw19.BestChoose', WHERE WHAT IT READS IS OF BULK AT MOST 1048576: true; the input reads as it did. -/
def bestChooseUptoRow : OpenClaim := { program := "ytklpgdmcijbleaa", sum := "f3166f0cfd89ef08025c5a8b5f9af11280f6027dd013a1ba6f2529c1e9a6c904", func := "sandglass/sandglasslaw19.BestChoose", spec := "bestChoose", apart := false, narrowed := true }
def BestChooseUptoSaid : Prop := bestChooseUptoRow.holds Try.pinned (OpenSpec.upto bestChooseSpec)

/-- 'sandglasslaw19.BestOne', WHERE WHAT IT READS IS OF BULK AT MOST 1048576: true; the input reads as it did. -/
def bestOneUptoRow : OpenClaim := { program := "ytklpgdmcijbleaa", sum := "f3166f0cfd89ef08025c5a8b5f9af11280f6027dd013a1ba6f2529c1e9a6c904", func := "sandglass/sandglasslaw19.BestOne", spec := "bestOne", apart := false, narrowed := true }
def BestOneUptoSaid : Prop := bestOneUptoRow.holds Try.pinned (OpenSpec.upto bestOneSpec)

/-- 'sandglasslaw19.BestQuiet', WHERE WHAT IT READS IS OF BULK AT MOST 1048576: true; the input reads as it did. -/
def bestQuietUptoRow : OpenClaim := { program := "ytklpgdmcijbleaa", sum := "f3166f0cfd89ef08025c5a8b5f9af11280f6027dd013a1ba6f2529c1e9a6c904", func := "sandglass/sandglasslaw19.BestQuiet", spec := "bestQuiet", apart := false, narrowed := true }
def BestQuietUptoSaid : Prop := bestQuietUptoRow.holds Try.pinned (OpenSpec.upto bestQuietSpec)

/-- 'sandglasslaw19.BestTop', WHERE WHAT IT READS IS OF BULK AT MOST 1048576: true; the input reads as it did. -/
def bestTopUptoRow : OpenClaim := { program := "ytklpgdmcijbleaa", sum := "f3166f0cfd89ef08025c5a8b5f9af11280f6027dd013a1ba6f2529c1e9a6c904", func := "sandglass/sandglasslaw19.BestTop", spec := "bestTop", apart := false, narrowed := true }
def BestTopUptoSaid : Prop := bestTopUptoRow.holds Try.pinned (OpenSpec.upto bestTopSpec)

end Rows
end Go.Proofs.Ytklpgdmcijbleaa
