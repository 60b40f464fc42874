/-
  No cell of these rows narrows 'for every input' (looked for: loops, veiled, ifaces, maps, wideKeys, modest, calm, conditions, laid).
  DERIVED. THE GIVEN ROWS OF THIS SEAT. 3 by the template 'for every input the law returns true; each argument reads behind the call as it read before'; 0 by the template 'total and deterministic' (their statements: YthhlfojaloaooaaGreatTotals.lean).
  GIVEN WITH THE SEED: the statements are not yours to turn. If you find one false, say at which input.
  Laid BY PROGRAM, IN A SANDBOX (cutbox-rows.mjs): the forced cells as the released guide's own fill.sh prints them over the translation e1047d79ad9ff06b… (all of the seat's roots in one cut). By AI agents, Wed Nov 11 2026. No macro, syntax, notation, axiom, sorry.
-/
import Derived.Test.YthhlfojaloaooaaGreatChecked
import GoSem.Claim
import GoSem.ClaimJoined
import GoSem.ClaimMapViews
import Derived.JoinedTies
import Derived.KernelRfl
namespace Go.Proofs.YthhlfojaloaooaaGreat
/- THE CELL 'sum', in the pinned program and in every row, IS THE sha256 OF THE DUMP (.gsa) THAT YthhlfojaloaooaaGreatProg.lean LOADS. Nothing in Lean hashes anything: it is a label: what it is worth is what the hold of that sum in a sandbox is worth. -/
noncomputable def Tryz.pinned : Pinned := { name := "ythhlfojaloaooaagreat", sum := "e1047d79ad9ff06b5e404fb9ed67ecf0617edb69331f74fef0498be251619fa4", checked := Tryz.checked }
namespace Rows
def none {H : Type} : Left H := { results := [], args := [] }

/-- 'sandglasslaw24.HostNumbers': WHATEVER THE INPUT: true; the input reads as it did. -/
def hostNumbersSpec : ChangeSpec := { name := "hostNumbers", fn := fun _ => fun
  | [d1, d2] => { results := [.lit (.bool true)], args := [d1, d2] }
  | _ => none }
def hostNumbersRow : OpenClaim := { program := "ythhlfojaloaooaagreat", sum := "e1047d79ad9ff06b5e404fb9ed67ecf0617edb69331f74fef0498be251619fa4", func := "sandglass/sandglasslaw24.HostNumbers", spec := "hostNumbers", inPlace := ["math/bits.Add64"], unfollowed := true, recurses := true, named := ["math/bits.divideError", "math/bits.overflowError"], plainKeys := false, apart := false }
def HostNumbersSaid : Prop := hostNumbersRow.holds Tryz.pinned (OpenSpec.ofChange hostNumbersSpec)

/-- ITS FALSE NEIGHBOUR: 'it returns false'. Refute it at one input. -/
def hostNumbersWrong : ChangeSpec := { name := "hostNumbers", fn := fun _ => fun
  | [d1, d2] => { results := [.lit (.bool false)], args := [d1, d2] }
  | _ => none }
def HostNumbersWrongFalsely : Prop := hostNumbersRow.holds Tryz.pinned (OpenSpec.ofChange hostNumbersWrong)

/-- 'sandglasslaw24.HostReset': WHATEVER THE INPUT: true; the input reads as it did. -/
def hostResetSpec : ChangeSpec := { name := "hostReset", fn := fun _ => fun
  | [d1, d2, d3] => { results := [.lit (.bool true)], args := [d1, d2, d3] }
  | _ => none }
def hostResetRow : OpenClaim := { program := "ythhlfojaloaooaagreat", sum := "e1047d79ad9ff06b5e404fb9ed67ecf0617edb69331f74fef0498be251619fa4", func := "sandglass/sandglasslaw24.HostReset", spec := "hostReset", inPlace := ["math/bits.Add64"], unfollowed := true, recurses := true, named := ["math/bits.divideError", "math/bits.overflowError"], plainKeys := false, apart := false }
def HostResetSaid : Prop := hostResetRow.holds Tryz.pinned (OpenSpec.ofChange hostResetSpec)

/-- ITS FALSE NEIGHBOUR: 'it returns false'. Refute it at one input. -/
def hostResetWrong : ChangeSpec := { name := "hostReset", fn := fun _ => fun
  | [d1, d2, d3] => { results := [.lit (.bool false)], args := [d1, d2, d3] }
  | _ => none }
def HostResetWrongFalsely : Prop := hostResetRow.holds Tryz.pinned (OpenSpec.ofChange hostResetWrong)

/-- 'sandglasslaw24.HostChecks': WHATEVER THE INPUT: true; the input reads as it did. -/
def hostChecksSpec : ChangeSpec := { name := "hostChecks", fn := fun _ => fun
  | [d1, d2, d3, d4, d5] => { results := [.lit (.bool true)], args := [d1, d2, d3, d4, d5] }
  | _ => none }
def hostChecksRow : OpenClaim := { program := "ythhlfojaloaooaagreat", sum := "e1047d79ad9ff06b5e404fb9ed67ecf0617edb69331f74fef0498be251619fa4", func := "sandglass/sandglasslaw24.HostChecks", spec := "hostChecks", inPlace := ["math/bits.Add64"], unfollowed := true, recurses := true, named := ["math/bits.divideError", "math/bits.overflowError"], plainKeys := false, apart := false }
def HostChecksSaid : Prop := hostChecksRow.holds Tryz.pinned (OpenSpec.ofChange hostChecksSpec)

/-- ITS FALSE NEIGHBOUR: 'it returns false'. Refute it at one input. -/
def hostChecksWrong : ChangeSpec := { name := "hostChecks", fn := fun _ => fun
  | [d1, d2, d3, d4, d5] => { results := [.lit (.bool false)], args := [d1, d2, d3, d4, d5] }
  | _ => none }
def HostChecksWrongFalsely : Prop := hostChecksRow.holds Tryz.pinned (OpenSpec.ofChange hostChecksWrong)

/- THE SECOND FORM. 'bulk': how many values and letters a reading holds, each counted each time it is reached (what is shared counts as often as it is met; a slice's spare places count too). A statement '..UptoSaid' is the law's where the arguments, and the package variables that the reading takes, are together of bulk at most 1048576: NARROWER than '..Said'. Prove '..Said' where nothing that the law and all that it calls make is longer than what came in: it says more and counts as full. Else prove '..UptoSaid'. A law counts once. -/
mutual
def uptoBulk {H : Type} : DataW H → Nat
  | .lit (.string bytes) => bytes.length + 1
  | .lit _ => 1
  | .nil => 1
  | .ptr d => uptoBulk d + 1
  | .slice elems spare => uptoBulkAll elems + uptoBulkAll spare + 1
  | .agg parts => uptoBulkAll parts + 1
  | .iface _ d => uptoBulk d + 1
  | .map entries => uptoBulkEntries entries + 1
  | .held _ => 1
def uptoBulkAll {H : Type} : List (DataW H) → Nat
  | [] => 0
  | d :: r => uptoBulk d + uptoBulkAll r
def uptoBulkEntries {H : Type} : List (Lit × DataW H) → Nat
  | [] => 0
  | x :: r => uptoBulkEntry x + uptoBulkEntries r
def uptoBulkEntry {H : Type} : Lit × DataW H → Nat
  | (.string bytes, d) => bytes.length + uptoBulk d + 1
  | (_, d) => uptoBulk d + 1
 end
def uptoSmall : (H : Type) → List (DataW H) → Bool := fun _ ds => decide (uptoBulkAll ds ≤ 1048576)
def OpenSpec.upto (s : _root_.Go.ChangeSpec) : _root_.Go.OpenSpec := { _root_.Go.OpenSpec.ofChange s with cond := some uptoSmall }

/-- 'sandglasslaw24.HostNumbers', WHERE WHAT IT READS IS OF BULK AT MOST 1048576: true; the input reads as it did. -/
def hostNumbersUptoRow : OpenClaim := { program := "ythhlfojaloaooaagreat", sum := "e1047d79ad9ff06b5e404fb9ed67ecf0617edb69331f74fef0498be251619fa4", func := "sandglass/sandglasslaw24.HostNumbers", spec := "hostNumbers", inPlace := ["math/bits.Add64"], unfollowed := true, recurses := true, named := ["math/bits.divideError", "math/bits.overflowError"], plainKeys := false, apart := false, narrowed := true }
def HostNumbersUptoSaid : Prop := hostNumbersUptoRow.holds Tryz.pinned (OpenSpec.upto hostNumbersSpec)

/-- 'sandglasslaw24.HostReset', WHERE WHAT IT READS IS OF BULK AT MOST 1048576: true; the input reads as it did. -/
def hostResetUptoRow : OpenClaim := { program := "ythhlfojaloaooaagreat", sum := "e1047d79ad9ff06b5e404fb9ed67ecf0617edb69331f74fef0498be251619fa4", func := "sandglass/sandglasslaw24.HostReset", spec := "hostReset", inPlace := ["math/bits.Add64"], unfollowed := true, recurses := true, named := ["math/bits.divideError", "math/bits.overflowError"], plainKeys := false, apart := false, narrowed := true }
def HostResetUptoSaid : Prop := hostResetUptoRow.holds Tryz.pinned (OpenSpec.upto hostResetSpec)

/-- 'sandglasslaw24.HostChecks', WHERE WHAT IT READS IS OF BULK AT MOST 1048576: true; the input reads as it did. -/
def hostChecksUptoRow : OpenClaim := { program := "ythhlfojaloaooaagreat", sum := "e1047d79ad9ff06b5e404fb9ed67ecf0617edb69331f74fef0498be251619fa4", func := "sandglass/sandglasslaw24.HostChecks", spec := "hostChecks", inPlace := ["math/bits.Add64"], unfollowed := true, recurses := true, named := ["math/bits.divideError", "math/bits.overflowError"], plainKeys := false, apart := false, narrowed := true }
def HostChecksUptoSaid : Prop := hostChecksUptoRow.holds Tryz.pinned (OpenSpec.upto hostChecksSpec)

end Rows
end Go.Proofs.YthhlfojaloaooaaGreat
