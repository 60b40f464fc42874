/-
  No cell of these rows narrows 'for every input' (looked for: loops, veiled, ifaces, maps, wideKeys, modest, calm, conditions, laid).
  DERIVED. THE GIVEN ROWS OF THIS SEAT. 5 by the template 'for every input the law returns true; each argument reads behind the call as it read before'; 0 by the template 'total and deterministic' (their statements: YtkocedbpnpclcaaTotals.lean).
  GIVEN WITH THE SEED: the statements are not yours to turn. If you find one false, say at which input.
  Laid BY PROGRAM, IN A SANDBOX (cutbox-rows.mjs): the forced cells as the released guide's own fill.sh prints them over the translation 97cfe846276b3617… (all of the seat's roots in one cut). By AI agents, Wed Nov 11 2026. No macro, syntax, notation, axiom, sorry.
-/
import Derived.Test.YtkocedbpnpclcaaChecked
import GoSem.Claim
import GoSem.ClaimJoined
import GoSem.ClaimMapViews
import Derived.JoinedTies
import Derived.KernelRfl
namespace Go.Proofs.Ytkocedbpnpclcaa
/- THE CELL 'sum', in the pinned program and in every row, IS THE sha256 OF THE DUMP (.gsa) THAT YtkocedbpnpclcaaProg.lean LOADS. Nothing in Lean hashes anything: it is a label: what it is worth is what the hold of that sum in a sandbox is worth. -/
noncomputable def Try.pinned : Pinned := { name := "ytkocedbpnpclcaa", sum := "97cfe846276b3617700c2d72b9bdd37285acea725ae507dcfd7883557cca79b6", checked := Try.checked }
namespace Rows
def none {H : Type} : Left H := { results := [], args := [] }

/-- 'sandglasslaw08.AgendaSorts': WHATEVER THE INPUT: true; the input reads as it did. -/
def agendaSortsSpec : ChangeSpec := { name := "agendaSorts", fn := fun _ => fun
  | [d] => { results := [.lit (.bool true)], args := [d] }
  | _ => none }
def agendaSortsRow : OpenClaim := { program := "ytkocedbpnpclcaa", sum := "97cfe846276b3617700c2d72b9bdd37285acea725ae507dcfd7883557cca79b6", func := "sandglass/sandglasslaw08.AgendaSorts", spec := "agendaSorts", unfollowed := true, recurses := true, apart := false }
def AgendaSortsSaid : Prop := agendaSortsRow.holds Try.pinned (OpenSpec.ofChange agendaSortsSpec)

/-- ITS FALSE NEIGHBOUR: 'it returns false'. Refute it at one input. -/
def agendaSortsWrong : ChangeSpec := { name := "agendaSorts", fn := fun _ => fun
  | [d] => { results := [.lit (.bool false)], args := [d] }
  | _ => none }
def AgendaSortsWrongFalsely : Prop := agendaSortsRow.holds Try.pinned (OpenSpec.ofChange agendaSortsWrong)

/-- 'sandglasslaw08.AgendaWaits': WHATEVER THE INPUT: true; the input reads as it did. -/
def agendaWaitsSpec : ChangeSpec := { name := "agendaWaits", fn := fun _ => fun
  | [d1, d2] => { results := [.lit (.bool true)], args := [d1, d2] }
  | _ => none }
def agendaWaitsRow : OpenClaim := { program := "ytkocedbpnpclcaa", sum := "97cfe846276b3617700c2d72b9bdd37285acea725ae507dcfd7883557cca79b6", func := "sandglass/sandglasslaw08.AgendaWaits", spec := "agendaWaits", unfollowed := true, recurses := true, apart := false }
def AgendaWaitsSaid : Prop := agendaWaitsRow.holds Try.pinned (OpenSpec.ofChange agendaWaitsSpec)

/-- ITS FALSE NEIGHBOUR: 'it returns false'. Refute it at one input. -/
def agendaWaitsWrong : ChangeSpec := { name := "agendaWaits", fn := fun _ => fun
  | [d1, d2] => { results := [.lit (.bool false)], args := [d1, d2] }
  | _ => none }
def AgendaWaitsWrongFalsely : Prop := agendaWaitsRow.holds Try.pinned (OpenSpec.ofChange agendaWaitsWrong)

/-- 'sandglasslaw08.AgendaDrops': WHATEVER THE INPUT: true; the input reads as it did. -/
def agendaDropsSpec : ChangeSpec := { name := "agendaDrops", fn := fun _ => fun
  | [d1, d2] => { results := [.lit (.bool true)], args := [d1, d2] }
  | _ => none }
def agendaDropsRow : OpenClaim := { program := "ytkocedbpnpclcaa", sum := "97cfe846276b3617700c2d72b9bdd37285acea725ae507dcfd7883557cca79b6", func := "sandglass/sandglasslaw08.AgendaDrops", spec := "agendaDrops", unfollowed := true, recurses := true, apart := false }
def AgendaDropsSaid : Prop := agendaDropsRow.holds Try.pinned (OpenSpec.ofChange agendaDropsSpec)

/-- ITS FALSE NEIGHBOUR: 'it returns false'. Refute it at one input. -/
def agendaDropsWrong : ChangeSpec := { name := "agendaDrops", fn := fun _ => fun
  | [d1, d2] => { results := [.lit (.bool false)], args := [d1, d2] }
  | _ => none }
def AgendaDropsWrongFalsely : Prop := agendaDropsRow.holds Try.pinned (OpenSpec.ofChange agendaDropsWrong)

/-- 'sandglasslaw08.AgendaRuns': WHATEVER THE INPUT: true; the input reads as it did. -/
def agendaRunsSpec : ChangeSpec := { name := "agendaRuns", fn := fun _ => fun
  | [d] => { results := [.lit (.bool true)], args := [d] }
  | _ => none }
def agendaRunsRow : OpenClaim := { program := "ytkocedbpnpclcaa", sum := "97cfe846276b3617700c2d72b9bdd37285acea725ae507dcfd7883557cca79b6", func := "sandglass/sandglasslaw08.AgendaRuns", spec := "agendaRuns", unfollowed := true, recurses := true, apart := false }
def AgendaRunsSaid : Prop := agendaRunsRow.holds Try.pinned (OpenSpec.ofChange agendaRunsSpec)

/-- ITS FALSE NEIGHBOUR: 'it returns false'. Refute it at one input. -/
def agendaRunsWrong : ChangeSpec := { name := "agendaRuns", fn := fun _ => fun
  | [d] => { results := [.lit (.bool false)], args := [d] }
  | _ => none }
def AgendaRunsWrongFalsely : Prop := agendaRunsRow.holds Try.pinned (OpenSpec.ofChange agendaRunsWrong)

/-- 'sandglasslaw08.AgendaFull': WHATEVER THE INPUT: true; the input reads as it did. -/
def agendaFullSpec : ChangeSpec := { name := "agendaFull", fn := fun _ => fun
  | [d] => { results := [.lit (.bool true)], args := [d] }
  | _ => none }
def agendaFullRow : OpenClaim := { program := "ytkocedbpnpclcaa", sum := "97cfe846276b3617700c2d72b9bdd37285acea725ae507dcfd7883557cca79b6", func := "sandglass/sandglasslaw08.AgendaFull", spec := "agendaFull", unfollowed := true, recurses := true, apart := false }
def AgendaFullSaid : Prop := agendaFullRow.holds Try.pinned (OpenSpec.ofChange agendaFullSpec)

/-- ITS FALSE NEIGHBOUR: 'it returns false'. Refute it at one input. -/
def agendaFullWrong : ChangeSpec := { name := "agendaFull", fn := fun _ => fun
  | [d] => { results := [.lit (.bool false)], args := [d] }
  | _ => none }
def AgendaFullWrongFalsely : Prop := agendaFullRow.holds Try.pinned (OpenSpec.ofChange agendaFullWrong)

/- THE SECOND FORM. 'bulk': how many values and letters a reading holds, each counted each time it is reached (what is shared counts as often as it is met; a slice's spare places count too). A statement '..UptoSaid' is the law's where the arguments, and the package variables that the reading takes, are together of bulk at most 1048576: NARROWER than '..Said'. Prove '..Said' where nothing that the law and all that it calls make is longer than what came in: it says more and counts as full. Else prove '..UptoSaid'. A law counts once. -/
mutual
def uptoBulk {H : Type} : DataW H → Nat
  | .lit (.string bytes) => bytes.length + 1
  | .lit _ => 1
  | .nil => 1
  | .ptr d => uptoBulk d + 1
  | .slice elems spare => uptoBulkAll elems + uptoBulkAll spare + 1
  | .agg parts => uptoBulkAll parts + 1
  | .iface _ d => uptoBulk d + 1
  | .map entries => uptoBulkEntries entries + 1
  | .held _ => 1
def uptoBulkAll {H : Type} : List (DataW H) → Nat
  | [] => 0
  | d :: r => uptoBulk d + uptoBulkAll r
def uptoBulkEntries {H : Type} : List (Lit × DataW H) → Nat
  | [] => 0
  | x :: r => uptoBulkEntry x + uptoBulkEntries r
def uptoBulkEntry {H : Type} : Lit × DataW H → Nat
  | (.string bytes, d) => bytes.length + uptoBulk d + 1
  | (_, d) => uptoBulk d + 1
 end
def uptoSmall : (H : Type) → List (DataW H) → Bool := fun _ ds => decide (uptoBulkAll ds ≤ 1048576)
def OpenSpec.upto (s : _root_.Go.ChangeSpec) : _root_.Go.OpenSpec := { _root_.Go.OpenSpec.ofChange s with cond := some uptoSmall }

/-- 'sandglasslaw08.AgendaSorts', WHERE WHAT IT READS IS OF BULK AT MOST 1048576: true; the input reads as it did. -/
def agendaSortsUptoRow : OpenClaim := { program := "ytkocedbpnpclcaa", sum := "97cfe846276b3617700c2d72b9bdd37285acea725ae507dcfd7883557cca79b6", func := "sandglass/sandglasslaw08.AgendaSorts", spec := "agendaSorts", unfollowed := true, recurses := true, apart := false, narrowed := true }
def AgendaSortsUptoSaid : Prop := agendaSortsUptoRow.holds Try.pinned (OpenSpec.upto agendaSortsSpec)

/-- 'sandglasslaw08.AgendaWaits', WHERE WHAT IT READS IS OF BULK AT MOST 1048576: true; the input reads as it did. -/
def agendaWaitsUptoRow : OpenClaim := { program := "ytkocedbpnpclcaa", sum := "97cfe846276b3617700c2d72b9bdd37285acea725ae507dcfd7883557cca79b6", func := "sandglass/sandglasslaw08.AgendaWaits", spec := "agendaWaits", unfollowed := true, recurses := true, apart := false, narrowed := true }
def AgendaWaitsUptoSaid : Prop := agendaWaitsUptoRow.holds Try.pinned (OpenSpec.upto agendaWaitsSpec)

/-- 'sandglasslaw08.AgendaDrops', WHERE WHAT IT READS IS OF BULK AT MOST 1048576: true; the input reads as it did. -/
def agendaDropsUptoRow : OpenClaim := { program := "ytkocedbpnpclcaa", sum := "97cfe846276b3617700c2d72b9bdd37285acea725ae507dcfd7883557cca79b6", func := "sandglass/sandglasslaw08.AgendaDrops", spec := "agendaDrops", unfollowed := true, recurses := true, apart := false, narrowed := true }
def AgendaDropsUptoSaid : Prop := agendaDropsUptoRow.holds Try.pinned (OpenSpec.upto agendaDropsSpec)

/-- 'sandglasslaw08.AgendaRuns', WHERE WHAT IT READS IS OF BULK AT MOST 1048576: true; the input reads as it did. -/
def agendaRunsUptoRow : OpenClaim := { program := "ytkocedbpnpclcaa", sum := "97cfe846276b3617700c2d72b9bdd37285acea725ae507dcfd7883557cca79b6", func := "sandglass/sandglasslaw08.AgendaRuns", spec := "agendaRuns", unfollowed := true, recurses := true, apart := false, narrowed := true }
def AgendaRunsUptoSaid : Prop := agendaRunsUptoRow.holds Try.pinned (OpenSpec.upto agendaRunsSpec)

/-- 'sandglasslaw08.AgendaFull', WHERE WHAT IT READS IS OF BULK AT MOST 1048576: true; the input reads as it did. -/
def agendaFullUptoRow : OpenClaim := { program := "ytkocedbpnpclcaa", sum := "97cfe846276b3617700c2d72b9bdd37285acea725ae507dcfd7883557cca79b6", func := "sandglass/sandglasslaw08.AgendaFull", spec := "agendaFull", unfollowed := true, recurses := true, apart := false, narrowed := true }
def AgendaFullUptoSaid : Prop := agendaFullUptoRow.holds Try.pinned (OpenSpec.upto agendaFullSpec)

end Rows
end Go.Proofs.Ytkocedbpnpclcaa
