/-
  No cell of these rows narrows 'for every input' (looked for: loops, veiled, ifaces, maps, wideKeys, modest, calm, conditions, laid).
  DERIVED. THE GIVEN ROWS OF THIS SEAT. 6 by the template 'for every input the law returns true; each argument reads behind the call as it read before'; 0 by the template 'total and deterministic' (their statements: YtaegngcbiefckaaTotals.lean).
  GIVEN WITH THE SEED: the statements are not yours to turn. If you find one false, say at which input.
  Laid BY PROGRAM, IN A SANDBOX (cutbox-rows.mjs): the forced cells as the released guide's own fill.sh prints them over the translation aabdb17719cc163c… (all of the seat's roots in one cut). By AI agents, Wed Nov 11 2026. No macro, syntax, notation, axiom, sorry.
-/
import Derived.Test.YtaegngcbiefckaaChecked
import GoSem.Claim
import GoSem.ClaimJoined
import GoSem.ClaimMapViews
import Derived.JoinedTies
import Derived.KernelRfl
namespace Go.Proofs.Ytaegngcbiefckaa
/- THE CELL 'sum', in the pinned program and in every row, IS THE sha256 OF THE DUMP (.gsa) THAT YtaegngcbiefckaaProg.lean LOADS. Nothing in Lean hashes anything: it is a label: what it is worth is what the hold of that sum in a sandbox is worth. -/
noncomputable def Try.pinned : Pinned := { name := "ytaegngcbiefckaa", sum := "aabdb17719cc163ceb02e25893b93cbc64538009eb54f6f8ecbf3fa636ee52cd", checked := Try.checked }
namespace Rows
def none {H : Type} : Left H := { results := [], args := [] }

/-- 'sandglasslaw22.PlanMakes': WHATEVER THE INPUT: true; the input reads as it did. -/
def planMakesSpec : ChangeSpec := { name := "planMakes", fn := fun _ => fun
  | [d] => { results := [.lit (.bool true)], args := [d] }
  | _ => none }
def planMakesRow : OpenClaim := { program := "ytaegngcbiefckaa", sum := "aabdb17719cc163ceb02e25893b93cbc64538009eb54f6f8ecbf3fa636ee52cd", func := "sandglass/sandglasslaw22.PlanMakes", spec := "planMakes", unfollowed := true, recurses := true, plainKeys := false, apart := false }
def PlanMakesSaid : Prop := planMakesRow.holds Try.pinned (OpenSpec.ofChange planMakesSpec)

/-- ITS FALSE NEIGHBOUR: 'it returns false'. Refute it at one input. -/
def planMakesWrong : ChangeSpec := { name := "planMakes", fn := fun _ => fun
  | [d] => { results := [.lit (.bool false)], args := [d] }
  | _ => none }
def PlanMakesWrongFalsely : Prop := planMakesRow.holds Try.pinned (OpenSpec.ofChange planMakesWrong)

/-- 'sandglasslaw22.PlanNamed': WHATEVER THE INPUT: true; the input reads as it did. -/
def planNamedSpec : ChangeSpec := { name := "planNamed", fn := fun _ => fun
  | [d1, d2] => { results := [.lit (.bool true)], args := [d1, d2] }
  | _ => none }
def planNamedRow : OpenClaim := { program := "ytaegngcbiefckaa", sum := "aabdb17719cc163ceb02e25893b93cbc64538009eb54f6f8ecbf3fa636ee52cd", func := "sandglass/sandglasslaw22.PlanNamed", spec := "planNamed", unfollowed := true, recurses := true, plainKeys := false, apart := false }
def PlanNamedSaid : Prop := planNamedRow.holds Try.pinned (OpenSpec.ofChange planNamedSpec)

/-- ITS FALSE NEIGHBOUR: 'it returns false'. Refute it at one input. -/
def planNamedWrong : ChangeSpec := { name := "planNamed", fn := fun _ => fun
  | [d1, d2] => { results := [.lit (.bool false)], args := [d1, d2] }
  | _ => none }
def PlanNamedWrongFalsely : Prop := planNamedRow.holds Try.pinned (OpenSpec.ofChange planNamedWrong)

/-- 'sandglasslaw22.PlanWider': WHATEVER THE INPUT: true; the input reads as it did. -/
def planWiderSpec : ChangeSpec := { name := "planWider", fn := fun _ => fun
  | [d1, d2, d3] => { results := [.lit (.bool true)], args := [d1, d2, d3] }
  | _ => none }
def planWiderRow : OpenClaim := { program := "ytaegngcbiefckaa", sum := "aabdb17719cc163ceb02e25893b93cbc64538009eb54f6f8ecbf3fa636ee52cd", func := "sandglass/sandglasslaw22.PlanWider", spec := "planWider", unfollowed := true, recurses := true, plainKeys := false, apart := false }
def PlanWiderSaid : Prop := planWiderRow.holds Try.pinned (OpenSpec.ofChange planWiderSpec)

/-- ITS FALSE NEIGHBOUR: 'it returns false'. Refute it at one input. -/
def planWiderWrong : ChangeSpec := { name := "planWider", fn := fun _ => fun
  | [d1, d2, d3] => { results := [.lit (.bool false)], args := [d1, d2, d3] }
  | _ => none }
def PlanWiderWrongFalsely : Prop := planWiderRow.holds Try.pinned (OpenSpec.ofChange planWiderWrong)

/-- 'sandglasslaw22.PlanLess': WHATEVER THE INPUT: true; the input reads as it did. -/
def planLessSpec : ChangeSpec := { name := "planLess", fn := fun _ => fun
  | [d1, d2] => { results := [.lit (.bool true)], args := [d1, d2] }
  | _ => none }
def planLessRow : OpenClaim := { program := "ytaegngcbiefckaa", sum := "aabdb17719cc163ceb02e25893b93cbc64538009eb54f6f8ecbf3fa636ee52cd", func := "sandglass/sandglasslaw22.PlanLess", spec := "planLess", unfollowed := true, recurses := true, plainKeys := false, apart := false }
def PlanLessSaid : Prop := planLessRow.holds Try.pinned (OpenSpec.ofChange planLessSpec)

/-- ITS FALSE NEIGHBOUR: 'it returns false'. Refute it at one input. -/
def planLessWrong : ChangeSpec := { name := "planLess", fn := fun _ => fun
  | [d1, d2] => { results := [.lit (.bool false)], args := [d1, d2] }
  | _ => none }
def PlanLessWrongFalsely : Prop := planLessRow.holds Try.pinned (OpenSpec.ofChange planLessWrong)

/-- 'sandglasslaw22.PlanLater': WHATEVER THE INPUT: true; the input reads as it did. -/
def planLaterSpec : ChangeSpec := { name := "planLater", fn := fun _ => fun
  | [d1, d2, d3] => { results := [.lit (.bool true)], args := [d1, d2, d3] }
  | _ => none }
def planLaterRow : OpenClaim := { program := "ytaegngcbiefckaa", sum := "aabdb17719cc163ceb02e25893b93cbc64538009eb54f6f8ecbf3fa636ee52cd", func := "sandglass/sandglasslaw22.PlanLater", spec := "planLater", unfollowed := true, recurses := true, plainKeys := false, apart := false }
def PlanLaterSaid : Prop := planLaterRow.holds Try.pinned (OpenSpec.ofChange planLaterSpec)

/-- ITS FALSE NEIGHBOUR: 'it returns false'. Refute it at one input. -/
def planLaterWrong : ChangeSpec := { name := "planLater", fn := fun _ => fun
  | [d1, d2, d3] => { results := [.lit (.bool false)], args := [d1, d2, d3] }
  | _ => none }
def PlanLaterWrongFalsely : Prop := planLaterRow.holds Try.pinned (OpenSpec.ofChange planLaterWrong)

/-- 'sandglasslaw22.PlanTimes': WHATEVER THE INPUT: true; the input reads as it did. -/
def planTimesSpec : ChangeSpec := { name := "planTimes", fn := fun _ => fun
  | [d1, d2, d3, d4, d5, d6] => { results := [.lit (.bool true)], args := [d1, d2, d3, d4, d5, d6] }
  | _ => none }
def planTimesRow : OpenClaim := { program := "ytaegngcbiefckaa", sum := "aabdb17719cc163ceb02e25893b93cbc64538009eb54f6f8ecbf3fa636ee52cd", func := "sandglass/sandglasslaw22.PlanTimes", spec := "planTimes", unfollowed := true, recurses := true, plainKeys := false, apart := false }
def PlanTimesSaid : Prop := planTimesRow.holds Try.pinned (OpenSpec.ofChange planTimesSpec)

/-- ITS FALSE NEIGHBOUR: 'it returns false'. Refute it at one input. -/
def planTimesWrong : ChangeSpec := { name := "planTimes", fn := fun _ => fun
  | [d1, d2, d3, d4, d5, d6] => { results := [.lit (.bool false)], args := [d1, d2, d3, d4, d5, d6] }
  | _ => none }
def PlanTimesWrongFalsely : Prop := planTimesRow.holds Try.pinned (OpenSpec.ofChange planTimesWrong)

/- THE SECOND FORM. 'bulk': how many values and letters a reading holds, each counted each time it is reached (what is shared counts as often as it is met; a slice's spare places count too). A statement '..UptoSaid' is the law's where the arguments, and the package variables that the reading takes, are together of bulk at most 1048576: NARROWER than '..Said'. Prove '..Said' where nothing that the law and all that it calls make is longer than what came in: it says more and counts as full. Else prove '..UptoSaid'. A law counts once. -/
mutual
def uptoBulk {H : Type} : DataW H → Nat
  | .lit (.string bytes) => bytes.length + 1
  | .lit _ => 1
  | .nil => 1
  | .ptr d => uptoBulk d + 1
  | .slice elems spare => uptoBulkAll elems + uptoBulkAll spare + 1
  | .agg parts => uptoBulkAll parts + 1
  | .iface _ d => uptoBulk d + 1
  | .map entries => uptoBulkEntries entries + 1
  | .held _ => 1
def uptoBulkAll {H : Type} : List (DataW H) → Nat
  | [] => 0
  | d :: r => uptoBulk d + uptoBulkAll r
def uptoBulkEntries {H : Type} : List (Lit × DataW H) → Nat
  | [] => 0
  | x :: r => uptoBulkEntry x + uptoBulkEntries r
def uptoBulkEntry {H : Type} : Lit × DataW H → Nat
  | (.string bytes, d) => bytes.length + uptoBulk d + 1
  | (_, d) => uptoBulk d + 1
 end
def uptoSmall : (H : Type) → List (DataW H) → Bool := fun _ ds => decide (uptoBulkAll ds ≤ 1048576)
def OpenSpec.upto (s : _root_.Go.ChangeSpec) : _root_.Go.OpenSpec := { _root_.Go.OpenSpec.ofChange s with cond := some uptoSmall }

/-- 'sandglasslaw22.PlanMakes', WHERE WHAT IT READS IS OF BULK AT MOST 1048576: true; the input reads as it did. -/
def planMakesUptoRow : OpenClaim := { program := "ytaegngcbiefckaa", sum := "aabdb17719cc163ceb02e25893b93cbc64538009eb54f6f8ecbf3fa636ee52cd", func := "sandglass/sandglasslaw22.PlanMakes", spec := "planMakes", unfollowed := true, recurses := true, plainKeys := false, apart := false, narrowed := true }
def PlanMakesUptoSaid : Prop := planMakesUptoRow.holds Try.pinned (OpenSpec.upto planMakesSpec)

/-- 'sandglasslaw22.PlanNamed', WHERE WHAT IT READS IS OF BULK AT MOST 1048576: true; the input reads as it did. -/
def planNamedUptoRow : OpenClaim := { program := "ytaegngcbiefckaa", sum := "aabdb17719cc163ceb02e25893b93cbc64538009eb54f6f8ecbf3fa636ee52cd", func := "sandglass/sandglasslaw22.PlanNamed", spec := "planNamed", unfollowed := true, recurses := true, plainKeys := false, apart := false, narrowed := true }
def PlanNamedUptoSaid : Prop := planNamedUptoRow.holds Try.pinned (OpenSpec.upto planNamedSpec)

/-- 'sandglasslaw22.PlanWider', WHERE WHAT IT READS IS OF BULK AT MOST 1048576: true; the input reads as it did. -/
def planWiderUptoRow : OpenClaim := { program := "ytaegngcbiefckaa", sum := "aabdb17719cc163ceb02e25893b93cbc64538009eb54f6f8ecbf3fa636ee52cd", func := "sandglass/sandglasslaw22.PlanWider", spec := "planWider", unfollowed := true, recurses := true, plainKeys := false, apart := false, narrowed := true }
def PlanWiderUptoSaid : Prop := planWiderUptoRow.holds Try.pinned (OpenSpec.upto planWiderSpec)

/-- 'sandglasslaw22.PlanLess', WHERE WHAT IT READS IS OF BULK AT MOST 1048576: true; the input reads as it did. -/
def planLessUptoRow : OpenClaim := { program := "ytaegngcbiefckaa", sum := "aabdb17719cc163ceb02e25893b93cbc64538009eb54f6f8ecbf3fa636ee52cd", func := "sandglass/sandglasslaw22.PlanLess", spec := "planLess", unfollowed := true, recurses := true, plainKeys := false, apart := false, narrowed := true }
def PlanLessUptoSaid : Prop := planLessUptoRow.holds Try.pinned (OpenSpec.upto planLessSpec)

/-- 'sandglasslaw22.PlanLater', WHERE WHAT IT READS IS OF BULK AT MOST 1048576: true; the input reads as it did. -/
def planLaterUptoRow : OpenClaim := { program := "ytaegngcbiefckaa", sum := "aabdb17719cc163ceb02e25893b93cbc64538009eb54f6f8ecbf3fa636ee52cd", func := "sandglass/sandglasslaw22.PlanLater", spec := "planLater", unfollowed := true, recurses := true, plainKeys := false, apart := false, narrowed := true }
def PlanLaterUptoSaid : Prop := planLaterUptoRow.holds Try.pinned (OpenSpec.upto planLaterSpec)

/-- 'sandglasslaw22.PlanTimes', WHERE WHAT IT READS IS OF BULK AT MOST 1048576: true; the input reads as it did. -/
def planTimesUptoRow : OpenClaim := { program := "ytaegngcbiefckaa", sum := "aabdb17719cc163ceb02e25893b93cbc64538009eb54f6f8ecbf3fa636ee52cd", func := "sandglass/sandglasslaw22.PlanTimes", spec := "planTimes", unfollowed := true, recurses := true, plainKeys := false, apart := false, narrowed := true }
def PlanTimesUptoSaid : Prop := planTimesUptoRow.holds Try.pinned (OpenSpec.upto planTimesSpec)

end Rows
end Go.Proofs.Ytaegngcbiefckaa
