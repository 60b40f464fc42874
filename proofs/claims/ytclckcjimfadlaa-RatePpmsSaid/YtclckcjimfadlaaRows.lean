/-
  No cell of these rows narrows 'for every input' (looked for: loops, veiled, ifaces, maps, wideKeys, modest, calm, conditions, laid).
  DERIVED. THE GIVEN ROWS OF THIS SEAT. 7 by the template 'for every input the law returns true; each argument reads behind the call as it read before'; 0 by the template 'total and deterministic' (their statements: YtclckcjimfadlaaTotals.lean).
  GIVEN WITH THE SEED: the statements are not yours to turn. If you find one false, say at which input.
  Laid BY PROGRAM, IN A SANDBOX (cutbox-rows.mjs): the forced cells as the released guide's own fill.sh prints them over the translation 67b8b3f7c4b11abd… (all of the seat's roots in one cut). By AI agents, Wed Nov 11 2026. No macro, syntax, notation, axiom, sorry.
-/
import Derived.Test.YtclckcjimfadlaaChecked
import GoSem.Claim
import GoSem.ClaimJoined
import GoSem.ClaimMapViews
import Derived.JoinedTies
import Derived.KernelRfl
namespace Go.Proofs.Ytclckcjimfadlaa
/- THE CELL 'sum', in the pinned program and in every row, IS THE sha256 OF THE DUMP (.gsa) THAT YtclckcjimfadlaaProg.lean LOADS. Nothing in Lean hashes anything: it is a label: what it is worth is what the hold of that sum in a sandbox is worth. -/
noncomputable def Try.pinned : Pinned := { name := "ytclckcjimfadlaa", sum := "67b8b3f7c4b11abd615a3ab74f2d47a580f865fdc2fe6da13391cd2c071599e6", checked := Try.checked }
namespace Rows
def none {H : Type} : Left H := { results := [], args := [] }

/-- 'sandglasslaw02.RateEnds': WHATEVER THE INPUT: true; the input reads as it did. -/
def rateEndsSpec : ChangeSpec := { name := "rateEnds", fn := fun _ => fun
  | [d] => { results := [.lit (.bool true)], args := [d] }
  | _ => none }
def rateEndsRow : OpenClaim := { program := "ytclckcjimfadlaa", sum := "67b8b3f7c4b11abd615a3ab74f2d47a580f865fdc2fe6da13391cd2c071599e6", func := "sandglass/sandglasslaw02.RateEnds", spec := "rateEnds", inPlace := ["math.Float64frombits", "math.Float64bits"], apart := false }
def RateEndsSaid : Prop := rateEndsRow.holds Try.pinned (OpenSpec.ofChange rateEndsSpec)

/-- ITS FALSE NEIGHBOUR: 'it returns false'. Refute it at one input. -/
def rateEndsWrong : ChangeSpec := { name := "rateEnds", fn := fun _ => fun
  | [d] => { results := [.lit (.bool false)], args := [d] }
  | _ => none }
def RateEndsWrongFalsely : Prop := rateEndsRow.holds Try.pinned (OpenSpec.ofChange rateEndsWrong)

/-- 'sandglasslaw02.RateMakes': WHATEVER THE INPUT: true; the input reads as it did. -/
def rateMakesSpec : ChangeSpec := { name := "rateMakes", fn := fun _ => fun
  | [d] => { results := [.lit (.bool true)], args := [d] }
  | _ => none }
def rateMakesRow : OpenClaim := { program := "ytclckcjimfadlaa", sum := "67b8b3f7c4b11abd615a3ab74f2d47a580f865fdc2fe6da13391cd2c071599e6", func := "sandglass/sandglasslaw02.RateMakes", spec := "rateMakes", inPlace := ["math.Float64bits", "math.Float64frombits"], apart := false }
def RateMakesSaid : Prop := rateMakesRow.holds Try.pinned (OpenSpec.ofChange rateMakesSpec)

/-- ITS FALSE NEIGHBOUR: 'it returns false'. Refute it at one input. -/
def rateMakesWrong : ChangeSpec := { name := "rateMakes", fn := fun _ => fun
  | [d] => { results := [.lit (.bool false)], args := [d] }
  | _ => none }
def RateMakesWrongFalsely : Prop := rateMakesRow.holds Try.pinned (OpenSpec.ofChange rateMakesWrong)

/-- 'sandglasslaw02.RatePpms': WHATEVER THE INPUT: true; the input reads as it did. -/
def ratePpmsSpec : ChangeSpec := { name := "ratePpms", fn := fun _ => fun
  | [d] => { results := [.lit (.bool true)], args := [d] }
  | _ => none }
def ratePpmsRow : OpenClaim := { program := "ytclckcjimfadlaa", sum := "67b8b3f7c4b11abd615a3ab74f2d47a580f865fdc2fe6da13391cd2c071599e6", func := "sandglass/sandglasslaw02.RatePpms", spec := "ratePpms", inPlace := ["math.Float64bits", "math.Float64frombits"], apart := false }
def RatePpmsSaid : Prop := ratePpmsRow.holds Try.pinned (OpenSpec.ofChange ratePpmsSpec)

/-- ITS FALSE NEIGHBOUR: 'it returns false'. Refute it at one input. -/
def ratePpmsWrong : ChangeSpec := { name := "ratePpms", fn := fun _ => fun
  | [d] => { results := [.lit (.bool false)], args := [d] }
  | _ => none }
def RatePpmsWrongFalsely : Prop := ratePpmsRow.holds Try.pinned (OpenSpec.ofChange ratePpmsWrong)

/-- 'sandglasslaw02.RateSigns': WHATEVER THE INPUT: true; the input reads as it did. -/
def rateSignsSpec : ChangeSpec := { name := "rateSigns", fn := fun _ => fun
  | [d1, d2] => { results := [.lit (.bool true)], args := [d1, d2] }
  | _ => none }
def rateSignsRow : OpenClaim := { program := "ytclckcjimfadlaa", sum := "67b8b3f7c4b11abd615a3ab74f2d47a580f865fdc2fe6da13391cd2c071599e6", func := "sandglass/sandglasslaw02.RateSigns", spec := "rateSigns", inPlace := ["math.Float64bits", "math.Float64frombits"], apart := false }
def RateSignsSaid : Prop := rateSignsRow.holds Try.pinned (OpenSpec.ofChange rateSignsSpec)

/-- ITS FALSE NEIGHBOUR: 'it returns false'. Refute it at one input. -/
def rateSignsWrong : ChangeSpec := { name := "rateSigns", fn := fun _ => fun
  | [d1, d2] => { results := [.lit (.bool false)], args := [d1, d2] }
  | _ => none }
def RateSignsWrongFalsely : Prop := rateSignsRow.holds Try.pinned (OpenSpec.ofChange rateSignsWrong)

/-- 'sandglasslaw02.RateBetween': WHATEVER THE INPUT: true; the input reads as it did. -/
def rateBetweenSpec : ChangeSpec := { name := "rateBetween", fn := fun _ => fun
  | [d1, d2, d3] => { results := [.lit (.bool true)], args := [d1, d2, d3] }
  | _ => none }
def rateBetweenRow : OpenClaim := { program := "ytclckcjimfadlaa", sum := "67b8b3f7c4b11abd615a3ab74f2d47a580f865fdc2fe6da13391cd2c071599e6", func := "sandglass/sandglasslaw02.RateBetween", spec := "rateBetween", inPlace := ["math/bits.Add64"], named := ["math/bits.divideError", "math/bits.overflowError"], apart := false }
def RateBetweenSaid : Prop := rateBetweenRow.holds Try.pinned (OpenSpec.ofChange rateBetweenSpec)

/-- ITS FALSE NEIGHBOUR: 'it returns false'. Refute it at one input. -/
def rateBetweenWrong : ChangeSpec := { name := "rateBetween", fn := fun _ => fun
  | [d1, d2, d3] => { results := [.lit (.bool false)], args := [d1, d2, d3] }
  | _ => none }
def RateBetweenWrongFalsely : Prop := rateBetweenRow.holds Try.pinned (OpenSpec.ofChange rateBetweenWrong)

/-- 'sandglasslaw02.RateTurns': WHATEVER THE INPUT: true; the input reads as it did. -/
def rateTurnsSpec : ChangeSpec := { name := "rateTurns", fn := fun _ => fun
  | [d] => { results := [.lit (.bool true)], args := [d] }
  | _ => none }
def rateTurnsRow : OpenClaim := { program := "ytclckcjimfadlaa", sum := "67b8b3f7c4b11abd615a3ab74f2d47a580f865fdc2fe6da13391cd2c071599e6", func := "sandglass/sandglasslaw02.RateTurns", spec := "rateTurns", inPlace := ["math.Float64bits", "math.Float64frombits", "math/bits.Add64"], named := ["math/bits.divideError", "math/bits.overflowError"], apart := false }
def RateTurnsSaid : Prop := rateTurnsRow.holds Try.pinned (OpenSpec.ofChange rateTurnsSpec)

/-- ITS FALSE NEIGHBOUR: 'it returns false'. Refute it at one input. -/
def rateTurnsWrong : ChangeSpec := { name := "rateTurns", fn := fun _ => fun
  | [d] => { results := [.lit (.bool false)], args := [d] }
  | _ => none }
def RateTurnsWrongFalsely : Prop := rateTurnsRow.holds Try.pinned (OpenSpec.ofChange rateTurnsWrong)

/-- 'sandglasslaw02.RateReckons': WHATEVER THE INPUT: true; the input reads as it did. -/
def rateReckonsSpec : ChangeSpec := { name := "rateReckons", fn := fun _ => fun
  | [d1, d2] => { results := [.lit (.bool true)], args := [d1, d2] }
  | _ => none }
def rateReckonsRow : OpenClaim := { program := "ytclckcjimfadlaa", sum := "67b8b3f7c4b11abd615a3ab74f2d47a580f865fdc2fe6da13391cd2c071599e6", func := "sandglass/sandglasslaw02.RateReckons", spec := "rateReckons", inPlace := ["math.Float64bits", "math.Float64frombits", "math/bits.Add64"], named := ["math/bits.divideError", "math/bits.overflowError"], apart := false }
def RateReckonsSaid : Prop := rateReckonsRow.holds Try.pinned (OpenSpec.ofChange rateReckonsSpec)

/-- ITS FALSE NEIGHBOUR: 'it returns false'. Refute it at one input. -/
def rateReckonsWrong : ChangeSpec := { name := "rateReckons", fn := fun _ => fun
  | [d1, d2] => { results := [.lit (.bool false)], args := [d1, d2] }
  | _ => none }
def RateReckonsWrongFalsely : Prop := rateReckonsRow.holds Try.pinned (OpenSpec.ofChange rateReckonsWrong)

/- THE SECOND FORM. 'bulk': how many values and letters a reading holds, each counted each time it is reached (what is shared counts as often as it is met; a slice's spare places count too). A statement '..UptoSaid' is the law's where the arguments, and the package variables that the reading takes, are together of bulk at most 1048576: NARROWER than '..Said'. Prove '..Said' where nothing that the law and all that it calls make is longer than what came in: it says more and counts as full. Else prove '..UptoSaid'. A law counts once. -/
mutual
def uptoBulk {H : Type} : DataW H → Nat
  | .lit (.string bytes) => bytes.length + 1
  | .lit _ => 1
  | .nil => 1
  | .ptr d => uptoBulk d + 1
  | .slice elems spare => uptoBulkAll elems + uptoBulkAll spare + 1
  | .agg parts => uptoBulkAll parts + 1
  | .iface _ d => uptoBulk d + 1
  | .map entries => uptoBulkEntries entries + 1
  | .held _ => 1
def uptoBulkAll {H : Type} : List (DataW H) → Nat
  | [] => 0
  | d :: r => uptoBulk d + uptoBulkAll r
def uptoBulkEntries {H : Type} : List (Lit × DataW H) → Nat
  | [] => 0
  | x :: r => uptoBulkEntry x + uptoBulkEntries r
def uptoBulkEntry {H : Type} : Lit × DataW H → Nat
  | (.string bytes, d) => bytes.length + uptoBulk d + 1
  | (_, d) => uptoBulk d + 1
 end
def uptoSmall : (H : Type) → List (DataW H) → Bool := fun _ ds => decide (uptoBulkAll ds ≤ 1048576)
def OpenSpec.upto (s : _root_.Go.ChangeSpec) : _root_.Go.OpenSpec := { _root_.Go.OpenSpec.ofChange s with cond := some uptoSmall }

/-- 'sandglasslaw02.RateEnds', WHERE WHAT IT READS IS OF BULK AT MOST 1048576: true; the input reads as it did. -/
def rateEndsUptoRow : OpenClaim := { program := "ytclckcjimfadlaa", sum := "67b8b3f7c4b11abd615a3ab74f2d47a580f865fdc2fe6da13391cd2c071599e6", func := "sandglass/sandglasslaw02.RateEnds", spec := "rateEnds", inPlace := ["math.Float64frombits", "math.Float64bits"], apart := false, narrowed := true }
def RateEndsUptoSaid : Prop := rateEndsUptoRow.holds Try.pinned (OpenSpec.upto rateEndsSpec)

/-- 'sandglasslaw02.RateMakes', WHERE WHAT IT READS IS OF BULK AT MOST 1048576: true; the input reads as it did. -/
def rateMakesUptoRow : OpenClaim := { program := "ytclckcjimfadlaa", sum := "67b8b3f7c4b11abd615a3ab74f2d47a580f865fdc2fe6da13391cd2c071599e6", func := "sandglass/sandglasslaw02.RateMakes", spec := "rateMakes", inPlace := ["math.Float64bits", "math.Float64frombits"], apart := false, narrowed := true }
def RateMakesUptoSaid : Prop := rateMakesUptoRow.holds Try.pinned (OpenSpec.upto rateMakesSpec)

/-- 'sandglasslaw02.RatePpms', WHERE WHAT IT READS IS OF BULK AT MOST 1048576: true; the input reads as it did. -/
def ratePpmsUptoRow : OpenClaim := { program := "ytclckcjimfadlaa", sum := "67b8b3f7c4b11abd615a3ab74f2d47a580f865fdc2fe6da13391cd2c071599e6", func := "sandglass/sandglasslaw02.RatePpms", spec := "ratePpms", inPlace := ["math.Float64bits", "math.Float64frombits"], apart := false, narrowed := true }
def RatePpmsUptoSaid : Prop := ratePpmsUptoRow.holds Try.pinned (OpenSpec.upto ratePpmsSpec)

/-- 'sandglasslaw02.RateSigns', WHERE WHAT IT READS IS OF BULK AT MOST 1048576: true; the input reads as it did. -/
def rateSignsUptoRow : OpenClaim := { program := "ytclckcjimfadlaa", sum := "67b8b3f7c4b11abd615a3ab74f2d47a580f865fdc2fe6da13391cd2c071599e6", func := "sandglass/sandglasslaw02.RateSigns", spec := "rateSigns", inPlace := ["math.Float64bits", "math.Float64frombits"], apart := false, narrowed := true }
def RateSignsUptoSaid : Prop := rateSignsUptoRow.holds Try.pinned (OpenSpec.upto rateSignsSpec)

/-- 'sandglasslaw02.RateBetween', WHERE WHAT IT READS IS OF BULK AT MOST 1048576: true; the input reads as it did. -/
def rateBetweenUptoRow : OpenClaim := { program := "ytclckcjimfadlaa", sum := "67b8b3f7c4b11abd615a3ab74f2d47a580f865fdc2fe6da13391cd2c071599e6", func := "sandglass/sandglasslaw02.RateBetween", spec := "rateBetween", inPlace := ["math/bits.Add64"], named := ["math/bits.divideError", "math/bits.overflowError"], apart := false, narrowed := true }
def RateBetweenUptoSaid : Prop := rateBetweenUptoRow.holds Try.pinned (OpenSpec.upto rateBetweenSpec)

/-- 'sandglasslaw02.RateTurns', WHERE WHAT IT READS IS OF BULK AT MOST 1048576: true; the input reads as it did. -/
def rateTurnsUptoRow : OpenClaim := { program := "ytclckcjimfadlaa", sum := "67b8b3f7c4b11abd615a3ab74f2d47a580f865fdc2fe6da13391cd2c071599e6", func := "sandglass/sandglasslaw02.RateTurns", spec := "rateTurns", inPlace := ["math.Float64bits", "math.Float64frombits", "math/bits.Add64"], named := ["math/bits.divideError", "math/bits.overflowError"], apart := false, narrowed := true }
def RateTurnsUptoSaid : Prop := rateTurnsUptoRow.holds Try.pinned (OpenSpec.upto rateTurnsSpec)

/-- 'sandglasslaw02.RateReckons', WHERE WHAT IT READS IS OF BULK AT MOST 1048576: true; the input reads as it did. -/
def rateReckonsUptoRow : OpenClaim := { program := "ytclckcjimfadlaa", sum := "67b8b3f7c4b11abd615a3ab74f2d47a580f865fdc2fe6da13391cd2c071599e6", func := "sandglass/sandglasslaw02.RateReckons", spec := "rateReckons", inPlace := ["math.Float64bits", "math.Float64frombits", "math/bits.Add64"], named := ["math/bits.divideError", "math/bits.overflowError"], apart := false, narrowed := true }
def RateReckonsUptoSaid : Prop := rateReckonsUptoRow.holds Try.pinned (OpenSpec.upto rateReckonsSpec)

end Rows
end Go.Proofs.Ytclckcjimfadlaa
