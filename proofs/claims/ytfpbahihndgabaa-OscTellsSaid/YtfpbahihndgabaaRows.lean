/-
  No cell of these rows narrows 'for every input' (looked for: loops, veiled, ifaces, maps, wideKeys, modest, calm, conditions, laid).
  DERIVED. THE GIVEN ROWS OF THIS SEAT. 5 by the template 'for every input the law returns true; each argument reads behind the call as it read before'; 0 by the template 'total and deterministic' (their statements: YtfpbahihndgabaaTotals.lean).
  GIVEN WITH THE SEED: the statements are not yours to turn. If you find one false, say at which input.
  Laid BY PROGRAM, IN A SANDBOX (cutbox-rows.mjs): the forced cells as the released guide's own fill.sh prints them over the translation 30ea19fa0ddf9f64… (all of the seat's roots in one cut). By AI agents, Wed Nov 11 2026. No macro, syntax, notation, axiom, sorry.
-/
import Derived.Test.YtfpbahihndgabaaChecked
import GoSem.Claim
import GoSem.ClaimJoined
import GoSem.ClaimMapViews
import Derived.JoinedTies
import Derived.KernelRfl
namespace Go.Proofs.Ytfpbahihndgabaa
/- THE CELL 'sum', in the pinned program and in every row, IS THE sha256 OF THE DUMP (.gsa) THAT YtfpbahihndgabaaProg.lean LOADS. Nothing in Lean hashes anything: it is a label: what it is worth is what the hold of that sum in a sandbox is worth. -/
noncomputable def Try.pinned : Pinned := { name := "ytfpbahihndgabaa", sum := "30ea19fa0ddf9f64e8f3c790cad062b85a1d931b67e7f1bb2e0fb273b38997d9", checked := Try.checked }
namespace Rows
def none {H : Type} : Left H := { results := [], args := [] }

/-- 'sandglasslaw07.OscWhens': WHATEVER THE INPUT: true; the input reads as it did. -/
def oscWhensSpec : ChangeSpec := { name := "oscWhens", fn := fun _ => fun
  | [d1, d2, d3] => { results := [.lit (.bool true)], args := [d1, d2, d3] }
  | _ => none }
def oscWhensRow : OpenClaim := { program := "ytfpbahihndgabaa", sum := "30ea19fa0ddf9f64e8f3c790cad062b85a1d931b67e7f1bb2e0fb273b38997d9", func := "sandglass/sandglasslaw07.OscWhens", spec := "oscWhens", inPlace := ["math/bits.Add64"], unfollowed := true, recurses := true, named := ["math/bits.divideError", "math/bits.overflowError"], apart := false }
def OscWhensSaid : Prop := oscWhensRow.holds Try.pinned (OpenSpec.ofChange oscWhensSpec)

/-- ITS FALSE NEIGHBOUR: 'it returns false'. Refute it at one input. -/
def oscWhensWrong : ChangeSpec := { name := "oscWhens", fn := fun _ => fun
  | [d1, d2, d3] => { results := [.lit (.bool false)], args := [d1, d2, d3] }
  | _ => none }
def OscWhensWrongFalsely : Prop := oscWhensRow.holds Try.pinned (OpenSpec.ofChange oscWhensWrong)

/-- 'sandglasslaw07.OscStart': WHATEVER THE INPUT: true; the input reads as it did. -/
def oscStartSpec : ChangeSpec := { name := "oscStart", fn := fun _ => fun
  | [d1, d2, d3, d4] => { results := [.lit (.bool true)], args := [d1, d2, d3, d4] }
  | _ => none }
def oscStartRow : OpenClaim := { program := "ytfpbahihndgabaa", sum := "30ea19fa0ddf9f64e8f3c790cad062b85a1d931b67e7f1bb2e0fb273b38997d9", func := "sandglass/sandglasslaw07.OscStart", spec := "oscStart", inPlace := ["math/bits.Add64"], unfollowed := true, recurses := true, named := ["math/bits.divideError", "math/bits.overflowError"], apart := false }
def OscStartSaid : Prop := oscStartRow.holds Try.pinned (OpenSpec.ofChange oscStartSpec)

/-- ITS FALSE NEIGHBOUR: 'it returns false'. Refute it at one input. -/
def oscStartWrong : ChangeSpec := { name := "oscStart", fn := fun _ => fun
  | [d1, d2, d3, d4] => { results := [.lit (.bool false)], args := [d1, d2, d3, d4] }
  | _ => none }
def OscStartWrongFalsely : Prop := oscStartRow.holds Try.pinned (OpenSpec.ofChange oscStartWrong)

/-- 'sandglasslaw07.OscMarks': WHATEVER THE INPUT: true; the input reads as it did. -/
def oscMarksSpec : ChangeSpec := { name := "oscMarks", fn := fun _ => fun
  | [d1, d2, d3, d4, d5] => { results := [.lit (.bool true)], args := [d1, d2, d3, d4, d5] }
  | _ => none }
def oscMarksRow : OpenClaim := { program := "ytfpbahihndgabaa", sum := "30ea19fa0ddf9f64e8f3c790cad062b85a1d931b67e7f1bb2e0fb273b38997d9", func := "sandglass/sandglasslaw07.OscMarks", spec := "oscMarks", inPlace := ["math/bits.Add64"], unfollowed := true, recurses := true, named := ["math/bits.divideError", "math/bits.overflowError"], apart := false }
def OscMarksSaid : Prop := oscMarksRow.holds Try.pinned (OpenSpec.ofChange oscMarksSpec)

/-- ITS FALSE NEIGHBOUR: 'it returns false'. Refute it at one input. -/
def oscMarksWrong : ChangeSpec := { name := "oscMarks", fn := fun _ => fun
  | [d1, d2, d3, d4, d5] => { results := [.lit (.bool false)], args := [d1, d2, d3, d4, d5] }
  | _ => none }
def OscMarksWrongFalsely : Prop := oscMarksRow.holds Try.pinned (OpenSpec.ofChange oscMarksWrong)

/-- 'sandglasslaw07.OscGrows': WHATEVER THE INPUT: true; the input reads as it did. -/
def oscGrowsSpec : ChangeSpec := { name := "oscGrows", fn := fun _ => fun
  | [d1, d2, d3, d4] => { results := [.lit (.bool true)], args := [d1, d2, d3, d4] }
  | _ => none }
def oscGrowsRow : OpenClaim := { program := "ytfpbahihndgabaa", sum := "30ea19fa0ddf9f64e8f3c790cad062b85a1d931b67e7f1bb2e0fb273b38997d9", func := "sandglass/sandglasslaw07.OscGrows", spec := "oscGrows", inPlace := ["math/bits.Add64"], unfollowed := true, recurses := true, named := ["math/bits.divideError", "math/bits.overflowError"], apart := false }
def OscGrowsSaid : Prop := oscGrowsRow.holds Try.pinned (OpenSpec.ofChange oscGrowsSpec)

/-- ITS FALSE NEIGHBOUR: 'it returns false'. Refute it at one input. -/
def oscGrowsWrong : ChangeSpec := { name := "oscGrows", fn := fun _ => fun
  | [d1, d2, d3, d4] => { results := [.lit (.bool false)], args := [d1, d2, d3, d4] }
  | _ => none }
def OscGrowsWrongFalsely : Prop := oscGrowsRow.holds Try.pinned (OpenSpec.ofChange oscGrowsWrong)

/-- 'sandglasslaw07.OscTells': WHATEVER THE INPUT: true; the input reads as it did. -/
def oscTellsSpec : ChangeSpec := { name := "oscTells", fn := fun _ => fun
  | [d1, d2, d3, d4] => { results := [.lit (.bool true)], args := [d1, d2, d3, d4] }
  | _ => none }
def oscTellsRow : OpenClaim := { program := "ytfpbahihndgabaa", sum := "30ea19fa0ddf9f64e8f3c790cad062b85a1d931b67e7f1bb2e0fb273b38997d9", func := "sandglass/sandglasslaw07.OscTells", spec := "oscTells", inPlace := ["math/bits.Add64"], unfollowed := true, recurses := true, named := ["math/bits.divideError", "math/bits.overflowError"], apart := false }
def OscTellsSaid : Prop := oscTellsRow.holds Try.pinned (OpenSpec.ofChange oscTellsSpec)

/-- ITS FALSE NEIGHBOUR: 'it returns false'. Refute it at one input. -/
def oscTellsWrong : ChangeSpec := { name := "oscTells", fn := fun _ => fun
  | [d1, d2, d3, d4] => { results := [.lit (.bool false)], args := [d1, d2, d3, d4] }
  | _ => none }
def OscTellsWrongFalsely : Prop := oscTellsRow.holds Try.pinned (OpenSpec.ofChange oscTellsWrong)

/- THE SECOND FORM. 'bulk': how many values and letters a reading holds, each counted each time it is reached (what is shared counts as often as it is met; a slice's spare places count too). A statement '..UptoSaid' is the law's where the arguments, and the package variables that the reading takes, are together of bulk at most 1048576: NARROWER than '..Said'. Prove '..Said' where nothing that the law and all that it calls make is longer than what came in: it says more and counts as full. Else prove '..UptoSaid'. A law counts once. -/
mutual
def uptoBulk {H : Type} : DataW H → Nat
  | .lit (.string bytes) => bytes.length + 1
  | .lit _ => 1
  | .nil => 1
  | .ptr d => uptoBulk d + 1
  | .slice elems spare => uptoBulkAll elems + uptoBulkAll spare + 1
  | .agg parts => uptoBulkAll parts + 1
  | .iface _ d => uptoBulk d + 1
  | .map entries => uptoBulkEntries entries + 1
  | .held _ => 1
def uptoBulkAll {H : Type} : List (DataW H) → Nat
  | [] => 0
  | d :: r => uptoBulk d + uptoBulkAll r
def uptoBulkEntries {H : Type} : List (Lit × DataW H) → Nat
  | [] => 0
  | x :: r => uptoBulkEntry x + uptoBulkEntries r
def uptoBulkEntry {H : Type} : Lit × DataW H → Nat
  | (.string bytes, d) => bytes.length + uptoBulk d + 1
  | (_, d) => uptoBulk d + 1
 end
def uptoSmall : (H : Type) → List (DataW H) → Bool := fun _ ds => decide (uptoBulkAll ds ≤ 1048576)
def OpenSpec.upto (s : _root_.Go.ChangeSpec) : _root_.Go.OpenSpec := { _root_.Go.OpenSpec.ofChange s with cond := some uptoSmall }

/-- 'sandglasslaw07.OscWhens', WHERE WHAT IT READS IS OF BULK AT MOST 1048576: true; the input reads as it did. -/
def oscWhensUptoRow : OpenClaim := { program := "ytfpbahihndgabaa", sum := "30ea19fa0ddf9f64e8f3c790cad062b85a1d931b67e7f1bb2e0fb273b38997d9", func := "sandglass/sandglasslaw07.OscWhens", spec := "oscWhens", inPlace := ["math/bits.Add64"], unfollowed := true, recurses := true, named := ["math/bits.divideError", "math/bits.overflowError"], apart := false, narrowed := true }
def OscWhensUptoSaid : Prop := oscWhensUptoRow.holds Try.pinned (OpenSpec.upto oscWhensSpec)

/-- 'sandglasslaw07.OscStart', WHERE WHAT IT READS IS OF BULK AT MOST 1048576: true; the input reads as it did. -/
def oscStartUptoRow : OpenClaim := { program := "ytfpbahihndgabaa", sum := "30ea19fa0ddf9f64e8f3c790cad062b85a1d931b67e7f1bb2e0fb273b38997d9", func := "sandglass/sandglasslaw07.OscStart", spec := "oscStart", inPlace := ["math/bits.Add64"], unfollowed := true, recurses := true, named := ["math/bits.divideError", "math/bits.overflowError"], apart := false, narrowed := true }
def OscStartUptoSaid : Prop := oscStartUptoRow.holds Try.pinned (OpenSpec.upto oscStartSpec)

/-- 'sandglasslaw07.OscMarks', WHERE WHAT IT READS IS OF BULK AT MOST 1048576: true; the input reads as it did. -/
def oscMarksUptoRow : OpenClaim := { program := "ytfpbahihndgabaa", sum := "30ea19fa0ddf9f64e8f3c790cad062b85a1d931b67e7f1bb2e0fb273b38997d9", func := "sandglass/sandglasslaw07.OscMarks", spec := "oscMarks", inPlace := ["math/bits.Add64"], unfollowed := true, recurses := true, named := ["math/bits.divideError", "math/bits.overflowError"], apart := false, narrowed := true }
def OscMarksUptoSaid : Prop := oscMarksUptoRow.holds Try.pinned (OpenSpec.upto oscMarksSpec)

/-- 'sandglasslaw07.OscGrows', WHERE WHAT IT READS IS OF BULK AT MOST 1048576: true; the input reads as it did. -/
def oscGrowsUptoRow : OpenClaim := { program := "ytfpbahihndgabaa", sum := "30ea19fa0ddf9f64e8f3c790cad062b85a1d931b67e7f1bb2e0fb273b38997d9", func := "sandglass/sandglasslaw07.OscGrows", spec := "oscGrows", inPlace := ["math/bits.Add64"], unfollowed := true, recurses := true, named := ["math/bits.divideError", "math/bits.overflowError"], apart := false, narrowed := true }
def OscGrowsUptoSaid : Prop := oscGrowsUptoRow.holds Try.pinned (OpenSpec.upto oscGrowsSpec)

/-- 'sandglasslaw07.OscTells', WHERE WHAT IT READS IS OF BULK AT MOST 1048576: true; the input reads as it did. -/
def oscTellsUptoRow : OpenClaim := { program := "ytfpbahihndgabaa", sum := "30ea19fa0ddf9f64e8f3c790cad062b85a1d931b67e7f1bb2e0fb273b38997d9", func := "sandglass/sandglasslaw07.OscTells", spec := "oscTells", inPlace := ["math/bits.Add64"], unfollowed := true, recurses := true, named := ["math/bits.divideError", "math/bits.overflowError"], apart := false, narrowed := true }
def OscTellsUptoSaid : Prop := oscTellsUptoRow.holds Try.pinned (OpenSpec.upto oscTellsSpec)

end Rows
end Go.Proofs.Ytfpbahihndgabaa
