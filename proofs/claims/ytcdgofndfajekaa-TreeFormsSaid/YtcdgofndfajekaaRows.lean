/-
  No cell of these rows narrows 'for every input' (looked for: loops, veiled, ifaces, maps, wideKeys, modest, calm, conditions, laid).
  DERIVED. THE GIVEN ROWS OF THIS SEAT. 4 by the template 'for every input the law returns true; each argument reads behind the call as it read before'; 0 by the template 'total and deterministic' (their statements: YtcdgofndfajekaaTotals.lean).
  GIVEN WITH THE SEED: the statements are not yours to turn. If you find one false, say at which input.
  Laid BY PROGRAM, IN A SANDBOX (cutbox-rows.mjs): the forced cells as the released guide's own fill.sh prints them over the translation 0ac068c6b23a724b… (all of the seat's roots in one cut). By AI agents, Wed Nov 11 2026. No macro, syntax, notation, axiom, sorry.
-/
import Derived.Test.YtcdgofndfajekaaChecked
import GoSem.Claim
import GoSem.ClaimJoined
import GoSem.ClaimMapViews
import Derived.JoinedTies
import Derived.KernelRfl
namespace Go.Proofs.Ytcdgofndfajekaa
/- THE CELL 'sum', in the pinned program and in every row, IS THE sha256 OF THE DUMP (.gsa) THAT YtcdgofndfajekaaProg.lean LOADS. Nothing in Lean hashes anything: it is a label: what it is worth is what the hold of that sum in a sandbox is worth. -/
noncomputable def Try.pinned : Pinned := { name := "ytcdgofndfajekaa", sum := "0ac068c6b23a724b3485cd705fd0cadd4dffeec5e07bc1e0496e450fa9a2be9b", checked := Try.checked }
namespace Rows
def none {H : Type} : Left H := { results := [], args := [] }

/-- 'sandglasslaw20.TreeRuns': WHATEVER THE INPUT: true; the input reads as it did. -/
def treeRunsSpec : ChangeSpec := { name := "treeRuns", fn := fun _ => fun
  | [d1, d2, d3, d4, d5] => { results := [.lit (.bool true)], args := [d1, d2, d3, d4, d5] }
  | _ => none }
def treeRunsRow : OpenClaim := { program := "ytcdgofndfajekaa", sum := "0ac068c6b23a724b3485cd705fd0cadd4dffeec5e07bc1e0496e450fa9a2be9b", func := "sandglass/sandglasslaw20.TreeRuns", spec := "treeRuns", apart := false }
def TreeRunsSaid : Prop := treeRunsRow.holds Try.pinned (OpenSpec.ofChange treeRunsSpec)

/-- ITS FALSE NEIGHBOUR: 'it returns false'. Refute it at one input. -/
def treeRunsWrong : ChangeSpec := { name := "treeRuns", fn := fun _ => fun
  | [d1, d2, d3, d4, d5] => { results := [.lit (.bool false)], args := [d1, d2, d3, d4, d5] }
  | _ => none }
def TreeRunsWrongFalsely : Prop := treeRunsRow.holds Try.pinned (OpenSpec.ofChange treeRunsWrong)

/-- 'sandglasslaw20.TreeForms': WHATEVER THE INPUT: true; the input reads as it did. -/
def treeFormsSpec : ChangeSpec := { name := "treeForms", fn := fun _ => fun
  | [d1, d2, d3] => { results := [.lit (.bool true)], args := [d1, d2, d3] }
  | _ => none }
def treeFormsRow : OpenClaim := { program := "ytcdgofndfajekaa", sum := "0ac068c6b23a724b3485cd705fd0cadd4dffeec5e07bc1e0496e450fa9a2be9b", func := "sandglass/sandglasslaw20.TreeForms", spec := "treeForms", unfollowed := true, recurses := true, apart := false }
def TreeFormsSaid : Prop := treeFormsRow.holds Try.pinned (OpenSpec.ofChange treeFormsSpec)

/-- ITS FALSE NEIGHBOUR: 'it returns false'. Refute it at one input. -/
def treeFormsWrong : ChangeSpec := { name := "treeForms", fn := fun _ => fun
  | [d1, d2, d3] => { results := [.lit (.bool false)], args := [d1, d2, d3] }
  | _ => none }
def TreeFormsWrongFalsely : Prop := treeFormsRow.holds Try.pinned (OpenSpec.ofChange treeFormsWrong)

/-- 'sandglasslaw20.TreeOld': WHATEVER THE INPUT: true; the input reads as it did. -/
def treeOldSpec : ChangeSpec := { name := "treeOld", fn := fun _ => fun
  | [d1, d2, d3, d4] => { results := [.lit (.bool true)], args := [d1, d2, d3, d4] }
  | _ => none }
def treeOldRow : OpenClaim := { program := "ytcdgofndfajekaa", sum := "0ac068c6b23a724b3485cd705fd0cadd4dffeec5e07bc1e0496e450fa9a2be9b", func := "sandglass/sandglasslaw20.TreeOld", spec := "treeOld", apart := false }
def TreeOldSaid : Prop := treeOldRow.holds Try.pinned (OpenSpec.ofChange treeOldSpec)

/-- ITS FALSE NEIGHBOUR: 'it returns false'. Refute it at one input. -/
def treeOldWrong : ChangeSpec := { name := "treeOld", fn := fun _ => fun
  | [d1, d2, d3, d4] => { results := [.lit (.bool false)], args := [d1, d2, d3, d4] }
  | _ => none }
def TreeOldWrongFalsely : Prop := treeOldRow.holds Try.pinned (OpenSpec.ofChange treeOldWrong)

/-- 'sandglasslaw20.TreeLine': WHATEVER THE INPUT: true; the input reads as it did. -/
def treeLineSpec : ChangeSpec := { name := "treeLine", fn := fun _ => fun
  | [d1, d2] => { results := [.lit (.bool true)], args := [d1, d2] }
  | _ => none }
def treeLineRow : OpenClaim := { program := "ytcdgofndfajekaa", sum := "0ac068c6b23a724b3485cd705fd0cadd4dffeec5e07bc1e0496e450fa9a2be9b", func := "sandglass/sandglasslaw20.TreeLine", spec := "treeLine", apart := false }
def TreeLineSaid : Prop := treeLineRow.holds Try.pinned (OpenSpec.ofChange treeLineSpec)

/-- ITS FALSE NEIGHBOUR: 'it returns false'. Refute it at one input. -/
def treeLineWrong : ChangeSpec := { name := "treeLine", fn := fun _ => fun
  | [d1, d2] => { results := [.lit (.bool false)], args := [d1, d2] }
  | _ => none }
def TreeLineWrongFalsely : Prop := treeLineRow.holds Try.pinned (OpenSpec.ofChange treeLineWrong)

/- THE SECOND FORM. 'bulk': how many values and letters a reading holds, each counted each time it is reached (what is shared counts as often as it is met; a slice's spare places count too). A statement '..UptoSaid' is the law's where the arguments, and the package variables that the reading takes, are together of bulk at most 1048576: NARROWER than '..Said'. Prove '..Said' where nothing that the law and all that it calls make is longer than what came in: it says more and counts as full. Else prove '..UptoSaid'. A law counts once. -/
mutual
def uptoBulk {H : Type} : DataW H → Nat
  | .lit (.string bytes) => bytes.length + 1
  | .lit _ => 1
  | .nil => 1
  | .ptr d => uptoBulk d + 1
  | .slice elems spare => uptoBulkAll elems + uptoBulkAll spare + 1
  | .agg parts => uptoBulkAll parts + 1
  | .iface _ d => uptoBulk d + 1
  | .map entries => uptoBulkEntries entries + 1
  | .held _ => 1
def uptoBulkAll {H : Type} : List (DataW H) → Nat
  | [] => 0
  | d :: r => uptoBulk d + uptoBulkAll r
def uptoBulkEntries {H : Type} : List (Lit × DataW H) → Nat
  | [] => 0
  | x :: r => uptoBulkEntry x + uptoBulkEntries r
def uptoBulkEntry {H : Type} : Lit × DataW H → Nat
  | (.string bytes, d) => bytes.length + uptoBulk d + 1
  | (_, d) => uptoBulk d + 1
 end
def uptoSmall : (H : Type) → List (DataW H) → Bool := fun _ ds => decide (uptoBulkAll ds ≤ 1048576)
def OpenSpec.upto (s : _root_.Go.ChangeSpec) : _root_.Go.OpenSpec := { _root_.Go.OpenSpec.ofChange s with cond := some uptoSmall }

/-- 'sandglasslaw20.TreeRuns', WHERE WHAT IT READS IS OF BULK AT MOST 1048576: true; the input reads as it did. -/
def treeRunsUptoRow : OpenClaim := { program := "ytcdgofndfajekaa", sum := "0ac068c6b23a724b3485cd705fd0cadd4dffeec5e07bc1e0496e450fa9a2be9b", func := "sandglass/sandglasslaw20.TreeRuns", spec := "treeRuns", apart := false, narrowed := true }
def TreeRunsUptoSaid : Prop := treeRunsUptoRow.holds Try.pinned (OpenSpec.upto treeRunsSpec)

/-- 'sandglasslaw20.TreeForms', WHERE WHAT IT READS IS OF BULK AT MOST 1048576: true; the input reads as it did. -/
def treeFormsUptoRow : OpenClaim := { program := "ytcdgofndfajekaa", sum := "0ac068c6b23a724b3485cd705fd0cadd4dffeec5e07bc1e0496e450fa9a2be9b", func := "sandglass/sandglasslaw20.TreeForms", spec := "treeForms", unfollowed := true, recurses := true, apart := false, narrowed := true }
def TreeFormsUptoSaid : Prop := treeFormsUptoRow.holds Try.pinned (OpenSpec.upto treeFormsSpec)

/-- 'sandglasslaw20.TreeOld', WHERE WHAT IT READS IS OF BULK AT MOST 1048576: true; the input reads as it did. -/
def treeOldUptoRow : OpenClaim := { program := "ytcdgofndfajekaa", sum := "0ac068c6b23a724b3485cd705fd0cadd4dffeec5e07bc1e0496e450fa9a2be9b", func := "sandglass/sandglasslaw20.TreeOld", spec := "treeOld", apart := false, narrowed := true }
def TreeOldUptoSaid : Prop := treeOldUptoRow.holds Try.pinned (OpenSpec.upto treeOldSpec)

/-- 'sandglasslaw20.TreeLine', WHERE WHAT IT READS IS OF BULK AT MOST 1048576: true; the input reads as it did. -/
def treeLineUptoRow : OpenClaim := { program := "ytcdgofndfajekaa", sum := "0ac068c6b23a724b3485cd705fd0cadd4dffeec5e07bc1e0496e450fa9a2be9b", func := "sandglass/sandglasslaw20.TreeLine", spec := "treeLine", apart := false, narrowed := true }
def TreeLineUptoSaid : Prop := treeLineUptoRow.holds Try.pinned (OpenSpec.upto treeLineSpec)

end Rows
end Go.Proofs.Ytcdgofndfajekaa
