/-
  A function's return in a small frame: several results, results that lie in boxes.
-/
import Derived.Test.YthhlfojaloaooaaGreatRows
import Derived.Test.YthhlfojaloaooaaGreatSm
import Derived.Test.YthhlfojaloaooaaGreatKitE
import Derived.Scope
namespace Go.Proofs.YthhlfojaloaooaaGreat
set_option linter.unusedSimpArgs false
set_option linter.unusedVariables false
open Go.RowKit

def subS : List Bool → Code → Code
  | [], c => c
  | _ :: r, .scope c => subS r c
  | false :: r, .seq c _ => subS r c
  | true :: r, .seq _ c => subS r c
  | false :: r, .cond _ c _ => subS r c
  | true :: r, .cond _ _ c => subS r c
  | _ :: r, .block _ c => subS r c
  | _ :: r, .loop c => subS r c
  | _, c => c
section
variable {P : Program}
theorem scope_ok {Q : Exit → Act → World → Prop} {e : Exit} {a : Act} {w : World} (he : match e with | .goto _ => False | _ => True) (h : Q e a w) : Exit.noGoto Q e a w := by
  cases e <;> first | exact h | exact False.elim he
theorem slotD {a : Act} {t : Nat} {v : Value} (h : a.tmps[t]? = some v) : a.tmps.getD t undef = v := slot h
theorem sm_ret2 {fn : Func} {R : Ending → World → Prop} {a : Act} {w : World} {t u : Tmp} {x y : Value} (hr : fn.results = #[.tmp t, .tmp u]) (hd : a.defers = []) (e1 : a.tmps[t]? = some x) (e2 : a.tmps[u]? = some y)
    (hR : R (.returned (.tuple #[x, y])) w) : bodyPost P fn R .ret a w :=
  bodyPost_ret (v := .tuple #[x, y]) (by simp [results, hr, e1, e2]) hd hR
theorem sm_ret3 {fn : Func} {R : Ending → World → Prop} {a : Act} {w : World} {t u s : Tmp} {x y z : Value} (hr : fn.results = #[.tmp t, .tmp u, .tmp s]) (hd : a.defers = []) (e1 : a.tmps[t]? = some x) (e2 : a.tmps[u]? = some y) (e3 : a.tmps[s]? = some z)
    (hR : R (.returned (.tuple #[x, y, z])) w) : bodyPost P fn R .ret a w :=
  bodyPost_ret (v := .tuple #[x, y, z]) (by simp [results, hr, e1, e2, e3]) hd hR
theorem sm_ret4 {fn : Func} {R : Ending → World → Prop} {a : Act} {w : World} {t u s r : Tmp} {x y z q : Value} (hr : fn.results = #[.tmp t, .tmp u, .tmp s, .tmp r]) (hd : a.defers = []) (e1 : a.tmps[t]? = some x) (e2 : a.tmps[u]? = some y) (e3 : a.tmps[s]? = some z) (e4 : a.tmps[r]? = some q)
    (hR : R (.returned (.tuple #[x, y, z, q])) w) : bodyPost P fn R .ret a w :=
  bodyPost_ret (v := .tuple #[x, y, z, q]) (by simp [results, hr, e1, e2, e3, e4]) hd hR
theorem sm_ret_box {fn : Func} {R : Ending → World → Prop} {a : Act} {w : World} {b : Tmp} {ty t : TypeId} {g : Nat} {cs : Array Value} {d : TypeDesc} (hr : fn.results = #[.cell b ty]) (hd : a.defers = [])
    (e1 : a.tmps[b]? = some (.pointer (some ⟨g, 0, none⟩))) (B : Blk w g t cs) (hu : P.underlying ty = some d) (hd' : (match d with | .struct _ | .array _ _ => true | _ => false) = true) (hi : (P.info? ty).map (·.size) = some cs.size)
    (hR : R (.returned (.agg cs)) w) : bodyPost P fn R .ret a w :=
  bodyPost_ret (v := .agg cs) (by simp [results, hr, e1, asAddr, run_loadVar_row w g t ty cs (0, 0) d B hu hd' hi, Result.andThen]) hd hR
theorem sm_ret_cell {fn : Func} {R : Ending → World → Prop} {a : Act} {w : World} {b u : Tmp} {ty t : TypeId} {g : Nat} {cs : Array Value} {d : TypeDesc} {y : Value} (hr : fn.results = #[.cell b ty, .tmp u]) (hd : a.defers = [])
    (e1 : a.tmps[b]? = some (.pointer (some ⟨g, 0, none⟩))) (B : Blk w g t cs) (hu : P.underlying ty = some d) (hd' : (match d with | .struct _ | .array _ _ => true | _ => false) = true) (hi : (P.info? ty).map (·.size) = some cs.size)
    (e2 : a.tmps[u]? = some y) (hR : R (.returned (.tuple #[.agg cs, y])) w) : bodyPost P fn R .ret a w :=
  bodyPost_ret (v := .tuple #[.agg cs, y]) (by simp [results, hr, e1, e2, asAddr, run_loadVar_row w g t ty cs (0, 0) d B hu hd' hi, Result.andThen]) hd hR
end
theorem wrap64 {x : Int} (h1 : -9223372036854775808 ≤ x) (h2 : x ≤ 9223372036854775807) : IntKind.i64.wrap x = x := by
  simp [IntKind.wrap, IntKind.bits, IntKind.signed]; omega
end Go.Proofs.YthhlfojaloaooaaGreat
