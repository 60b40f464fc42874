/-
  Layer 18: a clock of a domain: what Follow gives.
-/
import Derived.Test.YtjjpmckefglhnaaSyncB
namespace Go.Proofs.Ytjjpmckefglhnaa
open Go.RowKit Go.WideShapes Go.ChangeShapes
attribute [local go_sem ↓] Go.wp_at_zero Go.wp_at_succ

def Mg.Wf (m : Mg) : Prop := I64 m.corr ∧ I64 m.time ∧ I64 m.rate
theorem cell_far {w : World} {p q : Addr} {v : Value} (h : w.cell? p = some v) (hne : p ≠ q) (u : Value) : (w.setCell q u).cell? p = some v := (World.cell?_setCell_other w q p u (Ne.symm hne)).trans h
noncomputable def follOk (c : Ck) (m : Mg) : Bool := !(m.kind != 8) && !(checkV m != 0) && !(m.domain != c.domain) && !c.own && c.opn && !(m.seq != c.seq) && !(m.src != c.src)
def shut (c : Ck) : Ck := { c with opn := false }
def follC (c : Ck) (t r : Int) : Ck := { c with opn := false, known := true, here := c.at_, there := t, rate := r, last := c.at_ }
open Classical in
noncomputable def follV (c : Ck) (m : Mg) (delay ratio : Int) : Int × Ck :=
  if follOk c m = false then (31, c)
  else if (mulDivV m.rate ratio 2199023255552 2).2 ≠ 0 then ((mulDivV m.rate ratio 2199023255552 2).2, shut c)
  else if ¬ Rg (mulDivV m.rate ratio 2199023255552 2).1 then (50, shut c)
  else if (addV m.time m.corr).2 ≠ 0 then ((addV m.time m.corr).2, shut c)
  else if (mulDivV delay (mulDivV m.rate ratio 2199023255552 2).1 2199023255552 2).2 ≠ 0 then ((mulDivV delay (mulDivV m.rate ratio 2199023255552 2).1 2199023255552 2).2, shut c)
  else if (addV (addV m.time m.corr).1 (mulDivV delay (mulDivV m.rate ratio 2199023255552 2).1 2199023255552 2).1).2 ≠ 0 then ((addV (addV m.time m.corr).1 (mulDivV delay (mulDivV m.rate ratio 2199023255552 2).1 2199023255552 2).1).2, shut c)
  else (0, follC c (addV (addV m.time m.corr).1 (mulDivV delay (mulDivV m.rate ratio 2199023255552 2).1 2199023255552 2).1).1 (mulDivV m.rate ratio 2199023255552 2).1)
end Go.Proofs.Ytjjpmckefglhnaa
