/-
  Layer 18: a clock of a domain: Follow.
-/
import Derived.Test.YtjjpmckefglhnaaSyncC1
import Derived.Test.YtjjpmckefglhnaaSyncC2
namespace Go.Proofs.Ytjjpmckefglhnaa
open Go.RowKit Go.WideShapes Go.ChangeShapes
theorem follow_any (c : Ck) (g : Nat) (m : Mg) (A : Option Addr) (n cc : Nat) (delay ratio : Int) (w : World) (B : CkIn w g c) (hm : MsgIn w w.heap.size m A n) (hw : m.Wf) (hd : I64 delay) (hr : I64 ratio) :
    Calls Try.prog 24 #[.pointer (some ⟨g, 0, none⟩), .agg (mcells m A n cc), .int .i64 delay, .int .i64 ratio] w fun e w' => e = .returned (.int .i64 (follV c m delay ratio).1) ∧ CkIn w' g (follV c m delay ratio).2 ∧ w.grownBy w' (some g) := by
  by_cases h : follOk c m = true
  · exact follow_yes c g m A n cc delay ratio w B hm hw hd hr h
  · have h' : follOk c m = false := by simpa using h
    have e : follV c m delay ratio = (31, c) := if_pos h'
    rw [e]
    exact follow_no c g m A n cc delay ratio w B hm h'
end Go.Proofs.Ytjjpmckefglhnaa
