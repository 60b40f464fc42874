/-
  A message's cells under one name; its Check.
-/
import Derived.Test.YthhlfojaloaooaaGreatMsgCheck
import Derived.Test.YthhlfojaloaooaaGreatKitC
namespace Go.Proofs.YthhlfojaloaooaaGreat
open Go.RowKit Go.WideShapes Go.ChangeShapes
attribute [local go_sem ↓] Go.wp_at_zero Go.wp_at_succ

def mcells (m : Mg) (A : Option Addr) (n c : Nat) : Array Value := #[.int .i64 m.kind, .int .i64 m.domain, .int .i64 m.seq, .int .i64 m.src, .int .i64 m.port, .int .i64 m.corr, .int .i64 m.time, .int .i64 m.to, .int .i64 m.toPort, .int .i64 m.rate, .int .i64 m.one, .int .i64 m.cls, .int .i64 m.two, .int .i64 m.id, .int .i64 m.steps, .slice A n c]
theorem mcells_at {w : World} {g : Nat} {t : TypeId} {m : Mg} {A : Option Addr} {n c : Nat} (h : Blk w g t (mcells m A n c)) :
    w.cell? ⟨g, 0, none⟩ = some (.int .i64 m.kind) ∧ w.cell? ⟨g, 1, none⟩ = some (.int .i64 m.domain) ∧ w.cell? ⟨g, 2, none⟩ = some (.int .i64 m.seq) ∧ w.cell? ⟨g, 3, none⟩ = some (.int .i64 m.src) ∧ w.cell? ⟨g, 4, none⟩ = some (.int .i64 m.port) ∧ w.cell? ⟨g, 5, none⟩ = some (.int .i64 m.corr) ∧ w.cell? ⟨g, 6, none⟩ = some (.int .i64 m.time) ∧ w.cell? ⟨g, 7, none⟩ = some (.int .i64 m.to) ∧ w.cell? ⟨g, 8, none⟩ = some (.int .i64 m.toPort) ∧ w.cell? ⟨g, 9, none⟩ = some (.int .i64 m.rate) ∧ w.cell? ⟨g, 10, none⟩ = some (.int .i64 m.one) ∧ w.cell? ⟨g, 11, none⟩ = some (.int .i64 m.cls) ∧ w.cell? ⟨g, 12, none⟩ = some (.int .i64 m.two) ∧ w.cell? ⟨g, 13, none⟩ = some (.int .i64 m.id) ∧ w.cell? ⟨g, 14, none⟩ = some (.int .i64 m.steps) ∧ w.cell? ⟨g, 15, none⟩ = some (.slice A n c) :=
  ⟨h.cellOf 0 rfl, h.cellOf 1 rfl, h.cellOf 2 rfl, h.cellOf 3 rfl, h.cellOf 4 rfl, h.cellOf 5 rfl, h.cellOf 6 rfl, h.cellOf 7 rfl, h.cellOf 8 rfl, h.cellOf 9 rfl, h.cellOf 10 rfl, h.cellOf 11 rfl, h.cellOf 12 rfl, h.cellOf 13 rfl, h.cellOf 14 rfl, h.cellOf 15 rfl⟩
theorem check_m (m : Mg) (A : Option Addr) (n c : Nat) (w : World) (hr : Reads w w.heap.size 1 A n (vs m.path)) (hl : m.path.length = n) (hn : n ≤ maxLen) :
    Calls Tryz.prog 32 #[.agg (mcells m A n c)] w fun e w' => e = .returned (.int .i64 (checkV m)) ∧ Below w.heap.size w w' := check_any m A n c w hr hl hn
/-- A message that can be asked for its Check, in a world. -/
structure MsgIn (w : World) (B : Nat) (m : Mg) (A : Option Addr) (n : Nat) : Prop where
  reads : Reads w B 1 A n (vs m.path)
  len : m.path.length = n
  most : n ≤ maxLen
theorem MsgIn.below {w w' : World} {B n : Nat} {m : Mg} {A : Option Addr} (h : MsgIn w B m A n) (hb : Below B w w') : MsgIn w' B m A n := ⟨h.reads.below hb, h.len, h.most⟩
theorem MsgIn.more {w : World} {B B' n : Nat} {m : Mg} {A : Option Addr} (h : MsgIn w B m A n) (hB : B ≤ B') : MsgIn w B' m A n := ⟨h.reads.more hB, h.len, h.most⟩
theorem MsgIn.bare {w : World} {B : Nat} {m : Mg} (h : m.path = []) : MsgIn w B m none 0 := ⟨by rw [h]; exact Reads.none_, by rw [h]; rfl, by simp [maxLen]⟩
section
variable {P : Program}
/-- A whole struct is loaded from a box that is known whole. -/
theorem run_load_whole {o : Oper} {a : Act} (ty : TypeId) (x : Operand) {g : Nat} {t : TypeId} {cs : Array Value} {d : TypeDesc} (ho : o.op = .load ty x) (hx : a.eval x = .pointer (some ⟨g, 0, none⟩)) {w : World} (B : Blk w g t cs) (hu : P.underlying ty = some d)
    (hd : (match d with | .struct _ | .array _ _ => true | _ => false) = true) (hi : (P.info? ty).map (·.size) = some cs.size) : (execOp a.eval o).run P w = .ok (.value (.agg cs)) w := by
  unfold execOp
  simp only [ho, hx, Instr.loadAt, Instr.sureAddr, Sem.run_bind, Sem.run_pure, Result.andThen_ok, run_loadVar_row w g t ty cs (0, 0) d B hu hd hi]
end
end Go.Proofs.YthhlfojaloaooaaGreat
