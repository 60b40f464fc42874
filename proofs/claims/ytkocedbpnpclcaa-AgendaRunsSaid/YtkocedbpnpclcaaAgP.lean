/-
  The agenda, plain; a map from numbers to blocks.
-/
import Derived.Test.YtkocedbpnpclcaaHeapM
import Derived.Maps.OwnSet
namespace Go.Proofs.Ytkocedbpnpclcaa
set_option linter.unusedSimpArgs false
set_option linter.unusedVariables false
open Go.RowKit

structure Ag where
  now : Int
  turn : Int
  its : List It
def Ag.putE (a : Ag) (at_ : Int) : Int := if 1099511627776 < at_ then 1 else if at_ < a.now then 31 else if 8192 ≤ a.its.length then 30 else 0
def Ag.put (a : Ag) (at_ what : Int) : Ag := ⟨a.now, a.turn + 1, a.its ++ [⟨at_, a.turn + 1, what⟩]⟩
def Ag.gone (a : Ag) (m : It) (now : Int) : Ag := ⟨now, a.turn, a.its.filter fun y => decide (y.turn ≠ m.turn)⟩
def Ag.at_ (a : Ag) (now : Int) : Ag := ⟨now, a.turn, a.its⟩
def Sub (w : World) (S S' : List Nat) : Prop := ∀ k ∈ S', k ∈ S ∨ w.heap.size ≤ k
theorem Sub.refl (w : World) (S : List Nat) : Sub w S S := fun k h => .inl h

/-- A pointer, read as its block's number. -/
def rdP (v : Value) : Option (DataW Unit × List MemPlace) :=
  match v with
  | .pointer none => some (.lit (.int .i64 (-1)), [])
  | .pointer (some ⟨b, 0, none⟩) => some (.lit (.int .i64 (b : Int)), [])
  | _ => none
theorem rdP_inv {v : Value} {b : Nat} {ps : List MemPlace} (h : rdP v = some (.lit (.int .i64 (b : Int)), ps)) : v = .pointer (some ⟨b, 0, none⟩) := by
  unfold rdP at h
  split at h
  · simp at h
  · simp at h
    rename_i b'
    have : b' = b := by omega
    rw [this]
  · cases h
theorem ownsMap_fr {P : Program} {k : TypeId} {R : Value → Option (DataW Unit × List MemPlace)} {w w' : World} {b n : Nat} {D : DataW Unit} {S : List Nat} (h : w.ownsMap P k R b n D) (hf : Fr S w w') (hb : b ∉ S) : w'.ownsMap P k R b n D := by
  have hl := h.lt
  obtain ⟨es, clock, hb', F, hs, hD⟩ := h
  exact ⟨es, clock, (hf.block b hl hb).trans hb', F, hs, hD⟩
theorem wf_i64 {t : Int} (h : -9223372036854775808 ≤ t ∧ t ≤ 9223372036854775807) : (Lit.int .i64 t).wf = true := by
  exact WalkArith.wf_i64 h
theorem perm_gone {m : It} {l its : List It} (h : (m :: l).Perm its) (hn : (its.map It.turn).Nodup) : l.Perm (its.filter fun y => decide (y.turn ≠ m.turn)) := by
  have h1 : ((m :: l).map It.turn).Nodup := (h.map It.turn).nodup_iff.2 hn
  rw [List.map_cons] at h1
  have h2 := (List.nodup_cons.1 h1).1
  have h3 := h.filter (fun y => decide (y.turn ≠ m.turn))
  have e : (m :: l).filter (fun y => decide (y.turn ≠ m.turn)) = l := by
    rw [List.filter_cons_of_neg (by simp)]
    rw [List.filter_eq_self]
    intro y hy
    have : y.turn ≠ m.turn := fun e => h2 (e ▸ List.mem_map.2 ⟨y, hy, rfl⟩)
    simpa using this
  rw [e] at h3
  exact h3
end Go.Proofs.Ytkocedbpnpclcaa
