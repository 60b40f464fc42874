/-
  A frame over some blocks.
-/
import Derived.Test.YthhlfojaloaooaaGreatKitC
namespace Go.Proofs.YthhlfojaloaooaaGreat
set_option linter.unusedSimpArgs false
set_option linter.unusedVariables false
open Go.RowKit
/-! ### The heap turned only in some blocks, and grew -/
structure Fr (S : List Nat) (w w' : World) : Prop where
  os : w'.os = w.os
  tape : w'.tape = w.tape
  output : w'.output = w.output
  size : w.heap.size ≤ w'.heap.size
  block : ∀ k, k < w.heap.size → k ∉ S → w'.heap[k]? = w.heap[k]?
section
variable {S S' : List Nat} {w w' w'' : World}
theorem Fr.refl (S : List Nat) (w : World) : Fr S w w := ⟨rfl, rfl, rfl, Nat.le_refl _, fun _ _ _ => rfl⟩
theorem Fr.trans (h : Fr S w w') (h' : Fr S w' w'') : Fr S w w'' :=
  ⟨h'.os.trans h.os, h'.tape.trans h.tape, h'.output.trans h.output, Nat.le_trans h.size h'.size, fun k hk a => (h'.block k (by have := h.size; omega) a).trans (h.block k hk a)⟩
theorem Fr.gr {g : Nat} (h : w.grownBy w' (some g)) (hg : g ∈ S) : Fr S w w' :=
  ⟨h.os, h.tape, h.output, h.size, fun k hk a => h.block k hk (by simp; intro e; subst e; exact a hg)⟩
theorem Fr.be (h : Below w.heap.size w w') : Fr S w w' := ⟨h.os, h.tape, h.output, h.size, fun k hk _ => h.block k hk⟩
theorem Fr.more (h : Fr S w w') (hs : ∀ k, k ∈ S → k ∈ S') : Fr S' w w' := ⟨h.os, h.tape, h.output, h.size, fun k hk a => h.block k hk fun b => a (hs k b)⟩
theorem Fr.below (h : Fr S w w') {B : Nat} (hB : B ≤ w.heap.size) (hS : ∀ k ∈ S, B ≤ k) : Below B w w' :=
  ⟨h.os, h.tape, h.output, h.size, fun k hk => h.block k (by omega) fun a => by have := hS k a; omega⟩
theorem Fr.blk (h : Fr S w w') {g : Nat} {t : TypeId} {cs : Array Value} (B : Blk w g t cs) (hg : g ∉ S) : Blk w' g t cs := (h.block g B.lt hg).trans B
theorem Fr.cell (h : Fr S w w') {p : Addr} (hl : p.block < w.heap.size) (hp : p.block ∉ S) : w'.cell? p = w.cell? p := by
  have := h.block p.block hl hp
  unfold World.cell?
  rw [this]
end
end Go.Proofs.YthhlfojaloaooaaGreat
