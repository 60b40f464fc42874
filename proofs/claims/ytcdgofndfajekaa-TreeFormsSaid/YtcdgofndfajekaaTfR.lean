/-
  TreeForms: the law's own memory while the clocks talk: where they are, and the wires.
-/
import Derived.Test.YtcdgofndfajekaaTfN
import Derived.Test.YtcdgofndfajekaaTfW
namespace Go.Proofs.Ytcdgofndfajekaa
set_option linter.unusedSimpArgs false
set_option linter.unusedVariables false
open Go.RowKit

def turns (Bs : List Bks) : List Nat := Bs.flatMap Bks.turn
theorem mem_turns {Bs : List Bks} {i : Nat} {b : Bks} (h : Bs[i]? = some b) : ∀ k ∈ b.turn, k ∈ turns Bs := fun k hk => List.mem_flatMap.2 ⟨b, List.mem_of_getElem? h, hk⟩
def ptrs (Bs : List Bks) : List Value := Bs.map fun b => .pointer (some ⟨b.g, 0, none⟩)
def wcs4 (x : Wire) : List Value := [.int .i64 (x.1.1 : Int), .int .i64 (x.1.2 : Int), .int .i64 (x.2.1 : Int), .int .i64 (x.2.2 : Int)]
/-- Where the clocks and the wires are told: boxes g8 and g14, rows at A8 and A14. -/
structure Wr (w : World) (Bs : List Bks) (W : List Wire) (g8 g14 : Nat) (A8 A14 : Addr) (c8 c14 : Nat) : Prop where
  box8 : Blk w g8 61 #[.slice (some A8) Bs.length c8]
  box14 : Blk w g14 62 #[.slice (some A14) W.length c14]
  pts : ∀ (i : Nat) (b : Bks), Bs[i]? = some b → w.cell? (A8.add i) = some (.pointer (some ⟨b.g, 0, none⟩))
  wrs : ∀ (i r : Nat) (x : Wire) (v : Value), W[i]? = some x → (wcs4 x)[r]? = some v → w.cell? (A14.add (i * 4 + r)) = some v
  lt8 : A8.block < w.heap.size
  lt14 : A14.block < w.heap.size
  far : ∀ k ∈ turns Bs, k ≠ g8 ∧ k ≠ g14 ∧ k ≠ A8.block ∧ k ≠ A14.block
theorem Wr.fr {w w' : World} {Bs : List Bks} {W : List Wire} {g8 g14 : Nat} {A8 A14 : Addr} {c8 c14 : Nat} (h : Wr w Bs W g8 g14 A8 A14 c8 c14) (hf : Fr (turns Bs) w w') : Wr w' Bs W g8 g14 A8 A14 c8 c14 :=
  ⟨hf.blk h.box8 fun a => (h.far _ a).1 rfl, hf.blk h.box14 fun a => (h.far _ a).2.1 rfl,
   fun i b hb => by rw [hf.cell (by rw [block_of_add]; exact h.lt8) (by rw [block_of_add]; exact fun a => (h.far _ a).2.2.1 rfl)]; exact h.pts i b hb,
   fun i r x v hx hv => by rw [hf.cell (by rw [block_of_add]; exact h.lt14) (by rw [block_of_add]; exact fun a => (h.far _ a).2.2.2 rfl)]; exact h.wrs i r x v hx hv,
   Nat.lt_of_lt_of_le h.lt8 hf.size, Nat.lt_of_lt_of_le h.lt14 hf.size, h.far⟩
end Go.Proofs.Ytcdgofndfajekaa
