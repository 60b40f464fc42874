/-
  TreeForms: the law's memory once the wires are laid.
-/
import Derived.Test.YtcdgofndfajekaaFmN
import Derived.Test.YtcdgofndfajekaaFmR
namespace Go.Proofs.Ytcdgofndfajekaa
set_option linter.unusedSimpArgs false
set_option linter.unusedVariables false
open Go.RowKit Go.WideShapes Go.ChangeShapes

theorem add_lit (X : Addr) (r : Nat) (hr : r ≠ 0) : X.add r = ⟨X.block, X.off + r, none⟩ := by
  unfold Addr.add
  simp [hr]
structure Sc (w0 w : World) (g0 g8 g14 n h8 c8 h14 c14 : Nat) (P : Nat → Pr) (W : List Wire) (F : List Nat) (Bs : List Bks) (L : List Tre) (PS : List (List Value)) : Prop where
  low : Below w0.heap.size w0 w
  st : St w g0 g8 n h8 c8 P Bs
  wr : Wr w Bs W g8 g14 ⟨h8, 0, none⟩ ⟨h14, 0, none⟩ c8 c14
  nt : Nt w F Bs L PS
  fl : ∀ g ∈ F, w0.heap.size ≤ g
  len : Bs.length = n
section
variable {w0 w w' : World} {g0 g8 g13 g14 n h8 c8 h14 c14 : Nat} {P : Nat → Pr} {fr : List Nat} {W : List Wire} {F : List Nat} {Bs : List Bks} {L L' : List Tre} {PS PS' : List (List Value)}
theorem turn_ne {g : Nat} {ty : TypeId} {cs : Array Value} (h : Nt w F Bs L PS) (B : Blk w g ty cs) (hty : ty ∉ ctypes) : ∀ k ∈ turns Bs, k ≠ g := fun k hk e => by
  obtain ⟨b, hb, hk2⟩ := List.mem_flatMap.1 hk
  subst e
  exact h.ne B hty b hb (turn_all hk2)
theorem Sb.sc (h : Sb w0 w g0 g8 g13 g14 n h8 c8 h14 c14 P fr W F Bs L PS) (hl : L.length = n) : Sc w0 w g0 g8 g14 n h8 c8 h14 c14 P W F Bs L PS := by
  have hB : Bs.length = n := by rw [h.nt.lenB]; exact hl
  obtain ⟨cur, B14⟩ := h.blk14
  obtain ⟨cu8, B8, hc8⟩ := h.st.row
  obtain ⟨A, c, hv, hnc, hr⟩ := ownsRow_reads h.row14
  injection hv with hv _ _
  subst hv
  refine ⟨h.low, h.st, ⟨by rw [hB]; exact h.st.box, h.box14, fun i b hb => ?_, fun i r x v hx hv => ?_, B8.lt, B14.lt, fun k hk => ⟨turn_ne h.nt h.st.box (by decide) k hk, turn_ne h.nt h.box14 (by decide) k hk, turn_ne h.nt B8 (by decide) k hk, turn_ne h.nt B14 (by decide) k hk⟩⟩, h.nt, h.fl, hB⟩
  · have e1 : (⟨h8, 0, none⟩ : Addr).add i = ⟨h8, i, none⟩ := by unfold Addr.add; split <;> simp_all
    rw [e1]
    exact h.st.pt hb
  · have hi := (List.getElem?_eq_some_iff.1 hx).1
    obtain ⟨ad, e1, _, hc⟩ := hr.2 (by omega)
    injection e1 with e1
    subst e1
    refine hc _ _ ?_
    have hr4 : r < 4 := (List.getElem?_eq_some_iff.1 hv).1
    rw [flatMap_get (f := wcs4) (size := 4) (fun _ => rfl) hx r hr4]
    exact hv
theorem Sc.trn (h : Sc w0 w g0 g8 g14 n h8 c8 h14 c14 P W F Bs L PS) (hf : Fr (turns Bs) w w') (hN : Nt w' F Bs L' PS') : Sc w0 w' g0 g8 g14 n h8 c8 h14 c14 P W F Bs L' PS' :=
  ⟨h.low.trans (hf.below h.low.size fun k hk => by
    obtain ⟨b, hb, hk2⟩ := List.mem_flatMap.1 hk
    exact h.fl k (h.nt.sub b hb k (turn_all hk2))), h.st.ft (.fr hf h.nt.types), h.wr.fr hf, hN, h.fl, h.len⟩
theorem Sc.kept (h : Sc w0 w g0 g8 g14 n h8 c8 h14 c14 P W F Bs L PS) (hb : Below w.heap.size w w') : Sc w0 w' g0 g8 g14 n h8 c8 h14 c14 P W F Bs L PS := h.trn (.be hb) (h.nt.kept hb)
end
/-- A step that was said ahead. -/
structure Lie (w0 : World) (A2 : Option Addr) (ns : Nat) : Prop where
  st : ∃ xs : List Value, Reads w0 w0.heap.size 21 A2 ns xs ∧ ∀ i, i < ns → ∃ s : S20, (s20c s).toList = (xs.drop (i * 21)).take 21 ∧ MsgIn w0 w0.heap.size s.m s.A s.n
theorem Lie.at_ {w0 : World} {A2 : Option Addr} {ns : Nat} (h : Lie w0 A2 ns) {i : Nat} (hi : i < ns) : ∃ (ad : Addr) (s : S20), A2 = some ad ∧ MsgIn w0 w0.heap.size s.m s.A s.n ∧
    ∀ W, Below w0.heap.size w0 W → ∀ (r : Nat) (v : Value), (s20c s).toList[r]? = some v → W.cell? ((ad.add (i * 21)).add r) = some v := by
  obtain ⟨xs, hr, hs⟩ := h.st
  obtain ⟨s, h1, h2⟩ := hs i hi
  obtain ⟨ad, e1, hl, hc⟩ := hr.2 (by omega)
  refine ⟨ad, s, e1, h2, fun W hW r v hv => ?_⟩
  rw [add_of_add, hW.cell (by rw [block_of_add]; exact hl)]
  refine hc _ _ ?_
  rw [h1, List.getElem?_take] at hv
  split at hv
  · rwa [List.getElem?_drop] at hv
  · cases hv
end Go.Proofs.Ytcdgofndfajekaa
