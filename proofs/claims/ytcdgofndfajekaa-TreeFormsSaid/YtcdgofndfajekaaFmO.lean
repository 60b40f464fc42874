/-
  TreeForms: what a clock of a network sends, and what comes of it.
-/
import Derived.Test.YtcdgofndfajekaaTfL
import Derived.Test.YtcdgofndfajekaaTfR
import Derived.Test.YtcdgofndfajekaaTrS
import Derived.Test.YtcdgofndfajekaaMask
namespace Go.Proofs.Ytcdgofndfajekaa
set_option linter.unusedSimpArgs false
set_option linter.unusedVariables false
open Go.RowKit Go.WideShapes Go.ChangeShapes
attribute [local go_sem ↓] Go.wp_at_zero Go.wp_at_succ

/-- What Out answers, either way. -/
def OutP (t : Tre) (p : Nat) (s now : Int) (W : World) (e : Ending) (w' : World) : Prop :=
  ∃ (m : Mg) (A : Option Addr) (c : Nat) (ok : Bool), e = .returned (.tuple #[.agg (mcells m A m.path.length c), .bool ok]) ∧ Below W.heap.size W w' ∧ Path w' [] A m.path ∧ (∀ ad, A = some ad → W.heap.size ≤ ad.block) ∧ m.path.length ≤ 1000 ∧
    ((ok = true ∧ roleAt t.own (t.top now) (t.hs now) p = 1 ∧ m = t.outM p s now) ∨ (ok = false ∧ roleAt t.own (t.top now) (t.hs now) p ≠ 1))
theorem tok_at {own : Pr} {t : Tre} (h : TOk own 0 5 8 t) : ∀ e ∈ t.es, R64 e.at_ := fun e he => by
  have := (h.all e he).1
  unfold R64
  omega
theorem right_len {m : Mg} (h : checkV m = 0) : m.path.length ≤ 32 := (right_few h).2
theorem out_net {P : Nat → Pr} {n i p : Nat} {t : Tre} {s now : Int} {b : Bks} {ps : List Value} {w : World} (hP : Who P n) (hi : i < n) (hok : TOk (P i) 0 5 8 t) (hp : p < 8) (hs : 0 ≤ s ∧ s ≤ 65535) (hnow : 0 ≤ now ∧ now ≤ 1000) (h : TAt w b t ps) :
    ∀ W, Below w.heap.size w W → Calls Try.prog 10 #[.pointer (some ⟨b.g, 0, none⟩), .int .i64 (p : Int), .int .i64 s, .int .i64 now] W (OutP t p s now W) := fun W hW => by
  have T := h.kept hW
  have hm0 : 0 ≤ t.most := by rw [hok.most]; decide
  have hm1 : t.most ≤ 9223372036854775807 := by rw [hok.most]; decide
  refine (out_any b t ps p s now W T (by unfold R64; omega) (tok_at hok) hm0 hm1 (fun e he => (hok.all e he).2.1)).mono fun e w' hh => ?_
  by_cases hr : roleAt t.own (t.top now) (t.hs now) p = 1
  · rw [if_pos ⟨by omega, by rw [hok.len]; omega, by rw [Int.toNat_natCast]; exact hr⟩] at hh
    rw [Int.toNat_natCast] at hh
    obtain ⟨A, n', c, rfl, rfl, h3, h4, h5, h6⟩ := hh
    have hc := tell_ok (s := s) (now := now) hP hi hok hp hs
    refine ⟨_, A, c, true, by rw [hc]; rfl, h6, h3, h5, by have := right_len hc; omega, .inl ⟨rfl, hr, rfl⟩⟩
  · rw [if_neg (fun hh2 => hr (by have := hh2.2.2; rw [Int.toNat_natCast] at this; exact this))] at hh
    obtain ⟨rfl, h2⟩ := hh
    exact ⟨zeroM, none, 0, false, rfl, h2, fun h0 => absurd h0 (by simp [zeroM]), (fun ad h => by cases h), (by simp [zeroM]), .inr ⟨rfl, hr⟩⟩
noncomputable def half (s now : Int) (L : List Tre) (x : Wire) : Nat → List Tre
  | 0 => L
  | 1 => sends L x.1 x.2 s now
  | _ => sends (sends L x.1 x.2 s now) x.2 x.1 s now
theorem sends_no {L : List Tre} {x y : Nat × Nat} {s now : Int} {t u : Tre} (hx : L[x.1]? = some t) (hy : L[y.1]? = some u) (h : roleAt t.own (t.top now) (t.hs now) x.2 ≠ 1) : sends L x y s now = L := by
  unfold sends
  simp only [hx, hy]
  rw [if_neg h]
theorem sends_yes {L : List Tre} {x y : Nat × Nat} {s now : Int} {t u : Tre} (hx : L[x.1]? = some t) (hy : L[y.1]? = some u) (h : roleAt t.own (t.top now) (t.hs now) x.2 = 1) : sends L x y s now = L.set y.1 (u.in_ y.2 (t.outM x.2 s now) now) := by
  unfold sends
  simp only [hx, hy]
  rw [if_pos h]
theorem sent_ok {P : Nat → Pr} {n : Nat} {W : List Wire} {now s : Int} {L : List Tre} (hP : Who P n) (hN : Net n W) (h : Inv P n W now L) (hs : 0 ≤ s ∧ s ≤ 65535) {x y : Nat × Nat} (hl : Link W x y) {t u : Tre} (hx : L[x.1]? = some t) (hy : L[y.1]? = some u) :
    u.inE y.2 (t.outM x.2 s now) = 0 ∨ u.inE y.2 (t.outM x.2 s now) = 31 := by
  have hlt := hN.lt hl
  have tok := h.sys.tok _ _ hx
  have uok := h.sys.tok _ _ hy
  obtain ⟨e0, he0, hE0⟩ := uok.at_ hlt.2.2.2.1
  have hup : e0.up = true := (h.sys.up y.1 y.2 e0 (by rw [ent_at hy]; exact he0)).2 ⟨_, hl.symm⟩
  have hc := tell_ok (s := s) (now := now) hP hlt.1 tok hlt.2.2.1 hs
  rcases heard_ok hc (by rw [tok.dom, uok.dom]) he0 hup with ⟨h1, _⟩ | ⟨h1, _⟩
  · exact .inr h1
  · exact .inl h1

end Go.Proofs.Ytcdgofndfajekaa
