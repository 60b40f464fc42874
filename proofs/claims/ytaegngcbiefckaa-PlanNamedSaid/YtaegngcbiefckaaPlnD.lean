/-
  Layer 22: a network, as lists; where it lies; what its check and its reach are.
-/
import Derived.Test.YtaegngcbiefckaaRows
import Derived.Test.YtaegngcbiefckaaMp
import Derived.Test.YtaegngcbiefckaaKitE
import Derived.WalkKit
import Derived.ProofKit
import Derived.OpenShut
import Derived.LoopTactic
import Derived.WalkLawsBesides
import Derived.WalkSpells
import Derived.Outline
import Derived.Lib.Hide
import Derived.Deep.Light
import Derived.Deep.RegionHeld3
import Derived.Deep.DrawnRows
import Derived.BigQuiet
import Derived.StillTailTactics
namespace Go.Proofs.Ytaegngcbiefckaa
set_option linter.unusedSimpArgs false
set_option linter.unusedVariables false
open Go.RowKit Go.WideShapes Go.ChangeShapes

structure Nd where
  ports : Int
  br : Bool
structure Lk where
  n0 : Int
  p0 : Int
  n1 : Int
  p1 : Int
  lo : Int
  hi : Int
structure Fw where
  src : Int
  dst : Int
  w0 : List Int
  w1 : List Int
  start : Int
  len : Int
  size : Int
  late : Int
structure Cf where
  nodes : List Nd
  links : List Lk
  flows : List Fw
  cycle : Int
  every : Int
  ppm : Int
  grain : Int
  proc : Int
structure Sl where
  A : Option Addr
  c : Nat
structure Lay where
  N : Sl
  L : Sl
  F : Sl
  ws : List (Sl × Sl)
def ndc (n : Nd) : List Value := [.int .i64 n.ports, .bool n.br]
def lkc (l : Lk) : List Value := [.int .i64 l.n0, .int .i64 l.p0, .int .i64 l.n1, .int .i64 l.p1, .int .i64 l.lo, .int .i64 l.hi]
def fwc (f : Fw) (s : Sl × Sl) : List Value := [.int .i64 f.src, .int .i64 f.dst, .slice s.1.A f.w0.length s.1.c, .slice s.2.A f.w1.length s.2.c, .int .i64 f.start, .int .i64 f.len, .int .i64 f.size, .int .i64 f.late]
def cfc (C : Cf) (Y : Lay) : Array Value := #[.slice Y.N.A C.nodes.length Y.N.c, .slice Y.L.A C.links.length Y.L.c, .slice Y.F.A C.flows.length Y.F.c, .int .i64 C.cycle, .int .i64 C.every, .int .i64 C.ppm, .int .i64 C.grain, .int .i64 C.proc]
structure CfAt (w : World) (B : Nat) (C : Cf) (Y : Lay) : Prop where
  nodes : Reads w B 2 Y.N.A C.nodes.length (C.nodes.flatMap ndc)
  links : Reads w B 6 Y.L.A C.links.length (C.links.flatMap lkc)
  wslen : Y.ws.length = C.flows.length
  flows : Reads w B 8 Y.F.A C.flows.length ((C.flows.zip Y.ws).flatMap fun x => fwc x.1 x.2)
  ways : ∀ (i : Nat) (f : Fw) (s : Sl × Sl), C.flows[i]? = some f → Y.ws[i]? = some s → Reads w B 1 s.1.A f.w0.length (f.w0.map (Value.int .i64)) ∧ Reads w B 1 s.2.A f.w1.length (f.w1.map (Value.int .i64))
theorem CfAt.below {w w' : World} {B : Nat} {C : Cf} {Y : Lay} (h : CfAt w B C Y) (hb : Below B w w') : CfAt w' B C Y :=
  ⟨h.nodes.below hb, h.links.below hb, h.wslen, h.flows.below hb, fun i f s hf hs => ⟨(h.ways i f s hf hs).1.below hb, (h.ways i f s hf hs).2.below hb⟩⟩
theorem CfAt.more {w : World} {B B' : Nat} {C : Cf} {Y : Lay} (h : CfAt w B C Y) (hB : B ≤ B') : CfAt w B' C Y :=
  ⟨h.nodes.more hB, h.links.more hB, h.wslen, h.flows.more hB, fun i f s hf hs => ⟨(h.ways i f s hf hs).1.more hB, (h.ways i f s hf hs).2.more hB⟩⟩
/-- The cells of one element of a slice of structs: where they lie. -/
theorem reads_at {α : Type} {f : α → List Value} {hs : List α} {w : World} {B size n k : Nat} {A : Option Addr} {x : α} (hf : ∀ x, (f x).length = size) (h : Reads w B size A n (hs.flatMap f)) (hk : hs[k]? = some x) (hkn : k < n) :
    ∃ ad, A = some ad ∧ ad.block < B ∧ ∀ j u, (f x)[j]? = some u → w.cell? ((ad.add (k * size)).add j) = some u := by
  obtain ⟨ad, e, hb, hc⟩ := h.2 (by omega)
  refine ⟨ad, e, hb, fun j u hu => ?_⟩
  have hj : j < size := by rw [← hf x]; exact (List.getElem?_eq_some_iff.1 hu).1
  rw [add_of_add]
  exact hc _ u (by rw [flatMap_get hf hk j hj]; exact hu)
theorem ndc_len (n : Nd) : (ndc n).length = 2 := rfl
theorem lkc_len (l : Lk) : (lkc l).length = 6 := rfl
theorem fwc_len (x : Fw × (Sl × Sl)) : (fwc x.1 x.2).length = 8 := rfl

/-! ### What it is -/
def offV (C : Cf) : Int :=
  ((C.nodes.length : Int) - 1) * ((C.links.foldl (fun s l => max s (l.hi - l.lo)) 0) + 8 * C.grain + (8 * C.ppm * C.every).tdiv 1000000) + (8 * C.ppm * ((C.nodes.length : Int) + 8) * C.every).tdiv 1000000 + 100
def badEnd (C : Cf) (used : List (Int × Int)) (e : Int × Int) : Bool :=
  decide (e.1 < 0) || decide ((C.nodes.length : Int) ≤ e.1) || decide (e.2 < 0) || (match C.nodes[e.1.toNat]? with | some n => decide (n.ports ≤ e.2) | none => true) || used.contains e
def badLink (l : Lk) : Bool := decide (l.n0 = l.n1) || decide (l.lo < 0) || decide (l.hi < l.lo) || decide (1048576 < l.hi)
def linksV (C : Cf) : List (Int × Int) → List Lk → Int
  | _, [] => 0
  | used, l :: r => if badEnd C used (l.n0, l.p0) then 63 else if badEnd C ((l.n0, l.p0) :: used) (l.n1, l.p1) then 63 else if badLink l then 63 else linksV C ((l.n1, l.p1) :: (l.n0, l.p0) :: used) r
def badArg (C : Cf) : Bool :=
  decide ((C.nodes.length : Int) < 2) || decide (C.cycle < 1) || decide (1073741824 < C.cycle) || decide (C.every < 1000) || decide (1073741824 < C.every) || decide (C.ppm < 0) || decide (1000 < C.ppm) || decide (C.grain < 1) || decide (1000 < C.grain) || decide (C.proc < 0) || decide (1048576 < C.proc)
def badNode (n : Nd) : Bool := decide (n.ports < 0) || decide (8 < n.ports)
def checkV (C : Cf) : Int :=
  if decide (16 < C.nodes.length) || decide (64 < C.links.length) || decide (16 < C.flows.length) then 4
  else if badArg C then 1
  else if C.nodes.any badNode then 1
  else linksV C [] C.links

/-- From one of a link's ends on: what is left to look at. -/
def stepV (C : Cf) (s : Int) (used : List (Int × Int)) (l : Lk) (r : List Lk) : Int :=
  if s = 0 then linksV C used (l :: r) else if s = 1 then (if badEnd C used (l.n1, l.p1) then 63 else if badLink l then 63 else linksV C ((l.n1, l.p1) :: used) r) else if badLink l then 63 else linksV C used r
def endX (l : Lk) (s : Int) : Int := if s = 0 then l.n0 else l.n1
def endY (l : Lk) (s : Int) : Int := if s = 0 then l.p0 else l.p1
theorem stepV_bad {C : Cf} {s : Int} {used : List (Int × Int)} {l : Lk} {r : List Lk} (hs : s = 0 ∨ s = 1) (h : badEnd C used (endX l s, endY l s) = true) : stepV C s used l r = 63 := by
  rcases hs with rfl | rfl
  · have h' : badEnd C used (l.n0, l.p0) = true := h
    simp [stepV, linksV, h']
  · have h' : badEnd C used (l.n1, l.p1) = true := h
    simp [stepV, linksV, h']
theorem stepV_good {C : Cf} {s : Int} {used : List (Int × Int)} {l : Lk} {r : List Lk} (hs : s = 0 ∨ s = 1) (h : badEnd C used (endX l s, endY l s) = false) : stepV C (s + 1) ((endX l s, endY l s) :: used) l r = stepV C s used l r := by
  rcases hs with rfl | rfl
  · have h' : badEnd C used (l.n0, l.p0) = false := h
    simp [stepV, linksV, h', endX, endY]
  · have h' : badEnd C used (l.n1, l.p1) = false := h
    simp [stepV, linksV, h', endX, endY]
theorem end_cases (C : Cf) (used : List (Int × Int)) (x y : Int) (hn : C.nodes.length ≤ 16) (hp : ∀ n ∈ C.nodes, n.ports ≤ 8) :
    (decide (x < 0) = true ∧ badEnd C used (x, y) = true) ∨ (decide (x < 0) = false ∧ decide ((C.nodes.length : Int) ≤ x) = true ∧ badEnd C used (x, y) = true) ∨
      (decide (x < 0) = false ∧ decide ((C.nodes.length : Int) ≤ x) = false ∧ decide (y < 0) = true ∧ badEnd C used (x, y) = true) ∨
      ∃ (k : Nat) (nd : Nd), x = (k : Int) ∧ C.nodes[k]? = some nd ∧ decide ((k : Int) < 0) = false ∧ decide ((C.nodes.length : Int) ≤ (k : Int)) = false ∧ decide (y < 0) = false ∧
        ((decide (nd.ports ≤ y) = true ∧ badEnd C used ((k : Int), y) = true) ∨ (decide (nd.ports ≤ y) = false ∧ okE ((k : Int), y) ∧ badEnd C used ((k : Int), y) = used.contains ((k : Int), y))) := by
  by_cases h1 : x < 0
  · exact .inl ⟨decide_eq_true h1, by simp [badEnd, h1]⟩
  by_cases h2 : (C.nodes.length : Int) ≤ x
  · exact .inr (.inl ⟨decide_eq_false h1, decide_eq_true h2, by simp [badEnd, h2]⟩)
  by_cases h3 : y < 0
  · exact .inr (.inr (.inl ⟨decide_eq_false h1, decide_eq_false h2, decide_eq_true h3, by simp [badEnd, h3]⟩))
  refine .inr (.inr (.inr ?_))
  obtain ⟨k, rfl⟩ := Int.eq_ofNat_of_zero_le (by omega : 0 ≤ x)
  have hk : k < C.nodes.length := by omega
  obtain ⟨nd, hnd⟩ : ∃ nd, C.nodes[k]? = some nd := ⟨_, List.getElem?_eq_getElem hk⟩
  have hb : badEnd C used ((k : Int), y) = (decide (nd.ports ≤ y) || used.contains ((k : Int), y)) := by
    have h1' : decide ((k : Int) < 0) = false := decide_eq_false h1
    have h2' : decide ((C.nodes.length : Int) ≤ (k : Int)) = false := decide_eq_false h2
    have h3' : decide (y < 0) = false := decide_eq_false h3
    simp only [badEnd, h1', h2', h3', Int.toNat_natCast, hnd, Bool.false_or]
  refine ⟨k, nd, rfl, hnd, decide_eq_false h1, decide_eq_false h2, decide_eq_false h3, ?_⟩
  by_cases h4 : nd.ports ≤ y
  · exact .inl ⟨decide_eq_true h4, by rw [hb, decide_eq_true h4, Bool.true_or]⟩
  · have hpo := hp nd (List.mem_of_getElem? hnd)
    exact .inr ⟨decide_eq_false h4, ⟨by simp only; omega, by simp only; omega, by simp only; omega, by simp only; omega⟩, by rw [hb, decide_eq_false h4, Bool.false_or]⟩

set_option maxRecDepth 100000 in
theorem laid22 : laidOutB Try.prog = true := by kernel_rfl
set_option maxRecDepth 100000 in
theorem endKey : KeyE Try.prog 61 :=
  key_two (e := 3) (fs := #[]) laid22 (of_decide_eq_true (by kernel_rfl)) (by kernel_rfl) (by kernel_rfl) Try.underlying61 rfl rfl rfl rfl (by decide) (by decide) Try.underlying3 (by kernel_rfl) (by kernel_rfl) ⟨155, by kernel_rfl⟩
theorem zero_bool (w : World) : (zeroValue 4).run Try.prog w = .ok (.bool false) w := by kernel_rfl
theorem zero_spans (w : World) : (zeroValue 94).run Try.prog w = .ok (.slice none 0 0) w := by kernel_rfl
theorem zero_list (w : World) : (zeroValue 58).run Try.prog w = .ok (.agg #[.int .i64 0, .int .i64 0, .slice none 0 0]) w := by kernel_rfl
end Go.Proofs.Ytaegngcbiefckaa
