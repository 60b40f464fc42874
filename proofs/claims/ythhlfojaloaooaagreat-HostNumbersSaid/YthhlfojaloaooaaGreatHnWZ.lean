/-
  host: stations in memory.
-/
import Derived.Test.YthhlfojaloaooaaGreatRows
import Derived.Test.YthhlfojaloaooaaGreatHnVZ
import Derived.WalkKit
import Derived.ProofKit
import Derived.OpenShut
import Derived.LoopTactic
import Derived.WalkLawsBesides
import Derived.WalkSpells
import Derived.Outline
import Derived.Lib.Hide
import Derived.Deep.DrawnRows
import Derived.Laws.CopyOwn
import Derived.MapKept
namespace Go.Proofs.YthhlfojaloaooaaGreat
set_option linter.unusedSimpArgs false
set_option linter.unusedVariables false
open Go.RowKit Go.WideShapes Go.ChangeShapes
attribute [local go_sem ↓] Go.wp_at_zero Go.wp_at_succ

/-- A frame by types: only blocks of the types in T turn. -/
structure FTy (T : List TypeId) (w w' : World) : Prop where
  os : w'.os = w.os
  tape : w'.tape = w.tape
  output : w'.output = w.output
  size : w.heap.size ≤ w'.heap.size
  block : ∀ (k : Nat) (t : TypeId) (cs : Array Value) (z : Nat × Nat), w.heap[k]? = some (.cells cs t z) → t ∉ T → w'.heap[k]? = w.heap[k]?
section
variable {T : List TypeId} {w w' w'' : World}
theorem lt_of_block {k : Nat} {o : Obj} (h : w.heap[k]? = some o) : k < w.heap.size := (Array.getElem?_eq_some_iff.1 h).1
theorem FTy.refl (w : World) : FTy T w w := ⟨rfl, rfl, rfl, Nat.le_refl _, fun _ _ _ _ _ _ => rfl⟩
theorem FTy.trans (h : FTy T w w') (h' : FTy T w' w'') : FTy T w w'' :=
  ⟨h'.os.trans h.os, h'.tape.trans h.tape, h'.output.trans h.output, Nat.le_trans h.size h'.size, fun k t cs z B ht => (h'.block k t cs z ((h.block k t cs z B ht).trans B) ht).trans (h.block k t cs z B ht)⟩
theorem FTy.be (h : Below w.heap.size w w') : FTy T w w' := ⟨h.os, h.tape, h.output, h.size, fun k t cs z B _ => h.block k (lt_of_block B)⟩
theorem FTy.gr {g : Nat} {t : TypeId} {cs : Array Value} (B : Blk w g t cs) (ht : t ∈ T) (gr : w.grownBy w' (some g)) : FTy T w w' :=
  ⟨gr.os, gr.tape, gr.output, gr.size, fun k t' cs' z B' ht' => gr.block k (lt_of_block B') (fun e => by
    injection e with e
    subst e
    have h := B'.symm.trans B
    injection h with h
    injection h with h1 h2
    exact ht' (by rw [h2]; exact ht))⟩
theorem FTy.row {B0 size n : Nat} {e : TypeId} {v : Value} {xs : List Value} (own : w.ownsRow B0 e size v n xs) (he : e ∈ T) (gr : w.grownBy w' v.ownBlock) : FTy T w w' :=
  ⟨gr.os, gr.tape, gr.output, gr.size, fun k t' cs' z B' ht' => row_type own gr (fun hh => ht' (by rw [hh]; exact he)) k cs' z (lt_of_block B') B'⟩
theorem FTy.fr {S : List Nat} (hf : Fr S w w') (hS : ∀ k ∈ S, k < w.heap.size → ∃ (t : TypeId) (cs : Array Value), Blk w k t cs ∧ t ∈ T) : FTy T w w' :=
  ⟨hf.os, hf.tape, hf.output, hf.size, fun k t cs z B ht => hf.block k (lt_of_block B) fun hk => by
    obtain ⟨t', cs', B', h'⟩ := hS k hk (lt_of_block B)
    have h := B.symm.trans B'
    injection h with h
    injection h with h1 h2
    exact ht (by rw [h2]; exact h')⟩
theorem FTy.more {T' : List TypeId} (h : FTy T w w') (hT : ∀ t ∈ T, t ∈ T') : FTy T' w w' := ⟨h.os, h.tape, h.output, h.size, fun k t cs z B ht => h.block k t cs z B fun hh => ht (hT t hh)⟩
theorem FTy.blk (h : FTy T w w') {k : Nat} {t : TypeId} {cs : Array Value} (B : Blk w k t cs) (ht : t ∉ T) : Blk w' k t cs := (h.block k t cs _ B ht).trans B
theorem FTy.own (h : FTy T w w') {B0 size n : Nat} {e : TypeId} {v : Value} {xs : List Value} (o : w.ownsRow B0 e size v n xs) (he : e ∉ T) : w'.ownsRow B0 e size v n xs := own_type o fun k cs z _ hh => h.block k e cs z hh he
theorem FTy.sq {g : Nat} {r : Int} {any : Bool} {last had when : Int} (h : FTy T w w') (s : SqAt w g r any last had when) (ht : 189 ∉ T) : SqAt w' g r any last had when := by
  obtain ⟨c0, c1, c2, c3, rs, lo, B⟩ := s
  exact ⟨c0, c1, c2, c3, rs, lo, h.blk B ht⟩
theorem FTy.mg {b : MgB} {r : Int} {s0 s1 sa : SqS} (h : FTy T w w') (m : MgAt w b r s0 s1 sa) (h1 : 135 ∉ T) (h2 : 133 ∉ T) (h3 : 189 ∉ T) : MgAt w' b r s0 s1 sa := by
  obtain ⟨c, nx, pa, ag, si, bm, own⟩ := m.bm
  exact ⟨⟨c, nx, pa, ag, si, h.blk bm h1, h.own own h2⟩, h.sq m.s0 h3, h.sq m.s1 h3, h.sq m.sa h3, m.ne⟩
theorem FTy.br {g : Nat} {P : Int} (h : FTy T w w') (b : BrAt w g P) (ht : 111 ∉ T) : BrAt w' g P := by
  obtain ⟨cs, B, h1, h2⟩ := b
  exact ⟨cs, h.blk B ht, h1, h2⟩
end
/-- An end of a station. -/
structure Ed where
  vid : Int
  m0 : Int
  m1 : Int
  m2 : Int
  m3 : Int
  m4 : Int
  m5 : Int
  fi : Int
  fo : Int
  fm : Int
  p0 : Int
  p1 : Int
  talk : Bool
def Ed.cells (e : Ed) : List Value := [.int .i64 e.vid, .int .u8 e.m0, .int .u8 e.m1, .int .u8 e.m2, .int .u8 e.m3, .int .u8 e.m4, .int .u8 e.m5, .int .i64 e.fi, .int .i64 e.fo, .int .i64 e.fm, .int .i64 e.p0, .int .i64 e.p1, .bool e.talk]
theorem Ed.len (e : Ed) : e.cells.length = 13 := rfl
theorem eds_len (es : List Ed) : (es.flatMap Ed.cells).length = es.length * 13 := by
  induction es with
  | nil => rfl
  | cons e l ih => rw [List.flatMap_cons, List.length_append, ih, Ed.len, List.length_cons]; omega
theorem eds_one (es : List Ed) : ∀ u ∈ es.flatMap Ed.cells, u.oneCell' = true := by
  intro u hu
  obtain ⟨e, _, he⟩ := List.mem_flatMap.1 hu
  simp only [Ed.cells, List.mem_cons, List.not_mem_nil, or_false] at he
  rcases he with rfl | rfl | rfl | rfl | rfl | rfl | rfl | rfl | rfl | rfl | rfl | rfl | rfl <;> rfl
/-- What is wrong with an end, at a node of P ports. -/
def endErr (P : Int) (e : Ed) : Int := if e.p0 < 0 ∨ P ≤ e.p0 then 40 else if e.p1 < 0 ∨ P ≤ e.p1 then 40 else if e.p0 = e.p1 ∨ e.vid < 2 ∨ 4094 < e.vid then 1 else 0
/-- What is wrong with the first of some ends that is wrong. -/
def endsErr (P : Int) : List Ed → Int
  | [] => 0
  | e :: l => if endErr P e = 0 then endsErr P l else endErr P e
/-- Why there is no such station. -/
def hoV (id P r : Int) (es : List Ed) : Int := if 64 < es.length ∨ r < 1 ∨ 1099511627776 < r then 1 else if endsErr P es = 0 then ckB id P else endsErr P es
theorem reads_el {α : Type} {f : α → List Value} {hs : List α} {w : World} {B size n k : Nat} {A : Option Addr} {x : α} (hf : ∀ x, (f x).length = size) (h : Reads w B size A n (hs.flatMap f)) (hk : hs[k]? = some x) (hkn : k < n) :
    ∃ ad, A = some ad ∧ ad.block < B ∧ ∀ j u, (f x)[j]? = some u → w.cell? ((ad.add (k * size)).add j) = some u := by
  obtain ⟨ad, e, hb, hc⟩ := h.2 (by omega)
  refine ⟨ad, e, hb, fun j u hu => ?_⟩
  have hj : j < size := by rw [← hf x]; exact (List.getElem?_eq_some_iff.1 hu).1
  rw [add_of_add]
  exact hc _ u (by rw [flatMap_get hf hk j hj]; exact hu)
def gensA (l : List Int) : Array Value := (l.map fun x => Value.int .i64 x).toArray
/-- A station in memory, but for its merges. -/
structure HoAt (B : Nat) (w : World) (g gb : Nat) (ve : Value) (hg : Nat) (vm : Value) (j : Nat) (ps : List Value) (id P : Int) (es : List Ed) (gens : List Int) (ag st : Int) : Prop where
  box : Blk w g 77 #[.pointer (some ⟨gb, 0, none⟩), .int .i64 id, ve, .slice (some ⟨hg, 0, none⟩) gens.length gens.length, vm, .int .i64 ag, .int .i64 st]
  br : BrAt w gb P
  ends : w.ownsRow B 32 13 ve es.length (es.flatMap Ed.cells)
  gnb : Blk w hg 87 (gensA gens)
  gl : gens.length = es.length
  own : w.ownsRow B 78 1 vm j ps
def htypes : List TypeId := [77, 111, 32, 87, 78]
section
variable {B : Nat} {w w' : World} {g gb : Nat} {ve : Value} {hg : Nat} {vm : Value} {j : Nat} {ps : List Value} {id P : Int} {es : List Ed} {gens : List Int} {ag st : Int} {T : List TypeId}
theorem HoAt.fty (h : HoAt B w g gb ve hg vm j ps id P es gens ag st) (f : FTy T w w') (hT : ∀ t ∈ htypes, t ∉ T) : HoAt B w' g gb ve hg vm j ps id P es gens ag st :=
  ⟨f.blk h.box (hT _ (by simp [htypes])), f.br h.br (hT _ (by simp [htypes])), f.own h.ends (hT _ (by simp [htypes])), f.blk h.gnb (hT _ (by simp [htypes])), h.gl, f.own h.own (hT _ (by simp [htypes]))⟩
theorem HoAt.kept (h : HoAt B w g gb ve hg vm j ps id P es gens ag st) (hb : Below w.heap.size w w') : HoAt B w' g gb ve hg vm j ps id P es gens ag st := h.fty (FTy.be (T := []) hb) (by simp)
theorem HoAt.gen (h : HoAt B w g gb ve hg vm j ps id P es gens ag st) {gens' : List Int} (hb : w.grownBy w' (some hg)) (hB : Blk w' hg 87 (gensA gens')) (hl : gens'.length = gens.length) : HoAt B w' g gb ve hg vm j ps id P es gens' ag st := by
  have f := FTy.gr (T := [87]) h.gnb (by simp) hb
  exact ⟨by rw [hl]; exact f.blk h.box (by decide), f.br h.br (by decide), f.own h.ends (by decide), hB, by rw [hl]; exact h.gl, f.own h.own (by decide)⟩
theorem HoAt.cell (h : HoAt B w g gb ve hg vm j ps id P es gens ag st) {cs : Array Value} (hb : w.grownBy w' (some g)) (hB : Blk w' g 77 cs) {vm' : Value} {j' : Nat} {ps' : List Value} {ag' st' : Int} (hcs : cs = #[.pointer (some ⟨gb, 0, none⟩), .int .i64 id, ve, .slice (some ⟨hg, 0, none⟩) gens.length gens.length, vm', .int .i64 ag', .int .i64 st']) (own' : w'.ownsRow B 78 1 vm' j' ps') : HoAt B w' g gb ve hg vm' j' ps' id P es gens ag' st' := by
  have f := FTy.gr (T := [77]) h.box (by simp) hb
  exact ⟨hcs ▸ hB, f.br h.br (by decide), f.own h.ends (by decide), f.blk h.gnb (by decide), h.gl, own'⟩
end
/-- A station that is being made. -/
structure HoX (w wk : World) (g gb : Nat) (ve : Value) (hg : Nat) (vm : Value) (ms : List MgB) (id P r : Int) (es : List Ed) : Prop where
  low : Below w.heap.size w wk
  at_ : HoAt w.heap.size wk g gb ve hg vm ms.length (ms.map fun b => (Value.pointer (some ⟨b.g, 0, none⟩))) id P es (List.replicate es.length 0) 0 0
  mg : ∀ b ∈ ms, MgAt wk b r ⟨true, 0, 0, 0⟩ ⟨true, 0, 0, 0⟩ ⟨true, 0, 0, 0⟩
  ge : w.heap.size ≤ g
  geh : w.heap.size ≤ hg
  gem : ∀ b ∈ ms, ∀ k ∈ b.all, w.heap.size ≤ k
section
variable {w wk w1 w' : World} {g gb : Nat} {ve : Value} {hg : Nat} {vm vm' : Value} {ms : List MgB} {id P r : Int} {es : List Ed} {b : MgB}
theorem HoX.kept (h : HoX w wk g gb ve hg vm ms id P r es) (hb : Below wk.heap.size wk w') : HoX w w' g gb ve hg vm ms id P r es :=
  ⟨h.low.trans (hb.mono h.low.size), h.at_.kept hb, fun b hm => (FTy.be (T := []) hb).mg (h.mg b hm) (by simp) (by simp) (by simp), h.ge, h.geh, h.gem⟩
theorem HoX.push (h : HoX w w1 g gb ve hg vm ms id P r es) (hb : MgAt w1 b r ⟨true, 0, 0, 0⟩ ⟨true, 0, 0, 0⟩ ⟨true, 0, 0, 0⟩) (hbg : ∀ k ∈ b.all, w.heap.size ≤ k) (own' : w'.ownsRow w.heap.size 78 1 vm' (ms.length + 1) (ms.map (fun b => (Value.pointer (some ⟨b.g, 0, none⟩))) ++ [.pointer (some ⟨b.g, 0, none⟩)]))
    (gr : (w1.alloc (.cells #[.pointer (some ⟨b.g, 0, none⟩)] 78)).grownBy w' vm.ownBlock) : (∃ cs, Blk w' g 77 cs ∧ cs[4]? = some vm) ∧ HoX w (w'.setCell ⟨g, 4, none⟩ vm') g gb ve hg vm' (ms ++ [b]) id P r es := by
  have ha : Below w1.heap.size w1 (w1.alloc (.cells #[.pointer (some ⟨b.g, 0, none⟩)] 78)) := (Below.refl _ _).alloc (Nat.le_refl _) _
  have hA := h.kept ha
  have hbA := (FTy.be (T := []) ha).mg hb (by simp) (by simp) (by simp)
  generalize w1.alloc (.cells #[.pointer (some ⟨b.g, 0, none⟩)] 78) = wa at *
  have f := FTy.row (T := [78]) hA.at_.own (by simp) gr
  have box := f.blk hA.at_.box (by decide)
  have low : Below w.heap.size w w' := hA.low.grown gr hA.low.size (fun k hk => (ownsRow_lt hA.at_.own k hk).1)
  have gs_ := gr_set (grownBy_refl w' (some g)) 4 vm'
  have f2 := FTy.gr (T := [77]) box (by simp) gs_
  have own2 := f2.own own' (by decide)
  refine ⟨⟨_, box, rfl⟩, low.grown gs_ low.size (fun k hk => by cases hk; exact h.ge), ?_, ?_, h.ge, h.geh, fun k hk => ?_⟩
  rotate_right
  · rcases List.mem_append.1 hk with hk | hk
    · exact h.gem k hk
    · rw [List.mem_singleton.1 hk]; exact hbg
  · have hl : (ms ++ [b]).length = ms.length + 1 := by simp
    rw [hl, List.map_append]
    exact ⟨box.set_ 4 vm', f2.br (f.br hA.at_.br (by decide)) (by decide), f2.own (f.own hA.at_.ends (by decide)) (by decide), f2.blk (f.blk hA.at_.gnb (by decide)) (by decide), hA.at_.gl, own2⟩
  · intro k hk
    have hk' : MgAt wa k r ⟨true, 0, 0, 0⟩ ⟨true, 0, 0, 0⟩ ⟨true, 0, 0, 0⟩ := by
      rcases List.mem_append.1 hk with hk | hk
      · exact hA.mg k hk
      · rw [List.mem_singleton.1 hk]; exact hbA
    exact f2.mg (f.mg hk' (by decide) (by decide) (by decide)) (by decide) (by decide) (by decide)
end
theorem styED : SliceTy Tryz.prog 25 32 13 64 := sliceTy_mk (z := .agg #[.int .i64 0, .int .u8 0, .int .u8 0, .int .u8 0, .int .u8 0, .int .u8 0, .int .u8 0, .int .i64 0, .int .i64 0, .int .i64 0, .int .i64 0, .int .i64 0, .bool false]) Tryz.underlying25 (by kernel_rfl) rfl
theorem styMGP : SliceTy Tryz.prog 75 78 1 8 := sliceTy_mk (z := .pointer none) Tryz.underlying75 (by kernel_rfl) rfl

end Go.Proofs.YthhlfojaloaooaaGreat
