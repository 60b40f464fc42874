/-
  Layer 21: a step as the law gets it; where the law's own clocks lie; its two closures.
-/
import Derived.Test.YtjjpmckefglhnaaPairR
import Derived.Test.YtjjpmckefglhnaaKitD
namespace Go.Proofs.Ytjjpmckefglhnaa
set_option linter.unusedSimpArgs false
set_option linter.unusedVariables false
open Go.RowKit Go.WideShapes Go.ChangeShapes
attribute [local go_sem ↓] Go.wp_at_zero Go.wp_at_succ

/-! ### A step -/
theorem open_ints_leaf {H : Type} {enc : TypeId × Value → H} {P : Program} {w : World} {t e : TypeId} {v : Value} {k : IntKind} (ht : P.underlying t = some (.slice e)) (he : P.underlying e = some (.int k)) (hfl : flat P 5 e = some [e]) (hce : P.cellsOf e = 1)
    (h : LeafOk enc P w (fun p => p.block < w.heap.size) t v) :
    ∃ (A : Option Addr) (n c : Nat) (zs : List Int), v = .slice A n c ∧ n ≤ maxLen ∧ zs.length = n ∧ Reads w w.heap.size 1 A n (zs.map (Value.int k)) ∧ ∀ z ∈ zs, (Lit.int k z).wf = true := by
  obtain ⟨fuel, x, hx, hQ⟩ := h
  obtain ⟨A, n, c, xs, rfl, h1, h2, _, hr, hall⟩ := open_slice_flat (n := 5) (ls := [e]) ht hfl (by simpa using hce) (by simp) hx hQ
  simp only [List.length_cons, List.length_nil, Nat.zero_add, Nat.mul_one] at hall hr
  have key : ∀ l, l ≤ n → ∃ zs : List Int, zs.length = l ∧ xs.take l = zs.map (Value.int k) ∧ ∀ z ∈ zs, (Lit.int k z).wf = true := by
    intro l
    induction l with
    | zero => exact fun _ => ⟨[], rfl, by simp, by simp⟩
    | succ l ih =>
      intro hl
      obtain ⟨zs, e1, e2, e4⟩ := ih (by omega)
      have ha := hall l (by omega)
      generalize hc : (xs.drop l).take 1 = cs at *
      match cs, ha with
      | [c0], ⟨h0, _⟩ =>
        obtain ⟨n0, rfl, hwf⟩ := h0.int he
        refine ⟨zs ++ [n0], by simp [e1], ?_, ?_⟩
        · rw [List.take_add, e2, hc]; simp
        · intro z hz
          rcases List.mem_append.1 hz with hz | hz
          · exact e4 z hz
          · simp at hz; subst hz; exact hwf
  obtain ⟨zs, e1, e2, e4⟩ := key n (Nat.le_refl _)
  have e3 : xs.length = n := by simpa using hr.1
  rw [List.take_of_length_le (by omega)] at e2
  exact ⟨A, n, c, zs, rfl, by omega, e1, by rw [← e2]; exact hr, e4⟩
structure S7 where
  k : Int
  m : Mg
  A : Option Addr
  n : Nat
  c : Nat
  a : Int
  r : Int
  d : Int
  on : Bool
  nn : Int
def s7c (s : S7) : Array Value := #[.int .i64 s.k, .int .i64 s.m.kind, .int .i64 s.m.domain, .int .i64 s.m.seq, .int .i64 s.m.src, .int .i64 s.m.port, .int .i64 s.m.corr, .int .i64 s.m.time, .int .i64 s.m.to, .int .i64 s.m.toPort, .int .i64 s.m.rate, .int .i64 s.m.one, .int .i64 s.m.cls, .int .i64 s.m.two, .int .i64 s.m.id, .int .i64 s.m.steps, .slice s.A s.n s.c, .int .i64 s.a, .int .i64 s.r, .int .i64 s.d, .bool s.on, .int .i64 s.nn]
structure S7.Ok (w : World) (s : S7) : Prop where
  msg : MsgIn w w.heap.size s.m s.A s.n
  wf : s.m.Wf
  a : I64 s.a
  r : I64 s.r
set_option maxHeartbeats 2000000 in
set_option maxRecDepth 100000 in
theorem open_s7 {H : Type} {enc : TypeId × Value → H} {W : World} {v : Value} {d : DataW H} {p : List MemPlace} {b0 : Nat} (hv : Value.okWide Try.prog W .any b0 22 v)
    (h : DataW.Trod enc Try.prog W 0 (fun _ => true) true 22 v d p) (hlt : ∀ x ∈ p, x.block < W.heap.size) :
    ∃ (A : Option Addr) (n c : Nat) (xs : List Value), v = .slice A n c ∧ n ≤ maxLen ∧ Reads W W.heap.size 22 A n xs ∧ ∀ i, i < n → ∃ s : S7, (s7c s).toList = (xs.drop (i * 22)).take 22 ∧ s.Ok W := by
  obtain ⟨A, n, c, xs, rfl, h1, h2, _, hr, hall⟩ := open_slice_arg (n := 5) (ls := [3, 3, 3, 3, 3, 3, 28, 28, 3, 3, 30, 3, 3, 3, 3, 3, 33, 28, 30, 3, 4, 3]) Try.underlying22 (by kernel_rfl) (by kernel_rfl) rfl hv h hlt
  refine ⟨A, n, c, xs, rfl, by omega, hr, fun i hi => ?_⟩
  have ha := hall i hi
  simp only [List.length_cons, List.length_nil, Nat.reduceAdd] at ha
  generalize (xs.drop (i * 22)).take 22 = cs at *
  match cs, ha with
  | [c0, c1, c2, c3, c4, c5, c6, c7, c8, c9, c10, c11, c12, c13, c14, c15, c16, c17, c18, c19, c20, c21], ⟨l0, l1, l2, l3, l4, l5, l6, l7, l8, l9, l10, l11, l12, l13, l14, l15, l16, l17, l18, l19, l20, l21, _⟩ =>
    obtain ⟨n0, rfl, _⟩ := l0.i64 Try.underlying3
    obtain ⟨n1, rfl, _⟩ := l1.i64 Try.underlying3
    obtain ⟨n2, rfl, _⟩ := l2.i64 Try.underlying3
    obtain ⟨n3, rfl, _⟩ := l3.i64 Try.underlying3
    obtain ⟨n4, rfl, _⟩ := l4.i64 Try.underlying3
    obtain ⟨n5, rfl, _⟩ := l5.i64 Try.underlying3
    obtain ⟨n6, rfl, w6⟩ := l6.i64 Try.underlying28
    obtain ⟨n7, rfl, w7⟩ := l7.i64 Try.underlying28
    obtain ⟨n8, rfl, _⟩ := l8.i64 Try.underlying3
    obtain ⟨n9, rfl, _⟩ := l9.i64 Try.underlying3
    obtain ⟨n10, rfl, w10⟩ := l10.i64 Try.underlying30
    obtain ⟨n11, rfl, _⟩ := l11.i64 Try.underlying3
    obtain ⟨n12, rfl, _⟩ := l12.i64 Try.underlying3
    obtain ⟨n13, rfl, _⟩ := l13.i64 Try.underlying3
    obtain ⟨n14, rfl, _⟩ := l14.i64 Try.underlying3
    obtain ⟨n15, rfl, _⟩ := l15.i64 Try.underlying3
    obtain ⟨A16, n16, k16, zs, rfl, hn16, hl16, hr16, _⟩ := open_ints_leaf Try.underlying33 Try.underlying3 (by kernel_rfl) (by kernel_rfl) l16
    obtain ⟨n17, rfl, w17⟩ := l17.i64 Try.underlying28
    obtain ⟨n18, rfl, w18⟩ := l18.i64 Try.underlying30
    obtain ⟨n19, rfl, _⟩ := l19.i64 Try.underlying3
    obtain ⟨n20, rfl⟩ := l20.bool Try.underlying4
    obtain ⟨n21, rfl, _⟩ := l21.i64 Try.underlying3
    exact ⟨⟨n0, ⟨n1, n2, n3, n4, n5, n6, n7, n8, n9, n10, n11, n12, n13, n14, n15, zs⟩, A16, n16, k16, n17, n18, n19, n20, n21⟩, rfl, ⟨⟨hr16, hl16, hn16⟩, ⟨w6, w7, w10⟩, w17, w18⟩⟩
theorem s7_msg {w : World} {g : Nat} {t : TypeId} {s : S7} (B : Blk w g t (s7c s)) : ∀ (j : Nat) (v : Value), (mcells s.m s.A s.n s.c).toList[j]? = some v → w.cell? ((⟨g, 1, none⟩ : Addr).add j) = some v := by
  intro j v hv
  have e : (⟨g, 1, none⟩ : Addr).add j = ⟨g, 1 + j, none⟩ := by unfold Addr.add; split <;> simp_all
  rw [e, B.cell]
  have hj : j < 16 := (List.getElem?_eq_some_iff.1 hv).1
  rw [← Array.getElem?_toList, show (s7c s).toList = .int .i64 s.k :: ((mcells s.m s.A s.n s.c).toList ++ [.int .i64 s.a, .int .i64 s.r, .int .i64 s.d, .bool s.on, .int .i64 s.nn]) from rfl, Nat.add_comm, List.getElem?_cons_succ, List.getElem?_append_left hj]
  exact hv
/-! ### The law's own clocks -/
structure KK (w0 w : World) (gm gp g0 g1 b : Nat) (most : Int) (p : Pr) (c0 c1 : Ck) (r : Bool) (l : Int) : Prop where
  P : PrIn w gp g0 g1 p
  C0 : CkIn w b c0
  C1 : CkIn w (b + 1) c1
  S : Blk w (b + 2) 49 #[.pointer (some ⟨b, 0, none⟩), .pointer (some ⟨b + 1, 0, none⟩)]
  B : Blk w (b + 3) 51 #[.slice (some ⟨b + 2, 0, none⟩) 2 2]
  R : Blk w (b + 4) 4 #[.bool r]
  L : Blk w (b + 5) 3 #[.int .i64 l]
  M : Blk w gm 28 #[.int .i64 most]
  below : Below w0.heap.size w0 w
  hm : w0.heap.size ≤ gm
  mp : gm < gp ∧ gm < g0 ∧ gm < g1
  pb : gp < b ∧ g0 < b ∧ g1 < b
section
variable {w0 w w' : World} {gm gp g0 g1 b : Nat} {most : Int} {p p' : Pr} {c0 c1 c : Ck} {r : Bool} {l : Int}
theorem KK.kept (h : KK w0 w gm gp g0 g1 b most p c0 c1 r l) (hb : Below w.heap.size w w') : KK w0 w' gm gp g0 g1 b most p c0 c1 r l :=
  ⟨h.P.kept hb, h.C0.kept hb, h.C1.kept hb, h.S.kept hb, h.B.kept hb, h.R.kept hb, h.L.kept hb, h.M.kept hb, h.below.trans (hb.mono h.below.size), h.hm, h.mp, h.pb⟩
theorem KK.pair (h : KK w0 w gm gp g0 g1 b most p c0 c1 r l) (P : PrIn w' gp g0 g1 p') (F : Fr3 w w' gp g0 g1) : KK w0 w' gm gp g0 g1 b most p' c0 c1 r l := by
  obtain ⟨a1, a2, a3⟩ := h.mp
  obtain ⟨b1, b2, b3⟩ := h.pb
  have h0 := h.hm
  exact ⟨P, F.keep h.C0 (by omega) (by omega) (by omega), F.keep h.C1 (by omega) (by omega) (by omega), F.keep h.S (by omega) (by omega) (by omega), F.keep h.B (by omega) (by omega) (by omega), F.keep h.R (by omega) (by omega) (by omega), F.keep h.L (by omega) (by omega) (by omega), F.keep h.M (by omega) (by omega) (by omega), h.below.trans (F.below h.below.size (by omega) (by omega) (by omega)), h.hm, h.mp, h.pb⟩
theorem KK.clk0 (h : KK w0 w gm gp g0 g1 b most p c0 c1 r l) (C : CkIn w' b c) (G : w.grownBy w' (some b)) : KK w0 w' gm gp g0 g1 b most p c c1 r l := by
  obtain ⟨a1, a2, a3⟩ := h.mp
  obtain ⟨b1, b2, b3⟩ := h.pb
  have h0 := h.hm
  exact ⟨⟨h.P.box.keep G (by omega), h.P.k0.keep G (by omega), h.P.k1.keep G (by omega), h.P.n01, h.P.np0, h.P.np1⟩, C, h.C1.keep G (by omega), h.S.keep G (by omega), h.B.keep G (by omega), h.R.keep G (by omega), h.L.keep G (by omega), h.M.keep G (by omega), h.below.trans (below_one G h.below.size (by omega)), h.hm, h.mp, h.pb⟩
theorem KK.clk1 (h : KK w0 w gm gp g0 g1 b most p c0 c1 r l) (C : CkIn w' (b + 1) c) (G : w.grownBy w' (some (b + 1))) : KK w0 w' gm gp g0 g1 b most p c0 c r l := by
  obtain ⟨a1, a2, a3⟩ := h.mp
  obtain ⟨b1, b2, b3⟩ := h.pb
  have h0 := h.hm
  exact ⟨⟨h.P.box.keep G (by omega), h.P.k0.keep G (by omega), h.P.k1.keep G (by omega), h.P.n01, h.P.np0, h.P.np1⟩, h.C0.keep G (by omega), C, h.S.keep G (by omega), h.B.keep G (by omega), h.R.keep G (by omega), h.L.keep G (by omega), h.M.keep G (by omega), h.below.trans (below_one G h.below.size (by omega)), h.hm, h.mp, h.pb⟩
/-- A block that lies behind all of them has turned. -/
theorem KK.fresh (h : KK w0 w gm gp g0 g1 b most p c0 c1 r l) {g : Nat} (G : w.grownBy w' (some g)) (hg : b + 5 < g) (hz : w0.heap.size ≤ w.heap.size) : KK w0 w' gm gp g0 g1 b most p c0 c1 r l := by
  obtain ⟨a1, a2, a3⟩ := h.mp
  obtain ⟨b1, b2, b3⟩ := h.pb
  have h0 := h.hm
  exact ⟨⟨h.P.box.keep G (by omega), h.P.k0.keep G (by omega), h.P.k1.keep G (by omega), h.P.n01, h.P.np0, h.P.np1⟩, h.C0.keep G (by omega), h.C1.keep G (by omega), h.S.keep G (by omega), h.B.keep G (by omega), h.R.keep G (by omega), h.L.keep G (by omega), h.M.keep G (by omega), h.below.trans (below_one G h.below.size (by omega)), h.hm, h.mp, h.pb⟩
theorem KK.setR (h : KK w0 w gm gp g0 g1 b most p c0 c1 r l) (x : Bool) : KK w0 (w.setCell ⟨b + 4, 0, none⟩ (.bool x)) gm gp g0 g1 b most p c0 c1 x l := by
  obtain ⟨a1, a2, a3⟩ := h.mp
  obtain ⟨b1, b2, b3⟩ := h.pb
  have h0 := h.hm
  have ne : ∀ {k : Nat}, k ≠ b + 4 → k ≠ (⟨b + 4, 0, none⟩ : Addr).block := fun h => h
  exact ⟨⟨h.P.box.far (ne (by omega)) _, h.P.k0.far (ne (by omega)) _, h.P.k1.far (ne (by omega)) _, h.P.n01, h.P.np0, h.P.np1⟩, h.C0.far (ne (by omega)) _, h.C1.far (ne (by omega)) _, h.S.far (ne (by omega)) _, h.B.far (ne (by omega)) _, h.R.set_ 0 _, h.L.far (ne (by omega)) _, h.M.far (ne (by omega)) _, h.below.setCell (by show w0.heap.size ≤ b + 4; omega) _, h.hm, h.mp, h.pb⟩
theorem KK.setL (h : KK w0 w gm gp g0 g1 b most p c0 c1 r l) (x : Int) : KK w0 (w.setCell ⟨b + 5, 0, none⟩ (.int .i64 x)) gm gp g0 g1 b most p c0 c1 r x := by
  obtain ⟨a1, a2, a3⟩ := h.mp
  obtain ⟨b1, b2, b3⟩ := h.pb
  have h0 := h.hm
  have ne : ∀ {k : Nat}, k ≠ b + 5 → k ≠ (⟨b + 5, 0, none⟩ : Addr).block := fun h => h
  exact ⟨⟨h.P.box.far (ne (by omega)) _, h.P.k0.far (ne (by omega)) _, h.P.k1.far (ne (by omega)) _, h.P.n01, h.P.np0, h.P.np1⟩, h.C0.far (ne (by omega)) _, h.C1.far (ne (by omega)) _, h.S.far (ne (by omega)) _, h.B.far (ne (by omega)) _, h.R.far (ne (by omega)) _, h.L.set_ 0 _, h.M.far (ne (by omega)) _, h.below.setCell (by show w0.heap.size ≤ b + 5; omega) _, h.hm, h.mp, h.pb⟩
end
/-- What a step's box keeps through what turns the clocks. -/
theorem step_pair {w w' : World} {gp g0 g1 b gq : Nat} {t : TypeId} {cs : Array Value} (B : Blk w gq t cs) (hq : b + 5 < gq) (hb : gp < b ∧ g0 < b ∧ g1 < b) (F : Fr3 w w' gp g0 g1) : Blk w' gq t cs := F.keep B (by omega) (by omega) (by omega)
def lendC (c0 c1 : Ck) (r : Bool) (now most : Int) : Ck := if r = true ∧ freshV c0 now most = true ∧ (atV c0 now).2 = true then holdV c1 now (atV c0 now).1 else c1
def pickC (c0 c1 : Ck) (l now most : Int) : Int := if freshV c0 now most = true then 0 else if freshV c1 now most = true then 1 else l
theorem fresh_be {P : Program} {f : FuncId} {a : Array Value} {w : World} {v : Value} (h : Calls P f a w fun e w' => e = .returned v ∧ w = w') : Calls P f a w fun e w' => e = .returned v ∧ Below w.heap.size w w' := h.mono fun e w' h => ⟨h.1, by rw [← h.2]; exact Below.refl _ _⟩
theorem lend_same (p : Pr) (now : Int) : (lendV p now).c0 = p.c0 ∧ (lendV p now).c1 = lendC p.c0 p.c1 p.root1 now p.most ∧ (lendV p now).root1 = p.root1 ∧ (lendV p now).last = p.last ∧ (lendV p now).most = p.most := by
  unfold lendV lendC
  split <;> exact ⟨rfl, rfl, rfl, rfl, rfl⟩
theorem pick_same (p : Pr) (now : Int) : pickV p now = pickC p.c0 p.c1 p.last now p.most := rfl
set_option maxRecDepth 100000 in
set_option maxHeartbeats 4000000 in
theorem lend_run (w0 w : World) (gm gp g0 g1 b : Nat) (most now : Int) (p : Pr) (c0 c1 : Ck) (r : Bool) (l : Int) (K : KK w0 w gm gp g0 g1 b most p c0 c1 r l) (hw0 : c0.Wf) (hn : I64 now) :
    Calls Try.prog 18 #[.int .i64 now, .pointer (some ⟨b + 4, 0, none⟩), .pointer (some ⟨b + 3, 0, none⟩), .pointer (some ⟨gm, 0, none⟩)] w fun e w' => e = .returned (.tuple #[]) ∧ KK w0 w' gm gp g0 g1 b most p c0 (lendC c0 c1 r now most) r l ∧ w.grownBy w' (some (b + 1)) := by
  have HF := Lib.hid (fun W (B : CkIn W b c0) => fresh_be (fresh_any c0 b now most W B hw0 hn))
  have HA := Lib.hid (fun W B => at_any c0 b now W B hw0 hn)
  obtain ⟨R, hR⟩ : ∃ R, R = lendC c0 c1 r now most := ⟨_, rfl⟩
  rw [← hR]
  unfold lendC at hR
  have r1 := K.R.cellOf (v := .bool r) 0 rfl
  have k1 := K.B.cellOf (v := .slice (some ⟨b + 2, 0, none⟩) 2 2) 0 rfl
  have p0 := K.S.cellOf (v := .pointer (some ⟨b, 0, none⟩)) 0 rfl
  have p1 := K.S.cellOf (v := .pointer (some ⟨b + 1, 0, none⟩)) 1 rfl
  have m0 := K.M.cellOf (v := .int .i64 most) 0 rfl
  have l0 := K.C0.lt
  have l2 := K.S.lt
  have l3 := K.B.lt
  have l4 := K.R.lt
  have l5 := K.M.lt
  generalize freshV c0 now most = f0 at *
  generalize (atV c0 now).1 = t0 at *
  generalize (atV c0 now).2 = o0 at *
  have HR := Lib.hid hR
  clear hR hw0 hn
  cases r with
  | false =>
    go_enter Try.func18, Try.ntmps18
    go_wp2_with fail
    refine wp_region_class (fun w' => Below w.heap.size w w') (by kernel_rfl) (by kernel_rfl) (Below.refl _ _).drew ?_
    repeat (first | (with_reducible (refine wpQuiet_skip ?_ ?_); (first | exact wanted_off rfl rfl rfl rfl | exact wanted_off2 rfl rfl rfl); simp only [Act.put, List.setIfInBounds_toArray, List.set_cons_zero, List.set_cons_succ]) | (with_reducible (refine wpQuiet_val (v := ?_) ?_ ?_ ?_); rotate_left; (first | exact wanted_none rfl | exact wanted_on rfl rfl rfl); (intro w' hw'; obtain ⟨hc, hf⟩ := bcell hw'; go_simp; with_reducible rfl); simp only [Act.put, List.setIfInBounds_toArray, List.set_cons_zero, List.set_cons_succ]))
    refine wpQuiet_nil ?_
    intro w4 hw4
    have K4 := K.kept hw4
    obtain rfl : R = c1 := by rw [HR.out, if_neg (by simp)]
    have G4 : w.grownBy w4 (some (b + 1)) := gr_below hw4 _
    clear r1 k1 p0 p1 m0 K hw4
    go_wp2_with fail
    exact bodyPost_end (results_none rfl _ _ _) rfl ⟨rfl, K4, G4⟩
  | true =>
    go_enter Try.func18, Try.ntmps18
    go_wp2_with fail
    refine wp_region_class (fun w' => Below w.heap.size w w') (by kernel_rfl) (by kernel_rfl) (Below.refl _ _).drew ?_
    repeat (first | (with_reducible (refine wpQuiet_skip ?_ ?_); (first | exact wanted_off rfl rfl rfl rfl | exact wanted_off2 rfl rfl rfl); simp only [Act.put, List.setIfInBounds_toArray, List.set_cons_zero, List.set_cons_succ]) | (with_reducible (refine wpQuiet_val (v := ?_) ?_ ?_ ?_); rotate_left; (first | exact wanted_none rfl | exact wanted_on rfl rfl rfl); (intro w' hw'; obtain ⟨hc, hf⟩ := bcell hw'; go_simp; with_reducible rfl); simp only [Act.put, List.setIfInBounds_toArray, List.set_cons_zero, List.set_cons_succ]) | (with_reducible (refine wpQuiet_call (v := ?_) 19 ?_ ?_ ?_ ?_ ?_); rotate_left 2; (first | exact wanted_none rfl | exact wanted_on rfl rfl rfl); (intro w' hw'; obtain ⟨hc, hf⟩ := bcell hw'; go_simp; with_reducible rfl); (intro w' hw'; (with_reducible refine (HF.out _ (K.C0.below hw' l0)).mono ?_); rintro e w2 ⟨rfl, hb⟩; refine ⟨?_, hw'.trans (hb.mono (by have h0 := hw'.size; first | omega | (simp at h0; omega)))⟩; with_reducible rfl); simp only [Act.put, List.setIfInBounds_toArray, List.set_cons_zero, List.set_cons_succ]))
    refine wpQuiet_nil ?_
    intro w4 hw4
    have K4 := K.kept hw4
    have G4 : w.grownBy w4 (some (b + 1)) := gr_below hw4 _
    clear r1 k1 p0 p1 m0 K hw4 l0 l2 l3 l4 l5
    cases f0 with
    | false =>
      obtain rfl : R = c1 := by rw [HR.out, if_neg (by simp)]
      go_wp2_with fail
      exact bodyPost_end (results_none rfl _ _ _) rfl ⟨rfl, K4, G4⟩
    | true =>
      have k1 := K4.B.cellOf (v := .slice (some ⟨b + 2, 0, none⟩) 2 2) 0 rfl
      have p0 := K4.S.cellOf (v := .pointer (some ⟨b, 0, none⟩)) 0 rfl
      go_wp2_with fail
      refine (HA.out _ K4.C0).mono ?_
      rintro e w5 ⟨rfl, L5⟩
      have K5 := K4.kept L5
      have G5 := gr_trans G4 (gr_below L5 (some (b + 1)))
      clear k1 p0 K4 G4 L5
      cases o0 with
      | false =>
        obtain rfl : R = c1 := by rw [HR.out, if_neg (by simp)]
        go_wp2_with fail
        exact bodyPost_end (results_none rfl _ _ _) rfl ⟨rfl, K5, G5⟩
      | true =>
        obtain rfl : R = holdV c1 now t0 := by rw [HR.out, if_pos (by simp)]
        have k1 := K5.B.cellOf (v := .slice (some ⟨b + 2, 0, none⟩) 2 2) 0 rfl
        have p1 := K5.S.cellOf (v := .pointer (some ⟨b + 1, 0, none⟩)) 1 rfl
        go_wp2_with fail
        refine (hold_any c1 (b + 1) now t0 _ K5.C1).mono ?_
        rintro e w6 ⟨rfl, C6, G6⟩
        have K6 := K5.clk1 C6 G6
        have GG := gr_trans G5 G6
        clear k1 p1 K5 G5
        go_wp2_with fail
        exact bodyPost_end (results_none rfl _ _ _) rfl ⟨rfl, K6, GG⟩
set_option maxRecDepth 100000 in
set_option maxHeartbeats 4000000 in
theorem pick_run2 (w0 w : World) (gm gp g0 g1 b : Nat) (most now : Int) (p : Pr) (c0 c1 : Ck) (r : Bool) (l : Int) (K : KK w0 w gm gp g0 g1 b most p c0 c1 r l) (hw0 : c0.Wf) (hw1 : c1.Wf) (hn : I64 now) :
    Calls Try.prog 22 #[.int .i64 now, .pointer (some ⟨b + 3, 0, none⟩), .pointer (some ⟨gm, 0, none⟩), .pointer (some ⟨b + 5, 0, none⟩)] w fun e w' => e = .returned (.int .i64 (pickC c0 c1 l now most)) ∧ KK w0 w' gm gp g0 g1 b most p c0 c1 r (pickC c0 c1 l now most) ∧ w.grownBy w' (some (b + 5)) := by
  have HF := Lib.hid (fun W (B : CkIn W b c0) => fresh_be (fresh_any c0 b now most W B hw0 hn))
  have HF1 := Lib.hid (fun W (B : CkIn W (b + 1) c1) => fresh_be (fresh_any c1 (b + 1) now most W B hw1 hn))
  obtain ⟨R, hR⟩ : ∃ R, R = pickC c0 c1 l now most := ⟨_, rfl⟩
  rw [← hR]
  unfold pickC at hR
  have k1 := K.B.cellOf (v := .slice (some ⟨b + 2, 0, none⟩) 2 2) 0 rfl
  have p0 := K.S.cellOf (v := .pointer (some ⟨b, 0, none⟩)) 0 rfl
  have m0 := K.M.cellOf (v := .int .i64 most) 0 rfl
  have l0 := K.C0.lt
  have l2 := K.S.lt
  have l3 := K.B.lt
  have l5 := K.M.lt
  generalize freshV c0 now most = f0 at *
  generalize freshV c1 now most = f1 at *
  have HR := Lib.hid hR
  clear hR hw0 hn hw1
  go_enter Try.func22, Try.ntmps22
  go_wp2_with fail
  refine wp_region_class (fun w' => Below w.heap.size w w') (by kernel_rfl) (by kernel_rfl) (Below.refl _ _).drew ?_
  repeat (first | (with_reducible (refine wpQuiet_skip ?_ ?_); (first | exact wanted_off rfl rfl rfl rfl | exact wanted_off2 rfl rfl rfl); simp only [Act.put, List.setIfInBounds_toArray, List.set_cons_zero, List.set_cons_succ]) | (with_reducible (refine wpQuiet_val (v := ?_) ?_ ?_ ?_); rotate_left; (first | exact wanted_none rfl | exact wanted_on rfl rfl rfl); (intro w' hw'; obtain ⟨hc, hf⟩ := bcell hw'; go_simp; with_reducible rfl); simp only [Act.put, List.setIfInBounds_toArray, List.set_cons_zero, List.set_cons_succ]) | (with_reducible (refine wpQuiet_call (v := ?_) 19 ?_ ?_ ?_ ?_ ?_); rotate_left 2; (first | exact wanted_none rfl | exact wanted_on rfl rfl rfl); (intro w' hw'; obtain ⟨hc, hf⟩ := bcell hw'; go_simp; with_reducible rfl); (intro w' hw'; (with_reducible refine (HF.out _ (K.C0.below hw' l0)).mono ?_); rintro e w2 ⟨rfl, hb⟩; refine ⟨?_, hw'.trans (hb.mono (by have h0 := hw'.size; first | omega | (simp at h0; omega)))⟩; with_reducible rfl); simp only [Act.put, List.setIfInBounds_toArray, List.set_cons_zero, List.set_cons_succ]))
  refine wpQuiet_nil ?_
  intro w4 hw4
  have K4 := K.kept hw4
  have G4 : w.grownBy w4 (some (b + 5)) := gr_below hw4 _
  clear k1 p0 m0 K hw4 l0 l2 l3 l5
  cases f0 with
  | true =>
    obtain rfl : R = 0 := by rw [HR.out, if_pos rfl]
    have y5 := K4.L.cellOf (v := .int .i64 l) 0 rfl
    have fz := K4.L.frozen
    have K5 := K4.setL 0
    have G5 := gr_set G4 0 (.int .i64 0)
    have y6 := K5.L.cellOf (v := .int .i64 0) 0 rfl
    clear K4 G4
    go_wp2_with fail
    go_ret
    exact ⟨rfl, K5, G5⟩
  | false =>
    have k1 := K4.B.cellOf (v := .slice (some ⟨b + 2, 0, none⟩) 2 2) 0 rfl
    have p1 := K4.S.cellOf (v := .pointer (some ⟨b + 1, 0, none⟩)) 1 rfl
    have m0 := K4.M.cellOf (v := .int .i64 most) 0 rfl
    have l0 := K4.C1.lt
    have l2 := K4.S.lt
    have l3 := K4.B.lt
    have l5 := K4.M.lt
    go_wp2_with fail
    refine wp_region_class (fun w' => Below w4.heap.size w4 w') (by kernel_rfl) (by kernel_rfl) (Below.refl _ _).drew ?_
    repeat (first | (with_reducible (refine wpQuiet_skip ?_ ?_); (first | exact wanted_off rfl rfl rfl rfl | exact wanted_off2 rfl rfl rfl); simp only [Act.put, List.setIfInBounds_toArray, List.set_cons_zero, List.set_cons_succ]) | (with_reducible (refine wpQuiet_val (v := ?_) ?_ ?_ ?_); rotate_left; (first | exact wanted_none rfl | exact wanted_on rfl rfl rfl); (intro w' hw'; obtain ⟨hc, hf⟩ := bcell hw'; go_simp; with_reducible rfl); simp only [Act.put, List.setIfInBounds_toArray, List.set_cons_zero, List.set_cons_succ]) | (with_reducible (refine wpQuiet_call (v := ?_) 19 ?_ ?_ ?_ ?_ ?_); rotate_left 2; (first | exact wanted_none rfl | exact wanted_on rfl rfl rfl); (intro w' hw'; obtain ⟨hc, hf⟩ := bcell hw'; go_simp; with_reducible rfl); (intro w' hw'; (with_reducible refine (HF1.out _ (K4.C1.below hw' l0)).mono ?_); rintro e w2 ⟨rfl, hb⟩; refine ⟨?_, hw'.trans (hb.mono (by have h0 := hw'.size; first | omega | (simp at h0; omega)))⟩; with_reducible rfl); simp only [Act.put, List.setIfInBounds_toArray, List.set_cons_zero, List.set_cons_succ]))
    refine wpQuiet_nil ?_
    intro w5 hw5
    have K5 := K4.kept hw5
    have G5 := gr_trans G4 (gr_below hw5 (some (b + 5)))
    clear k1 p1 m0 K4 hw5 l0 l2 l3 l5 G4
    have y5 := K5.L.cellOf (v := .int .i64 l) 0 rfl
    cases f1 with
    | true =>
      obtain rfl : R = 1 := by rw [HR.out, if_neg (by simp), if_pos rfl]
      have fz := K5.L.frozen
      have K6 := K5.setL 1
      have G6 := gr_set G5 0 (.int .i64 1)
      have y6 := K6.L.cellOf (v := .int .i64 1) 0 rfl
      clear K5 G5
      go_wp2_with fail
      go_ret
      exact ⟨rfl, K6, G6⟩
    | false =>
      obtain rfl : R = l := by rw [HR.out, if_neg (by simp), if_neg (by simp)]
      go_wp2_with fail
      go_ret
      exact ⟨rfl, K5, G5⟩
end Go.Proofs.Ytjjpmckefglhnaa
