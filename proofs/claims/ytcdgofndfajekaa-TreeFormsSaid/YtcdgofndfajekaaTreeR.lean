/-
  Layer 20: what TreeRuns keeps of what each port has heard; its steps; the worlds that it goes through.
-/
import Derived.Test.YtcdgofndfajekaaTreeQ
import Derived.Test.YtcdgofndfajekaaBestSame
import Derived.Test.YtcdgofndfajekaaSm
namespace Go.Proofs.Ytcdgofndfajekaa
set_option linter.unusedSimpArgs false
set_option linter.unusedVariables false
open Go.RowKit Go.WideShapes Go.ChangeShapes
attribute [local go_sem ↓] Go.wp_at_zero Go.wp_at_succ

/-! ### The list of what was heard -/
def kc (e : En) (q : Value) : List Value := .bool e.up :: .bool e.ok :: (e.vec.cells ++ [q, .int .i64 e.at_])
def kcells (es : List En) (qs : List Value) : List Value := (es.zip qs).flatMap fun p => kc p.1 p.2
theorem kcells_at {es : List En} {qs : List Value} {k : Nat} {e : En} {q : Value} (he : es[k]? = some e) (hq : qs[k]? = some q) {r : Nat} (hr : r < 12) : (kcells es qs)[k * 12 + r]? = (kc e q)[r]? := by
  have hz : (es.zip qs)[k]? = some (e, q) := List.getElem?_zip_eq_some.2 ⟨he, hq⟩
  exact flatMap_get (f := fun p : En × Value => kc p.1 p.2) (size := 12) (fun _ => rfl) hz r hr
theorem zip_set : ∀ (es : List En) (qs : List Value) (k : Nat) (e : En) (q : Value), (es.set k e).zip (qs.set k q) = (es.zip qs).set k (e, q)
  | [], qs, k, e, q => by simp
  | x :: es, [], k, e, q => by cases k <;> simp
  | x :: es, y :: qs, 0, e, q => by simp
  | x :: es, y :: qs, k + 1, e, q => by simp [zip_set es qs k e q]
theorem kput {es : List En} {qs : List Value} {k : Nat} {e e' : En} {q q' : Value} (he : es[k]? = some e) (hq : qs[k]? = some q) (a old vs b : List Value) (h1 : kc e q = a ++ old ++ b) (h2 : kc e' q' = a ++ vs ++ b) (hl : old.length = vs.length) :
    putAll (kcells es qs).toArray (k * 12 + a.length) vs = (kcells (es.set k e') (qs.set k q')).toArray := by
  have hz : (es.zip qs)[k]? = some (e, q) := List.getElem?_zip_eq_some.2 ⟨he, hq⟩
  unfold kcells
  rw [zip_set]
  generalize es.zip qs = Z at hz ⊢
  have hk := (List.getElem?_eq_some_iff.1 hz).1
  have e1 : Z = Z.take k ++ (e, q) :: Z.drop (k + 1) := by
    have := List.getElem?_eq_some_iff.1 hz
    rw [← this.2, List.getElem_cons_drop, List.take_append_drop]
  have e2 : Z.set k (e', q') = Z.take k ++ (e', q') :: Z.drop (k + 1) := by rw [List.set_eq_take_append_cons_drop, if_pos hk]
  have hlen : ∀ l : List (En × Value), (l.flatMap fun p => kc p.1 p.2).length = l.length * 12 := by
    intro l
    induction l with
    | nil => rfl
    | cons x l ih => rw [List.flatMap_cons, List.length_append, ih]; show 12 + _ = _; simp; omega
  have hp : ((Z.take k).flatMap fun p => kc p.1 p.2).length = k * 12 := by rw [hlen, List.length_take, Nat.min_eq_left (Nat.le_of_lt hk)]
  rw [e2]
  conv => lhs; rw [e1]
  simp only [List.flatMap_append, List.flatMap_cons]
  show putAll (_ ++ (kc e q ++ _)).toArray _ vs = (_ ++ (kc e' q' ++ _)).toArray
  rw [h1, h2, ← hp, ← List.length_append]
  have := putAll_list vs ((Z.take k).flatMap (fun p => kc p.1 p.2) ++ a) old (b ++ (Z.drop (k + 1)).flatMap fun p => kc p.1 p.2) hl
  simpa [List.append_assoc] using this
structure KsAt (w : World) (S : List Nat) (gk : Nat) (es : List En) (qs : List Value) : Prop where
  box : Blk w gk 51 (kcells es qs).toArray
  len : qs.length = es.length
  pth : ∀ (k : Nat) (e : En), es[k]? = some e → ∃ (A : Option Addr) (c : Nat), qs[k]? = some (Value.slice A e.path.length c) ∧ e.path.length ≤ c ∧ Path w S A e.path
theorem KsAt.fr {w w' : World} {S S' : List Nat} {gk : Nat} {es : List En} {qs : List Value} (h : KsAt w S gk es qs) (hf : Fr S' w w') (hs : ∀ k, k ∈ S' → k ∈ S) (hg : gk ∉ S') : KsAt w' S gk es qs :=
  ⟨hf.blk h.box hg, h.len, fun k e he => by
    obtain ⟨A, c, h1, h2, h3⟩ := h.pth k e he
    exact ⟨A, c, h1, h2, h3.fr hf hs⟩⟩
def zk : Array Value := #[.bool false, .bool false, .int .i64 0, .int .i64 0, .int .i64 0, .int .i64 0, .int .i64 0, .int .i64 0, .int .i64 0, .int .i64 0, .slice none 0 0, .int .i64 0]
theorem made_kept (n : Nat) : madeCells zk (n * 12) = (kcells (List.replicate n En.new) (List.replicate n (.slice none 0 0))).toArray := by
  have hl : ∀ l : List (En × Value), (l.flatMap fun p => kc p.1 p.2).length = l.length * 12 := by
    intro l
    induction l with
    | nil => rfl
    | cons x l ih => rw [List.flatMap_cons, List.length_append, ih]; show 12 + _ = _; simp; omega
  have hs : (kcells (List.replicate n En.new) (List.replicate n (.slice none 0 0))).length = n * 12 := by unfold kcells; rw [hl]; simp
  apply Array.ext
  · have e : (kcells (List.replicate n En.new) (List.replicate n (.slice none 0 0))).toArray.size = n * 12 := by rw [List.size_toArray]; exact hs
    rw [e]; simp [madeCells]
  · intro j h1 h2
    rw [List.size_toArray, hs] at h2
    have hq : j / 12 < n := by omega
    have h3 : (kcells (List.replicate n En.new) (List.replicate n (.slice none 0 0)))[j / 12 * 12 + j % 12]? = (kc En.new (.slice none 0 0))[j % 12]? :=
      kcells_at (by rw [List.getElem?_replicate, if_pos hq]) (by rw [List.getElem?_replicate, if_pos hq]) (by omega)
    rw [show j / 12 * 12 + j % 12 = j by omega] at h3
    have h5 : (madeCells zk (n * 12))[j]? = zk[j % 12]? := by
      have hz : zk.size = 12 := rfl
      rw [Array.getElem?_eq_getElem h1, Array.getElem?_eq_getElem (show j % 12 < zk.size by omega)]
      have h8 : zk[j % 12]! = zk[j % 12]'(by omega) := getElem!_pos zk (j % 12) (by omega)
      simp [madeCells, hz, h8]
    have h6 : zk[j % 12]? = (kc En.new (.slice none 0 0))[j % 12]? := by rw [show zk = (kc En.new (.slice none 0 0)).toArray from rfl, List.getElem?_toArray]
    have h7 := h5.trans (h6.trans h3.symm)
    rw [Array.getElem?_eq_getElem h1, List.getElem?_eq_getElem (by rw [hs]; exact h2)] at h7
    simpa using Option.some.inj h7
theorem mk_kept (N : Nat) (hN : N ≤ 8) (W : World) : (Instr.makeSlice 44 (.int .i64 (N : Int)) (.int .i64 (N : Int))).run Try.prog W = .ok (.slice (some ⟨W.heap.size, 0, none⟩) N N) (W.alloc (.cells (madeCells zk (N * 12)) 51)) := by
  obtain ⟨i, h1, h2, h3, h4⟩ := info_parts (show (Try.prog.info? 51).map (fun i => (i.zero, i.size, i.bytes)) = some (some (.agg zk), 12, 104) by kernel_rfl)
  have := run_make_rowN (P := Try.prog) 44 51 i (.agg zk) Try.underlying44 h1 h2 .i64 .i64 N N (Nat.le_refl _) (by rw [h4]; omega) (by omega) W
  rw [h3] at this
  exact this
/-! ### The worlds -/
structure TI (w0 w : World) (b : Bks) (g6 gm gk : Nat) (own : Pr) (t : Tre) (es : List En) (ps qs : List Value) : Prop where
  tat : TAt w b t ps
  nk : ∀ (j : Nat) (A : Option Addr) (n c : Nat), ps[j]? = some (.slice A n c) → 0 < n → ∀ ad, A = some ad → ad.block ≠ gk
  ks : KsAt w (gk :: b.all) gk es qs
  own_ : Blk w g6 23 #[.int .i64 own.one, .int .i64 own.cls, .int .i64 own.two, .int .i64 own.id]
  mine : Blk w gm 46 #[.int .i64 own.one, .int .i64 own.cls, .int .i64 own.two, .int .i64 own.id, .int .i64 0, .int .i64 0, .int .i64 0, .int .i64 0]
  below : Below w0.heap.size w0 w
  old : w0.heap.size ≤ g6 ∧ w0.heap.size ≤ gm ∧ w0.heap.size ≤ gk ∧ ∀ g ∈ b.all, w0.heap.size ≤ g
  apart : g6 ∉ b.all ∧ gm ∉ b.all ∧ gk ∉ b.all ∧ g6 ≠ gk ∧ gm ≠ gk
section
variable {w0 w w' : World} {b : Bks} {g6 gm gk : Nat} {own : Pr} {t t' : Tre} {es es' : List En} {ps ps' qs qs' : List Value}
theorem TI.kept (h : TI w0 w b g6 gm gk own t es ps qs) (hb : Below w.heap.size w w') : TI w0 w' b g6 gm gk own t es ps qs :=
  ⟨h.tat.kept hb, h.nk, h.ks.fr (S' := []) (Fr.be hb) (by simp) (by simp), h.own_.kept hb, h.mine.kept hb, h.below.trans (hb.mono h.below.size), h.old, h.apart⟩
theorem turn_all {b : Bks} {k : Nat} (h : k ∈ b.turn) : k ∈ b.all := by simp [Bks.turn, Bks.all] at h ⊢; omega
theorem TI.tree (h : TI w0 w b g6 gm gk own t es ps qs) (T : TAt w' b t' ps') (N : PNew w ps ps') (F : Fr b.turn w w') : TI w0 w' b g6 gm gk own t' es ps' qs := by
  obtain ⟨o1, o2, o3, o4⟩ := h.old
  obtain ⟨a1, a2, a3, a4, a5⟩ := h.apart
  refine ⟨T, fun j A n c hj h0 ad hA => ?_, h.ks.fr F (fun k hk => List.mem_cons_of_mem _ (turn_all hk)) (fun x => a3 (turn_all x)), F.blk h.own_ (fun x => a1 (turn_all x)), F.blk h.mine (fun x => a2 (turn_all x)), h.below.trans (F.below h.below.size (fun k hk => o4 k (turn_all hk))), h.old, h.apart⟩
  rcases N j _ hj with h1 | ⟨A', n', c', h1, h2⟩
  · exact h.nk j A n c h1 h0 ad hA
  · injection h1 with h1 _ _
    subst h1
    have := h2 ad hA
    have := h.ks.box.lt
    omega
/-- One block, that is neither the tree's nor the law's own, or the list itself, turned. -/
theorem TI.list (h : TI w0 w b g6 gm gk own t es ps qs) (F : Fr [gk] w w') (K : KsAt w' (gk :: b.all) gk es' qs') : TI w0 w' b g6 gm gk own t es' ps qs' := by
  obtain ⟨o1, o2, o3, o4⟩ := h.old
  obtain ⟨a1, a2, a3, a4, a5⟩ := h.apart
  refine ⟨h.tat.far F (by simp; exact a3) (fun k e A c he hp h0 => ?_), h.nk, K, F.blk h.own_ (by simp [a4]), F.blk h.mine (by simp [a5]), h.below.trans (F.below h.below.size (by simp; exact o3)), h.old, h.apart⟩
  obtain ⟨A', c', h1, h2, h3⟩ := h.tat.pth k e he
  rw [hp] at h1
  injection h1 with h1
  injection h1 with h1 h1' h1''
  subst h1
  obtain ⟨ad, e1, hl, hn, hc⟩ := h3 h0
  exact ⟨ad, e1, hl, by simp; exact h.nk k A _ _ hp h0 ad e1, hc⟩
end
/-! ### What the entries are -/
def EOk (e : En) : Prop := (-1125899906842624 ≤ e.at_ ∧ e.at_ ≤ 1125899906842624) ∧ e.path.length ≤ 31 ∧ okN ids e.path = true ∧ okN 255 [e.vec.root.one, e.vec.root.cls, e.vec.root.two, e.vec.steps] = true ∧ e.vec.steps ≤ 254 ∧ okN ids [e.vec.root.id] = true ∧ e.vec.at_ = 0
theorem EOk.new : EOk En.new := ⟨by decide, by decide, rfl, rfl, by decide, rfl, rfl⟩
def RightP (own : Pr) : Prop := (0 ≤ own.one ∧ own.one ≤ 255) ∧ (0 ≤ own.cls ∧ own.cls ≤ 255) ∧ (0 ≤ own.two ∧ own.two ≤ 255) ∧ (0 ≤ own.id ∧ own.id < 281474976710656)
instance (own : Pr) : Decidable (RightP own) := by unfold RightP; exact inferInstance
def BadN (dom : Int) (own : Pr) (ports most : Int) : Prop := dom < 0 ∨ 127 < dom ∨ ports < 0 ∨ 8 < ports ∨ most < 1 ∨ 1099511627776 < most ∨ ¬ RightP own
theorem bad_or {dom : Int} {own : Pr} {ports most : Int} (h : BadN dom own ports most) : (decide (dom < 0) || decide (127 < dom) || decide (ports < 0) || decide (8 < ports) || decide (most < 1) || decide (1099511627776 < most) || !decide (RightP own)) = true := by
  unfold BadN at h
  simp only [Bool.or_eq_true, decide_eq_true_eq, Bool.not_eq_true', decide_eq_false_iff_not]
  rcases h with h | h | h | h | h | h | h
  · exact .inl (.inl (.inl (.inl (.inl (.inl h)))))
  · exact .inl (.inl (.inl (.inl (.inl (.inr h)))))
  · exact .inl (.inl (.inl (.inl (.inr h))))
  · exact .inl (.inl (.inl (.inr h)))
  · exact .inl (.inl (.inr h))
  · exact .inl (.inr h)
  · exact .inr h
theorem new_bad (dom : Int) (own : Pr) (ports most : Int) (w : World) (h : BadN dom own ports most) :
    Calls Try.prog 8 #[.int .i64 dom, .agg #[.int .i64 own.one, .int .i64 own.cls, .int .i64 own.two, .int .i64 own.id], .int .i64 ports, .int .i64 most] w fun e w' => e = .returned (.tuple #[.pointer none, .int .i64 1]) ∧ Below w.heap.size w w' := by
  refine (new_any dom own ports most w).mono fun e w' hN => ?_
  unfold NewT at hN
  by_cases h1 : dom < 0 ∨ 127 < dom ∨ ports < 0 ∨ 8 < ports ∨ most < 1 ∨ 1099511627776 < most
  · rw [if_pos h1] at hN; exact hN
  · rw [if_neg h1] at hN
    have hr : ¬ RightP own := by unfold BadN at h; simp only [not_or] at h1; rcases h with h | h | h | h | h | h | h <;> first | omega | exact h
    have hc : checkV (mOwn own) = 1 := check_range (by unfold Known mOwn; simp) fun hi => hr (by
      obtain ⟨_, h2, h3⟩ := hi
      have a := okN_mem h2
      have b := okN_mem h3
      simp only [mOwn, List.mem_cons, List.not_mem_nil, or_false, forall_eq_or_imp, forall_eq] at a b
      unfold ids at b
      exact ⟨a.1, a.2.1, a.2.2.1, b.1, by omega⟩)
    rw [hc, if_pos (by decide)] at hN
    exact hN
/-! ### Steps -/
structure S20 where
  k : Int
  at_ : Int
  m : Mg
  A : Option Addr
  n : Nat
  c : Nat
  now : Int
  on : Bool
  nn : Int
def s20c (s : S20) : Array Value := #[.int .i64 s.k, .int .i64 s.at_, .int .i64 s.m.kind, .int .i64 s.m.domain, .int .i64 s.m.seq, .int .i64 s.m.src, .int .i64 s.m.port, .int .i64 s.m.corr, .int .i64 s.m.time, .int .i64 s.m.to, .int .i64 s.m.toPort, .int .i64 s.m.rate, .int .i64 s.m.one, .int .i64 s.m.cls, .int .i64 s.m.two, .int .i64 s.m.id, .int .i64 s.m.steps, .slice s.A s.n s.c, .int .i64 s.now, .bool s.on, .int .i64 s.nn]
set_option maxHeartbeats 2000000 in
set_option maxRecDepth 100000 in
theorem open_s20 {H : Type} {enc : TypeId × Value → H} {W : World} {v : Value} {d : DataW H} {p : List MemPlace} {b0 : Nat} (hv : Value.okWide Try.prog W .any b0 24 v)
    (h : DataW.Trod enc Try.prog W 0 (fun _ => true) true 24 v d p) (hlt : ∀ x ∈ p, x.block < W.heap.size) :
    ∃ (A : Option Addr) (n c : Nat) (xs : List Value), v = .slice A n c ∧ n ≤ maxLen ∧ Reads W W.heap.size 21 A n xs ∧ ∀ i, i < n → ∃ s : S20, (s20c s).toList = (xs.drop (i * 21)).take 21 ∧ MsgIn W W.heap.size s.m s.A s.n := by
  obtain ⟨A, n, c, xs, rfl, h1, h2, _, hr, hall⟩ := open_slice_arg (n := 5) (ls := [3, 3, 3, 3, 3, 3, 3, 35, 35, 3, 3, 36, 3, 3, 3, 3, 3, 32, 3, 4, 3]) Try.underlying24 (by kernel_rfl) (by kernel_rfl) (by simp) hv h hlt
  refine ⟨A, n, c, xs, rfl, by omega, hr, fun i hi => ?_⟩
  have ha := hall i hi
  simp only [List.length_cons, List.length_nil, Nat.reduceAdd] at ha
  generalize (xs.drop (i * 21)).take 21 = cs at *
  match cs, ha with
  | [c0, c1, c2, c3, c4, c5, c6, c7, c8, c9, c10, c11, c12, c13, c14, c15, c16, c17, c18, c19, c20], ⟨l0, l1, l2, l3, l4, l5, l6, l7, l8, l9, l10, l11, l12, l13, l14, l15, l16, l17, l18, l19, l20, _⟩ =>
    obtain ⟨n0, rfl, _⟩ := l0.i64 Try.underlying3
    obtain ⟨n1, rfl, _⟩ := l1.i64 Try.underlying3
    obtain ⟨n2, rfl, _⟩ := l2.i64 Try.underlying3
    obtain ⟨n3, rfl, _⟩ := l3.i64 Try.underlying3
    obtain ⟨n4, rfl, _⟩ := l4.i64 Try.underlying3
    obtain ⟨n5, rfl, _⟩ := l5.i64 Try.underlying3
    obtain ⟨n6, rfl, _⟩ := l6.i64 Try.underlying3
    obtain ⟨n7, rfl, _⟩ := l7.i64 Try.underlying35
    obtain ⟨n8, rfl, _⟩ := l8.i64 Try.underlying35
    obtain ⟨n9, rfl, _⟩ := l9.i64 Try.underlying3
    obtain ⟨n10, rfl, _⟩ := l10.i64 Try.underlying3
    obtain ⟨n11, rfl, _⟩ := l11.i64 Try.underlying36
    obtain ⟨n12, rfl, _⟩ := l12.i64 Try.underlying3
    obtain ⟨n13, rfl, _⟩ := l13.i64 Try.underlying3
    obtain ⟨n14, rfl, _⟩ := l14.i64 Try.underlying3
    obtain ⟨n15, rfl, _⟩ := l15.i64 Try.underlying3
    obtain ⟨n16, rfl, _⟩ := l16.i64 Try.underlying3
    obtain ⟨A17, n17, k17, zs, rfl, hn17, hl17, hr17, _⟩ := open_ints_leaf Try.underlying32 Try.underlying3 (by kernel_rfl) (by kernel_rfl) l17
    obtain ⟨n18, rfl, _⟩ := l18.i64 Try.underlying3
    obtain ⟨n19, rfl⟩ := l19.bool Try.underlying4
    obtain ⟨n20, rfl, _⟩ := l20.i64 Try.underlying3
    exact ⟨⟨n0, n1, ⟨n2, n3, n4, n5, n6, n7, n8, n9, n10, n11, n12, n13, n14, n15, n16, zs⟩, A17, n17, k17, n18, n19, n20⟩, rfl, ⟨hr17, hl17, hn17⟩⟩
theorem s20_msg {w : World} {g : Nat} {t : TypeId} {s : S20} (B : Blk w g t (s20c s)) : ∀ (j : Nat) (v : Value), (mcells s.m s.A s.n s.c).toList[j]? = some v → w.cell? ((⟨g, 2, none⟩ : Addr).add j) = some v := by
  intro j v hv
  have e : (⟨g, 2, none⟩ : Addr).add j = ⟨g, 2 + j, none⟩ := by unfold Addr.add; split <;> simp_all
  rw [e, B.cell]
  have hj : j < 16 := (List.getElem?_eq_some_iff.1 hv).1
  rw [← Array.getElem?_toList, show (s20c s).toList = .int .i64 s.k :: .int .i64 s.at_ :: ((mcells s.m s.A s.n s.c).toList ++ [.int .i64 s.now, .bool s.on, .int .i64 s.nn]) from rfl, show 2 + j = j + 1 + 1 by omega, List.getElem?_cons_succ, List.getElem?_cons_succ, List.getElem?_append_left hj]
  exact hv
/-! ### has -/
set_option maxHeartbeats 1000000 in
theorem has_any (xs : List Int) (x : Int) (A : Option Addr) (n c : Nat) (w : World) (hr : Reads w w.heap.size 1 A n (vs xs)) (hn : n ≤ maxLen) :
    Calls Try.prog 16 #[.slice A n c, .int .i64 x] w fun e w' => e = .returned (.bool (decide (x ∈ xs))) ∧ w = w' := by
  have hl : xs.length = n := by have := hr.1; rw [vs_length] at this; omega
  have HR := Lib.hid hr
  have HL := Lib.hid hl
  obtain ⟨B, hB⟩ : ∃ B, B = decide (x ∈ xs) := ⟨_, rfl⟩
  rw [← hB]
  have HB := Lib.hid hB
  clear hr hl hB
  go_enter Try.func16, Try.ntmps16
  go_wp2_with fail
  go_loopw [9] (fun i wr => ∃ k : Nat, i = .int .i64 (k : Nat) ∧ k ≤ n ∧ wr = w ∧ Hid (∀ j, j < k → xs[j]? ≠ some x)) (fun i _ => n - (intOf i).toNat)
  case atStart => exact ⟨0, rfl, Nat.zero_le _, rfl, Lib.hid fun j h => absurd h (by omega)⟩
  case round =>
    obtain ⟨k, rfl, hk, rfl, hs⟩ := hrel
    by_cases hlt : k < n
    · obtain ⟨ad, u, rfl, _, hu, hc⟩ := HR.out.at_ hlt
      obtain ⟨y, hy, rfl⟩ : ∃ y, xs[k]? = some y ∧ u = .int .i64 y := by
        unfold vs at hu
        rw [List.getElem?_map] at hu
        cases hx : xs[k]? with
        | none => rw [hx] at hu; cases hu
        | some y => rw [hx] at hu; injection hu with hu; exact ⟨y, rfl, hu.symm⟩
      have HY := Lib.hid hy
      have hmx : n ≤ 9223372036854775807 := by unfold maxLen at hn; omega
      clear hy hu
      by_cases he : y = x
      · have hd : (y == x) = true := beq_iff_eq.2 he
        obtain rfl : B = true := HB.out.trans (decide_eq_true (by rw [← he]; exact List.mem_of_getElem? HY.out))
        clear he
        go_wp2_with fail
        go_ret
        exact ⟨rfl, rfl⟩
      · have hd : (y == x) = false := beq_eq_false_iff_ne.2 he
        have HE : Hid (∀ j, j < k + 1 → xs[j]? ≠ some x) := Lib.hid fun j hj => by
          rcases Nat.lt_or_ge j k with h | h
          · exact hs.out j h
          · obtain rfl : j = k := by omega
            rw [HY.out]
            intro h2
            injection h2 with h2
            exact he h2
        clear he
        go_wp2_with fail
        go_roundw
        case rel => exact ⟨k + 1, by first | rfl | (refine congrArg (Value.int IntKind.i64) ?_; rw [IntWalk.wrap64_in _ ⟨by omega, by omega⟩]; rfl), by omega, by first | rfl | trivial, HE⟩
        case measure => simp [intOf]; omega
    · obtain rfl : k = n := by omega
      have dn : decide (k < k) = false := by simp
      obtain rfl : B = false := HB.out.trans (decide_eq_false fun h => by
        obtain ⟨j, hj, hx⟩ := List.mem_iff_getElem.1 h
        exact hs.out j (by rw [HL.out] at hj; exact hj) (by rw [List.getElem?_eq_getElem hj, hx]))
      clear hlt hk
      go_wp2_with fail
      go_ret
      exact ⟨rfl, rfl⟩
end Go.Proofs.Ytcdgofndfajekaa
