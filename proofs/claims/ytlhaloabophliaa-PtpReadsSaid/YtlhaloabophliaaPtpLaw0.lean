/-
  Layer 6's laws, what they share: the head's example; an argument read as a message; unlike messages have unlike bytes.
-/
import Derived.Test.YtlhaloabophliaaPtpEnc
import Derived.Test.YtlhaloabophliaaPtpSame
namespace Go.Proofs.Ytlhaloabophliaa
open Go.RowKit Go.WideShapes Go.ChangeShapes
attribute [local go_sem ↓] Go.wp_at_zero Go.wp_at_succ

/-! ### An argument that is a slice of integers -/
theorem open_ints_leaf {H : Type} {enc : TypeId × Value → H} {P : Program} {w : World} {t e : TypeId} {v : Value} {k : IntKind} (ht : P.underlying t = some (.slice e)) (he : P.underlying e = some (.int k)) (hfl : flat P 5 e = some [e]) (hce : P.cellsOf e = 1)
    (h : LeafOk enc P w (fun p => p.block < w.heap.size) t v) :
    ∃ (A : Option Addr) (n c : Nat) (zs : List Int), v = .slice A n c ∧ n ≤ maxLen ∧ zs.length = n ∧ Reads w w.heap.size 1 A n (zs.map (Value.int k)) ∧ ∀ z ∈ zs, (Lit.int k z).wf = true := by
  obtain ⟨fuel, x, hx, hQ⟩ := h
  obtain ⟨A, n, c, xs, rfl, h1, h2, _, hr, hall⟩ := open_slice_flat (n := 5) (ls := [e]) ht hfl (by simpa using hce) (by simp) hx hQ
  simp only [List.length_cons, List.length_nil, Nat.zero_add, Nat.mul_one] at hall hr
  have key : ∀ l, l ≤ n → ∃ zs : List Int, zs.length = l ∧ xs.take l = zs.map (Value.int k) ∧ ∀ z ∈ zs, (Lit.int k z).wf = true := by
    intro l
    induction l with
    | zero => exact fun _ => ⟨[], rfl, by simp, by simp⟩
    | succ l ih =>
      intro hl
      obtain ⟨zs, e1, e2, e4⟩ := ih (by omega)
      have ha := hall l (by omega)
      generalize hc : (xs.drop l).take 1 = cs at *
      match cs, ha with
      | [c0], ⟨h0, _⟩ =>
        obtain ⟨n0, rfl, hwf⟩ := h0.int he
        refine ⟨zs ++ [n0], by simp [e1], ?_, ?_⟩
        · rw [List.take_add, e2, hc]; simp
        · intro z hz
          rcases List.mem_append.1 hz with hz | hz
          · exact e4 z hz
          · simp at hz; subst hz; exact hwf
  obtain ⟨zs, e1, e2, e4⟩ := key n (Nat.le_refl _)
  have e3 : xs.length = n := by simpa using hr.1
  rw [List.take_of_length_le (by omega)] at e2
  exact ⟨A, n, c, zs, rfl, by omega, e1, by rw [← e2]; exact hr, e4⟩

def I64 (x : Int) : Prop := -9223372036854775808 ≤ x ∧ x ≤ 9223372036854775807
def Mg.Wf (m : Mg) : Prop := I64 m.corr ∧ I64 m.time ∧ I64 m.rate
theorem open_msg {H : Type} {enc : TypeId × Value → H} {W : World} {v : Value} {d : DataW H} {p : List MemPlace} {b0 : Nat} (hv : Value.okWide Try.prog W .any b0 28 v)
    (h : DataW.Trod enc Try.prog W 0 (fun _ => true) true 28 v d p) (hlt : ∀ x ∈ p, x.block < W.heap.size) :
    ∃ (m : Mg) (A : Option Addr) (n c : Nat), v = .agg #[.int .i64 m.kind, .int .i64 m.domain, .int .i64 m.seq, .int .i64 m.src, .int .i64 m.port, .int .i64 m.corr, .int .i64 m.time, .int .i64 m.to, .int .i64 m.toPort, .int .i64 m.rate, .int .i64 m.one, .int .i64 m.cls, .int .i64 m.two, .int .i64 m.id, .int .i64 m.steps, .slice A n c] ∧ n ≤ maxLen ∧ m.path.length = n ∧ Reads W W.heap.size 1 A n (vs m.path) ∧ m.Wf := by
  obtain ⟨cs, rfl, hsz⟩ := okWide_struct Try.underlying28 hv
  obtain ⟨fuel, hf⟩ := h
  have ha := trod_flat (Q := fun p => p.block < W.heap.size) 5 28 [3, 3, 3, 3, 3, 22, 22, 3, 3, 23, 3, 3, 3, 3, 3, 26] (by kernel_rfl) fuel _ _ (by simpa [Value.cells] using hf) hlt
  obtain ⟨l⟩ := cs
  match l, ha with
  | [c0, c1, c2, c3, c4, c5, c6, c7, c8, c9, c10, c11, c12, c13, c14, c15], ⟨h0, h1, h2, h3, h4, h5, h6, h7, h8, h9, h10, h11, h12, h13, h14, h15, _⟩ =>
    obtain ⟨n0, rfl, w0⟩ := h0.i64 Try.underlying3
    obtain ⟨n1, rfl, w1⟩ := h1.i64 Try.underlying3
    obtain ⟨n2, rfl, w2⟩ := h2.i64 Try.underlying3
    obtain ⟨n3, rfl, w3⟩ := h3.i64 Try.underlying3
    obtain ⟨n4, rfl, w4⟩ := h4.i64 Try.underlying3
    obtain ⟨n5, rfl, w5⟩ := h5.i64 Try.underlying22
    obtain ⟨n6, rfl, w6⟩ := h6.i64 Try.underlying22
    obtain ⟨n7, rfl, w7⟩ := h7.i64 Try.underlying3
    obtain ⟨n8, rfl, w8⟩ := h8.i64 Try.underlying3
    obtain ⟨n9, rfl, w9⟩ := h9.i64 Try.underlying23
    obtain ⟨n10, rfl, w10⟩ := h10.i64 Try.underlying3
    obtain ⟨n11, rfl, w11⟩ := h11.i64 Try.underlying3
    obtain ⟨n12, rfl, w12⟩ := h12.i64 Try.underlying3
    obtain ⟨n13, rfl, w13⟩ := h13.i64 Try.underlying3
    obtain ⟨n14, rfl, w14⟩ := h14.i64 Try.underlying3
    obtain ⟨A, n, c, zs, rfl, hn, hl, hr, _⟩ := open_ints_leaf Try.underlying26 Try.underlying3 (by kernel_rfl) (by kernel_rfl) h15
    exact ⟨⟨n0, n1, n2, n3, n4, n5, n6, n7, n8, n9, n10, n11, n12, n13, n14, zs⟩, A, n, c, rfl, hn, hl, hr, w5, w6, w9⟩

/-! ### The plain law: unlike messages have unlike bytes -/
theorem encB_bytes {m : Mg} : Bytes (encB m) := by
  have hb : ∀ (n : Nat) (x : Int), Bytes (be x n) := fun n x b h => by have := be_byte n x b h; omega
  have hap : ∀ {xs ys : List Int}, Bytes xs → Bytes ys → Bytes (xs ++ ys) := fun hx hy z hz => (List.mem_append.1 hz).elim (hx z) (hy z)
  have hm : ∀ x : Int, 0 ≤ x % 256 ∧ x % 256 < 256 := fun x => by omega
  have hmod : ∀ x : Int, Bytes [x % 256] := fun x z hz => by simp at hz; subst hz; exact hm x
  have h1 : Bytes (headB m) := by
    unfold headB
    exact hap (hap (hap (hap (fun z hz => by simp at hz; rcases hz with rfl | rfl <;> exact hm _) (hb _ _)) (hb _ _)) (hb _ _)) (hb _ _)
  refine hap h1 ?_
  unfold tailB
  split
  · exact hap (hap (hb _ _) (hb _ _)) (hb _ _)
  · split
    · exact hap (hb _ _) (hb _ _)
    · split
      · refine hap (hap (hap (fun z hz => by simp at hz; rcases hz with rfl | rfl | rfl <;> exact hm _) (hb _ _)) (fun z hz => by simp at hz; rcases hz with rfl | rfl <;> exact hm _)) ?_
        intro z hz
        obtain ⟨x, _, hx⟩ := List.mem_flatMap.1 hz
        exact hb _ _ z hx
      · exact fun z hz => by cases hz
theorem append_inj_r {xs ys us_ vs_ : List Int} (h : xs ++ us_ = ys ++ vs_) (hl : us_.length = vs_.length) : xs = ys ∧ us_ = vs_ := List.append_inj' h hl
theorem flat6_inj : ∀ {xs ys : List Int}, okN ids xs = true → okN ids ys = true → xs.length = ys.length → (xs.flatMap fun x => be x 6) = (ys.flatMap fun x => be x 6) → xs = ys
  | [], [], _, _, _, _ => rfl
  | [], _ :: _, _, _, h, _ => by simp at h
  | _ :: _, [], _, _, h, _ => by simp at h
  | x :: xs, y :: ys, hx, hy, hl, h => by
    rw [okN_cons, Bool.and_eq_true] at hx hy
    have x0 := of_decide_eq_true hx.1
    have y0 := of_decide_eq_true hy.1
    unfold ids at x0 y0
    rw [List.flatMap_cons, List.flatMap_cons] at h
    obtain ⟨h1, h2⟩ := List.append_inj h (by rw [be_length, be_length])
    rw [be_small h1 (by omega) (by omega), flat6_inj hx.2 hy.2 (by simpa using hl) h2]
theorem ok1 {most a : Int} (h : okN most [a] = true) : 0 ≤ a ∧ a ≤ most := okN_mem h a (by simp)
theorem encB_inj {a b : Mg} (ha : a.Right) (hb : b.Right) (wa : a.Wf) (wb : b.Wf) (h : encB a = encB b) : a = b := by
  unfold encB at h
  obtain ⟨h1, h2⟩ := List.append_inj h (by rw [headB_length, headB_length])
  unfold headB at h1
  obtain ⟨h1, hcorr⟩ := append_inj_r h1 (by rw [be_length, be_length])
  obtain ⟨h1, hport⟩ := append_inj_r h1 (by rw [be_length, be_length])
  obtain ⟨h1, hsrc⟩ := append_inj_r h1 (by rw [be_length, be_length])
  obtain ⟨h1, hseq⟩ := append_inj_r h1 (by rw [be_length, be_length])
  simp only [List.cons.injEq, and_true] at h1
  obtain ⟨⟨ra1, ra2, ra3⟩, ra4, ra5⟩ := ha.range
  obtain ⟨⟨rb1, rb2, rb3⟩, rb4, rb5⟩ := hb.range
  have A1 := ok1 ra1
  have B1 := ok1 rb1
  have A2 := okN_mem ra2
  have B2 := okN_mem rb2
  have A3 := okN_mem ra3
  have B3 := okN_mem rb3
  have A4 := okN_mem ra4
  have B4 := okN_mem rb4
  have A5 := ok1 ra5
  have B5 := ok1 rb5
  simp only [List.mem_cons, List.not_mem_nil, or_false, forall_eq_or_imp, forall_eq] at A2 B2 A3 B3 A4 B4
  unfold ids at A3 B3 A5 B5
  have hk : a.kind = b.kind := by
    have k1 := ha.known
    have k2 := hb.known
    unfold Known at k1 k2
    omega
  have hdom : a.domain = b.domain := by omega
  have hseq' := be_small hseq (by omega) (by omega)
  have hsrc' := be_small hsrc (by omega) (by omega)
  have hport' := be_small hport (by omega) (by omega)
  have hcorr' := be_i64 hcorr wa.1 wb.1
  have apa := ha.apt
  have apb := hb.apt
  have baa := ha.bare
  have bab := hb.bare
  have hka := ha.known
  unfold Known at hka
  have fewa := ha.few
  have fewb := hb.few
  have ida := ha.ids
  have idb := hb.ids
  have wat := wa.2.1
  have war := wa.2.2
  have wbt := wb.2.1
  have wbr := wb.2.2
  unfold tailB at h2
  obtain ⟨akind, adomain, aseq, asrc, aport, acorr, atime, ato, atoPort, arate, aone, acls, atwo, aid, asteps, apath⟩ := a
  obtain ⟨bkind, bdomain, bseq, bsrc, bport, bcorr, btime, bto, btoPort, brate, bone, bcls, btwo, bid, bsteps, bpath⟩ := b
  simp only at *
  unfold Mg.apt at apa apb
  unfold Mg.bare at baa bab
  simp only at apa apb baa bab
  subst hk hdom hseq' hsrc' hport' hcorr'
  rcases hka with rfl | rfl | rfl | rfl | rfl | rfl
  · obtain ⟨⟩ := apa; obtain ⟨⟩ := apb
    simp_all
  · simp_all
  · simp only [true_or, if_true] at h2
    obtain ⟨h2, e3⟩ := append_inj_r h2 (by rw [be_length, be_length])
    obtain ⟨e1, e2⟩ := append_inj_r h2 (by rw [be_length, be_length])
    have e1' := be_i64 e1 wat wbt
    have e2' := be_small e2 (by omega) (by omega)
    have e3' := be_small e3 (by omega) (by omega)
    simp_all
  · simp at h2
    obtain ⟨e1, e2⟩ := append_inj_r h2 (by rw [be_length, be_length])
    have e1' := be_i64 e1 wat wbt
    have e2' := be_i64 e2 war wbr
    simp_all
  · simp only [or_true, if_true] at h2
    obtain ⟨h2, e3⟩ := append_inj_r h2 (by rw [be_length, be_length])
    obtain ⟨e1, e2⟩ := append_inj_r h2 (by rw [be_length, be_length])
    have e1' := be_i64 e1 wat wbt
    have e2' := be_small e2 (by omega) (by omega)
    have e3' := be_small e3 (by omega) (by omega)
    simp_all
  · rw [if_neg (by decide), if_neg (by decide), if_pos rfl, if_neg (by decide), if_neg (by decide), if_pos rfl] at h2
    obtain ⟨h2, e3⟩ := List.append_inj h2 (by simp [be_length])
    obtain ⟨h2, e4⟩ := append_inj_r h2 (by simp)
    obtain ⟨h2, e5⟩ := append_inj_r h2 (by rw [be_length, be_length])
    simp only [List.cons.injEq, and_true] at h2 e4
    have e5' := be_small e5 (by omega) (by omega)
    have e3' := flat6_inj ida idb (by omega) e3
    have q1 : aone = bone := by omega
    have q2 : acls = bcls := by omega
    have q3 : atwo = btwo := by omega
    have q4 : asteps = bsteps := by omega
    simp_all
theorem same_bytes {a b : Mg} (ha : a.Right) (hb : b.Right) (wa : a.Wf) (wb : b.Wf) : decide (encB a = encB b) = decide (a = b) := by
  rw [Bool.eq_iff_iff, decide_eq_true_iff, decide_eq_true_iff]
  exact ⟨encB_inj ha hb wa wb, fun h => by rw [h]⟩

/-- Encode, whatever comes: what it answers, and the bytes if it is a right message. -/
theorem enc_all (m : Mg) (A : Option Addr) (n c : Nat) (w : World) (hr : Reads w w.heap.size 1 A n (vs m.path)) (hl : m.path.length = n) (hn : n ≤ maxLen) :
    Calls Try.prog 10 #[.agg #[.int .i64 m.kind, .int .i64 m.domain, .int .i64 m.seq, .int .i64 m.src, .int .i64 m.port, .int .i64 m.corr, .int .i64 m.time, .int .i64 m.to, .int .i64 m.toPort, .int .i64 m.rate, .int .i64 m.one, .int .i64 m.cls, .int .i64 m.two, .int .i64 m.id, .int .i64 m.steps, .slice A n c]] w fun e w' => ∃ (B : Option Addr) (k d : Nat), e = .returned (.tuple #[.slice B k d, .int .i64 (checkV m)]) ∧ k ≤ 300 ∧ Below w.heap.size w w' ∧ Hid (m.Right → Reads w' w'.heap.size 1 B k (us (encB m)) ∧ k = (encB m).length) := by
  by_cases h : checkV m = 0
  · have hm := check_zero.1 h
    refine (enc_right m A n c w hr hl hm).mono ?_
    rintro e w' ⟨v, rfl, hown, hb⟩
    obtain ⟨B, d, rfl, _, hR⟩ := ownsRow_reads hown
    refine ⟨B, _, d, by rw [h], ?_, hb, fun _ => ⟨hR, rfl⟩⟩
    have h1 := tailB_length m
    have h2 := hm.few
    unfold encB
    rw [List.length_append, headB_length, h1]
    (repeat' split) <;> omega
  · refine (enc_bad m A n c w hr hl hn h).mono ?_
    rintro e w' ⟨rfl, hb⟩
    exact ⟨none, 0, 0, rfl, by omega, hb, fun hm => absurd (check_zero.2 hm) h⟩

/-! ### The head's example -/
def headM : Mg := ⟨0, 0, 1, 5, 2, 0, 0, 0, 0, 0, 0, 0, 0, 0, 0, []⟩
theorem headM_right : headM.Right := ⟨.inl rfl, ⟨⟨rfl, rfl, rfl⟩, rfl, rfl⟩, ⟨fun _ _ => ⟨rfl, rfl, fun _ => rfl⟩, fun _ => rfl⟩, fun _ => ⟨rfl, rfl, rfl, rfl, rfl, rfl⟩, by decide, rfl⟩
theorem headM_enc : encB headM = [16, 0, 0, 1, 0, 0, 0, 0, 0, 5, 0, 2, 0, 0, 0, 0, 0, 0, 0, 0] := by decide +kernel

set_option maxHeartbeats 1000000 in
theorem head_any (w : World) : Calls Try.prog 8 #[] w fun e w' => e = .returned (.bool true) ∧ Below w.heap.size w w' := by
  have hc := fun W => enc_right headM none 0 0 W Reads.none_ rfl headM_right
  unfold EncRet at hc
  rw [headM_enc] at hc
  unfold headM at hc
  simp only [us, List.map_cons, List.map_nil, List.length_cons, List.length_nil, Nat.zero_add, Nat.reduceAdd] at hc
  have HC := Lib.hid hc
  clear hc
  go_enter Try.func8, Try.ntmps8
  go_wp2_with fail
  refine (HC.out _).mono ?_
  rintro e w1 ⟨v, rfl, hown, hb⟩
  obtain ⟨g, cap, rfl, hg, hlt⟩ := hown.form (by omega)
  have c0 := hown.cells (g := g) rfl 0 _ rfl
  have c3 := hown.cells (g := g) rfl 3 _ rfl
  have c9 := hown.cells (g := g) rfl 9 _ rfl
  have c11 := hown.cells (g := g) rfl 11 _ rfl
  simp [Addr.add] at c0 c3 c9 c11
  clear hown HC
  go_wp2_with fail
  go_ret
  exact ⟨rfl, hb⟩
theorem own : ownKnob Try.prog.godebug = none := by kernel_rfl
theorem laidOut : laidOutB Try.prog = true := by kernel_rfl
end Go.Proofs.Ytlhaloabophliaa
