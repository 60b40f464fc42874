/-
  TreeRuns: what holds of the tree between two steps; what the law does with its own list.
-/
import Derived.Test.YtcdgofndfajekaaTreeR
import Derived.Test.YtcdgofndfajekaaKitE
namespace Go.Proofs.Ytcdgofndfajekaa
set_option linter.unusedSimpArgs false
set_option linter.unusedVariables false
open Go.RowKit Go.WideShapes Go.ChangeShapes

structure TOk (own : Pr) (dom most : Int) (N : Nat) (t : Tre) : Prop where
  dom : t.dom = dom
  own_ : t.own = own
  most : t.most = most
  len : t.es.length = N
  all : ∀ e ∈ t.es, EOk e
theorem tok_set {own : Pr} {dom most : Int} {N k : Nat} {t : Tre} {e : En} (h : TOk own dom most N t) (he : EOk e) : TOk own dom most N { t with es := t.es.set k e } :=
  ⟨h.dom, h.own_, h.most, by simpa using h.len, fun x hx => by
    rcases List.mem_or_eq_of_mem_set hx with h1 | h1
    · exact h.all x h1
    · rw [h1]; exact he⟩
theorem tok_up {own : Pr} {dom most : Int} {N : Nat} {t : Tre} (h : TOk own dom most N t) (i : Int) (x : Bool) : TOk own dom most N (t.upI i x) := by
  unfold Tre.upI
  split
  · exact h
  · unfold Tre.up
    split
    · exact h
    · rename_i e he
      split
      · exact h
      · have hE := h.all e (List.mem_of_getElem? he)
        exact tok_set h ⟨hE.1, by simp, rfl, rfl, (by show (0 : Int) ≤ 254; decide), rfl, rfl⟩
def newE (e : En) (m : Mg) (now : Int) : En := ⟨e.up, true, ⟨⟨m.one, m.cls, m.two, m.id⟩, m.steps, m.src, m.port, 0⟩, m.path, now⟩
theorem inE_zero {t : Tre} {i : Int} {m : Mg} (h : t.inE i m = 0) : m.kind = 11 ∧ checkV m = 0 ∧ m.domain = t.dom ∧ t.upAt i = true ∧ ¬ m.src = t.own.id ∧ ¬ t.own.id ∈ m.path ∧ m.steps ≤ 254 ∧ m.path.length ≤ 31 := by
  unfold Tre.inE at h
  split at h
  · cases h
  · rename_i h1
    split at h
    · cases h
    · rename_i h2
      split at h
      · cases h
      · rename_i h3
        simp only [not_or, Decidable.not_not, ne_eq] at h1 h3
        refine ⟨h1.1, h1.2.1, h1.2.2, by simpa using h2, h3.1, h3.2.1, by omega, by omega⟩
theorem newE_ok {t : Tre} {i : Int} {m : Mg} {e : En} {now : Int} (h : t.inE i m = 0) (hn : -1125899906842624 ≤ now ∧ now ≤ 1125899906842624) : EOk (newE e m now) := by
  obtain ⟨_, h2, _, _, _, _, h7, h8⟩ := inE_zero h
  have hr := check_zero.1 h2
  obtain ⟨_, hr2, _, _, _, hr6⟩ := hr
  have ha := okN_mem hr2.2.1
  simp only [List.mem_cons, List.not_mem_nil, or_false, forall_eq_or_imp, forall_eq] at ha
  exact ⟨hn, h8, hr6, hr2.2.1, h7, hr2.2.2, rfl⟩
theorem in_at {t : Tre} {k : Nat} {m : Mg} {e : En} {now : Int} (h : t.inE k m = 0) (he : t.es[k]? = some e) : t.in_ k m now = { t with es := t.es.set k (newE e m now) } := by
  unfold Tre.in_
  rw [if_pos h, Int.toNat_natCast]
  unfold Tre.put
  rw [he]
  rfl
theorem in_no {t : Tre} {i : Int} {m : Mg} {now : Int} (h : t.inE i m ≠ 0) : t.in_ i m now = t := by unfold Tre.in_; rw [if_neg h]
theorem inE_23 {t : Tre} {i : Int} {m : Mg} (h : m.kind ≠ 11 ∨ checkV m ≠ 0 ∨ m.domain ≠ t.dom) : t.inE i m = 23 := by unfold Tre.inE; rw [if_pos h]
theorem inE_40 {t : Tre} {i : Int} {m : Mg} (h : ¬ (m.kind ≠ 11 ∨ checkV m ≠ 0 ∨ m.domain ≠ t.dom)) (h2 : t.upAt i = false) : t.inE i m = 40 := by unfold Tre.inE; rw [if_neg h, if_pos h2]
theorem inE_31 {t : Tre} {i : Int} {m : Mg} (h : ¬ (m.kind ≠ 11 ∨ checkV m ≠ 0 ∨ m.domain ≠ t.dom)) (h2 : t.upAt i = true) (h3 : m.src = t.own.id ∨ t.own.id ∈ m.path ∨ 255 ≤ m.steps ∨ 32 ≤ m.path.length) : t.inE i m = 31 := by
  unfold Tre.inE; rw [if_neg h, if_neg (by rw [h2]; decide), if_pos h3]
theorem inE_0 {t : Tre} {i : Int} {m : Mg} (h : ¬ (m.kind ≠ 11 ∨ checkV m ≠ 0 ∨ m.domain ≠ t.dom)) (h2 : t.upAt i = true) (h3 : ¬ (m.src = t.own.id ∨ t.own.id ∈ m.path ∨ 255 ≤ m.steps ∨ 32 ≤ m.path.length)) : t.inE i m = 0 := by
  unfold Tre.inE; rw [if_neg h, if_neg (by rw [h2]; decide), if_neg h3]
theorem upAt_at {t : Tre} {k : Nat} {e : En} (he : t.es[k]? = some e) : t.upAt k = e.up := by
  unfold Tre.upAt
  rw [Int.toNat_natCast, he, decide_eq_true (by omega)]; rfl
theorem upAt_out {t : Tre} {i : Int} (h : ¬ (0 ≤ i ∧ i < t.es.length)) : t.upAt i = false := by
  unfold Tre.upAt
  by_cases h0 : 0 ≤ i
  · rw [List.getElem?_eq_none (by omega)]; simp
  · rw [decide_eq_false h0]; rfl
/-- What a message's Check being right says of it. -/
theorem right_few {m : Mg} (h : checkV m = 0) : m.steps ≤ 255 ∧ m.path.length ≤ 32 := by
  have hr := check_zero.1 h
  obtain ⟨_, hr2, _, _, h5, _⟩ := hr
  have ha := okN_mem hr2.2.1
  simp only [List.mem_cons, List.not_mem_nil, or_false, forall_eq_or_imp, forall_eq] at ha
  exact ⟨ha.2.2.2.2, h5⟩
/-- The path of a message that was there ahead of all. -/
theorem path_msg {w0 w : World} {S : List Nat} {m : Mg} {A : Option Addr} {n : Nat} (h : MsgIn w0 w0.heap.size m A n) (hb : Below w0.heap.size w0 w) (hS : ∀ g ∈ S, w0.heap.size ≤ g) : Path w S A m.path := fun h0 => by
  have hl := h.len
  obtain ⟨ad, e, hlt, hc⟩ := (h.reads.below hb).2 (by omega)
  refine ⟨ad, e, Nat.lt_of_lt_of_le hlt hb.size, fun a => ?_, fun j x hx => hc j _ (by unfold vs; rw [List.getElem?_map, hx]; rfl)⟩
  have := hS _ a
  omega
theorem msg_at {w0 w : World} {m : Mg} {A : Option Addr} {n : Nat} (h : MsgIn w0 w0.heap.size m A n) (hb : Below w0.heap.size w0 w) : MsgIn w w.heap.size m A n := ⟨(h.reads.below hb).more hb.size, h.len, h.most⟩
/-! ### The law's own list turned at one place -/
theorem kcells_len {es : List En} {qs : List Value} (h : qs.length = es.length) : (kcells es qs).length = es.length * 12 := by
  unfold kcells
  have hl : ∀ l : List (En × Value), (l.flatMap fun p => kc p.1 p.2).length = l.length * 12 := by
    intro l
    induction l with
    | nil => rfl
    | cons x l ih => rw [List.flatMap_cons, List.length_append, ih]; show 12 + _ = _; simp; omega
  rw [hl, List.length_zip, h, Nat.min_self]
theorem ks_put {w w' : World} {S : List Nat} {gk : Nat} {es : List En} {qs : List Value} (h : KsAt w S gk es qs) {k : Nat} (hk : k < es.length) (e' : En) (A : Option Addr) (c : Nat) (hF : Fr [gk] w w') (hg : gk ∈ S)
    (B : Blk w' gk 51 (kcells (es.set k e') (qs.set k (.slice A e'.path.length c))).toArray) (hc : e'.path.length ≤ c) (hp : Path w' S A e'.path) : KsAt w' S gk (es.set k e') (qs.set k (.slice A e'.path.length c)) := by
  refine ⟨B, by simp [h.len], fun j e he => ?_⟩
  rcases Nat.decEq k j with hj | hj
  · rw [List.getElem?_set_ne hj] at he
    obtain ⟨A', c', h1, h2, h3⟩ := h.pth j e he
    exact ⟨A', c', by rw [List.getElem?_set_ne hj]; exact h1, h2, h3.fr hF (by intro x hx; simp at hx; rw [hx]; exact hg)⟩
  · subst hj
    rw [List.getElem?_set_self hk] at he
    injection he with he
    subst he
    exact ⟨A, c, by rw [List.getElem?_set_self (by rw [h.len]; exact hk)], hc, hp⟩
theorem kput1 {es : List En} {qs : List Value} {k : Nat} {e : En} {q : Value} (he : es[k]? = some e) (hq : qs[k]? = some q) (e' : En) (q' : Value) (a b : List Value) (u v : Value) (h1 : kc e q = a ++ [u] ++ b) (h2 : kc e' q' = a ++ [v] ++ b) {i : Nat} (hi : a.length = i) :
    (kcells es qs).toArray.setIfInBounds (k * 12 + i) v = (kcells (es.set k e') (qs.set k q')).toArray := by
  subst hi
  exact kput he hq a [u] [v] b h1 h2 rfl
/-! ### append of all elements of a slice, wherever they lie, in a region that draws its order -/
section
variable {P : Program} {lo : List Oper} {S : World → Prop} {Q : Exit → Act → World → Prop} {E : Act → World → Prop}
theorem script_pushR {i : Nat} {l : List (Nat × Bool)} {a : Act} {o : Oper} (ho0 : lo[i]? = some o) (hgd : o.guard = none) (s x : Operand) (t : TypeId)
    (ho : o.op = .call { callee := .builtin .append, args := #[s, x], argTypes := #[t, t] })
    {e : TypeId} {size bytes : Nat} (hty : SliceTy P t e size bytes) {w : World} {A : Option Addr} {q c B : Nat} {news : List Value} (hx : a.eval x = .slice A q c) (hr : Reads w B size A q news) (h1 : ∀ u ∈ news, u.oneCell' = true)
    {base : Nat} {v : Value} {n : Nat} {xs : List Value} (hs : a.eval s = v) (hown : w.ownsRow base e size v n xs)
    (hbytes : (n + q) * bytes ≤ 140737488355328) (hbase : base ≤ w.heap.size)
    (h : ∀ v' w', w'.ownsRow base e size v' (n + q) (xs ++ news) → w.grownBy w' v.ownBlock → S w' ∧ wpScript P lo.toArray S Q E l (a.put o.dst v') w') : wpScript P lo.toArray S Q E ((i, false) :: l) a w := by
  obtain ⟨ht, j, z, hi, hz, hsz, hby, hzs, hp, hq⟩ := hty
  have hbn : n + q ≤ 140737488355328 := Nat.le_trans (Nat.le_mul_of_pos_right _ hq) hbytes
  refine script_wp ho0 (by simp [Region.wanted, hgd]) ?_
  rcases Nat.eq_zero_or_pos q with h0 | h0
  · subst h0
    have hn : news = [] := List.eq_nil_of_length_eq_zero (by rw [hr.1, Nat.zero_mul])
    subst hn
    have hrun : ∀ ty, (Builtin.append_ #[t, t] ty #[v, .slice A 0 c]).run P w = .ok v w := fun ty => by
      rcases hown.2 with ⟨rfl, rfl⟩ | ⟨g, cap, cur, rfl, _, _, hle, _⟩
      · exact run_append_none w t ty e j ht hi none 0 0 (Nat.le_refl _) A c
      · exact run_append_none w t ty e j ht hi _ n cap hle A c
    unfold Oper.wp execOp
    simp only [ho, resolve, invoke, builtin, Sem.run_bind, Sem.run_pure, Result.andThen_ok, List.map_toArray, List.map_cons, List.map_nil, hs, hx, hrun]
    exact h v w (by simpa using hown) (grownBy_refl w _)
  · obtain ⟨ad, rfl, _, hc⟩ := hr.2 h0
    obtain ⟨v', w', hrun, h2, h3, _, _⟩ := run_append_own_at (P := P) w base t o.type e j z size bytes ht hi hz hsz hby hzs hp v n xs hown ad q c news hr.1 hc h1 (by simp only [maxLen]; omega) hbytes hbase
    unfold Oper.wp execOp
    simp only [ho, resolve, invoke, builtin, Sem.run_bind, Sem.run_pure, Result.andThen_ok, List.map_toArray, List.map_cons, List.map_nil, hs, hx, hrun]
    exact h v' w' h2 h3
end
theorem own_cell {w : World} {B n k : Nat} {e : TypeId} {v : Value} {xs : List Value} (h : w.ownsRow B e 1 v n xs) (hk : k < n) : ∃ (g c : Nat) (u : Value), v = .slice (some ⟨g, 0, none⟩) n c ∧ B ≤ g ∧ g < w.heap.size ∧ xs[k]? = some u ∧ w.cell? ⟨g, k, none⟩ = some u := by
  have hl := h.1
  rcases h.2 with ⟨_, h2⟩ | ⟨g, cap, cur, hv, hg, hh, hle, _, hsz, ht⟩
  · omega
  · have hb : Blk w g e cur := hh
    have hu : xs[k]? = some (xs[k]'(by omega)) := List.getElem?_eq_getElem (by omega)
    refine ⟨g, cap, _, hv, hg, hb.lt, hu, ?_⟩
    rw [hb.cell, ← hu, ← ht, List.getElem?_take, if_pos (by omega), Array.getElem?_toList]
theorem row_neq (v : Vc) (w : World) : (binOp .neq 46 (.agg #[.int .i64 v.root.one, .int .i64 v.root.cls, .int .i64 v.root.two, .int .i64 v.root.id, .int .i64 v.steps, .int .i64 v.src, .int .i64 v.port, .int .i64 v.at_]) (.agg #[.int .i64 v.root.one, .int .i64 v.root.cls, .int .i64 v.root.two, .int .i64 v.root.id, .int .i64 v.steps, .int .i64 v.src, .int .i64 v.port, .int .i64 v.at_])).run Try.prog w = .ok (.bool false) w := by
  have h5 := run_neq_arr (P := Try.prog) (k := .i64) Try.underlying46 Try.underlying3 (by kernel_rfl) [v.root.one, v.root.cls, v.root.two, v.root.id, v.steps, v.src, v.port, v.at_] [v.root.one, v.root.cls, v.root.two, v.root.id, v.steps, v.src, v.port, v.at_] rfl rfl w
  simpa using h5
section
variable {P : Program} {lo : List Oper} {S : World → Prop} {Q : Exit → Act → World → Prop}
theorem tr_pushR {i : Nat} {l : Tr} {a : Act} {o : Oper} (ho0 : lo[i]? = some o) (hgd : o.guard = none) (s x : Operand) (t : TypeId)
    (ho : o.op = .call { callee := .builtin .append, args := #[s, x], argTypes := #[t, t] })
    {e : TypeId} {size bytes : Nat} (hty : SliceTy P t e size bytes) {w : World} {A : Option Addr} {q c B : Nat} {news : List Value} (hx : a.eval x = .slice A q c) (hr : Reads w B size A q news) (h1 : ∀ u ∈ news, u.oneCell' = true)
    {base : Nat} {v : Value} {n : Nat} {xs : List Value} (hs : a.eval s = v) (hown : w.ownsRow base e size v n xs)
    (hbytes : (n + q) * bytes ≤ 140737488355328) (hbase : base ≤ w.heap.size)
    (h : ∀ v' w', w'.ownsRow base e size v' (n + q) (xs ++ news) → w.grownBy w' v.ownBlock → S w' ∧ wpTr P lo.toArray S Q l (a.put o.dst v') w') : wpTr P lo.toArray S Q (.one i l) a w := by
  obtain ⟨ht, j, z, hi, hz, hsz, hby, hzs, hp, hq⟩ := hty
  have hbn : n + q ≤ 140737488355328 := Nat.le_trans (Nat.le_mul_of_pos_right _ hq) hbytes
  refine tr_wp ho0 (by simp [Region.wanted, hgd]) ?_
  rcases Nat.eq_zero_or_pos q with h0 | h0
  · subst h0
    have hn : news = [] := List.eq_nil_of_length_eq_zero (by rw [hr.1, Nat.zero_mul])
    subst hn
    have hrun : ∀ ty, (Builtin.append_ #[t, t] ty #[v, .slice A 0 c]).run P w = .ok v w := fun ty => by
      rcases hown.2 with ⟨rfl, rfl⟩ | ⟨g, cap, cur, rfl, _, _, hle, _⟩
      · exact run_append_none w t ty e j ht hi none 0 0 (Nat.le_refl _) A c
      · exact run_append_none w t ty e j ht hi _ n cap hle A c
    unfold Oper.wp execOp
    simp only [ho, resolve, invoke, builtin, Sem.run_bind, Sem.run_pure, Result.andThen_ok, List.map_toArray, List.map_cons, List.map_nil, hs, hx, hrun]
    exact h v w (by simpa using hown) (grownBy_refl w _)
  · obtain ⟨ad, rfl, _, hc⟩ := hr.2 h0
    obtain ⟨v', w', hrun, h2, h3, _, _⟩ := run_append_own_at (P := P) w base t o.type e j z size bytes ht hi hz hsz hby hzs hp v n xs hown ad q c news hr.1 hc h1 (by simp only [maxLen]; omega) hbytes hbase
    unfold Oper.wp execOp
    simp only [ho, resolve, invoke, builtin, Sem.run_bind, Sem.run_pure, Result.andThen_ok, List.map_toArray, List.map_cons, List.map_nil, hs, hx, hrun]
    exact h v' w' h2 h3
end
/-! ### What goes out -/
theorem out_seq {t : Tre} {k : Nat} {seq now : Int} (h : ¬ (0 ≤ seq ∧ seq ≤ 65535)) : (checkV (t.outM k seq now) == 0) = false := by
  have hn : checkV (t.outM k seq now) ≠ 0 := fun hc => by
    have hr := (check_zero.1 hc).range
    have ha := okN_mem hr.1.2.1
    have hs : (t.outM k seq now).seq = seq := by unfold Tre.outM; split <;> rfl
    rw [hs] at ha
    exact h (ha seq (by simp))
  exact beq_eq_false_iff_ne.2 hn
theorem top_low {own : Pr} {hs : List Hd} (h : (topOf own hs).at_ < 0) : topOf own hs = ownVec own := by
  rcases topOf_good own hs with ⟨h1, _⟩ | ⟨j, x, _, _, h3, _⟩
  · exact h1
  · rw [h3] at h; simp at h; omega
theorem top_high {own : Pr} {hs : List Hd} (h : 0 ≤ (topOf own hs).at_) : ∃ (j : Nat) (x : Hd), hs[j]? = some x ∧ topOf own hs = { x.vec with at_ := (j : Int) } := by
  rcases topOf_good own hs with ⟨h1, _⟩ | ⟨j, x, h2, _, h3, _⟩
  · rw [h1] at h; simp [ownVec] at h
  · exact ⟨j, x, h2, h3⟩
theorem tre_high {own : Pr} {dom most : Int} {N : Nat} {t : Tre} (hok : TOk own dom most N t) {now : Int} (h : 0 ≤ (t.top now).at_) : ∃ (j : Nat) (e : En), t.es[j]? = some e ∧ j < N ∧ (t.top now) = { e.vec with at_ := (j : Int) } := by
  obtain ⟨j, x, h1, h2⟩ := top_high h
  unfold Tre.hs at h1
  rw [List.getElem?_map] at h1
  cases he : t.es[j]? with
  | none => rw [he] at h1; cases h1
  | some e =>
    rw [he] at h1
    injection h1 with h1
    subst h1
    exact ⟨j, e, he, by rw [← hok.len]; exact (List.getElem?_eq_some_iff.1 he).1, h2⟩
theorem okN_app {most : Int} {xs ys : List Int} (h1 : okN most xs = true) (h2 : okN most ys = true) : okN most (xs ++ ys) = true := by
  unfold okN at *
  rw [List.all_append, h1, h2]; rfl
theorem om_right {t : Tre} {k : Nat} {seq : Int} {T : Vc} {st : Int} {p : List Int} (hd : 0 ≤ t.dom ∧ t.dom ≤ 127) (hk : k < 8) (hs : 0 ≤ seq ∧ seq ≤ 65535) (hi : 0 ≤ t.own.id ∧ t.own.id ≤ ids) (h4 : okN 255 [T.root.one, T.root.cls, T.root.two, st] = true) (h5 : okN ids [T.root.id] = true)
    (hp : p.length ≤ 32) (ho : okN ids p = true) : checkV (om t k seq T st p) = 0 :=
  tell_right rfl ⟨⟨okN_one hd, okN_more hs (okN_more (by show (0 : Int) ≤ (k : Int) ∧ (k : Int) ≤ 65535; omega) (okN_one (by show (0 : Int) ≤ 0 ∧ (0 : Int) ≤ 65535; omega))), okN_more hi (okN_one (by show (0 : Int) ≤ 0 ∧ (0 : Int) ≤ ids; unfold ids; omega))⟩, h4, h5⟩ rfl rfl rfl rfl hp ho
/-! ### A round's beginning and its end -/
structure Rd (w0 w : World) (b : Bks) (g6 gm gk : Nat) (own : Pr) (t : Tre) (es : List En) (ps qs : List Value) (g21 g25 gx N : Nat) (s : S20) (v26 : Value) (top : Vc) (rl : List Int) : Prop where
  ti : TI w0 w b g6 gm gk own t es ps qs
  st : Blk w g21 48 (s20c s)
  tp : Blk w g25 46 top.cells.toArray
  wn : w.ownsRow gx 3 1 v26 N (rl.map fun x => Value.int .i64 x)
  ap : g21 ∉ b.all ∧ g25 ∉ b.all ∧ g21 ≠ gk ∧ g25 ≠ gk ∧ ∀ k, v26.ownBlock = some k → k ∉ b.all ∧ k ≠ gk
section
variable {w0 w w' : World} {b : Bks} {g6 gm gk g21 g25 gx N : Nat} {own : Pr} {t t' : Tre} {es es' : List En} {ps ps' qs qs' : List Value} {s : S20} {v26 : Value} {top : Vc} {rl : List Int}
theorem Rd.kept (h : Rd w0 w b g6 gm gk own t es ps qs g21 g25 gx N s v26 top rl) (hb : Below w.heap.size w w') : Rd w0 w' b g6 gm gk own t es ps qs g21 g25 gx N s v26 top rl :=
  ⟨h.ti.kept hb, h.st.kept hb, h.tp.kept hb, ownsRow_below h.wn hb (fun k hk => (ownsRow_lt h.wn k hk).2), h.ap⟩
end
end Go.Proofs.Ytcdgofndfajekaa
