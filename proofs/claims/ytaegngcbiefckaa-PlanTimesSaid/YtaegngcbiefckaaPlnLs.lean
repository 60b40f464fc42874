/-
  Layer 22's laws, what they share: a network with other flows.
-/
import Derived.Test.YtaegngcbiefckaaPlnOpen
import Derived.Test.YtaegngcbiefckaaPlnN
import Derived.Test.YtaegngcbiefckaaMask
namespace Go.Proofs.Ytaegngcbiefckaa
set_option linter.unusedSimpArgs false
set_option linter.unusedVariables false
open Go.RowKit Go.WideShapes Go.ChangeShapes

abbrev Fx := Fw × (Sl × Sl)
def fxc (x : Fx) : List Value := fwc x.1 x.2
theorem fxc_len (x : Fx) : (fxc x).length = 8 := rfl
def WayR (w : World) (B : Nat) (x : Fx) : Prop := Reads w B 1 x.2.1.A x.1.w0.length (x.1.w0.map (Value.int .i64)) ∧ Reads w B 1 x.2.2.A x.1.w1.length (x.1.w1.map (Value.int .i64))
theorem WayR.below {w w' : World} {B : Nat} {x : Fx} (h : WayR w B x) (hb : Below B w w') : WayR w' B x := ⟨h.1.below hb, h.2.below hb⟩
theorem WayR.more {w : World} {B B' : Nat} {x : Fx} (h : WayR w B x) (hB : B ≤ B') : WayR w B' x := ⟨h.1.more hB, h.2.more hB⟩
section
variable {w : World} {B : Nat} {C : Cf} {Y : Lay}
theorem CfAt.way (h : CfAt w B C Y) : ∀ x ∈ C.flows.zip Y.ws, WayR w B x := by
  intro x hx
  obtain ⟨k, hk⟩ := List.mem_iff_getElem?.1 hx
  obtain ⟨hf, hs⟩ := List.getElem?_zip_eq_some.1 hk
  exact h.ways k x.1 x.2 hf hs
theorem CfAt.fst (h : CfAt w B C Y) : (C.flows.zip Y.ws).map (·.1) = C.flows := List.map_fst_zip (Nat.le_of_eq h.wslen.symm)
theorem CfAt.zlen (h : CfAt w B C Y) : (C.flows.zip Y.ws).length = C.flows.length := by rw [List.length_zip, h.wslen, Nat.min_self]
/-- Other flows. -/
theorem CfAt.swap (h : CfAt w B C Y) {L : List Fx} {A : Option Addr} (c : Nat) (hF : Reads w B 8 A L.length (L.flatMap fxc)) (hw : ∀ x ∈ L, WayR w B x) : CfAt w B { C with flows := L.map (·.1) } { Y with F := ⟨A, c⟩, ws := L.map (·.2) } := by
  refine ⟨h.nodes, h.links, by simp, ?_, fun i f s hf hs => ?_⟩
  · show Reads w B 8 A (L.map (·.1)).length (((L.map (·.1)).zip (L.map (·.2))).flatMap fun x => fwc x.1 x.2)
    rw [zip_back, List.length_map]
    exact hF
  · have hf' : (L.map (·.1))[i]? = some f := hf
    have hs' : (L.map (·.2))[i]? = some s := hs
    rw [List.getElem?_map] at hf' hs'
    cases hx : L[i]? with
    | none => rw [hx] at hf'; cases hf'
    | some x =>
      rw [hx] at hf' hs'
      cases hf'
      cases hs'
      exact hw x (List.mem_of_getElem? hx)
end
theorem flat_take {α : Type} {f : α → List Value} {size : Nat} (hf : ∀ a, (f a).length = size) : ∀ (l : List α) (i : Nat), (l.flatMap f).take (i * size) = (l.take i).flatMap f
  | [], i => by simp
  | a :: l, 0 => by simp
  | a :: l, i + 1 => by
    rw [List.flatMap_cons, List.take_succ_cons, List.flatMap_cons, Nat.succ_mul, List.take_append, hf, List.take_of_length_le (by rw [hf]; omega), Nat.add_sub_cancel, flat_take hf l i]
theorem flat_drop {α : Type} {f : α → List Value} {size : Nat} (hf : ∀ a, (f a).length = size) : ∀ (l : List α) (i : Nat), (l.flatMap f).drop (i * size) = (l.drop i).flatMap f
  | [], i => by simp
  | a :: l, 0 => by simp
  | a :: l, i + 1 => by
    rw [List.flatMap_cons, List.drop_succ_cons, Nat.succ_mul, List.drop_append, hf, List.drop_of_length_le (by rw [hf]; omega), Nat.add_sub_cancel, flat_drop hf l i, List.nil_append]
section
variable {α : Type} {f : α → List Value} {w : World} {B size n i : Nat} {ad : Addr} {l : List α}
theorem reads_take (hf : ∀ a, (f a).length = size) (h : Reads w B size (some ad) n (l.flatMap f)) (hi : i ≤ n) (hl : l.length = n) : Reads w B size (some ad) i ((l.take i).flatMap f) := by
  refine ⟨by rw [flatMap_length hf, List.length_take]; congr 1; omega, fun hp => ?_⟩
  obtain ⟨a, e, hb, hc⟩ := h.2 (by omega)
  refine ⟨a, e, hb, fun j u hu => hc j u ?_⟩
  rw [← flat_take hf, List.getElem?_take] at hu
  split at hu
  · exact hu
  · cases hu
theorem reads_drop (hf : ∀ a, (f a).length = size) (h : Reads w B size (some ad) n (l.flatMap f)) (hi : i ≤ n) (hl : l.length = n) {A : Option Addr} (hA : i < n → A = some (ad.add (i * size))) : Reads w B size A (n - i) ((l.drop i).flatMap f) := by
  refine ⟨by rw [flatMap_length hf, List.length_drop, hl], fun hp => ?_⟩
  obtain ⟨a, e, hb, hc⟩ := h.2 (by omega)
  cases e
  refine ⟨_, hA (by omega), by rw [add_blk]; exact hb, fun j u hu => ?_⟩
  rw [← flat_drop hf, List.getElem?_drop] at hu
  rw [add_of_add]
  exact hc _ u hu
/-- One cell of an owned row turns. -/
theorem row_cell {e : TypeId} {v : Value} {x : α} {k j : Nat} (hf : ∀ a, (f a).length = size) (h : w.ownsRow B e size v n (l.flatMap f)) (hx : l[k]? = some x) (hj : j < size) :
    ∃ g cap cur, v = .slice (some ⟨g, 0, none⟩) n cap ∧ B ≤ g ∧ n ≤ cap ∧ Blk w g e cur ∧ cur[k * size + j]? = (f x)[j]? := by
  have hlen := h.1
  rw [flatMap_length hf] at hlen
  have hkl := (List.getElem?_eq_some_iff.1 hx).1
  rcases h.2 with ⟨_, hn⟩ | ⟨g, cap, cur, hv, hg, hh, hnc, _, hsz, htk⟩
  · subst hn
    have : l.length * size = 0 := by omega
    rcases Nat.mul_eq_zero.1 this with h0 | h0 <;> omega
  · refine ⟨g, cap, cur, hv, hg, hnc, hh, ?_⟩
    have h1 := flatMap_get hf hx j hj
    have hlt : k * size + j < n * size := by
      rw [← hlen]
      have : (k + 1) * size ≤ l.length * size := Nat.mul_le_mul_right _ hkl
      rw [Nat.succ_mul] at this
      omega
    rw [← htk, List.getElem?_take, if_pos hlt] at h1
    simpa using h1
theorem flat_set {x x' : α} (hf : ∀ a, (f a).length = size) (j : Nat) (u : Value) (hj : j < size) (hu : f x' = (f x).set j u) : ∀ (l : List α) (k : Nat), l[k]? = some x → (l.flatMap f).set (k * size + j) u = (l.set k x').flatMap f
  | [], k, h => by simp at h
  | a :: l, 0, h => by
    simp only [List.getElem?_cons_zero, Option.some.injEq] at h
    subst h
    rw [List.set_cons_zero, List.flatMap_cons, List.flatMap_cons, hu, List.set_append, if_pos (by rw [hf]; omega)]
    congr 2
    omega
  | a :: l, k + 1, h => by
    simp only [List.getElem?_cons_succ] at h
    rw [List.set_cons_succ, List.flatMap_cons, List.flatMap_cons, ← flat_set hf j u hj hu l k h, List.set_append, if_neg (by rw [hf, Nat.succ_mul]; omega)]
    congr 2
    rw [hf, Nat.succ_mul]; omega
theorem row_put {e : TypeId} {g cap k j : Nat} {x x' : α} {u : Value} (hf : ∀ a, (f a).length = size) (h : w.ownsRow B e size (.slice (some ⟨g, 0, none⟩) n cap) n (l.flatMap f)) (hx : l[k]? = some x) (hj : j < size) (hu : f x' = (f x).set j u) :
    (w.setCell ⟨g, k * size + j, none⟩ u).ownsRow B e size (.slice (some ⟨g, 0, none⟩) n cap) n ((l.set k x').flatMap f) ∧ w.grownBy (w.setCell ⟨g, k * size + j, none⟩ u) (some g) := by
  refine ⟨⟨by rw [flatMap_length hf, List.length_set, ← flatMap_length hf]; exact h.1, ?_⟩, gr_set (grownBy_refl w _) _ _⟩
  rcases h.2 with ⟨h0, _⟩ | ⟨q, cap', cur, hv, hg, hh, hnc, hm, hsz, htk⟩
  · cases h0
  · injection hv with hv1 hv2 hv3
    injection hv1 with hv1
    injection hv1 with hv1
    subst hv1
    subst hv3
    refine .inr ⟨g, cap, cur.setIfInBounds (k * size + j) u, rfl, hg, (show Blk w g e cur from hh).set_ _ _, hnc, hm, by simpa using hsz, ?_⟩
    rw [Array.toList_setIfInBounds, List.take_set, htk]
    exact flat_set hf j u hj hu l k hx
end
section
variable {P : Program} {lo : List Oper} {S : World → Prop} {Q : Exit → Act → World → Prop}
theorem tr_pushR {i : Nat} {l : Tr} {a : Act} {o : Oper} (ho0 : lo[i]? = some o) (hgd : o.guard = none) (s x : Operand) (t : TypeId)
    (ho : o.op = .call { callee := .builtin .append, args := #[s, x], argTypes := #[t, t] })
    {e : TypeId} {size bytes : Nat} (hty : SliceTy P t e size bytes) {w : World} {A : Option Addr} {q c B : Nat} {news : List Value} (hx : a.eval x = .slice A q c) (hr : Reads w B size A q news) (h1 : ∀ u ∈ news, u.oneCell' = true)
    {base : Nat} {v : Value} {n : Nat} {xs : List Value} (hs : a.eval s = v) (hown : w.ownsRow base e size v n xs)
    (hbytes : (n + q) * bytes ≤ 140737488355328) (hbase : base ≤ w.heap.size)
    (h : ∀ v' w', w'.ownsRow base e size v' (n + q) (xs ++ news) → w.grownBy w' v.ownBlock → S w' ∧ wpTr P lo.toArray S Q l (a.put o.dst v') w') : wpTr P lo.toArray S Q (.one i l) a w := by
  obtain ⟨ht, j, z, hi, hz, hsz, hby, hzs, hp, hq⟩ := hty
  have hbn : n + q ≤ 140737488355328 := Nat.le_trans (Nat.le_mul_of_pos_right _ hq) hbytes
  refine tr_wp ho0 (by simp [Region.wanted, hgd]) ?_
  rcases Nat.eq_zero_or_pos q with h0 | h0
  · subst h0
    have hn : news = [] := List.eq_nil_of_length_eq_zero (by rw [hr.1, Nat.zero_mul])
    subst hn
    have hrun : ∀ ty, (Builtin.append_ #[t, t] ty #[v, .slice A 0 c]).run P w = .ok v w := fun ty => by
      rcases hown.2 with ⟨rfl, rfl⟩ | ⟨g, cap, cur, rfl, _, _, hle, _⟩
      · exact run_append_none w t ty e j ht hi none 0 0 (Nat.le_refl _) A c
      · exact run_append_none w t ty e j ht hi _ n cap hle A c
    unfold Oper.wp execOp
    simp only [ho, resolve, invoke, builtin, Sem.run_bind, Sem.run_pure, Result.andThen_ok, List.map_toArray, List.map_cons, List.map_nil, hs, hx, hrun]
    exact h v w (by simpa using hown) (grownBy_refl w _)
  · obtain ⟨ad, rfl, _, hc⟩ := hr.2 h0
    obtain ⟨v', w', hrun, h2, h3, _, _⟩ := run_append_own_at (P := P) w base t o.type e j z size bytes ht hi hz hsz hby hzs hp v n xs hown ad q c news hr.1 hc h1 (by simp only [maxLen]; omega) hbytes hbase
    unfold Oper.wp execOp
    simp only [ho, resolve, invoke, builtin, Sem.run_bind, Sem.run_pure, Result.andThen_ok, List.map_toArray, List.map_cons, List.map_nil, hs, hx, hrun]
    exact h v' w' h2 h3
end
theorem fxc_one (L : List Fx) : ∀ u ∈ L.flatMap fxc, u.oneCell' = true := by
  intro u hu
  obtain ⟨x, _, hx⟩ := List.mem_flatMap.1 hu
  unfold fxc fwc at hx
  simp only [List.mem_cons, List.not_mem_nil, or_false] at hx
  rcases hx with rfl | rfl | rfl | rfl | rfl | rfl | rfl | rfl <;> rfl
theorem flows_size (W : World) : (sizeOf (Try.prog.elem 24)).run Try.prog W = .ok 8 W := by kernel_rfl
theorem slice_take (ad : Addr) (n c i : Nat) (hi : i ≤ c) (W : World) : (Instr.slice 24 (.slice (some ad) n c) none (some (.int .i64 (i : Int))) none).run Try.prog W = .ok (.slice (some ad) i c) W := by
  rw [run_slice_h W 24 (some ad) n c (by kernel_rfl) .i64 (i : Int) (by omega) (by omega), flows_size]
  have h0 : ad.add 0 = ad := by unfold Addr.add; simp
  simp [sliced, Result.andThen, h0]
theorem slice_drop (ad : Addr) (n c i : Nat) (hi : i + 1 ≤ n) (W : World) : (Instr.slice 24 (.slice (some ad) n c) (some (.int .i64 ((i : Int) + 1))) none none).run Try.prog W = .ok (.slice (if c = i + 1 then some ad else some (ad.add ((i + 1) * 8))) (n - (i + 1)) (c - (i + 1))) W := by
  rw [run_slice_l W 24 (some ad) n c (by kernel_rfl) .i64 ((i : Int) + 1) (by omega) (by omega), flows_size]
  have h1 : ((i : Int) + 1).toNat = i + 1 := by omega
  simp only [sliced, Result.andThen, h1, Option.map_some]
/-- An error of Make is one. -/
theorem flowGo_err {C : Cf} {off k : Int} {S : List Sp} {f : Fw} (h : flowGo C off S f = .error k) : k = 1 ∨ k = 60 ∨ k = 61 ∨ k = 62 := by
  have hops : ∀ (n : Nat) (es : List (Int × Int)) (is : List Int) (i : Nat) (S : List Sp) (low high : Int), hopsGo C off f n i S es is low high = .error k → k = 61 := by
    intro n es
    induction es with
    | nil => intro is i S low high h; simp [hopsGo] at h
    | cons e es ih =>
      intro is i S low high h
      cases is with
      | nil => simp [hopsGo] at h
      | cons j is =>
        rw [hopsGo] at h
        split at h
        · cases h; rfl
        · cases hl : C.links[j.toNat]? with
          | none => rw [hl] at h; cases h; rfl
          | some l => rw [hl] at h; exact ih _ _ _ _ _ h
  unfold flowGo at h
  split at h
  · cases h; exact .inl rfl
  split at h
  · cases h; exact .inr (.inl rfl)
  split at h
  · rename_i xs ys _ _
    split at h
    · cases h0 : hopsGo C off f xs.length 0 S xs f.w0 0 0 with
      | error e =>
        rw [h0] at h
        simp only at h
        cases h
        exact .inr (.inr (.inl (hops _ _ _ _ _ _ _ h0)))
      | ok r0 =>
        obtain ⟨S1, lo0, hi0⟩ := r0
        rw [h0] at h
        simp only at h
        cases h1 : hopsGo C off f ys.length 0 S1 ys f.w1 0 0 with
        | error e =>
          rw [h1] at h
          simp only at h
          cases h
          exact .inr (.inr (.inl (hops _ _ _ _ _ _ _ h1)))
        | ok r1 =>
          obtain ⟨S2, lo1, hi1⟩ := r1
          rw [h1] at h
          simp only at h
          split at h
          · cases h; exact .inr (.inr (.inr rfl))
          · cases h
    · cases h; exact .inr (.inl rfl)
  · cases h; exact .inr (.inl rfl)
theorem flowsGo_err {C : Cf} {off k : Int} : ∀ (fs : List Fw) (S : List Sp) (W : List (Int × Int)), flowsGo C off S W fs = .error k → k ≠ 0
  | [], S, W, h => by simp [flowsGo] at h
  | f :: fs, S, W, h => by
    rw [flowsGo] at h
    cases hf : flowGo C off S f with
    | error e =>
      rw [hf] at h
      simp only at h
      cases h
      have := flowGo_err hf
      omega
    | ok r =>
      obtain ⟨S', w⟩ := r
      rw [hf] at h
      exact flowsGo_err fs _ _ h
theorem make_err_ne {C : Cf} {k : Int} (h : makeV C = .error k) : k ≠ 0 := by
  unfold makeV at h
  split at h
  · rename_i hc
    cases h
    exact hc
  · split at h
    · rename_i e he
      cases h
      exact flowsGo_err _ _ _ he
    · rename_i S W he
      split at h
      · cases h
      · cases h; decide
/-- Both answers of Make in one: the plan's three cells and the error. -/
def PlanIs (C : Cf) (b : Nat) (w' : World) (off : Int) (wv mv : Value) (k : Int) : Prop :=
  (k ≠ 0 ∧ makeV C = .error k ∧ off = 0 ∧ wv = .slice none 0 0 ∧ mv = .map none) ∨
    (k = 0 ∧ off = offV C ∧ ∃ (S : List Sp) (W : List (Int × Int)) (B1 gG mg : Nat) (fg : Int × Int → Option Value), makeV C = .ok (S, W) ∧ mv = .map (some gG) ∧ b ≤ gG ∧ GtM w' B1 gG mg fg (endsTo C C.nodes.length) C.cycle S ∧
      w'.ownsRow b 52 2 wv W.length (W.flatMap spc) ∧ ∀ x ∈ S, GoodSp C x)
theorem Made.two {C : Cf} {w w' : World} {e : Ending} (h : Made C w w' e) : ∃ (k off : Int) (wv mv : Value), e = .returned (.tuple #[.agg #[.int .i64 off, wv, mv], .int .i64 k]) ∧ Below w.heap.size w w' ∧ (#[.int .i64 off, wv, mv] : Array Value).all (·.oneCell') = true ∧ PlanIs C w.heap.size w' off wv mv k := by
  obtain ⟨hb, ⟨k, hk, rfl⟩ | ⟨S, W, wv, B1, gG, mg, fg, hm, rfl, hG, hT, hO, hg⟩⟩ := h
  · exact ⟨k, 0, _, _, rfl, hb, (by rw [← Array.all_toList]; rfl), .inl ⟨make_err_ne hk, hk, rfl, rfl, rfl⟩⟩
  · obtain ⟨A, c, rfl, _, _⟩ := ownsRow_reads hO
    exact ⟨0, offV C, _, _, rfl, hb, (by rw [← Array.all_toList]; rfl), .inr ⟨rfl, rfl, S, W, B1, gG, mg, fg, hm, rfl, hG, hT, hO, hg⟩⟩
end Go.Proofs.Ytaegngcbiefckaa
