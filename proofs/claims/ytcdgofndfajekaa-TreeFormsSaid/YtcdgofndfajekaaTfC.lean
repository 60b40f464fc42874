/-
  TreeForms, plain: behind the lies each clock that reaches the best one knows it, and how far it is.
-/
import Derived.Test.YtcdgofndfajekaaTfP
namespace Go.Proofs.Ytcdgofndfajekaa
set_option linter.unusedSimpArgs false
set_option linter.unusedVariables false
open Go.RowKit

structure BestOf (P : Nat → Pr) (n : Nat) (W : List Wire) (g : Nat) : Prop where
  lt : g < n
  least : ∀ r, r < n → Conn W g r → r ≠ g → cmpP (P g) (P r) < 0
theorem BestOf.not_less {P : Nat → Pr} {n : Nat} {W : List Wire} {g : Nat} (h : BestOf P n W g) {r : Nat} (hr : r < n) (hc : Conn W g r) : ¬ cmpP (P r) (P g) < 0 := fun hh => by
  by_cases e : r = g
  · subst e
    rw [cmpP_self] at hh
    omega
  · have h1 := h.least r hr hc e
    have h2 := cmpP_neg (P r) (P g)
    omega
theorem live_true {P : Nat → Pr} {n : Nat} {W : List Wire} {now : Int} {L : List Tre} (h : Inv P n W now L) (hp : 5 * (n : Int) < now) {i p : Nat} {e : En} (hi : i < n) (he : ent L i p = some e) (hl : e.live 5 now = true) : ∃ r m j q, TrueE P W i p e r m j q := by
  obtain ⟨h1, h2, h3⟩ := live_parts hl
  obtain ⟨h4, _, h5⟩ := h.cls i p e he h1
  rcases h5 with h5 | ⟨S, s1, s2, s3⟩
  · exact h5
  · have := few_below n (i :: S) (List.nodup_cons.2 ⟨fun hc => h4 (s2 i hc).2, s1⟩) fun x hx => by
      rcases List.mem_cons.1 hx with rfl | hx
      · exact hi
      · exact (s2 x hx).1
    simp at this
    omega
def TopIs (P : Nat → Pr) (W : List Wire) (L : List Tre) (now : Int) (g v dv : Nat) (t : Tre) : Prop :=
  (dv = 0 ∧ t.top now = ownVec (P v)) ∨ ∃ d' k e j q, dv = d' + 1 ∧ ent L v k = some e ∧ e.up = true ∧ e.live 5 now = true ∧ TrueE P W v k e g d' j q ∧ Dist W g j d' ∧ t.top now = { e.vec with at_ := (k : Int) }
def Down (u v du dv : Nat) : Prop := du < dv ∨ (du = dv ∧ u < v)
def Exp (P : Nat → Pr) (W : List Wire) (L : List Tre) (g d : Nat) (lo : Int) : Prop := ∀ u p v q du dv, Link W (u, p) (v, q) → Dist W g u du → Dist W g v dv → Down u v du dv → du < d →
  ∃ e, ent L v q = some e ∧ e.ok = true ∧ e.vec = ⟨P g, du, 10 + (u : Int), p, 0⟩ ∧ lo ≤ e.at_
section
variable {P : Nat → Pr} {n : Nat} {W : List Wire} {now : Int} {L : List Tre} {g d : Nat}
theorem exp_live (h : Inv P n W now L) {lo : Int} (hlo : now ≤ lo + 5) (hx : Exp P W L g d lo) {u p v q du dv : Nat} (hl : Link W (u, p) (v, q)) (hu : Dist W g u du) (hv : Dist W g v dv) (hd : Down u v du dv) (hdd : du < d) :
    ∃ e, ent L v q = some e ∧ e.up = true ∧ e.live 5 now = true ∧ e.vec = ⟨P g, du, 10 + (u : Int), p, 0⟩ := by
  obtain ⟨e, h1, h2, h3, h4⟩ := hx u p v q du dv hl hu hv hd hdd
  have h5 := h.cls v q e h1 h2
  exact ⟨e, h1, (h.sys.up v q e h1).2 ⟨_, hl.symm⟩, live_of h2 h5.2.1 (by omega), h3⟩
theorem top_is (hP : Who P n) (hN : Net n W) (hG : BestOf P n W g) (h : Inv P n W now L) (hpure : 5 * (n : Int) < now) {lo : Int} (hlo : now ≤ lo + 5) (hx : Exp P W L g d lo) {v dv : Nat} (hv : Dist W g v dv) (hd : dv ≤ d) {t : Tre} (ht : L[v]? = some t) : TopIs P W L now g v dv t := by
  have hvn : v < n := hv.1.lt hN.within hG.lt
  have hok := h.sys.tok v t ht
  have hexp : ∀ d', dv = d' + 1 → ∃ p e u q, ent L v p = some e ∧ e.up = true ∧ e.live 5 now = true ∧ e.vec = ⟨P g, d', 10 + (u : Int), q, 0⟩ := fun d' e => by
    subst e
    obtain ⟨u, hu, ha⟩ := hv.pred
    obtain ⟨q, p, hl⟩ := ha.link
    obtain ⟨e, h1, h2, h3, h4⟩ := exp_live h hlo hx hl hu hv (.inl (by omega)) (by omega)
    exact ⟨p, e, u, q, h1, h2, h3, h4⟩
  have hne : dv ≠ 0 → v ≠ g := fun h0 e => by
    subst e
    exact h0 (hv.uniq (.zero W v))
  have hcv : Conn W g v := ⟨_, hv.1⟩
  rcases top_cases hok now with ⟨hT, hn⟩ | ⟨k, e, he, hu, hlv, hb, hT, hmin⟩
  · cases dv with
    | zero => exact .inl ⟨rfl, hT⟩
    | succ d' =>
      obtain ⟨p, e, u, q, h1, h2, h3, h4⟩ := hexp d' rfl
      rw [ent_at ht] at h1
      have := hn p e h1 h2 h3
      rw [h4] at this
      exact absurd (hG.least v hvn hcv (hne (by omega))) this
  · have hee : ent L v k = some e := by rw [ent_at ht]; exact he
    obtain ⟨r, m, j, q, T⟩ := live_true h hpure hvn hee hlv
    have hjv := T.link.adj
    have hcr : Conn W g r := hcv.trans (Conn.of_adj hjv).symm |>.trans ⟨_, T.walk.symm⟩
    obtain ⟨mr, hmr⟩ := hcr
    have hrn : r < n := hmr.lt hN.within hG.lt
    have hroot : e.vec.root = P r := by rw [T.vec]
    cases dv with
    | zero =>
      have := hv.eq_zero
      subst this
      rw [hroot] at hb
      exact absurd hb (hG.not_less hrn ⟨_, hmr⟩)
    | succ d' =>
      obtain ⟨p, x, u, q2, h1, h2, h3, h4⟩ := hexp d' rfl
      rw [ent_at ht] at h1
      have h5 := hmin p x h1 h2 h3 (by rw [h4]; exact hG.least v hvn hcv (hne (by omega)))
      rw [hT] at h5
      have hst : e.vec.steps = (m : Int) := by rw [T.vec]
      rcases cmpV_le h5 with h6 | ⟨h6, h7⟩
      · simp only [hroot, h4] at h6
        exact absurd h6 (hG.not_less hrn ⟨_, hmr⟩)
      · simp only [hroot, hst, h4] at h6 h7
        have hrg : r = g := by
          by_cases e : r = g
          · exact e
          · exact absurd h6 (hP.ne hrn hG.lt e)
        subst hrg
        have hm : d' + 1 ≤ m + 1 := hv.2 _ (.snoc T.walk hjv)
        obtain rfl : m = d' := by omega
        exact .inr ⟨m, k, e, j, q, rfl, hee, hu, hlv, T, ⟨T.walk, fun m' hm' => by have := hv.2 _ (.snoc hm' hjv); omega⟩, hT⟩
/-! ### Roles -/
theorem role_at {t : Tre} {p : Nat} {e : En} (hm : t.most = 5) (he : t.es[p]? = some e) : roleAt t.own (t.top now) (t.hs now) p = roleOf t.own (t.top now) p ⟨e.up, e.live 5 now, e.vec⟩ := by
  unfold roleAt
  rw [hs_at he, hm]
theorem TopIs.mine (hP : Who P n) (hu0 : ∀ {v : Nat}, v < n → (P v).id = 10 + (v : Int)) {u du : Nat} (hun : u < n) (hd6 : du ≤ 200) {t : Tre} (hg : du = 0 → u = g) (h : TopIs P W L now g u du t) (ho : t.own = P u) (p : Nat) : mineOf t.own (t.top now) p = ⟨P g, du, 10 + (u : Int), p, 0⟩ := by
  rcases h with ⟨rfl, h⟩ | ⟨d', k, e, j, q, rfl, _, _, _, T, _, h⟩
  · rw [h, ho]
    unfold mineOf
    have := hg rfl
    subst this
    simp [ownVec, hu0 hun]
  · rw [h, ho]
    unfold mineOf
    have hv := T.vec
    simp only [hv]
    rw [if_neg (by omega), hu0 hun, show wrap64 ((d' : Int) + 1) = ((d' + 1 : Nat) : Int) by unfold wrap64; push_cast; omega]
theorem down_role (hP : Who P n) (hN : Net n W) (hG : BestOf P n W g) (h : Inv P n W now L) (hpure : 5 * (n : Int) < now) {u p v q du dv : Nat} (hl : Link W (u, p) (v, q)) (hu : Dist W g u du) (hv : Dist W g v dv) (hd : Down u v du dv)
    {t : Tre} (ht : L[u]? = some t) (hT : TopIs P W L now g u du t) : roleAt t.own (t.top now) (t.hs now) p = 1 := by
  have hlt := hN.lt hl
  have hok := h.sys.tok u t ht
  obtain ⟨e, he, hE⟩ := hok.at_ hlt.2.2.1
  have hee : ent L u p = some e := by rw [ent_at ht]; exact he
  rw [role_at hok.most he]
  have hup : e.up = true := (h.sys.up u p e hee).2 ⟨_, hl⟩
  have hdn := hu.lt hN.within hG.lt
  have hn7 := hP.1
  unfold roleOf
  rw [if_neg (by rw [hup]; simp), if_neg, if_neg]
  · rintro ⟨h1, h2, h3⟩
    obtain ⟨r, m, j, q', T⟩ := live_true h hpure hlt.1 hee h2
    have hjq := hN.one _ _ _ T.link.symm hl
    injection hjq with hj hq
    subst hj
    have hcr : Conn W g r := ⟨_, hv.1⟩ |> fun c => Conn.trans c ⟨_, T.walk.symm⟩
    obtain ⟨mr, hmr⟩ := hcr
    have hrn : r < n := hmr.lt hN.within hG.lt
    have hmine := hT.mine hP (fun hv => (hP.2 _ hv).1) hlt.1 (by omega) (fun e => by subst e; exact hu.eq_zero) hok.own_ p
    rw [hmine] at h3
    refine absurd h3 (cmpV_pos ?_)
    rw [T.vec]
    simp only
    by_cases hr : r = g
    · subst hr
      refine .inr ⟨cmpP_self _, ?_⟩
      have := hv.2 _ T.walk
      rcases hd with hd | ⟨hd, hd2⟩ <;> omega
    · left
      have h4 := hG.least r hrn ⟨_, hmr⟩ hr
      have h5 := cmpP_neg (P g) (P r)
      omega
  · intro hk
    rcases hT with ⟨_, h1⟩ | ⟨d', k, e', j, q', hdd, h1, _, _, T, hj, h2⟩
    · rw [h1] at hk
      simp [ownVec] at hk
    · rw [h2] at hk
      simp only at hk
      obtain rfl : p = k := by omega
      have hjq := hN.one _ _ _ T.link.symm hl
      injection hjq with hj1 hq1
      subst hj1
      have := hj.uniq hv
      rcases hd with hd | ⟨hd, _⟩ <;> omega
theorem up_role (hP : Who P n) (hN : Net n W) (hG : BestOf P n W g) (h : Inv P n W now L) {u p v q du dv : Nat} (hl : Link W (v, q) (u, p)) (hu : Dist W g u du) (hv : Dist W g v dv) (hd : Down v u dv du) {e : En} (hee : ent L u p = some e) (hlive : e.live 5 now = true) (hvec : e.vec = ⟨P g, dv, 10 + (v : Int), q, 0⟩)
    {t : Tre} (ht : L[u]? = some t) (hT : TopIs P W L now g u du t) : roleAt t.own (t.top now) (t.hs now) p = if (p : Int) = (t.top now).at_ then 2 else 3 := by
  have hlt := hN.lt hl
  have hok := h.sys.tok u t ht
  have he : t.es[p]? = some e := by rw [← ent_at ht]; exact hee
  rw [role_at hok.most he]
  have hup : e.up = true := (h.sys.up u p e hee).2 ⟨_, hl.symm⟩
  have hdn := hu.lt hN.within hG.lt
  have hn7 := hP.1
  unfold roleOf
  rw [if_neg (by rw [hup]; simp)]
  by_cases hk : (p : Int) = (t.top now).at_
  · rw [if_pos hk, if_pos hk]
  · rw [if_neg hk, if_neg hk, if_pos]
    have hmine := hT.mine hP (fun hv => (hP.2 _ hv).1) hlt.2.1 (by omega) (fun e => by subst e; exact hu.eq_zero) hok.own_ p
    refine ⟨?_, hlive, ?_⟩
    · rcases hT with ⟨h1, _⟩ | ⟨d', k, e', j, q', hdd, h1, _, _, T, hj, h2⟩
      · subst h1
        have h3 := hu.eq_zero
        rcases hd with hd | ⟨hd, hd2⟩
        · omega
        · subst hd
          have h4 := hv.eq_zero
          omega
      · rw [h2]
        show (0 : Int) ≤ (k : Int)
        omega
    · rw [hmine, hvec]
      refine cmpV_neg' (cmpP_self _) ?_
      simp only
      rcases hd with hd | ⟨hd, hd2⟩
      · left; omega
      · right; omega
/-! ### What a clock that knows sends -/
theorem down_send (hP : Who P n) (hN : Net n W) (hG : BestOf P n W g) (h : Inv P n W now L) (hpure : 5 * (n : Int) < now) {u p v q du dv : Nat} (hl : Link W (u, p) (v, q)) (hu : Dist W g u du) (hv : Dist W g v dv) (hd : Down u v du dv)
    {t : Tre} (ht : L[u]? = some t) (hT : TopIs P W L now g u du t) (s : Int) :
    (t.outM p s now).one = (P g).one ∧ (t.outM p s now).cls = (P g).cls ∧ (t.outM p s now).two = (P g).two ∧ (t.outM p s now).id = (P g).id ∧ (t.outM p s now).steps = du ∧ (t.outM p s now).src = 10 + (u : Int) ∧ (t.outM p s now).port = p ∧
    ¬ ((t.outM p s now).src = 10 + (v : Int) ∨ (10 + (v : Int)) ∈ (t.outM p s now).path ∨ 255 ≤ (t.outM p s now).steps ∨ 32 ≤ (t.outM p s now).path.length) := by
  have hlt := hN.lt hl
  have hok := h.sys.tok u t ht
  have hdn := hu.lt hN.within hG.lt
  have hn7 := hP.1
  have hid : t.own.id = 10 + (u : Int) := by rw [hok.own_]; exact (hP.2 u hlt.1).1
  have huv : u ≠ v := hlt.2.2.2.2
  rcases hT with ⟨h1, h2⟩ | ⟨d', k, e, j, q', hdd, h1, _, hlv, T, hj, h2⟩
  · subst h1
    have h3 := hu.eq_zero
    subst h3
    rw [out_low h2 hok.own_]
    have hid' : (P u).id = 10 + (u : Int) := (hP.2 u hlt.1).1
    refine ⟨rfl, rfl, rfl, rfl, rfl, hid, rfl, ?_⟩
    simp [om, hid, hid']
    omega
  · subst hdd
    have he : t.es[k]? = some e := by rw [← ent_at ht]; exact h1
    have hst : e.vec.steps = (d' : Int) := by rw [T.vec]
    rw [out_high h2 he ⟨by omega, by omega⟩]
    have hv2 := T.vec
    refine ⟨by simp [om, hv2], by simp [om, hv2], by simp [om, hv2], by simp [om, hv2], by simp [om, hv2], hid, rfl, ?_⟩
    have hlen := T.len
    rintro (h3 | h3 | h3 | h3)
    · have : t.own.id = 10 + (v : Int) := h3
      omega
    · have h3' : (10 + (v : Int)) ∈ e.path ++ [t.own.id] := h3
      rcases List.mem_append.1 h3' with h4 | h4
      · obtain ⟨a, ha⟩ := List.getElem?_of_mem h4
        obtain ⟨x, hx1, hx2⟩ := T.path a _ ha
        obtain rfl : v = x := by omega
        have := hv.2 _ hx2
        have ha2 := (List.getElem?_eq_some_iff.1 ha).1
        rcases hd with hd | ⟨hd, _⟩ <;> omega
      · simp at h4
        omega
    · have : 255 ≤ e.vec.steps + 1 := h3
      omega
    · have : 32 ≤ (e.path ++ [t.own.id]).length := h3
      simp at this
      omega
end
/-! ### A round -/
def Fresh (P : Nat → Pr) (W : List Wire) (L : List Tre) (g d : Nat) (now : Int) (x y : Nat × Nat) : Prop := ∀ du dv, Dist W g x.1 du → Dist W g y.1 dv → Down x.1 y.1 du dv → du < d + 1 →
  ∃ e, ent L y.1 y.2 = some e ∧ e.ok = true ∧ e.vec = ⟨P g, du, 10 + (x.1 : Int), x.2, 0⟩ ∧ now ≤ e.at_
section
variable {P : Nat → Pr} {n : Nat} {W : List Wire} {now : Int} {L : List Tre} {g d : Nat}
theorem send_exp (hP : Who P n) (hN : Net n W) (hG : BestOf P n W g) (h : Inv P n W now L) (hpure : 5 * (n : Int) < now) (hnow : now ≤ 1000) {lo : Int} (hlo : now ≤ lo + 5) (hlo2 : lo ≤ now) (hx : Exp P W L g d lo) {s : Int} (hs : 0 ≤ s ∧ s ≤ 65535) {x y : Nat × Nat} (hl : Link W x y) :
    Exp P W (sends L x y s now) g d lo ∧ Fresh P W (sends L x y s now) g d now x y ∧ (∀ x' y', Link W x' y' → Fresh P W L g d now x' y' → Fresh P W (sends L x y s now) g d now x' y') := by
  obtain ⟨a, p⟩ := x
  obtain ⟨b, q⟩ := y
  obtain ⟨t, u, e0, ht, tok, hu, uok, hee, hE0, hh⟩ := sends_cases (s := s) hP hN h hs ⟨by omega, hnow⟩ hl
  have hlt := hN.lt hl
  -- what must come, comes
  have key : ∀ du dv, Dist W g a du → Dist W g b dv → Down a b du dv → du < d + 1 → sends L (a, p) (b, q) s now = putE L b q (newE e0 (t.outM p s now) now) ∧ (newE e0 (t.outM p s now) now).vec = ⟨P g, du, 10 + (a : Int), p, 0⟩ := fun du dv hda hdb hd hlt2 => by
    have hT := top_is hP hN hG h hpure hlo hx hda (by omega) ht
    have hr := down_role hP hN hG h hpure hl hda hdb hd ht hT
    obtain ⟨m1, m2, m3, m4, m5, m6, m7, m8⟩ := down_send hP hN hG h hpure hl hda hdb hd ht hT s
    rcases hh with ⟨_, h1⟩ | ⟨_, h1, _⟩
    · have h2 := h1 hr
      rw [uok.own_, (hP.2 b hlt.2.1).1] at h2
      exact absurd h2 m8
    · refine ⟨h1, ?_⟩
      unfold newE
      simp only [m1, m2, m3, m4, m5, m6, m7]
  have fresh : Fresh P W (sends L (a, p) (b, q) s now) g d now (a, p) (b, q) := fun du dv hda hdb hd hlt2 => by
    obtain ⟨k1, k2⟩ := key du dv hda hdb hd hlt2
    refine ⟨_, ?_, rfl, k2, Int.le_refl _⟩
    rw [k1, putE_ent hee, if_pos ⟨rfl, rfl⟩]
  -- elsewhere all stays
  have other : ∀ i k, ¬ (i = b ∧ k = q) → ent (sends L (a, p) (b, q) s now) i k = ent L i k := fun i k hne => by
    rcases hh with ⟨h1, _⟩ | ⟨_, h1, _⟩
    · rw [h1]
    · rw [h1, putE_ent hee, if_neg hne]
  refine ⟨fun u1 p1 v1 q1 du dv hl1 hu1 hv1 hd1 hlt1 => ?_, fresh, fun x' y' hl' hf du dv hu1 hv1 hd1 hlt1 => ?_⟩
  · by_cases hy : v1 = b ∧ q1 = q
    · obtain ⟨rfl, rfl⟩ := hy
      have hxx := hN.one _ _ _ hl1.symm hl.symm
      injection hxx with e1 e2
      subst e1 e2
      obtain ⟨e, f1, f2, f3, f4⟩ := fresh du dv hu1 hv1 hd1 (by omega)
      exact ⟨e, f1, f2, f3, by omega⟩
    · obtain ⟨e, f1, f2, f3, f4⟩ := hx u1 p1 v1 q1 du dv hl1 hu1 hv1 hd1 hlt1
      exact ⟨e, by rw [other _ _ hy]; exact f1, f2, f3, f4⟩
  · by_cases hy : y'.1 = b ∧ y'.2 = q
    · have hyy : y' = (b, q) := Prod.ext hy.1 hy.2
      subst hyy
      have hxx := hN.one _ _ _ hl'.symm hl.symm
      subst hxx
      exact fresh du dv hu1 hv1 hd1 hlt1
    · obtain ⟨e, f1, f2, f3, f4⟩ := hf du dv hu1 hv1 hd1 hlt1
      exact ⟨e, by rw [other _ _ hy]; exact f1, f2, f3, f4⟩
noncomputable def wireS (s now : Int) (L : List Tre) (w : Wire) : List Tre := sends (sends L w.1 w.2 s now) w.2 w.1 s now
noncomputable def roundS (W : List Wire) (s now : Int) (L : List Tre) : List Tre := W.foldl (wireS s now) L
theorem round_inv (hP : Who P n) (hN : Net n W) {s : Int} (hs : 0 ≤ s ∧ s ≤ 65535) (hnow : 0 ≤ now ∧ now ≤ 1000) : ∀ (V : List Wire) (L : List Tre), (∀ w ∈ V, w ∈ W) → Inv P n W now L → Inv P n W now (roundS V s now L)
  | [], L, _, h => h
  | w :: V, L, hV, h => by
    have hl : Link W w.1 w.2 := ⟨w, hV w (by simp), .inl ⟨rfl, rfl⟩⟩
    exact round_inv hP hN hs hnow V _ (fun x hx => hV x (by simp [hx])) (sends_inv hP hN (sends_inv hP hN h hs hnow hl) hs hnow hl.symm)
theorem round_exp (hP : Who P n) (hN : Net n W) (hG : BestOf P n W g) {s : Int} (hs : 0 ≤ s ∧ s ≤ 65535) (hpure : 5 * (n : Int) < now) (hnow : now ≤ 1000) {lo : Int} (hlo : now ≤ lo + 5) (hlo2 : lo ≤ now) : ∀ (V D : List Wire) (L : List Tre), (∀ w ∈ V, w ∈ W) → (∀ w ∈ D, w ∈ W) → Inv P n W now L → Exp P W L g d lo →
    (∀ w ∈ D, Fresh P W L g d now w.1 w.2 ∧ Fresh P W L g d now w.2 w.1) → ∀ w ∈ D ++ V, Fresh P W (roundS V s now L) g d now w.1 w.2 ∧ Fresh P W (roundS V s now L) g d now w.2 w.1
  | [], D, L, _, _, _, _, hD, w, hw => hD w (by simpa using hw)
  | x :: V, D, L, hV, hDW, h, hx, hD, w, hw => by
    have hl : Link W x.1 x.2 := ⟨x, hV x (by simp), .inl ⟨rfl, rfl⟩⟩
    have h1 := sends_inv hP hN h hs ⟨by omega, hnow⟩ hl
    obtain ⟨a1, a2, a3⟩ := send_exp hP hN hG h hpure hnow hlo hlo2 hx hs hl
    have h2 := sends_inv hP hN h1 hs ⟨by omega, hnow⟩ hl.symm
    obtain ⟨b1, b2, b3⟩ := send_exp hP hN hG h1 hpure hnow hlo hlo2 a1 hs hl.symm
    refine round_exp hP hN hG hs hpure hnow hlo hlo2 V (D ++ [x]) _ (fun y hy => hV y (by simp [hy])) (fun y hy => ?_) h2 b1 (fun y hy => ?_) w (by simpa using hw)
    · rcases List.mem_append.1 hy with hy | hy
      · exact hDW y hy
      · simp at hy; subst hy; exact hV _ (by simp)
    · rcases List.mem_append.1 hy with hy | hy
      · have hy2 : Link W y.1 y.2 := ⟨y, hDW y hy, .inl ⟨rfl, rfl⟩⟩
        exact ⟨b3 _ _ hy2 (a3 _ _ hy2 (hD y hy).1), b3 _ _ hy2.symm (a3 _ _ hy2.symm (hD y hy).2)⟩
      · simp at hy
        subst hy
        exact ⟨b3 _ _ hl a2, b2⟩
/-- Behind a round all are known one step further. -/
theorem round_more (hP : Who P n) (hN : Net n W) (hG : BestOf P n W g) {s : Int} (hs : 0 ≤ s ∧ s ≤ 65535) (hpure : 5 * (n : Int) < now) (hnow : now ≤ 1000) {lo : Int} (hlo : now ≤ lo + 5) (hlo2 : lo ≤ now) (h : Inv P n W now L) (hx : Exp P W L g d lo) : Exp P W (roundS W s now L) g (d + 1) now := by
  intro u p v q du dv hl hu hv hd hlt
  have H := round_exp hP hN hG hs hpure hnow hlo hlo2 W [] L (fun _ h => h) (fun _ h => by simp at h) h hx (fun _ h => by simp at h)
  obtain ⟨w, hw, hh⟩ := hl
  have := H w (by simpa using hw)
  rcases hh with ⟨e1, e2⟩ | ⟨e1, e2⟩
  · have f := this.1
    rw [e1, e2] at f
    exact f du dv hu hv hd hlt
  · have f := this.2
    rw [e1, e2] at f
    exact f du dv hu hv hd hlt
end
end Go.Proofs.Ytcdgofndfajekaa
