/-
  TreeForms, plain: what stands at the end: the best one is known, by one Slave; each link has one Master; and it stays so.
-/
import Derived.Test.YtcdgofndfajekaaTfC
namespace Go.Proofs.Ytcdgofndfajekaa
set_option linter.unusedSimpArgs false
set_option linter.unusedVariables false
open Go.RowKit

/-- A network that has come to rest. -/
structure Fin (P : Nat → Pr) (n : Nat) (W : List Wire) (now : Int) (L : List Tre) : Prop where
  who : Who P n
  net : Net n W
  inv : Inv P n W now L
  pure_ : 5 * (n : Int) < now
  small : now ≤ 1000
  exp : ∃ lo : Int, now ≤ lo + 5 ∧ lo ≤ now ∧ ∀ g, BestOf P n W g → Exp P W L g n lo
section
variable {P : Nat → Pr} {n : Nat} {W : List Wire} {now : Int} {L : List Tre} {g i di : Nat} {t : Tre}
theorem Fin.top (F : Fin P n W now L) (hG : BestOf P n W g) (hi : Dist W g i di) (ht : L[i]? = some t) : TopIs P W L now g i di t := by
  obtain ⟨lo, h1, h2, h3⟩ := F.exp
  exact top_is F.who F.net hG F.inv F.pure_ h1 (h3 g hG) hi (Nat.le_of_lt (hi.lt F.net.within hG.lt)) ht
theorem Fin.root (F : Fin P n W now L) (hG : BestOf P n W g) (hi : Dist W g i di) (ht : L[i]? = some t) : (t.top now).root = P g := by
  rcases F.top hG hi ht with ⟨h1, h2⟩ | ⟨d', k, e, j, q, _, _, _, _, T, _, h2⟩
  · rw [h2]
    subst h1
    rw [hi.eq_zero]
    rfl
  · rw [h2]
    show e.vec.root = _
    rw [T.vec]
theorem Fin.low (F : Fin P n W now L) (hG : BestOf P n W g) (hi : Dist W g i di) (ht : L[i]? = some t) : (t.top now).at_ < 0 ↔ i = g := by
  rcases F.top hG hi ht with ⟨h1, h2⟩ | ⟨d', k, e, j, q, h1, _, _, _, T, _, h2⟩
  · rw [h2]
    subst h1
    have := hi.eq_zero
    simp [ownVec, this]
  · rw [h2]
    have : i ≠ g := fun e => by
      subst e
      have := hi.uniq (.zero W i)
      omega
    simp [this]
theorem Fin.at_up (F : Fin P n W now L) (hG : BestOf P n W g) (hi : Dist W g i di) (ht : L[i]? = some t) {k : Nat} (hk : (k : Int) = (t.top now).at_) : ∃ e, t.es[k]? = some e ∧ e.up = true := by
  rcases F.top hG hi ht with ⟨h1, h2⟩ | ⟨d', k', e, j, q, h1, h3, h4, _, T, _, h2⟩
  · rw [h2] at hk
    simp [ownVec] at hk
  · rw [h2] at hk
    simp only at hk
    obtain rfl : k = k' := by omega
    exact ⟨e, by rw [← ent_at ht]; exact h3, h4⟩
theorem down_or {u v du dv : Nat} (h : u ≠ v) : Down u v du dv ∨ Down v u dv du := by unfold Down; omega
theorem down_not {u v du dv : Nat} (h : Down u v du dv) : ¬ Down v u dv du := by unfold Down at *; omega
/-- What a port at a wire is to do. -/
theorem Fin.role (F : Fin P n W now L) (hG : BestOf P n W g) {u p v q du dv : Nat} (hl : Link W (u, p) (v, q)) (hu : Dist W g u du) (hv : Dist W g v dv) (ht : L[u]? = some t) :
    (Down u v du dv ∧ roleAt t.own (t.top now) (t.hs now) p = 1) ∨ (Down v u dv du ∧ roleAt t.own (t.top now) (t.hs now) p = if (p : Int) = (t.top now).at_ then 2 else 3) := by
  have hT := F.top hG hu ht
  have hlt := F.net.lt hl
  rcases down_or (du := du) (dv := dv) hlt.2.2.2.2 with hd | hd
  · exact .inl ⟨hd, down_role F.who F.net hG F.inv F.pure_ hl hu hv hd ht hT⟩
  · obtain ⟨lo, h1, h2, h3⟩ := F.exp
    obtain ⟨e, e1, e2, e3, e4⟩ := exp_live F.inv h1 (h3 g hG) hl.symm hv hu hd (hv.lt F.net.within hG.lt)
    exact .inr ⟨hd, up_role F.who F.net hG F.inv hl.symm hu hv hd e1 e3 e4 ht hT⟩
theorem role_down {p : Nat} (F : Fin P n W now L) (hp : p < 8) (hno : ¬ ∃ y, Link W (i, p) y) (ht : L[i]? = some t) : roleAt t.own (t.top now) (t.hs now) p = 0 := by
  have hok := F.inv.sys.tok i t ht
  obtain ⟨e, he, _⟩ := hok.at_ hp
  rw [role_at hok.most he]
  refine roleOf_down _ _ _ _ ?_
  show e.up = false
  cases hu : e.up with
  | false => rfl
  | true => exact absurd ((F.inv.sys.up i p e (by rw [ent_at ht]; exact he)).1 hu) hno
theorem dist_of {g v : Nat} (h : Conn W g v) : ∃ d, Dist W g v d := dist_ex _ h.choose_spec
/-- Each wire has one Master, and none of its ends is Off. -/
theorem Fin.wire (F : Fin P n W now L) (hG : BestOf P n W g) {u p v q : Nat} (hl : Link W (u, p) (v, q)) (hc : Conn W g u) {t u' : Tre} (ht : L[u]? = some t) (hu' : L[v]? = some u') :
    (roleAt t.own (t.top now) (t.hs now) p = 1 ∧ (roleAt u'.own (u'.top now) (u'.hs now) q = 2 ∨ roleAt u'.own (u'.top now) (u'.hs now) q = 3)) ∨
    ((roleAt t.own (t.top now) (t.hs now) p = 2 ∨ roleAt t.own (t.top now) (t.hs now) p = 3) ∧ roleAt u'.own (u'.top now) (u'.hs now) q = 1) := by
  obtain ⟨du, hdu⟩ := dist_of hc
  obtain ⟨dv, hdv⟩ := dist_of (hc.trans (.of_adj hl.adj))
  rcases F.role hG hl hdu hdv ht with ⟨h1, h2⟩ | ⟨h1, h2⟩
  · rcases F.role hG hl.symm hdv hdu hu' with ⟨h3, h4⟩ | ⟨h3, h4⟩
    · exact absurd h3 (down_not h1)
    · left
      refine ⟨h2, ?_⟩
      rw [h4]
      split
      · exact .inl rfl
      · exact .inr rfl
  · rcases F.role hG hl.symm hdv hdu hu' with ⟨h3, h4⟩ | ⟨h3, h4⟩
    · right
      refine ⟨?_, h4⟩
      rw [h2]
      split
      · exact .inl rfl
      · exact .inr rfl
    · exact absurd h3 (down_not h1)
/-! ### The Slaves -/
def slavesN (f : Nat → Int) : Nat → Nat
  | 0 => 0
  | k + 1 => slavesN f k + if f k = 2 then 1 else 0
theorem slaves_at {f : Nat → Int} {a : Int} : ∀ (m : Nat), (∀ k, k < m → (f k = 2 ↔ (k : Int) = a)) → slavesN f m = if 0 ≤ a ∧ a < m then 1 else 0
  | 0, _ => by
    rw [if_neg (by omega)]
    rfl
  | m + 1, h => by
    have ih := slaves_at m (fun k hk => h k (by omega))
    have hm := h m (by omega)
    unfold slavesN
    rw [ih]
    by_cases h1 : (m : Int) = a
    · rw [if_pos (hm.2 h1), if_neg (by omega), if_pos (by omega)]
    · rw [if_neg (fun hh => h1 (hm.1 hh))]
      by_cases h2 : 0 ≤ a ∧ a < (m : Int)
      · rw [if_pos h2, if_pos (by omega)]
      · rw [if_neg h2, if_neg (by omega)]
theorem Fin.slaves (F : Fin P n W now L) (hG : BestOf P n W g) (hi : Dist W g i di) (ht : L[i]? = some t) : slavesN (fun k => roleAt t.own (t.top now) (t.hs now) k) 8 = if i = g then 0 else 1 := by
  have hok := F.inv.sys.tok i t ht
  have h8 : (t.top now).at_ < 8 := by
    rcases F.top hG hi ht with ⟨h1, h2⟩ | ⟨d', k', e, j, q, h1, h3, h4, _, T, _, h2⟩
    · rw [h2]
      show (-1 : Int) < 8
      decide
    · rw [h2]
      rw [ent_at ht] at h3
      have := (List.getElem?_eq_some_iff.1 h3).1
      rw [hok.len] at this
      show (k' : Int) < 8
      omega
  rw [slaves_at (a := (t.top now).at_) 8 fun k hk => ?_]
  · have := F.low hG hi ht
    by_cases h : i = g
    · rw [if_pos h, if_neg (by have := this.2 h; omega)]
    · rw [if_neg h, if_pos]
      have h2 : ¬ (t.top now).at_ < 0 := fun hh => h (this.1 hh)
      exact ⟨by omega, h8⟩
  · obtain ⟨e, he, _⟩ := hok.at_ hk
    show roleAt t.own (t.top now) (t.hs now) k = 2 ↔ _
    rw [role_at hok.most he]
    constructor
    · intro h
      unfold roleOf at h
      split at h
      · cases h
      · split at h
        · assumption
        · split at h <;> cases h
    · intro h
      obtain ⟨e', he', hu⟩ := F.at_up hG hi ht h
      rw [he] at he'
      injection he' with he'
      subst he'
      exact roleOf_at _ _ _ _ hu h
end
/-! ### It stays so -/
theorem top_least {own : Pr} {t : Tre} {now : Int} (hok : TOk own 0 5 8 t) {p : Nat} {x : En} (hx : t.es[p]? = some x) (hu : x.up = true) (hl : x.live 5 now = true) (hb : cmpP x.vec.root own < 0) : cmpV (t.top now) { x.vec with at_ := (p : Int) } ≤ 0 := by
  have h := hs_at (now := now) hx
  rw [hok.most] at h
  exact (topOf_min t.own (t.hs now) p _ h (by rw [hok.own_]; exact ⟨hu, hl, hb⟩)).2
theorem same_half {P : Nat → Pr} {n : Nat} {W : List Wire} {g i di : Nat} {now1 now2 : Int} {L1 L2 : List Tre} {t1 t2 : Tre} (F1 : Fin P n W now1 L1) (F2 : Fin P n W now2 L2) (hG : BestOf P n W g) (hi : Dist W g i di) (h1 : L1[i]? = some t1) (h2 : L2[i]? = some t2) (hd : di ≠ 0) :
    cmpV (t2.top now2) (t1.top now1) ≤ 0 := by
  rcases F1.top hG hi h1 with ⟨a1, a2⟩ | ⟨d', k, e, j, q, hdd, a1, a2, a3, T, hj, a4⟩
  · exact absurd a1 hd
  · obtain ⟨lo, b1, b2, b3⟩ := F2.exp
    obtain ⟨x, x1, x2, x3, x4⟩ := exp_live F2.inv b1 (b3 g hG) T.link hj hi (.inl (by omega)) (hj.lt F2.net.within hG.lt)
    rw [ent_at h2] at x1
    have hin := hi.1.lt F2.net.within hG.lt
    have hne : i ≠ g := fun e => by
      subst e
      exact hd (hi.uniq (.zero W i))
    have h3 := top_least (now := now2) (F2.inv.sys.tok i t2 h2) x1 x2 x3 (by rw [x4]; exact hG.least i hin ⟨_, hi.1⟩ hne)
    rw [a4, T.vec]
    rw [x4] at h3
    exact h3
theorem same_at {P : Nat → Pr} {n : Nat} {W : List Wire} {g i di : Nat} {now1 now2 : Int} {L1 L2 : List Tre} {t1 t2 : Tre} (F1 : Fin P n W now1 L1) (F2 : Fin P n W now2 L2) (hG : BestOf P n W g) (hi : Dist W g i di) (h1 : L1[i]? = some t1) (h2 : L2[i]? = some t2) :
    (t1.top now1).at_ = (t2.top now2).at_ := by
  by_cases hd : di = 0
  · subst hd
    rcases F1.top hG hi h1 with ⟨_, a2⟩ | ⟨d', k, e, j, q, hdd, _⟩
    · rcases F2.top hG hi h2 with ⟨_, b2⟩ | ⟨d', k, e, j, q, hdd, _⟩
      · rw [a2, b2]
      · omega
    · omega
  · have e1 := same_half F1 F2 hG hi h1 h2 hd
    have e2 := same_half F2 F1 hG hi h2 h1 hd
    have e3 := cmpV_neg (t1.top now1) (t2.top now2)
    exact cmpV_at (by omega)
theorem same_roles {P : Nat → Pr} {n : Nat} {W : List Wire} {g i : Nat} {now1 now2 : Int} {L1 L2 : List Tre} {t1 t2 : Tre} (F1 : Fin P n W now1 L1) (F2 : Fin P n W now2 L2) (hG : BestOf P n W g) (hc : Conn W g i) (h1 : L1[i]? = some t1) (h2 : L2[i]? = some t2) {k : Nat} (hk : k < 8) :
    roleAt t1.own (t1.top now1) (t1.hs now1) k = roleAt t2.own (t2.top now2) (t2.hs now2) k := by
  obtain ⟨di, hi⟩ := dist_of hc
  by_cases hl : ∃ y, Link W (i, k) y
  · obtain ⟨⟨v, q⟩, hl⟩ := hl
    obtain ⟨dv, hv⟩ := dist_of (hc.trans (.of_adj hl.adj))
    rcases F1.role hG hl hi hv h1 with ⟨a1, a2⟩ | ⟨a1, a2⟩
    · rcases F2.role hG hl hi hv h2 with ⟨b1, b2⟩ | ⟨b1, b2⟩
      · rw [a2, b2]
      · exact absurd b1 (down_not a1)
    · rcases F2.role hG hl hi hv h2 with ⟨b1, b2⟩ | ⟨b1, b2⟩
      · exact absurd a1 (down_not b1)
      · rw [a2, b2, same_at F1 F2 hG hi h1 h2]
  · rw [role_down F1 hk hl h1, role_down F2 hk hl h2]
/-! ### Who is the best of a group -/
def topG (P : Nat → Pr) (gr : List Nat) (i : Nat) : Nat → Nat
  | 0 => i
  | k + 1 => if gAt gr k = gAt gr i ∧ cmpP (P k) (P (topG P gr i k)) < 0 then k else topG P gr i k
theorem topG_inv {P : Nat → Pr} {n : Nat} {W : List Wire} (hW : Within n W) {i : Nat} (hi : i < n) : ∀ k, k ≤ n →
    topG P (gTimes W n (List.range n)) i k < n ∧ Conn W i (topG P (gTimes W n (List.range n)) i k) ∧ ∀ r, r < k → Conn W i r → cmpP (P (topG P (gTimes W n (List.range n)) i k)) (P r) ≤ 0
  | 0, _ => ⟨hi, .refl W i, fun r hr => by omega⟩
  | k + 1, hk => by
    obtain ⟨h1, h2, h3⟩ := topG_inv hW hi k (by omega)
    have hgi := group_iff hW (i := k) (k := i) (by omega) hi
    unfold topG
    by_cases hc : gAt (gTimes W n (List.range n)) k = gAt (gTimes W n (List.range n)) i ∧ cmpP (P k) (P (topG P (gTimes W n (List.range n)) i k)) < 0
    · rw [if_pos hc]
      refine ⟨by omega, (hgi.1 hc.1).symm, fun r hr hr2 => ?_⟩
      by_cases e : r = k
      · rw [e, cmpP_self]
        exact Int.le_refl _
      · exact (cmpP_trans _ _ _ (Int.le_of_lt hc.2) (h3 r (by omega) hr2)).1
    · rw [if_neg hc]
      refine ⟨h1, h2, fun r hr hr2 => ?_⟩
      by_cases e : r = k
      · subst e
        have h4 : ¬ cmpP (P r) (P (topG P (gTimes W n (List.range n)) i r)) < 0 := fun hh => hc ⟨hgi.2 hr2.symm, hh⟩
        have h5 := cmpP_neg (P r) (P (topG P (gTimes W n (List.range n)) i r))
        omega
      · exact h3 r (by omega) hr2
theorem topG_best {P : Nat → Pr} {n : Nat} {W : List Wire} (hP : Who P n) (hW : Within n W) {i : Nat} (hi : i < n) : BestOf P n W (topG P (gTimes W n (List.range n)) i n) ∧ Conn W (topG P (gTimes W n (List.range n)) i n) i := by
  obtain ⟨h1, h2, h3⟩ := topG_inv (P := P) hW hi n (Nat.le_refl _)
  refine ⟨⟨h1, fun r hr hc hne => ?_⟩, h2.symm⟩
  have h4 := h3 r hr (h2.trans hc)
  have h5 := hP.ne h1 hr (fun e => hne e.symm)
  omega
/-! ### All the rounds -/
noncomputable def runS (W : List Wire) (L : List Tre) : Nat → List Tre
  | 0 => L
  | k + 1 => roundS W (((k + 1) % 256 : Nat) : Int) ((k + 1 : Nat) : Int) (runS W L k)
theorem run_inv {P : Nat → Pr} {n : Nat} {W : List Wire} {L : List Tre} (hP : Who P n) (hN : Net n W) (h : Inv P n W 0 L) : ∀ (k : Nat), k ≤ 1000 → Inv P n W (k : Int) (runS W L k)
  | 0, _ => h
  | k + 1, hk => round_inv hP hN (by omega) (by omega) W _ (fun _ h => h) ((run_inv hP hN h k (by omega)).later (by omega))
theorem run_exp {P : Nat → Pr} {n : Nat} {W : List Wire} {L : List Tre} {g : Nat} (hP : Who P n) (hN : Net n W) (hG : BestOf P n W g) (h : Inv P n W 0 L) : ∀ j, 5 * n + j ≤ 1000 → Exp P W (runS W L (5 * n + j)) g j ((5 * n + j : Nat) : Int)
  | 0, _ => fun u p v q du dv _ _ _ _ hd => by omega
  | j + 1, hj => by
    have hi := (run_inv hP hN h (5 * n + j) (by omega)).later (k := ((5 * n + j + 1 : Nat) : Int)) (by omega)
    show Exp P W (roundS W (((5 * n + j + 1) % 256 : Nat) : Int) ((5 * n + j + 1 : Nat) : Int) (runS W L (5 * n + j))) g (j + 1) ((5 * n + j + 1 : Nat) : Int)
    exact round_more hP hN hG (by omega) (by omega) (by omega) (lo := ((5 * n + j : Nat) : Int)) (by omega) (by omega) hi (run_exp hP hN hG h j (by omega))
theorem Exp.less {P : Nat → Pr} {W : List Wire} {L : List Tre} {g d d' : Nat} {lo : Int} (h : Exp P W L g d lo) (hd : d' ≤ d) : Exp P W L g d' lo := fun u p v q du dv a b c e f => h u p v q du dv a b c e (by omega)
/-- Behind the rounds of the statement. -/
theorem fin_first {P : Nat → Pr} {n : Nat} {W : List Wire} {L : List Tre} (hP : Who P n) (hN : Net n W) (h : Inv P n W 0 L) : Fin P n W ((8 * (n + 2) + 1 : Nat) : Int) (runS W L (8 * (n + 2))) := by
  have hn := hP.1
  refine ⟨hP, hN, (run_inv hP hN h _ (by omega)).later (by omega), by omega, by omega, ((8 * (n + 2) : Nat) : Int), by omega, by omega, fun g hG => ?_⟩
  have := run_exp hP hN hG h (3 * n + 16) (by omega)
  rw [show 5 * n + (3 * n + 16) = 8 * (n + 2) by omega] at this
  exact this.less (by omega)
theorem fin_next {P : Nat → Pr} {n : Nat} {W : List Wire} {L : List Tre} {now s : Int} (h : Fin P n W now L) (hs : 0 ≤ s ∧ s ≤ 65535) (hn : now + 1 ≤ 1000) (hlo : ∀ lo : Int, now ≤ lo + 5 → True) :
    Inv P n W (now + 1) L ∧ Inv P n W (now + 1) (roundS W s (now + 1) L) := by
  have h0 := h.pure_
  have h1 := h.inv.later (k := now + 1) (by omega)
  exact ⟨h1, round_inv h.who h.net hs ⟨by omega, hn⟩ W _ (fun _ h => h) h1⟩
theorem fin_second {P : Nat → Pr} {n : Nat} {W : List Wire} {L : List Tre} (hP : Who P n) (hN : Net n W) (h : Inv P n W 0 L) {s : Int} (hs : 0 ≤ s ∧ s ≤ 65535) : Fin P n W ((8 * (n + 2) + 2 : Nat) : Int) (roundS W s ((8 * (n + 2) + 2 : Nat) : Int) (runS W L (8 * (n + 2)))) := by
  have hn := hP.1
  have h1 := (run_inv hP hN h (8 * (n + 2)) (by omega)).later (k := ((8 * (n + 2) + 2 : Nat) : Int)) (by omega)
  refine ⟨hP, hN, round_inv hP hN hs (by omega) W _ (fun _ h => h) h1, by omega, by omega, ((8 * (n + 2) + 2 : Nat) : Int), by omega, by omega, fun g hG => ?_⟩
  have h2 := run_exp hP hN hG h (3 * n + 16) (by omega)
  rw [show 5 * n + (3 * n + 16) = 8 * (n + 2) by omega] at h2
  exact (round_more hP hN hG hs (by omega) (by omega) (lo := ((8 * (n + 2) : Nat) : Int)) (by omega) (by omega) h1 h2).less (by omega)
end Go.Proofs.Ytcdgofndfajekaa
