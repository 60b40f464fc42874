/-
  A region that draws its order, walked by a tree: at some points two operations may come up; behind some operations (ks: they write what others read) the class of worlds need not hold.
-/
import Derived.Test.YthhlfojaloaooaaGreatKitC
namespace Go.Proofs.YthhlfojaloaooaaGreat
open Go.RowKit

section
variable {P : Program} {ops : Array Oper} {Q : Exit → Act → World → Prop} {md : Region.Mode} {S : World → Prop} {ks : List Nat}
def clean (ks : List Nat) (listed : Array Bool) : Bool := ks.all fun k => !listed.getD k false
theorem clean_mono {listed : Array Bool} {j : Nat} (h : clean ks (listed.setIfInBounds j true) = true) : clean ks listed = true := by
  unfold clean at h ⊢
  rw [List.all_eq_true] at h ⊢
  intro k hk
  have := h k hk
  by_cases hjk : j = k
  · subst hjk
    rcases Nat.lt_or_ge j listed.size with h' | h'
    · simp [h'] at this
    · simp [Array.getElem?_eq_none h']
  · rw [getD_set_ne false hjk] at this; exact this
theorem clean_step {listed : Array Bool} {j : Nat} (h : clean ks listed = true) (hj : ks.contains j = false) : clean ks (listed.setIfInBounds j true) = true := by
  unfold clean at h ⊢
  rw [List.all_eq_true] at h ⊢
  intro k hk
  have hjk : j ≠ k := fun e => by subst e; rw [List.contains_iff_mem.2 hk] at hj; cases hj
  rw [getD_set_ne false hjk]
  exact h k hk
/-- As wpAnyH, but that the class need hold only as long as none of ks has run. -/
def wpAnyT (P : Program) (md : Region.Mode) (ops : Array Oper) (Q : Exit → Act → World → Prop) (S : World → Prop) (ks : List Nat) : Nat → Array Bool → Act → World → Prop
  | 0, listed, a, w => Region.ready md ops listed = [] ∧ Q .normal a w
  | fuel + 1, listed, a, w =>
    (Region.ready md ops listed = [] → Q .normal a w) ∧
    ∀ i ∈ Region.ready md ops listed, wpOp P ops Q i (fun a' w' => (clean ks (listed.setIfInBounds i true) = true → S w') ∧ wpAnyT P md ops Q S ks fuel (listed.setIfInBounds i true) a' w') a w
theorem wpAny_of_T : ∀ (fuel : Nat) (listed : Array Bool) (a : Act) (w : World), wpAnyT P md ops Q S ks fuel listed a w → wpAny P md ops Q fuel listed a w
  | 0, _, _, _, h => h
  | fuel + 1, _, _, _, h => ⟨h.1, fun i hi => wpOp_mono (fun _ _ h' => wpAny_of_T fuel _ _ _ h'.2) (h.2 i hi)⟩

theorem wpAnyT_first {i : Nat} {oi : Oper} {v : Value} {T : World → Prop} {X : Array Bool → Prop} (hi : ops[i]? = some oi) (hik : ks.contains i = false) (hsel : ∀ (j : Nat) (o : Oper) cs b, ops[j]? = some o → o.op ≠ .select cs b)
    (hQ : ∀ c a w, Q (.panic c) (a.put oi.dst v) w → Q (.panic c) a w)
    (hst : ∀ (listed : Array Bool) (j : Nat), listed.getD i true = false → j ∈ Region.ready md ops listed → X listed → X (listed.setIfInBounds j true))
    (hT : ∀ (listed : Array Bool) w, X listed → (clean ks listed = true → S w) → T w) :
    ∀ (fuel : Nat) (listed : Array Bool) (a : Act) (w : World),
      (∀ j oj, ops[j]? = some oj → j ≠ i → listed.getD j true = false → (∀ e ∈ oj.after, Region.binds md e = true → e.on ≠ i) → oi.apart ops oj = true) →
      i ∈ Region.ready md ops listed → YieldsIf P ops T oi v a → X listed → (clean ks listed = true → S w) →
      wpAnyT P md ops Q S ks fuel (listed.setIfInBounds i true) (a.put oi.dst v) w → wpAnyT P md ops Q S ks (fuel + 1) listed a w := by
  intro fuel
  induction fuel with
  | zero =>
    intro listed a w _ hr hy hX hS H
    refine ⟨fun h => (by rw [h] at hr; cases hr), fun j hj => ?_⟩
    by_cases hji : j = i
    · subst hji; exact hy.wpOp hi (hT _ _ hX hS) ⟨fun h => hS (clean_mono h), H⟩
    · have := ready_mono hj hji
      rw [H.1] at this
      cases this
  | succ fuel ih =>
    intro listed a w hfree hr hy hX hS H
    refine ⟨fun h => (by rw [h] at hr; cases hr), fun j hj => ?_⟩
    by_cases hji : j = i
    · subst hji; exact hy.wpOp hi (hT _ _ hX hS) ⟨fun h => hS (clean_mono h), H⟩
    · have h1 := H.2 j (ready_mono hj hji)
      obtain ⟨hjun, oj, hoj, hall⟩ := mem_ready.1 hj
      have hnot : ∀ e ∈ oj.after, Region.binds md e = true → e.on ≠ i := fun e he hb heq => by
        have h1 := hall e he hb
        have h0 := (mem_ready.1 hr).1
        rw [heq] at h1
        rcases Nat.lt_or_ge i listed.size with h' | h'
        · simp [h'] at h0 h1; rw [h0] at h1; cases h1
        · simp [Array.getElem?_eq_none h'] at h1
      have h2 := wpOp_putIf hoj (hfree j oj hoj hji hjun hnot) (fun cs b => hsel i oi cs b hi) (fun cs b => hsel j oj cs b hoj) hQ hy h1
      have hfree' : ∀ k ok, ops[k]? = some ok → k ≠ i → (listed.setIfInBounds j true).getD k true = false →
          (∀ e ∈ ok.after, Region.binds md e = true → e.on ≠ i) → oi.apart ops ok = true := fun k ok hk hki hun hno => by
        refine hfree k ok hk hki ?_ hno
        by_cases hjk : j = k
        · subst hjk; exact hjun
        · rw [getD_set_ne true hjk] at hun; exact hun
      refine wpOp_mono (fun a' w' h3 => ⟨fun hc => h3.2.1 ?_, ih (listed.setIfInBounds j true) a' w' hfree' (ready_mono hr (Ne.symm hji)) h3.1 (hst listed j (mem_ready.1 hr).1 hj hX) (fun hc => h3.2.1 ?_) ?_⟩) h2
      all_goals first | (rw [Array.setIfInBounds_comm _ _ hji]; exact h3.2.2) | (rw [Array.setIfInBounds_comm _ _ (Ne.symm hji)]; exact clean_step hc hik)

inductive Tr where
  | nil
  | take (i : Nat) (k : Tr)
  | free (i : Nat) (k : Tr)
  | one (i : Nat) (k : Tr)
  | wr (i : Nat) (k : Tr)
  | two (i j : Nat) (a b : Tr)
  | three (i j k : Nat) (a b c : Tr)
  | four (i j k l : Nat) (a b c d : Tr)
def Tr.len : Tr → Nat
  | .nil => 0
  | .take _ k | .free _ k | .one _ k | .wr _ k => k.len + 1
  | .two _ _ a _ => a.len + 1
  | .three _ _ _ a _ _ => a.len + 1
  | .four _ _ _ _ a _ _ _ => a.len + 1
def trB (md : Region.Mode) (ops : Array Oper) (ks : List Nat) : Tr → Array Bool → Bool
  | .nil, listed => (Region.ready md ops listed).isEmpty
  | .take i k, listed => (Region.ready md ops listed).contains i && Region.free md ops listed i && ks.all (fun x => waitsB md ops x i) && !ks.contains i && clean ks listed && trB md ops ks k (listed.setIfInBounds i true)
  | .free i k, listed => (Region.ready md ops listed).contains i && Region.free md ops listed i && !ks.contains i && trB md ops ks k (listed.setIfInBounds i true)
  | .one i k, listed => decide (Region.ready md ops listed = [i]) && trB md ops ks k (listed.setIfInBounds i true)
  | .wr i k, listed => decide (Region.ready md ops listed = [i]) && !clean ks (listed.setIfInBounds i true) && trB md ops ks k (listed.setIfInBounds i true)
  | .two i j a b, listed => decide (Region.ready md ops listed = [i, j]) && decide (a.len = b.len) && trB md ops ks a (listed.setIfInBounds i true) && trB md ops ks b (listed.setIfInBounds j true)
  | .three i j k a b c, listed => decide (Region.ready md ops listed = [i, j, k]) && decide (a.len = b.len) && decide (a.len = c.len) && trB md ops ks a (listed.setIfInBounds i true) && trB md ops ks b (listed.setIfInBounds j true) && trB md ops ks c (listed.setIfInBounds k true)
  | .four i j k l a b c d, listed => decide (Region.ready md ops listed = [i, j, k, l]) && decide (a.len = b.len) && decide (a.len = c.len) && decide (a.len = d.len) && trB md ops ks a (listed.setIfInBounds i true) && trB md ops ks b (listed.setIfInBounds j true) && trB md ops ks c (listed.setIfInBounds k true) && trB md ops ks d (listed.setIfInBounds l true)
def wpTr (P : Program) (ops : Array Oper) (S : World → Prop) (Q : Exit → Act → World → Prop) : Tr → Act → World → Prop
  | .nil, a, w => Q .normal a w
  | .take i k, a, w => ∃ o v, ops[i]? = some o ∧ YieldsIf P ops S o v a ∧ wpTr P ops S Q k (a.put o.dst v) w
  | .free i k, a, w => ∃ o v, ops[i]? = some o ∧ YieldsIf P ops (fun _ => True) o v a ∧ wpTr P ops S Q k (a.put o.dst v) w
  | .one i k, a, w => wpOp P ops Q i (fun a' w' => S w' ∧ wpTr P ops S Q k a' w') a w
  | .wr i k, a, w => wpOp P ops Q i (fun a' w' => wpTr P ops S Q k a' w') a w
  | .two i j k l, a, w => wpOp P ops Q i (fun a' w' => S w' ∧ wpTr P ops S Q k a' w') a w ∧ wpOp P ops Q j (fun a' w' => S w' ∧ wpTr P ops S Q l a' w') a w
  | .three i j k x y z, a, w => wpOp P ops Q i (fun a' w' => S w' ∧ wpTr P ops S Q x a' w') a w ∧ wpOp P ops Q j (fun a' w' => S w' ∧ wpTr P ops S Q y a' w') a w ∧ wpOp P ops Q k (fun a' w' => S w' ∧ wpTr P ops S Q z a' w') a w
  | .four i j k l x y z u, a, w => wpOp P ops Q i (fun a' w' => S w' ∧ wpTr P ops S Q x a' w') a w ∧ wpOp P ops Q j (fun a' w' => S w' ∧ wpTr P ops S Q y a' w') a w ∧ wpOp P ops Q k (fun a' w' => S w' ∧ wpTr P ops S Q z a' w') a w ∧ wpOp P ops Q l (fun a' w' => S w' ∧ wpTr P ops S Q u a' w') a w
theorem wpAnyT_tree (hsel : Region.noSelect ops = true) (hQ : ∀ c a (d : Tmp) v w, Q (.panic c) (a.put (some d) v) w → Q (.panic c) a w) :
    ∀ (t : Tr) (listed : Array Bool) (a : Act) (w : World), trB md ops ks t listed = true → (clean ks listed = true → S w) → wpTr P ops S Q t a w → wpAnyT P md ops Q S ks t.len listed a w
  | .nil, listed, a, w, hB, _, h => by
    have hr : Region.ready md ops listed = [] := by simpa [trB] using hB
    exact ⟨hr, h⟩
  | .take i k, listed, a, w, hB, hI, h => by
    simp only [trB, Bool.and_eq_true, Bool.not_eq_true'] at hB
    obtain ⟨⟨⟨⟨⟨h1, h2⟩, h3⟩, h5⟩, h6⟩, h4⟩ := hB
    obtain ⟨o, v, ho, hy, hr⟩ := h
    refine wpAnyT_first (T := S) (X := fun l => clean ks l = true) ho h5 (Region.noSelect_spec hsel) (fun c a w => ?_) (fun listed j hun hj hc => clean_step hc ?_) (fun _ _ hc h => h hc) k.len listed a w (Region.free_spec ho h2) (by simpa using h1) hy h6 hI ?_
    · cases o.dst with
      | none => exact id
      | some d => exact hQ c a d v w
    · cases hk : ks.contains j
      · rfl
      · exact absurd hj (waits_spec (List.all_eq_true.1 h3 j (by simpa using hk)) hun)
    · exact wpAnyT_tree hsel hQ k _ _ _ h4 (fun hc => hI (clean_mono hc)) hr
  | .free i k, listed, a, w, hB, hI, h => by
    simp only [trB, Bool.and_eq_true, Bool.not_eq_true'] at hB
    obtain ⟨⟨⟨h1, h2⟩, h3⟩, h4⟩ := hB
    obtain ⟨o, v, ho, hy, hr⟩ := h
    refine wpAnyT_first (T := fun _ => True) (X := fun _ => True) ho h3 (Region.noSelect_spec hsel) (fun c a w => ?_) (fun _ _ _ _ _ => trivial) (fun _ _ _ _ => trivial) k.len listed a w (Region.free_spec ho h2) (by simpa using h1) hy trivial hI ?_
    · cases o.dst with
      | none => exact id
      | some d => exact hQ c a d v w
    · exact wpAnyT_tree hsel hQ k _ _ _ h4 (fun hc => hI (clean_mono hc)) hr
  | .one i k, listed, a, w, hB, _, h => by
    simp only [trB, Bool.and_eq_true, decide_eq_true_eq] at hB
    obtain ⟨h1, h2⟩ := hB
    refine ⟨fun h0 => (by rw [h1] at h0; cases h0), fun j hj => ?_⟩
    have hij : j = i := by rw [h1] at hj; simpa using hj
    subst hij
    exact wpOp_mono (fun a' w' h' => ⟨fun _ => h'.1, wpAnyT_tree hsel hQ k _ a' w' h2 (fun _ => h'.1) h'.2⟩) h
  | .wr i k, listed, a, w, hB, _, h => by
    simp only [trB, Bool.and_eq_true, decide_eq_true_eq, Bool.not_eq_true'] at hB
    obtain ⟨⟨h1, h3⟩, h2⟩ := hB
    refine ⟨fun h0 => (by rw [h1] at h0; cases h0), fun j hj => ?_⟩
    have hij : j = i := by rw [h1] at hj; simpa using hj
    subst hij
    exact wpOp_mono (fun a' w' h' => ⟨fun hc => absurd (h3.symm.trans hc) (by decide), wpAnyT_tree hsel hQ k _ a' w' h2 (fun hc => absurd (h3.symm.trans hc) (by decide)) h'⟩) h
  | .two i j k l, listed, a, w, hB, _, h => by
    simp only [trB, Bool.and_eq_true, decide_eq_true_eq] at hB
    obtain ⟨⟨⟨h1, hl⟩, h2⟩, h3⟩ := hB
    refine ⟨fun h0 => (by rw [h1] at h0; cases h0), fun x hx => ?_⟩
    have hij : x = i ∨ x = j := by rw [h1] at hx; simpa using hx
    rcases hij with rfl | rfl
    · exact wpOp_mono (fun a' w' h' => ⟨fun _ => h'.1, wpAnyT_tree hsel hQ k _ a' w' h2 (fun _ => h'.1) h'.2⟩) h.1
    · show wpOp P ops Q x (fun a' w' => _ ∧ wpAnyT P md ops Q S ks k.len _ a' w') a w
      rw [hl]
      exact wpOp_mono (fun a' w' h' => ⟨fun _ => h'.1, wpAnyT_tree hsel hQ l _ a' w' h3 (fun _ => h'.1) h'.2⟩) h.2
  | .three i j k x y z, listed, a, w, hB, _, h => by
    simp only [trB, Bool.and_eq_true, decide_eq_true_eq] at hB
    obtain ⟨⟨⟨⟨⟨h1, hl⟩, hl2⟩, h2⟩, h3⟩, h4⟩ := hB
    refine ⟨fun h0 => (by rw [h1] at h0; cases h0), fun q hq => ?_⟩
    have hij : q = i ∨ q = j ∨ q = k := by rw [h1] at hq; simpa using hq
    rcases hij with rfl | rfl | rfl
    · exact wpOp_mono (fun a' w' h' => ⟨fun _ => h'.1, wpAnyT_tree hsel hQ x _ a' w' h2 (fun _ => h'.1) h'.2⟩) h.1
    · show wpOp P ops Q q (fun a' w' => _ ∧ wpAnyT P md ops Q S ks x.len _ a' w') a w
      rw [hl]
      exact wpOp_mono (fun a' w' h' => ⟨fun _ => h'.1, wpAnyT_tree hsel hQ y _ a' w' h3 (fun _ => h'.1) h'.2⟩) h.2.1
    · show wpOp P ops Q q (fun a' w' => _ ∧ wpAnyT P md ops Q S ks x.len _ a' w') a w
      rw [hl2]
      exact wpOp_mono (fun a' w' h' => ⟨fun _ => h'.1, wpAnyT_tree hsel hQ z _ a' w' h4 (fun _ => h'.1) h'.2⟩) h.2.2
  | .four i j k l x y z u, listed, a, w, hB, _, h => by
    simp only [trB, Bool.and_eq_true, decide_eq_true_eq] at hB
    obtain ⟨⟨⟨⟨⟨⟨⟨h1, hl⟩, hl2⟩, hl3⟩, h2⟩, h3⟩, h4⟩, h5⟩ := hB
    refine ⟨fun h0 => (by rw [h1] at h0; cases h0), fun q hq => ?_⟩
    have hij : q = i ∨ q = j ∨ q = k ∨ q = l := by rw [h1] at hq; simpa using hq
    rcases hij with rfl | rfl | rfl | rfl
    · exact wpOp_mono (fun a' w' h' => ⟨fun _ => h'.1, wpAnyT_tree hsel hQ x _ a' w' h2 (fun _ => h'.1) h'.2⟩) h.1
    · show wpOp P ops Q q (fun a' w' => _ ∧ wpAnyT P md ops Q S ks x.len _ a' w') a w
      rw [hl]
      exact wpOp_mono (fun a' w' h' => ⟨fun _ => h'.1, wpAnyT_tree hsel hQ y _ a' w' h3 (fun _ => h'.1) h'.2⟩) h.2.1
    · show wpOp P ops Q q (fun a' w' => _ ∧ wpAnyT P md ops Q S ks x.len _ a' w') a w
      rw [hl2]
      exact wpOp_mono (fun a' w' h' => ⟨fun _ => h'.1, wpAnyT_tree hsel hQ z _ a' w' h4 (fun _ => h'.1) h'.2⟩) h.2.2.1
    · show wpOp P ops Q q (fun a' w' => _ ∧ wpAnyT P md ops Q S ks x.len _ a' w') a w
      rw [hl3]
      exact wpOp_mono (fun a' w' h' => ⟨fun _ => h'.1, wpAnyT_tree hsel hQ u _ a' w' h5 (fun _ => h'.1) h'.2⟩) h.2.2.2
/-- A region that draws its order, by a tree. -/
theorem wp_region_tree {id : Nat} {a : Act} {w : World} {ol : List Oper} (ks : List Nat) (t : Tr) (S : World → Prop) (hm : P.follows .mixedOrders = true)
    (hB : (Region.noSelect ol.toArray && decide (t.len = ol.length) && trB .any ol.toArray ks t (Array.replicate ol.length false)) = true)
    (hQ : ∀ c a (d : Tmp) v w, Q (.panic c) (a.put (some d) v) w → Q (.panic c) a w) (hS : S w.drew) (h : wpTr P ol.toArray S Q t a w.drew) : (Code.region id ol.toArray true).wp P Q a w := by
  simp only [Bool.and_eq_true, decide_eq_true_eq] at hB
  obtain ⟨⟨h1, h2⟩, h3⟩ := hB
  refine wp_region_any hm (wpAny_of_T (S := S) (ks := ks) _ _ _ _ ?_)
  have := wpAnyT_tree (md := .any) (S := S) (ks := ks) h1 hQ t (Array.replicate ol.length false) a w.drew h3 (fun _ => hS) h
  rw [h2] at this
  simpa using this
end
section
variable {P : Program} {lo : List Oper} {S : World → Prop} {Q : Exit → Act → World → Prop} 
theorem tr_nil {a : Act} {w : World} (h : Q .normal a w) : wpTr P lo.toArray S Q .nil a w := h
theorem tr_take {i : Nat} {l : Tr} {a : Act} {w : World} {o : Oper} {v : Value} (ho : lo[i]? = some o) (hw : Region.wanted o (yielded lo.toArray a.tmps) = true)
    (h : ∀ w, S w → (execOp a.eval o).run P w = .ok (.value v) w) (hk : wpTr P lo.toArray S Q l (a.put o.dst v) w) : wpTr P lo.toArray S Q (.take i l) a w :=
  ⟨o, v, by simpa using ho, .inl ⟨hw, fun w' hS => by rw [h w' hS]⟩, hk⟩
theorem tr_skip {i : Nat} {l : Tr} {a : Act} {w : World} {o : Oper} (ho : lo[i]? = some o) (hw : Region.wanted o (yielded lo.toArray a.tmps) = false)
    (hk : wpTr P lo.toArray S Q l (a.put o.dst undef) w) : wpTr P lo.toArray S Q (.take i l) a w := ⟨o, undef, by simpa using ho, .inr ⟨hw, rfl⟩, hk⟩
theorem tr_free {i : Nat} {l : Tr} {a : Act} {w : World} {o : Oper} {v : Value} (ho : lo[i]? = some o) (hw : Region.wanted o (yielded lo.toArray a.tmps) = true)
    (h : ∀ w, (execOp a.eval o).run P w = .ok (.value v) w) (hk : wpTr P lo.toArray S Q l (a.put o.dst v) w) : wpTr P lo.toArray S Q (.free i l) a w :=
  ⟨o, v, by simpa using ho, .inl ⟨hw, fun w' _ => by rw [h w']⟩, hk⟩
theorem tr_two {i j : Nat} {l m : Tr} {a : Act} {w : World} (h1 : wpTr P lo.toArray S Q (.one i l) a w) (h2 : wpTr P lo.toArray S Q (.one j m) a w) : wpTr P lo.toArray S Q (.two i j l m) a w := ⟨h1, h2⟩
theorem tr_three {i j k : Nat} {l m n : Tr} {a : Act} {w : World} (h1 : wpTr P lo.toArray S Q (.one i l) a w) (h2 : wpTr P lo.toArray S Q (.one j m) a w) (h3 : wpTr P lo.toArray S Q (.one k n) a w) : wpTr P lo.toArray S Q (.three i j k l m n) a w := ⟨h1, h2, h3⟩
theorem tr_four {i j k l : Nat} {x y z u : Tr} {a : Act} {w : World} (h1 : wpTr P lo.toArray S Q (.one i x) a w) (h2 : wpTr P lo.toArray S Q (.one j y) a w) (h3 : wpTr P lo.toArray S Q (.one k z) a w) (h4 : wpTr P lo.toArray S Q (.one l u) a w) : wpTr P lo.toArray S Q (.four i j k l x y z u) a w := ⟨h1, h2, h3, h4⟩
theorem tr_wp {i : Nat} {l : Tr} {a : Act} {w : World} {o : Oper} (ho : lo[i]? = some o) (hw : Region.wanted o (yielded lo.toArray a.tmps) = true)
    (h : o.wp P a w (fun a' w' => S w' ∧ wpTr P lo.toArray S Q l a' w') Q) : wpTr P lo.toArray S Q (.one i l) a w := by
  show wpOp P lo.toArray Q i _ a w
  unfold wpOp
  rw [show lo.toArray[i]? = some o from by simpa using ho]
  simp only [hw, if_true]
  exact .inl h
theorem tr_run {i : Nat} {l : Tr} {a : Act} {w w' : World} {o : Oper} {v : Value} (ho : lo[i]? = some o) (hw : Region.wanted o (yielded lo.toArray a.tmps) = true)
    (h : (execOp a.eval o).run P w = .ok (.value v) w') (hS : S w') (hk : wpTr P lo.toArray S Q l (a.put o.dst v) w') : wpTr P lo.toArray S Q (.one i l) a w := by
  refine tr_wp ho hw ?_
  unfold Oper.wp
  rw [h]
  exact ⟨hS, hk⟩
theorem tr_run0 {i : Nat} {l : Tr} {a : Act} {w w' : World} {o : Oper} (ho : lo[i]? = some o) (hw : Region.wanted o (yielded lo.toArray a.tmps) = true)
    (h : (execOp a.eval o).run P w = .ok .skip w') (hS : S w') (hk : wpTr P lo.toArray S Q l (a.put o.dst undef) w') : wpTr P lo.toArray S Q (.one i l) a w := by
  refine tr_wp ho hw ?_
  unfold Oper.wp
  rw [h]
  exact ⟨hS, hk⟩
theorem tr_wr {i : Nat} {l : Tr} {a : Act} {w w' : World} {o : Oper} (ho : lo[i]? = some o) (hw : Region.wanted o (yielded lo.toArray a.tmps) = true)
    (h : (execOp a.eval o).run P w = .ok .skip w') (hk : wpTr P lo.toArray S Q l (a.put o.dst undef) w') : wpTr P lo.toArray S Q (.wr i l) a w := by
  show wpOp P lo.toArray Q i _ a w
  unfold wpOp
  rw [show lo.toArray[i]? = some o from by simpa using ho]
  simp only [hw, if_true]
  refine .inl ?_
  unfold Oper.wp
  rw [h]
  exact hk
/-- A struct stored into a part of a block that is known whole. -/
theorem tr_wr_part {i : Nat} {l : Tr} {a : Act} {o : Oper} (ho0 : lo[i]? = some o) (hgd : o.guard = none) (ty : TypeId) (x y : Operand) (ho : o.op = .store ty x y)
    {w : World} {te : TypeId} {old cs : Array Value} {g off : Nat} (hx : a.eval x = .pointer (some ⟨g, off, none⟩)) (B : Blk w g te old) (hy : a.eval y = .agg cs) (hsz : off + cs.size ≤ old.size) (hi : (P.info? ty).map (·.size) = some cs.size) (h1 : cs.all (·.oneCell') = true)
    (h : ∀ w', Blk w' g te (putAll old off cs.toList) → w'.heap.size = w.heap.size → w.grownBy w' (some g) → wpTr P lo.toArray S Q l (a.put o.dst undef) w') : wpTr P lo.toArray S Q (.wr i l) a w := by
  show wpOp P lo.toArray Q i _ a w
  unfold wpOp
  rw [show lo.toArray[i]? = some o from by simpa using ho0]
  simp only [Region.wanted, hgd, if_true]
  refine .inl (wp_store_mid ty x y ho g off cs hx hy (B.there hsz) hi h1 ?_)
  obtain ⟨h2, h3, h4⟩ := putAll_blk cs.toList off w old B
  exact h _ h2 h3 h4
theorem tr_call {i : Nat} {l : Tr} {a : Act} {w : World} {o : Oper} (f : FuncId) (args : Array Value) (ho : lo[i]? = some o) (hw : Region.wanted o (yielded lo.toArray a.tmps) = true)
    (h : (execOp a.eval o).run P w = .ok (.enter f args) w) (hc : Calls P f args w fun e w' => ∃ v, e = .returned v ∧ S w' ∧ wpTr P lo.toArray S Q l (a.put o.dst v) w') : wpTr P lo.toArray S Q (.one i l) a w := by
  refine tr_wp ho hw ?_
  unfold Oper.wp
  rw [h]
  show Calls P f args w _
  refine hc.mono fun e w' hh => ?_
  obtain ⟨v, rfl, hS, hk⟩ := hh
  exact ⟨hS, hk⟩
/-- append of q elements that lie in a block that is known whole. -/
theorem tr_pushes_at {i : Nat} {l : Tr} {a : Act} {o : Oper} (q : Nat) (ho0 : lo[i]? = some o) (hgd : o.guard = none) (s x : Operand) (t : TypeId)
    (ho : o.op = .call { callee := .builtin .append, args := #[s, x], argTypes := #[t, t] })
    {e : TypeId} {size bytes : Nat} (hty : SliceTy P t e size bytes) {wr : World} {cs : Array Value} (hcs : cs.size = q * size) (h1 : ∀ u ∈ cs.toList, u.oneCell' = true)
    {base : Nat} {v : Value} {n : Nat} {xs : List Value} (hs : a.eval s = v) (hown : wr.ownsRow base e size v n xs) {g : Nat} (hx : a.eval x = .slice (some ⟨g, 0, none⟩) q q) {te : TypeId} (hblk : Blk wr g te cs)
    (hbytes : (n + q) * bytes ≤ 140737488355328) (hbase : base ≤ wr.heap.size)
    (h : ∀ v' w', w'.ownsRow base e size v' (n + q) (xs ++ cs.toList) → Below base wr w' → wr.grownBy w' v.ownBlock → S w' ∧ wpTr P lo.toArray S Q l (a.put o.dst v') w') : wpTr P lo.toArray S Q (.one i l) a wr := by
  obtain ⟨ht, j, z, hi, hz, hsz, hby, hzs, hp, hq⟩ := hty
  have hbn : n + q ≤ 140737488355328 := Nat.le_trans (Nat.le_mul_of_pos_right _ hq) hbytes
  refine tr_wp ho0 (by simp [Region.wanted, hgd]) ?_
  refine wp_append_own _ s x t ho base e j z size bytes ht hi hz hsz hby hzs hp v n xs hs hown ⟨g, 0, none⟩ q q cs.toList hx (by simpa using hcs) (fun j u hu => ?_) h1
    (by simp only [maxLen]; omega) hbytes hbase (fun v' w' ho' hg _ => h v' w' ho' ?_ hg)
  · have ha : (⟨g, 0, none⟩ : Addr).add j = ⟨g, j, none⟩ := by
      by_cases hj : j = 0 <;> simp [Addr.add, hj]
    rw [ha, hblk.cell]
    simpa using hu
  · refine (Below.refl _ _).grown hg hbase (fun k hk => ?_)
    exact (ownsRow_lt hown k hk).1
end
section
variable {P : Program}
theorem run_load_any_d (w : World) (ad : Addr) (ty : TypeId) (cs : List Value) (d : TypeDesc) (hc : ∀ j v, cs[j]? = some v → w.cell? (ad.add j) = some v)
    (hu : P.underlying ty = some d) (hd : d.isRow = true) (hi : (P.info? ty).map (·.size) = some cs.length) : (loadVar ty ad).run P w = .ok (.agg cs.toArray) w := by
  have hl : (loadCells ad cs.length).run P w = .ok cs.toArray w := run_loadCells_list (P := P) w ad cs hc
  cases hq : P.info? ty with
  | none => simp [hq] at hi
  | some i =>
    have hs : i.size = cs.length := by simpa [hq] using hi
    have hagg : (isAgg ty).run P w = .ok true w := by
      unfold isAgg
      rw [Sem.run_bind, run_underlying hu w]
      cases d <;> simp_all
    simp [loadVar, Sem.run_bind, hagg, sizeOf, typeInfo, hq, hs, hl]
theorem wpList_load_any_d {ops : Array Oper} {rest : List Oper} {op : Oper} {a : Act} {w : World} {Q : Exit → Act → World → Prop} (hgd : op.guard = none) (ty : TypeId) (x : Operand) (ho : op.op = .load ty x)
    (ad : Addr) (hx : a.eval x = .pointer (some ad)) (M : Array Value) (d : TypeDesc) (hc : ∀ j v, M.toList[j]? = some v → w.cell? (ad.add j) = some v)
    (hu : P.underlying ty = some d) (hd : d.isRow = true) (hi : (P.info? ty).map (·.size) = some M.size)
    (h : wpList P ops Q rest (a.put op.dst (.agg M)) w) : wpList P ops Q (op :: rest) a w := by
  refine wpList_plain hgd fun K hK => ?_
  unfold Oper.wp execOp
  simp only [ho, hx, Instr.loadAt, Instr.sureAddr, Sem.run_bind, Sem.run_pure, Result.andThen_ok, run_load_any_d w ad ty M.toList d hc hu hd (by simpa using hi)]
  exact hK _ _ h
theorem run_load_whole_d {o : Oper} {a : Act} (ty : TypeId) (x : Operand) {g : Nat} {t : TypeId} {cs : Array Value} {d : TypeDesc} (ho : o.op = .load ty x) (hx : a.eval x = .pointer (some ⟨g, 0, none⟩)) {w : World} (B : Blk w g t cs) (hu : P.underlying ty = some d)
    (hd : (match d with | .struct _ | .array _ _ => true | _ => false) = true) (hi : (P.info? ty).map (·.size) = some cs.size) : (execOp a.eval o).run P w = .ok (.value (.agg cs)) w := by
  unfold execOp
  simp only [ho, hx, Instr.loadAt, Instr.sureAddr, Sem.run_bind, Sem.run_pure, Result.andThen_ok, run_loadVar_row w g t ty cs (0, 0) d B hu hd hi]
end
/-! ### Is an operation wanted? (by its guard's value in a list of temporaries, however long) -/
theorem wanted_none {o : Oper} {y : Nat → Option Bool} (hg : o.guard = none) : Region.wanted o y = true := by
  simp [Region.wanted, hg]
theorem yielded_at {lo : List Oper} {l : List Value} {j d : Nat} {c : Bool} (hd : (lo[j]?).bind (·.dst) = some d) (ht : l[d]? = some (.bool c)) : yielded lo.toArray l.toArray j = some c := by
  unfold yielded
  rw [List.getElem?_toArray, hd]
  simp [ht]
theorem wanted_on {o : Oper} {lo : List Oper} {l : List Value} {j d : Nat} {c : Bool} (hg : o.guard = some (j, c)) (hd : (lo[j]?).bind (·.dst) = some d) (ht : l[d]? = some (.bool c)) : Region.wanted o (yielded lo.toArray l.toArray) = true := by
  simp [Region.wanted, hg, yielded_at hd ht]
theorem wanted_off {o : Oper} {lo : List Oper} {l : List Value} {j d : Nat} {b c : Bool} (hg : o.guard = some (j, b)) (hd : (lo[j]?).bind (·.dst) = some d) (ht : l[d]? = some (.bool c)) (hc : (c == b) = false) : Region.wanted o (yielded lo.toArray l.toArray) = false := by
  have hc' : c ≠ b := by simpa using hc
  simp [Region.wanted, hg, yielded_at hd ht, hc']
theorem wanted_off2 {o : Oper} {lo : List Oper} {l : List Value} {j d : Nat} {b : Bool} (hg : o.guard = some (j, b)) (hd : (lo[j]?).bind (·.dst) = some d) (ht : l[d]? = some undef) : Region.wanted o (yielded lo.toArray l.toArray) = false := by
  have : yielded lo.toArray l.toArray j = none := by
    unfold yielded
    rw [List.getElem?_toArray, hd]
    simp [ht, undef]
  simp [Region.wanted, hg, this]
end Go.Proofs.YthhlfojaloaooaaGreat
