/-
  Layer 18: a clock of a domain: Tell.
-/
import Derived.Test.YtjjpmckefglhnaaSyncC0
namespace Go.Proofs.Ytjjpmckefglhnaa
set_option linter.unusedSimpArgs false
set_option linter.unusedVariables false
open Go.RowKit Go.WideShapes Go.ChangeShapes
attribute [local go_sem ↓] Go.wp_at_zero Go.wp_at_succ

section
variable {P : Program} {lo : List Oper} {S : World → Prop} {Q : Exit → Act → World → Prop} {E : Act → World → Prop}
theorem script_store_new {i : Nat} {l : List (Nat × Bool)} {a : Act} {o : Oper} (ho0 : lo[i]? = some o) (hgd : o.guard = none) (ty : TypeId) (x y : Operand) (ho : o.op = .store ty x y)
    {wr : World} {te : TypeId} {old cs : Array Value} {g : Nat} (hx : a.eval x = .pointer (some ⟨g, 0, none⟩)) (hg : g = wr.heap.size) (hy : a.eval y = .agg cs) (hsz : old.size = cs.size) (hi : (P.info? ty).map (·.size) = some cs.size) (h1 : cs.all (·.oneCell') = true)
    (h : S (wr.alloc (.cells cs te)) ∧ wpScript P lo.toArray S Q E l (a.put o.dst undef) (wr.alloc (.cells cs te))) : wpScript P lo.toArray S Q E ((i, false) :: l) a (wr.alloc (.cells old te)) := by
  subst hg
  have B := Blk.new wr te old
  refine script_wp ho0 (by simp [Region.wanted, hgd]) (wp_store_mid ty x y ho wr.heap.size 0 cs hx hy (fun j hj => ?_) hi h1 ?_)
  · rw [Nat.zero_add, B.cell, B.frozen]
    exact ⟨by rw [Array.getElem?_eq_getElem (by omega)]; rfl, rfl⟩
  · have := setCells_alloc wr te cs.toList [] old.toList (by simpa using hsz)
    simp only [List.nil_append, List.length_nil, Array.toArray_toList] at this
    rw [this]
    exact h
theorem script_store_blk {i : Nat} {l : List (Nat × Bool)} {a : Act} {o : Oper} (ho0 : lo[i]? = some o) (hgd : o.guard = none) (ty : TypeId) (x y : Operand) (ho : o.op = .store ty x y)
    {w : World} {te : TypeId} {old cs : Array Value} {g off : Nat} (hx : a.eval x = .pointer (some ⟨g, off, none⟩)) (B : Blk w g te old) (hy : a.eval y = .agg cs) (hsz : off + cs.size ≤ old.size) (hi : (P.info? ty).map (·.size) = some cs.size) (h1 : cs.all (·.oneCell') = true)
    (h : ∀ w', Blk w' g te (putAll old off cs.toList) → w'.heap.size = w.heap.size → w.grownBy w' (some g) → S w' ∧ wpScript P lo.toArray S Q E l (a.put o.dst undef) w') : wpScript P lo.toArray S Q E ((i, false) :: l) a w := by
  refine script_wp ho0 (by simp [Region.wanted, hgd]) (wp_store_mid ty x y ho g off cs hx hy (B.there hsz) hi h1 ?_)
  obtain ⟨h2, h3, h4⟩ := putAll_blk cs.toList off w old B
  exact h _ h2 h3 h4
end
theorem putAll_all : ∀ (vs pre old : List Value), old.length = vs.length → putAll (pre ++ old).toArray pre.length vs = (pre ++ vs).toArray
  | [], pre, old, h => by
    have : old = [] := List.eq_nil_of_length_eq_zero h
    subst this
    rfl
  | v :: vs, pre, [], h => by simp at h
  | v :: vs, pre, u :: old, h => by
    rw [putAll]
    have e : ((pre ++ u :: old).toArray).setIfInBounds pre.length v = ((pre ++ [v]) ++ old).toArray := by simp
    rw [e]
    have := putAll_all vs (pre ++ [v]) old (by simpa using h)
    simp only [List.length_append, List.length_cons, List.length_nil] at this
    rw [this]
    simp
theorem putAll_whole {old cs : Array Value} (h : old.size = cs.size) : putAll old 0 cs.toList = cs := by
  have := putAll_all cs.toList [] old.toList (by simpa using h)
  simpa using this
def zeroM : Mg := ⟨0, 0, 0, 0, 0, 0, 0, 0, 0, 0, 0, 0, 0, 0, 0, []⟩
def tellM (c : Ck) (seq src port now : Int) : Mg :=
  if c.own = true then ⟨8, c.domain, seq, src, port, 0, (atV c now).1, 0, 0, nowV c, 0, 0, 0, 0, 0, []⟩
  else ⟨8, c.domain, seq, src, port, (atV c now).1 - c.there, c.there, 0, 0, nowV c, 0, 0, 0, 0, 0, []⟩
noncomputable def tellV (c : Ck) (seq src port now : Int) : Mg × Bool := if (atV c now).2 = true then (tellM c seq src port now, checkV (tellM c seq src port now) == 0) else (zeroM, false)
theorem add_diff {a b : Int} (h : (addV a b).2 = 0) : (addV a b).1 = a + b := by
  unfold addV at h ⊢
  split
  · rfl
  · rename_i h1
    rw [if_neg h1] at h
    simp at h
/-- What came since it was told. -/
theorem at_diff {c : Ck} {now : Int} (ho : c.own = false) (h : (atV c now).2 = true) : I64 ((atV c now).1 - c.there) := by
  unfold atV at h ⊢
  cases hk : c.known with
  | false => rw [hk, ho] at h; simp at h
  | true =>
    rw [hk] at h
    rw [if_neg (by simp)] at h
    rw [if_neg (by simp)]
    split at h
    · simp at h
    · rename_i h1
      rw [if_neg h1]
      split at h
      · simp at h
      · rename_i h2
        rw [if_neg h2]
        have h3 := add_diff (eq_of_beq h)
        rw [h3, Int.add_comm, Int.add_sub_cancel]
        exact md_i64 _ _ _ _
set_option maxHeartbeats 1000000 in
theorem tell_end {a : Act} {w' : World} {g : Nat} {m : Mg} {b : Bool} {Q : Ending → World → Prop} (hd : a.defers = []) (h2 : a.eval (.tmp 10) = .pointer (some ⟨g, 0, none⟩)) (h3 : a.eval (.tmp 11) = .bool b)
    (R : Blk w' g 35 (mcells m none 0 0)) (h : Q (.returned (.tuple #[.agg (mcells m none 0 0), .bool b])) w') : bodyPost Try.prog Try.f26 Q Exit.ret a w' := by
  obtain ⟨y0, y1, y2, y3, y4, y5, y6, y7, y8, y9, y10, y11, y12, y13, y14, y15⟩ := mcells_at R
  refine bodyPost_ret (v := .tuple #[.agg (mcells m none 0 0), .bool b]) ?_ hd h
  simp only [Act.eval, Array.getD_eq_getD_getElem?] at h2 h3
  simp [results, Try.results26, go_sem, mcells, h2, h3, y0, y1, y2, y3, y4, y5, y6, y7, y8, y9, y10, y11, y12, y13, y14, y15]
set_option maxRecDepth 100000 in
set_option maxHeartbeats 8000000 in
theorem tell_any (c : Ck) (g : Nat) (seq src port now : Int) (w : World) (B : CkIn w g c) (hw : c.Wf) (hn : I64 now) :
    Calls Try.prog 26 #[.pointer (some ⟨g, 0, none⟩), .int .i64 seq, .int .i64 src, .int .i64 port, .int .i64 now] w fun e w' => e = .returned (.tuple #[.agg (mcells (tellV c seq src port now).1 none 0 0), .bool (tellV c seq src port now).2]) ∧ Below w.heap.size w w' := by
  have Z0 : Blk (w.alloc (.cells (mcells zeroM none 0 0) 35)) w.heap.size 35 (mcells zeroM none 0 0) := Blk.new _ _ _
  have B0 : CkIn (w.alloc (.cells (mcells zeroM none 0 0) 35)) g c := B.alloc _
  have L0 := (Below.refl w.heap.size w).alloc (Nat.le_refl _) (.cells (mcells zeroM none 0 0) 35)
  have hz0 : w.heap.size < (w.alloc (.cells (mcells zeroM none 0 0) 35)).heap.size := by simp
  have hA := fun W B => at_any c g now W B hw hn
  have hN := fun W B => now_any c g W B
  have hW : (atV c now).2 = true → c.own = false → IntKind.i64.wrap ((atV c now).1 - c.there) = (atV c now).1 - c.there := fun h1 h2 => IntWalk.i64_in _ (at_diff h2 h1)
  have HB := Lib.hid B.lt
  unfold tellV tellM
  generalize ht : atV c now = x at *
  generalize nowV c = r at *
  obtain ⟨t, ok⟩ := x
  simp only at hA hW ⊢
  have HA := Lib.hid hA
  have HN := Lib.hid hN
  have HW := Lib.hid hW
  clear hA hN hW ht hw hn B
  cases ok with
  | false =>
    rw [if_neg (by simp)]
    clear HN HW
    go_enter Try.func26, Try.ntmps26
    go_wp2_with fail
    refine (HA.out _ B0).mono ?_
    rintro e w1 ⟨rfl, hb⟩
    have B1 : CkIn w1 g c := B0.kept hb
    have Z1 := Z0.below hb (by simp)
    have L1 := L0.trans (hb.mono (by simp))
    have hz1 : w.heap.size < w1.heap.size := Nat.lt_of_lt_of_le hz0 hb.size
    clear hb B0 Z0 L0 hz0 HA
    clear B1
    go_wp2_with (refine wpList_store_part rfl 35 (.tmp 10) (.tmp 23) rfl (off := 0) rfl Z1 rfl (Nat.le_refl _) (by kernel_rfl) (by rw [← Array.all_toList]; rfl) ?_; intro w2 R2 z2 g2)
    exact tell_end rfl rfl rfl (show Blk w2 w.heap.size 35 (mcells zeroM none 0 0) from R2) ⟨rfl, L1.trans (below_one g2 (by omega) (Nat.le_refl _))⟩
  | true =>
    rw [if_pos rfl]
    cases ho : c.own with
    | true =>
      rw [ho] at HW
      rw [if_pos rfl]
      go_enter Try.func26, Try.ntmps26
      go_wp2_with fail
      refine (HA.out _ B0).mono ?_
      rintro e w1 ⟨rfl, hb⟩
      have B1 : CkIn w1 g c := B0.kept hb
      have Z1 := Z0.below hb (by simp)
      have L1 := L0.trans (hb.mono (by simp))
      have hz1 : w.heap.size < w1.heap.size := Nat.lt_of_lt_of_le hz0 hb.size
      clear hb B0 Z0 L0 hz0 HA
      have hne1 : ¬ g = w1.heap.size := by have := B1.lt; omega
      have hsg : g < w1.heap.size := B1.lt
      go_wp2_with fail
      refine wp_region_script2 [(0, true), (1, true), (2, true), (3, true), (4, true), (5, true), (6, true), (7, true), (8, true)] 9 11 [(10, true), (11, false), (12, false)] [(9, false), (10, true), (12, false)] (fun w' => CkIn w' g c) (by kernel_rfl) (by kernel_rfl) (fun _ _ _ _ _ h => h) B1.drew ?_
      iterate 9 (refine script_take (v := ?_) rfl ?_ ?_ ?_; rotate_left; (first | rfl | (go_simp; done)); (intro w' hw'; have hcq := fun i => Blk.cell hw' i; (try simp only [mcells] at hcq); (try simp only [ckc] at hcq); go_simp; with_reducible rfl); simp only [Act.put, List.setIfInBounds_toArray, List.set_cons_zero, List.set_cons_succ])
      refine script_nil ?_
      have Z2 := Z1.drew
      have L2 : Below w.heap.size w w1.drew := L1.drew
      have hz2 : w.heap.size < w1.drew.heap.size := hz1
      have B2 : CkIn w1.drew g c := B1
      have B3 : CkIn (w1.drew.alloc (.cells (mcells zeroM none 0 0) 35)) g c := B2.alloc _
      have hne2 : ¬ g = w1.drew.heap.size := hne1
      clear Z1 L1 hz1 B1 hne1 hsg
      generalize w1.drew = w2 at *
      refine ⟨?_, ?_⟩
      · (refine script_call 31 ?_ rfl ?_ ?_ ?_; rotate_left; (first | rfl | (go_simp; done)); (go_simp; with_reducible rfl))
        refine (HN.out _ B2).mono ?_
        rintro e w3 ⟨rfl, rfl⟩
        refine ⟨_, rfl, B2, ?_⟩
        simp only [Act.put, List.setIfInBounds_toArray, List.set_cons_zero, List.set_cons_succ]
        (refine script_take (v := ?_) rfl ?_ ?_ ?_; rotate_left; (first | rfl | (go_simp; done)); (intro w' hw'; have hcq := fun i => Blk.cell hw' i; (try simp only [mcells] at hcq); (try simp only [ckc] at hcq); go_simp; with_reducible rfl); simp only [Act.put, List.setIfInBounds_toArray, List.set_cons_zero, List.set_cons_succ])
        (refine script_run (v := ?_) (w' := ?_) rfl ?_ ?_ ?_ ?_; rotate_left 2; (first | rfl | (go_simp; done)); (go_simp; refine ⟨?_, ?_⟩ <;> with_reducible rfl); (exact B3); simp only [Act.put, List.setIfInBounds_toArray, List.set_cons_zero, List.set_cons_succ])
        refine script_store_new (cs := mcells ⟨8, c.domain, seq, src, port, 0, t, 0, 0, r, 0, 0, 0, 0, 0, []⟩ none 0 0) rfl rfl 35 (.tmp 14) (.tmp 34) rfl rfl rfl rfl rfl (by kernel_rfl) (by rw [← Array.all_toList]; rfl) ⟨B2.alloc _, ?_⟩
        simp only [Act.put, List.setIfInBounds_toArray, List.set_cons_zero, List.set_cons_succ]
        refine script_nil ?_
        have T3 : Blk (w2.alloc (.cells (mcells ⟨8, c.domain, seq, src, port, 0, t, 0, 0, r, 0, 0, 0, 0, 0, []⟩ none 0 0) 35)) w2.heap.size 35 (mcells ⟨8, c.domain, seq, src, port, 0, t, 0, 0, r, 0, 0, 0, 0, 0, []⟩ none 0 0) := Blk.new _ _ _
        have C3 : CkIn (w2.alloc (.cells (mcells ⟨8, c.domain, seq, src, port, 0, t, 0, 0, r, 0, 0, 0, 0, 0, []⟩ none 0 0) 35)) g c := B2.alloc _
        have Z3 := Z2.alloc (.cells (mcells ⟨8, c.domain, seq, src, port, 0, t, 0, 0, r, 0, 0, 0, 0, 0, []⟩ none 0 0) 35)
        have L3 := L2.alloc (by omega) (.cells (mcells ⟨8, c.domain, seq, src, port, 0, t, 0, 0, r, 0, 0, 0, 0, 0, []⟩ none 0 0) 35)
        have hz3 : w2.heap.size < (w2.alloc (.cells (mcells ⟨8, c.domain, seq, src, port, 0, t, 0, 0, r, 0, 0, 0, 0, 0, []⟩ none 0 0) 35)).heap.size := by simp
        generalize (w2.alloc (.cells (mcells ⟨8, c.domain, seq, src, port, 0, t, 0, 0, r, 0, 0, 0, 0, 0, []⟩ none 0 0) 35)) = w3 at *
        have y1 := C3.cellOf (v := .bool c.own) 1 rfl
        rw [ho] at y1
        go_wp2_with fail
        have Z4 := Z3
        have L4 := L3
        have hz4 := hz3
        have T4 : Blk w3 w2.heap.size 35 (mcells ⟨8, c.domain, seq, src, port, 0, t, 0, 0, r, 0, 0, 0, 0, 0, []⟩ none 0 0) := T3
        generalize w3 = w4 at *
        refine wp_region_script [(0, true), (1, true), (2, false), (3, true), (4, false), (5, true)] (fun w' => Blk w' w2.heap.size 35 (mcells ⟨8, c.domain, seq, src, port, 0, t, 0, 0, r, 0, 0, 0, 0, 0, []⟩ none 0 0)) (by kernel_rfl) (by kernel_rfl) (fun _ _ _ _ _ h => h) T4.drew ?_
        iterate 2 (refine script_take (v := .agg (mcells ⟨8, c.domain, seq, src, port, 0, t, 0, 0, r, 0, 0, 0, 0, 0, []⟩ none 0 0)) rfl ?_ (fun w' hw' => run_load_whole 35 (.tmp 14) rfl rfl (hw') Try.underlying35 rfl (by kernel_rfl)) ?_; (first | rfl | (go_simp; done)); simp only [Act.put, List.setIfInBounds_toArray, List.set_cons_zero, List.set_cons_succ])
        (refine script_call 33 ?_ rfl ?_ ?_ ?_; rotate_left; (first | rfl | (go_simp; done)); (go_simp; with_reducible rfl))
        refine (check_m ⟨8, c.domain, seq, src, port, 0, t, 0, 0, r, 0, 0, 0, 0, 0, []⟩ none 0 0 _ Reads.none_ rfl (by simp [maxLen])).mono ?_
        rintro e w5 ⟨rfl, hb5⟩
        have T5 := T4.drew.kept hb5
        have Z5 := Z4.drew.kept hb5
        have L5 := L4.drew.trans (hb5.mono (by show w.heap.size ≤ w4.heap.size; omega))
        refine ⟨_, rfl, T5, ?_⟩
        simp only [Act.put, List.setIfInBounds_toArray, List.set_cons_zero, List.set_cons_succ]
        generalize hx : checkV ⟨8, c.domain, seq, src, port, 0, t, 0, 0, r, 0, 0, 0, 0, 0, []⟩ = x
        have HX := Lib.hid hx
        clear hx
        (refine script_take (v := ?_) rfl ?_ ?_ ?_; rotate_left; (first | rfl | (go_simp; done)); (intro w' hw'; have hcq := fun i => Blk.cell hw' i; (try simp only [mcells] at hcq); (try simp only [ckc] at hcq); go_simp; with_reducible rfl); simp only [Act.put, List.setIfInBounds_toArray, List.set_cons_zero, List.set_cons_succ])
        refine script_store_blk rfl rfl 35 (.tmp 10) (.tmp 52) rfl (off := 0) rfl Z5 rfl (show 0 + 16 ≤ 16 by omega) (by kernel_rfl) (by rw [← Array.all_toList]; rfl) ?_
        intro w6 R6 z6 g6
        rw [putAll_whole (show (mcells zeroM none 0 0).size = (mcells ⟨8, c.domain, seq, src, port, 0, t, 0, 0, r, 0, 0, 0, 0, 0, []⟩ none 0 0).size from rfl)] at R6
        refine ⟨T5.keep g6 (by omega), ?_⟩
        simp only [Act.put, List.setIfInBounds_toArray, List.set_cons_zero, List.set_cons_succ]
        (refine script_take (v := ?_) rfl ?_ ?_ ?_; rotate_left; (first | rfl | (go_simp; done)); (intro w' hw'; have hcq := fun i => Blk.cell hw' i; (try simp only [mcells] at hcq); (try simp only [ckc] at hcq); go_simp; with_reducible rfl); simp only [Act.put, List.setIfInBounds_toArray, List.set_cons_zero, List.set_cons_succ])
        refine script_nil ?_
        go_wp2_with fail
        exact tell_end rfl rfl rfl R6 ⟨by rw [HX.out], L5.trans (below_one g6 (by have := L5.size; omega) (Nat.le_refl _))⟩
      · (refine script_run (v := ?_) (w' := ?_) rfl ?_ ?_ ?_ ?_; rotate_left 2; (first | rfl | (go_simp; done)); (go_simp; refine ⟨?_, ?_⟩ <;> with_reducible rfl); (exact B3); simp only [Act.put, List.setIfInBounds_toArray, List.set_cons_zero, List.set_cons_succ])
        (refine script_call 31 ?_ rfl ?_ ?_ ?_; rotate_left; (first | rfl | (go_simp; done)); (go_simp; with_reducible rfl))
        refine (HN.out _ B3).mono ?_
        rintro e w3 ⟨rfl, hw3⟩
        refine ⟨_, rfl, by rw [← hw3]; exact B3, ?_⟩
        simp only [Act.put, List.setIfInBounds_toArray, List.set_cons_zero, List.set_cons_succ]
        (refine script_take (v := ?_) rfl ?_ ?_ ?_; rotate_left; (first | rfl | (go_simp; done)); (intro w' hw'; have hcq := fun i => Blk.cell hw' i; (try simp only [mcells] at hcq); (try simp only [ckc] at hcq); go_simp; with_reducible rfl); simp only [Act.put, List.setIfInBounds_toArray, List.set_cons_zero, List.set_cons_succ])
        subst hw3
        refine script_store_new (cs := mcells ⟨8, c.domain, seq, src, port, 0, t, 0, 0, r, 0, 0, 0, 0, 0, []⟩ none 0 0) rfl rfl 35 (.tmp 14) (.tmp 34) rfl rfl rfl rfl rfl (by kernel_rfl) (by rw [← Array.all_toList]; rfl) ⟨B2.alloc _, ?_⟩
        simp only [Act.put, List.setIfInBounds_toArray, List.set_cons_zero, List.set_cons_succ]
        refine script_nil ?_
        have T3 : Blk (w2.alloc (.cells (mcells ⟨8, c.domain, seq, src, port, 0, t, 0, 0, r, 0, 0, 0, 0, 0, []⟩ none 0 0) 35)) w2.heap.size 35 (mcells ⟨8, c.domain, seq, src, port, 0, t, 0, 0, r, 0, 0, 0, 0, 0, []⟩ none 0 0) := Blk.new _ _ _
        have C3 : CkIn (w2.alloc (.cells (mcells ⟨8, c.domain, seq, src, port, 0, t, 0, 0, r, 0, 0, 0, 0, 0, []⟩ none 0 0) 35)) g c := B2.alloc _
        have Z3 := Z2.alloc (.cells (mcells ⟨8, c.domain, seq, src, port, 0, t, 0, 0, r, 0, 0, 0, 0, 0, []⟩ none 0 0) 35)
        have L3 := L2.alloc (by omega) (.cells (mcells ⟨8, c.domain, seq, src, port, 0, t, 0, 0, r, 0, 0, 0, 0, 0, []⟩ none 0 0) 35)
        have hz3 : w2.heap.size < (w2.alloc (.cells (mcells ⟨8, c.domain, seq, src, port, 0, t, 0, 0, r, 0, 0, 0, 0, 0, []⟩ none 0 0) 35)).heap.size := by simp
        generalize (w2.alloc (.cells (mcells ⟨8, c.domain, seq, src, port, 0, t, 0, 0, r, 0, 0, 0, 0, 0, []⟩ none 0 0) 35)) = w3 at *
        have y1 := C3.cellOf (v := .bool c.own) 1 rfl
        rw [ho] at y1
        go_wp2_with fail
        have Z4 := Z3
        have L4 := L3
        have hz4 := hz3
        have T4 : Blk w3 w2.heap.size 35 (mcells ⟨8, c.domain, seq, src, port, 0, t, 0, 0, r, 0, 0, 0, 0, 0, []⟩ none 0 0) := T3
        generalize w3 = w4 at *
        refine wp_region_script [(0, true), (1, true), (2, false), (3, true), (4, false), (5, true)] (fun w' => Blk w' w2.heap.size 35 (mcells ⟨8, c.domain, seq, src, port, 0, t, 0, 0, r, 0, 0, 0, 0, 0, []⟩ none 0 0)) (by kernel_rfl) (by kernel_rfl) (fun _ _ _ _ _ h => h) T4.drew ?_
        iterate 2 (refine script_take (v := .agg (mcells ⟨8, c.domain, seq, src, port, 0, t, 0, 0, r, 0, 0, 0, 0, 0, []⟩ none 0 0)) rfl ?_ (fun w' hw' => run_load_whole 35 (.tmp 14) rfl rfl (hw') Try.underlying35 rfl (by kernel_rfl)) ?_; (first | rfl | (go_simp; done)); simp only [Act.put, List.setIfInBounds_toArray, List.set_cons_zero, List.set_cons_succ])
        (refine script_call 33 ?_ rfl ?_ ?_ ?_; rotate_left; (first | rfl | (go_simp; done)); (go_simp; with_reducible rfl))
        refine (check_m ⟨8, c.domain, seq, src, port, 0, t, 0, 0, r, 0, 0, 0, 0, 0, []⟩ none 0 0 _ Reads.none_ rfl (by simp [maxLen])).mono ?_
        rintro e w5 ⟨rfl, hb5⟩
        have T5 := T4.drew.kept hb5
        have Z5 := Z4.drew.kept hb5
        have L5 := L4.drew.trans (hb5.mono (by show w.heap.size ≤ w4.heap.size; omega))
        refine ⟨_, rfl, T5, ?_⟩
        simp only [Act.put, List.setIfInBounds_toArray, List.set_cons_zero, List.set_cons_succ]
        generalize hx : checkV ⟨8, c.domain, seq, src, port, 0, t, 0, 0, r, 0, 0, 0, 0, 0, []⟩ = x
        have HX := Lib.hid hx
        clear hx
        (refine script_take (v := ?_) rfl ?_ ?_ ?_; rotate_left; (first | rfl | (go_simp; done)); (intro w' hw'; have hcq := fun i => Blk.cell hw' i; (try simp only [mcells] at hcq); (try simp only [ckc] at hcq); go_simp; with_reducible rfl); simp only [Act.put, List.setIfInBounds_toArray, List.set_cons_zero, List.set_cons_succ])
        refine script_store_blk rfl rfl 35 (.tmp 10) (.tmp 52) rfl (off := 0) rfl Z5 rfl (show 0 + 16 ≤ 16 by omega) (by kernel_rfl) (by rw [← Array.all_toList]; rfl) ?_
        intro w6 R6 z6 g6
        rw [putAll_whole (show (mcells zeroM none 0 0).size = (mcells ⟨8, c.domain, seq, src, port, 0, t, 0, 0, r, 0, 0, 0, 0, 0, []⟩ none 0 0).size from rfl)] at R6
        refine ⟨T5.keep g6 (by omega), ?_⟩
        simp only [Act.put, List.setIfInBounds_toArray, List.set_cons_zero, List.set_cons_succ]
        (refine script_take (v := ?_) rfl ?_ ?_ ?_; rotate_left; (first | rfl | (go_simp; done)); (intro w' hw'; have hcq := fun i => Blk.cell hw' i; (try simp only [mcells] at hcq); (try simp only [ckc] at hcq); go_simp; with_reducible rfl); simp only [Act.put, List.setIfInBounds_toArray, List.set_cons_zero, List.set_cons_succ])
        refine script_nil ?_
        go_wp2_with fail
        exact tell_end rfl rfl rfl R6 ⟨by rw [HX.out], L5.trans (below_one g6 (by have := L5.size; omega) (Nat.le_refl _))⟩
    | false =>
      rw [if_neg (by simp)]
      go_enter Try.func26, Try.ntmps26
      go_wp2_with fail
      refine (HA.out _ B0).mono ?_
      rintro e w1 ⟨rfl, hb⟩
      have B1 : CkIn w1 g c := B0.kept hb
      have Z1 := Z0.below hb (by simp)
      have L1 := L0.trans (hb.mono (by simp))
      have hz1 : w.heap.size < w1.heap.size := Nat.lt_of_lt_of_le hz0 hb.size
      clear hb B0 Z0 L0 hz0 HA
      have hne1 : ¬ g = w1.heap.size := by have := B1.lt; omega
      have hsg : g < w1.heap.size := B1.lt
      go_wp2_with fail
      refine wp_region_script2 [(0, true), (1, true), (2, true), (3, true), (4, true), (5, true), (6, true), (7, true), (8, true)] 9 11 [(10, true), (11, false), (12, false)] [(9, false), (10, true), (12, false)] (fun w' => CkIn w' g c) (by kernel_rfl) (by kernel_rfl) (fun _ _ _ _ _ h => h) B1.drew ?_
      iterate 9 (refine script_take (v := ?_) rfl ?_ ?_ ?_; rotate_left; (first | rfl | (go_simp; done)); (intro w' hw'; have hcq := fun i => Blk.cell hw' i; (try simp only [mcells] at hcq); (try simp only [ckc] at hcq); go_simp; with_reducible rfl); simp only [Act.put, List.setIfInBounds_toArray, List.set_cons_zero, List.set_cons_succ])
      refine script_nil ?_
      have Z2 := Z1.drew
      have L2 : Below w.heap.size w w1.drew := L1.drew
      have hz2 : w.heap.size < w1.drew.heap.size := hz1
      have B2 : CkIn w1.drew g c := B1
      have B3 : CkIn (w1.drew.alloc (.cells (mcells zeroM none 0 0) 35)) g c := B2.alloc _
      have hne2 : ¬ g = w1.drew.heap.size := hne1
      clear Z1 L1 hz1 B1 hne1 hsg
      generalize w1.drew = w2 at *
      refine ⟨?_, ?_⟩
      · (refine script_call 31 ?_ rfl ?_ ?_ ?_; rotate_left; (first | rfl | (go_simp; done)); (go_simp; with_reducible rfl))
        refine (HN.out _ B2).mono ?_
        rintro e w3 ⟨rfl, rfl⟩
        refine ⟨_, rfl, B2, ?_⟩
        simp only [Act.put, List.setIfInBounds_toArray, List.set_cons_zero, List.set_cons_succ]
        (refine script_take (v := ?_) rfl ?_ ?_ ?_; rotate_left; (first | rfl | (go_simp; done)); (intro w' hw'; have hcq := fun i => Blk.cell hw' i; (try simp only [mcells] at hcq); (try simp only [ckc] at hcq); go_simp; with_reducible rfl); simp only [Act.put, List.setIfInBounds_toArray, List.set_cons_zero, List.set_cons_succ])
        (refine script_run (v := ?_) (w' := ?_) rfl ?_ ?_ ?_ ?_; rotate_left 2; (first | rfl | (go_simp; done)); (go_simp; refine ⟨?_, ?_⟩ <;> with_reducible rfl); (exact B3); simp only [Act.put, List.setIfInBounds_toArray, List.set_cons_zero, List.set_cons_succ])
        refine script_store_new (cs := mcells ⟨8, c.domain, seq, src, port, 0, t, 0, 0, r, 0, 0, 0, 0, 0, []⟩ none 0 0) rfl rfl 35 (.tmp 14) (.tmp 34) rfl rfl rfl rfl rfl (by kernel_rfl) (by rw [← Array.all_toList]; rfl) ⟨B2.alloc _, ?_⟩
        simp only [Act.put, List.setIfInBounds_toArray, List.set_cons_zero, List.set_cons_succ]
        refine script_nil ?_
        have T3 : Blk (w2.alloc (.cells (mcells ⟨8, c.domain, seq, src, port, 0, t, 0, 0, r, 0, 0, 0, 0, 0, []⟩ none 0 0) 35)) w2.heap.size 35 (mcells ⟨8, c.domain, seq, src, port, 0, t, 0, 0, r, 0, 0, 0, 0, 0, []⟩ none 0 0) := Blk.new _ _ _
        have C3 : CkIn (w2.alloc (.cells (mcells ⟨8, c.domain, seq, src, port, 0, t, 0, 0, r, 0, 0, 0, 0, 0, []⟩ none 0 0) 35)) g c := B2.alloc _
        have Z3 := Z2.alloc (.cells (mcells ⟨8, c.domain, seq, src, port, 0, t, 0, 0, r, 0, 0, 0, 0, 0, []⟩ none 0 0) 35)
        have L3 := L2.alloc (by omega) (.cells (mcells ⟨8, c.domain, seq, src, port, 0, t, 0, 0, r, 0, 0, 0, 0, 0, []⟩ none 0 0) 35)
        have hz3 : w2.heap.size < (w2.alloc (.cells (mcells ⟨8, c.domain, seq, src, port, 0, t, 0, 0, r, 0, 0, 0, 0, 0, []⟩ none 0 0) 35)).heap.size := by simp
        generalize (w2.alloc (.cells (mcells ⟨8, c.domain, seq, src, port, 0, t, 0, 0, r, 0, 0, 0, 0, 0, []⟩ none 0 0) 35)) = w3 at *
        have y1 := C3.cellOf (v := .bool c.own) 1 rfl
        rw [ho] at y1
        have y4 := C3.cellOf (v := .int .i64 c.there) 4 rfl
        have hW := HW.out (by simp) ho
        go_wp2_with fail
        refine wp_region_script [(0, true), (1, true), (2, true), (3, true), (4, true), (5, true), (6, true), (7, true), (8, true), (9, true), (10, true), (11, false), (12, true), (13, false)] (fun w' => CkIn w' g c) (by kernel_rfl) (by kernel_rfl) (fun _ _ _ _ _ h => h) C3.drew ?_
        iterate 11 (refine script_take (v := ?_) rfl ?_ ?_ ?_; rotate_left; (first | rfl | (go_simp; done)); (intro w' hw'; have hcq := fun i => Blk.cell hw' i; (try simp only [mcells] at hcq); (try simp only [ckc] at hcq); go_simp; with_reducible rfl); simp only [Act.put, List.setIfInBounds_toArray, List.set_cons_zero, List.set_cons_succ])
        have q6 := T3.drew.cellOf (v := .int .i64 t) 6 rfl
        have q5 := T3.drew.cellOf (v := .int .i64 0) 5 rfl
        have fq := T3.drew.frozen
        have q6' := T3.cellOf (v := .int .i64 t) 6 rfl
        have q5' := T3.cellOf (v := .int .i64 0) 5 rfl
        have fq' := T3.frozen
        have S4 := C3.drew.far (p := ⟨w2.heap.size, 6, none⟩) hne2 (.int .i64 c.there)
        have S5 := S4.far (p := ⟨w2.heap.size, 5, none⟩) hne2 (.int .i64 (t - c.there))
        (refine script_run0 (w' := ?_) rfl ?_ ?_ ?_ ?_; rotate_left; (first | rfl | (go_simp; done)); (go_simp; with_reducible rfl); (exact S4); simp only [Act.put, List.setIfInBounds_toArray, List.set_cons_zero, List.set_cons_succ])
        (refine script_take (v := ?_) rfl ?_ ?_ ?_; rotate_left; (first | rfl | (go_simp; done)); (intro w' hw'; have hcq := fun i => Blk.cell hw' i; (try simp only [mcells] at hcq); (try simp only [ckc] at hcq); go_simp; with_reducible rfl); simp only [Act.put, List.setIfInBounds_toArray, List.set_cons_zero, List.set_cons_succ])
        (refine script_run0 (w' := ?_) rfl ?_ ?_ ?_ ?_; rotate_left; (first | rfl | (go_simp; done)); (go_simp; with_reducible rfl); (exact S5); simp only [Act.put, List.setIfInBounds_toArray, List.set_cons_zero, List.set_cons_succ])
        refine script_nil ?_
        have T3 := ((T3.set_ 6 (.int .i64 c.there)).set_ 5 (.int .i64 (t - c.there))).drew
        have Z4 := ((Z3.far (p := ⟨w2.heap.size, 6, none⟩) (by show ¬ w.heap.size = w2.heap.size; omega) (.int .i64 c.there)).far (p := ⟨w2.heap.size, 5, none⟩) (by show ¬ w.heap.size = w2.heap.size; omega) (.int .i64 (t - c.there))).drew
        have L4 := ((L3.setCell (p := ⟨w2.heap.size, 6, none⟩) (by show w.heap.size ≤ w2.heap.size; omega) (.int .i64 c.there)).setCell (p := ⟨w2.heap.size, 5, none⟩) (by show w.heap.size ≤ w2.heap.size; omega) (.int .i64 (t - c.there))).drew
        have hz4 : w2.heap.size < (((w3.setCell ⟨w2.heap.size, 6, none⟩ (.int .i64 c.there)).setCell ⟨w2.heap.size, 5, none⟩ (.int .i64 (t - c.there))).drew).heap.size := by simpa [World.setCell, World.drew] using hz3
        clear S4 S5 q5 q6 fq q5' q6' fq' y1 y4 Z3 L3 hz3
        go_wp2_with fail
        have T4 : Blk ((w3.setCell ⟨w2.heap.size, 6, none⟩ (.int .i64 c.there)).setCell ⟨w2.heap.size, 5, none⟩ (.int .i64 (t - c.there))).drew w2.heap.size 35 (mcells ⟨8, c.domain, seq, src, port, t - c.there, c.there, 0, 0, r, 0, 0, 0, 0, 0, []⟩ none 0 0) := T3
        generalize ((w3.setCell ⟨w2.heap.size, 6, none⟩ (.int .i64 c.there)).setCell ⟨w2.heap.size, 5, none⟩ (.int .i64 (t - c.there))).drew = w4 at *
        refine wp_region_script [(0, true), (1, true), (2, false), (3, true), (4, false), (5, true)] (fun w' => Blk w' w2.heap.size 35 (mcells ⟨8, c.domain, seq, src, port, t - c.there, c.there, 0, 0, r, 0, 0, 0, 0, 0, []⟩ none 0 0)) (by kernel_rfl) (by kernel_rfl) (fun _ _ _ _ _ h => h) T4.drew ?_
        iterate 2 (refine script_take (v := .agg (mcells ⟨8, c.domain, seq, src, port, t - c.there, c.there, 0, 0, r, 0, 0, 0, 0, 0, []⟩ none 0 0)) rfl ?_ (fun w' hw' => run_load_whole 35 (.tmp 14) rfl rfl (hw') Try.underlying35 rfl (by kernel_rfl)) ?_; (first | rfl | (go_simp; done)); simp only [Act.put, List.setIfInBounds_toArray, List.set_cons_zero, List.set_cons_succ])
        (refine script_call 33 ?_ rfl ?_ ?_ ?_; rotate_left; (first | rfl | (go_simp; done)); (go_simp; with_reducible rfl))
        refine (check_m ⟨8, c.domain, seq, src, port, t - c.there, c.there, 0, 0, r, 0, 0, 0, 0, 0, []⟩ none 0 0 _ Reads.none_ rfl (by simp [maxLen])).mono ?_
        rintro e w5 ⟨rfl, hb5⟩
        have T5 := T4.drew.kept hb5
        have Z5 := Z4.drew.kept hb5
        have L5 := L4.drew.trans (hb5.mono (by show w.heap.size ≤ w4.heap.size; omega))
        refine ⟨_, rfl, T5, ?_⟩
        simp only [Act.put, List.setIfInBounds_toArray, List.set_cons_zero, List.set_cons_succ]
        generalize hx : checkV ⟨8, c.domain, seq, src, port, t - c.there, c.there, 0, 0, r, 0, 0, 0, 0, 0, []⟩ = x
        have HX := Lib.hid hx
        clear hx
        (refine script_take (v := ?_) rfl ?_ ?_ ?_; rotate_left; (first | rfl | (go_simp; done)); (intro w' hw'; have hcq := fun i => Blk.cell hw' i; (try simp only [mcells] at hcq); (try simp only [ckc] at hcq); go_simp; with_reducible rfl); simp only [Act.put, List.setIfInBounds_toArray, List.set_cons_zero, List.set_cons_succ])
        refine script_store_blk rfl rfl 35 (.tmp 10) (.tmp 52) rfl (off := 0) rfl Z5 rfl (show 0 + 16 ≤ 16 by omega) (by kernel_rfl) (by rw [← Array.all_toList]; rfl) ?_
        intro w6 R6 z6 g6
        rw [putAll_whole (show (mcells zeroM none 0 0).size = (mcells ⟨8, c.domain, seq, src, port, t - c.there, c.there, 0, 0, r, 0, 0, 0, 0, 0, []⟩ none 0 0).size from rfl)] at R6
        refine ⟨T5.keep g6 (by omega), ?_⟩
        simp only [Act.put, List.setIfInBounds_toArray, List.set_cons_zero, List.set_cons_succ]
        (refine script_take (v := ?_) rfl ?_ ?_ ?_; rotate_left; (first | rfl | (go_simp; done)); (intro w' hw'; have hcq := fun i => Blk.cell hw' i; (try simp only [mcells] at hcq); (try simp only [ckc] at hcq); go_simp; with_reducible rfl); simp only [Act.put, List.setIfInBounds_toArray, List.set_cons_zero, List.set_cons_succ])
        refine script_nil ?_
        go_wp2_with fail
        exact tell_end rfl rfl rfl R6 ⟨by rw [HX.out], L5.trans (below_one g6 (by have := L5.size; omega) (Nat.le_refl _))⟩
      · (refine script_run (v := ?_) (w' := ?_) rfl ?_ ?_ ?_ ?_; rotate_left 2; (first | rfl | (go_simp; done)); (go_simp; refine ⟨?_, ?_⟩ <;> with_reducible rfl); (exact B3); simp only [Act.put, List.setIfInBounds_toArray, List.set_cons_zero, List.set_cons_succ])
        (refine script_call 31 ?_ rfl ?_ ?_ ?_; rotate_left; (first | rfl | (go_simp; done)); (go_simp; with_reducible rfl))
        refine (HN.out _ B3).mono ?_
        rintro e w3 ⟨rfl, hw3⟩
        refine ⟨_, rfl, by rw [← hw3]; exact B3, ?_⟩
        simp only [Act.put, List.setIfInBounds_toArray, List.set_cons_zero, List.set_cons_succ]
        (refine script_take (v := ?_) rfl ?_ ?_ ?_; rotate_left; (first | rfl | (go_simp; done)); (intro w' hw'; have hcq := fun i => Blk.cell hw' i; (try simp only [mcells] at hcq); (try simp only [ckc] at hcq); go_simp; with_reducible rfl); simp only [Act.put, List.setIfInBounds_toArray, List.set_cons_zero, List.set_cons_succ])
        subst hw3
        refine script_store_new (cs := mcells ⟨8, c.domain, seq, src, port, 0, t, 0, 0, r, 0, 0, 0, 0, 0, []⟩ none 0 0) rfl rfl 35 (.tmp 14) (.tmp 34) rfl rfl rfl rfl rfl (by kernel_rfl) (by rw [← Array.all_toList]; rfl) ⟨B2.alloc _, ?_⟩
        simp only [Act.put, List.setIfInBounds_toArray, List.set_cons_zero, List.set_cons_succ]
        refine script_nil ?_
        have T3 : Blk (w2.alloc (.cells (mcells ⟨8, c.domain, seq, src, port, 0, t, 0, 0, r, 0, 0, 0, 0, 0, []⟩ none 0 0) 35)) w2.heap.size 35 (mcells ⟨8, c.domain, seq, src, port, 0, t, 0, 0, r, 0, 0, 0, 0, 0, []⟩ none 0 0) := Blk.new _ _ _
        have C3 : CkIn (w2.alloc (.cells (mcells ⟨8, c.domain, seq, src, port, 0, t, 0, 0, r, 0, 0, 0, 0, 0, []⟩ none 0 0) 35)) g c := B2.alloc _
        have Z3 := Z2.alloc (.cells (mcells ⟨8, c.domain, seq, src, port, 0, t, 0, 0, r, 0, 0, 0, 0, 0, []⟩ none 0 0) 35)
        have L3 := L2.alloc (by omega) (.cells (mcells ⟨8, c.domain, seq, src, port, 0, t, 0, 0, r, 0, 0, 0, 0, 0, []⟩ none 0 0) 35)
        have hz3 : w2.heap.size < (w2.alloc (.cells (mcells ⟨8, c.domain, seq, src, port, 0, t, 0, 0, r, 0, 0, 0, 0, 0, []⟩ none 0 0) 35)).heap.size := by simp
        generalize (w2.alloc (.cells (mcells ⟨8, c.domain, seq, src, port, 0, t, 0, 0, r, 0, 0, 0, 0, 0, []⟩ none 0 0) 35)) = w3 at *
        have y1 := C3.cellOf (v := .bool c.own) 1 rfl
        rw [ho] at y1
        have y4 := C3.cellOf (v := .int .i64 c.there) 4 rfl
        have hW := HW.out (by simp) ho
        go_wp2_with fail
        refine wp_region_script [(0, true), (1, true), (2, true), (3, true), (4, true), (5, true), (6, true), (7, true), (8, true), (9, true), (10, true), (11, false), (12, true), (13, false)] (fun w' => CkIn w' g c) (by kernel_rfl) (by kernel_rfl) (fun _ _ _ _ _ h => h) C3.drew ?_
        iterate 11 (refine script_take (v := ?_) rfl ?_ ?_ ?_; rotate_left; (first | rfl | (go_simp; done)); (intro w' hw'; have hcq := fun i => Blk.cell hw' i; (try simp only [mcells] at hcq); (try simp only [ckc] at hcq); go_simp; with_reducible rfl); simp only [Act.put, List.setIfInBounds_toArray, List.set_cons_zero, List.set_cons_succ])
        have q6 := T3.drew.cellOf (v := .int .i64 t) 6 rfl
        have q5 := T3.drew.cellOf (v := .int .i64 0) 5 rfl
        have fq := T3.drew.frozen
        have q6' := T3.cellOf (v := .int .i64 t) 6 rfl
        have q5' := T3.cellOf (v := .int .i64 0) 5 rfl
        have fq' := T3.frozen
        have S4 := C3.drew.far (p := ⟨w2.heap.size, 6, none⟩) hne2 (.int .i64 c.there)
        have S5 := S4.far (p := ⟨w2.heap.size, 5, none⟩) hne2 (.int .i64 (t - c.there))
        (refine script_run0 (w' := ?_) rfl ?_ ?_ ?_ ?_; rotate_left; (first | rfl | (go_simp; done)); (go_simp; with_reducible rfl); (exact S4); simp only [Act.put, List.setIfInBounds_toArray, List.set_cons_zero, List.set_cons_succ])
        (refine script_take (v := ?_) rfl ?_ ?_ ?_; rotate_left; (first | rfl | (go_simp; done)); (intro w' hw'; have hcq := fun i => Blk.cell hw' i; (try simp only [mcells] at hcq); (try simp only [ckc] at hcq); go_simp; with_reducible rfl); simp only [Act.put, List.setIfInBounds_toArray, List.set_cons_zero, List.set_cons_succ])
        (refine script_run0 (w' := ?_) rfl ?_ ?_ ?_ ?_; rotate_left; (first | rfl | (go_simp; done)); (go_simp; with_reducible rfl); (exact S5); simp only [Act.put, List.setIfInBounds_toArray, List.set_cons_zero, List.set_cons_succ])
        refine script_nil ?_
        have T3 := ((T3.set_ 6 (.int .i64 c.there)).set_ 5 (.int .i64 (t - c.there))).drew
        have Z4 := ((Z3.far (p := ⟨w2.heap.size, 6, none⟩) (by show ¬ w.heap.size = w2.heap.size; omega) (.int .i64 c.there)).far (p := ⟨w2.heap.size, 5, none⟩) (by show ¬ w.heap.size = w2.heap.size; omega) (.int .i64 (t - c.there))).drew
        have L4 := ((L3.setCell (p := ⟨w2.heap.size, 6, none⟩) (by show w.heap.size ≤ w2.heap.size; omega) (.int .i64 c.there)).setCell (p := ⟨w2.heap.size, 5, none⟩) (by show w.heap.size ≤ w2.heap.size; omega) (.int .i64 (t - c.there))).drew
        have hz4 : w2.heap.size < (((w3.setCell ⟨w2.heap.size, 6, none⟩ (.int .i64 c.there)).setCell ⟨w2.heap.size, 5, none⟩ (.int .i64 (t - c.there))).drew).heap.size := by simpa [World.setCell, World.drew] using hz3
        clear S4 S5 q5 q6 fq q5' q6' fq' y1 y4 Z3 L3 hz3
        go_wp2_with fail
        have T4 : Blk ((w3.setCell ⟨w2.heap.size, 6, none⟩ (.int .i64 c.there)).setCell ⟨w2.heap.size, 5, none⟩ (.int .i64 (t - c.there))).drew w2.heap.size 35 (mcells ⟨8, c.domain, seq, src, port, t - c.there, c.there, 0, 0, r, 0, 0, 0, 0, 0, []⟩ none 0 0) := T3
        generalize ((w3.setCell ⟨w2.heap.size, 6, none⟩ (.int .i64 c.there)).setCell ⟨w2.heap.size, 5, none⟩ (.int .i64 (t - c.there))).drew = w4 at *
        refine wp_region_script [(0, true), (1, true), (2, false), (3, true), (4, false), (5, true)] (fun w' => Blk w' w2.heap.size 35 (mcells ⟨8, c.domain, seq, src, port, t - c.there, c.there, 0, 0, r, 0, 0, 0, 0, 0, []⟩ none 0 0)) (by kernel_rfl) (by kernel_rfl) (fun _ _ _ _ _ h => h) T4.drew ?_
        iterate 2 (refine script_take (v := .agg (mcells ⟨8, c.domain, seq, src, port, t - c.there, c.there, 0, 0, r, 0, 0, 0, 0, 0, []⟩ none 0 0)) rfl ?_ (fun w' hw' => run_load_whole 35 (.tmp 14) rfl rfl (hw') Try.underlying35 rfl (by kernel_rfl)) ?_; (first | rfl | (go_simp; done)); simp only [Act.put, List.setIfInBounds_toArray, List.set_cons_zero, List.set_cons_succ])
        (refine script_call 33 ?_ rfl ?_ ?_ ?_; rotate_left; (first | rfl | (go_simp; done)); (go_simp; with_reducible rfl))
        refine (check_m ⟨8, c.domain, seq, src, port, t - c.there, c.there, 0, 0, r, 0, 0, 0, 0, 0, []⟩ none 0 0 _ Reads.none_ rfl (by simp [maxLen])).mono ?_
        rintro e w5 ⟨rfl, hb5⟩
        have T5 := T4.drew.kept hb5
        have Z5 := Z4.drew.kept hb5
        have L5 := L4.drew.trans (hb5.mono (by show w.heap.size ≤ w4.heap.size; omega))
        refine ⟨_, rfl, T5, ?_⟩
        simp only [Act.put, List.setIfInBounds_toArray, List.set_cons_zero, List.set_cons_succ]
        generalize hx : checkV ⟨8, c.domain, seq, src, port, t - c.there, c.there, 0, 0, r, 0, 0, 0, 0, 0, []⟩ = x
        have HX := Lib.hid hx
        clear hx
        (refine script_take (v := ?_) rfl ?_ ?_ ?_; rotate_left; (first | rfl | (go_simp; done)); (intro w' hw'; have hcq := fun i => Blk.cell hw' i; (try simp only [mcells] at hcq); (try simp only [ckc] at hcq); go_simp; with_reducible rfl); simp only [Act.put, List.setIfInBounds_toArray, List.set_cons_zero, List.set_cons_succ])
        refine script_store_blk rfl rfl 35 (.tmp 10) (.tmp 52) rfl (off := 0) rfl Z5 rfl (show 0 + 16 ≤ 16 by omega) (by kernel_rfl) (by rw [← Array.all_toList]; rfl) ?_
        intro w6 R6 z6 g6
        rw [putAll_whole (show (mcells zeroM none 0 0).size = (mcells ⟨8, c.domain, seq, src, port, t - c.there, c.there, 0, 0, r, 0, 0, 0, 0, 0, []⟩ none 0 0).size from rfl)] at R6
        refine ⟨T5.keep g6 (by omega), ?_⟩
        simp only [Act.put, List.setIfInBounds_toArray, List.set_cons_zero, List.set_cons_succ]
        (refine script_take (v := ?_) rfl ?_ ?_ ?_; rotate_left; (first | rfl | (go_simp; done)); (intro w' hw'; have hcq := fun i => Blk.cell hw' i; (try simp only [mcells] at hcq); (try simp only [ckc] at hcq); go_simp; with_reducible rfl); simp only [Act.put, List.setIfInBounds_toArray, List.set_cons_zero, List.set_cons_succ])
        refine script_nil ?_
        go_wp2_with fail
        exact tell_end rfl rfl rfl R6 ⟨by rw [HX.out], L5.trans (below_one g6 (by have := L5.size; omega) (Nat.le_refl _))⟩
end Go.Proofs.Ytjjpmckefglhnaa
