/-
  merge: its setup.
-/
import Derived.Test.YthhlfojaloaooaaGreatRows
import Derived.Test.YthhlfojaloaooaaGreatHqA
import Derived.WalkKit
import Derived.ProofKit
import Derived.OpenShut
import Derived.LoopTactic
import Derived.WalkLawsBesides
import Derived.WalkSpells
import Derived.Outline
import Derived.Lib.Hide
import Derived.Deep.DrawnRows
import Derived.Laws.CopyOwn
import Derived.MapKept
namespace Go.Proofs.YthhlfojaloaooaaGreat
set_option linter.unusedSimpArgs false
set_option linter.unusedVariables false
open Go.RowKit Go.WideShapes Go.ChangeShapes
attribute [local go_sem ↓] Go.wp_at_zero Go.wp_at_succ

theorem blk_sub {w : World} {g k : Nat} {t : TypeId} {cs M : Array Value} (h : Blk w g t cs) (hM : ∀ j v, M.toList[j]? = some v → cs[k + j]? = some v) : ∀ j v, M.toList[j]? = some v → w.cell? ((⟨g, k, none⟩ : Addr).add j) = some v := by
  intro j v hv
  rw [show (⟨g, k, none⟩ : Addr).add j = ⟨g, k + j, none⟩ from by by_cases hj : j = 0 <;> simp [Addr.add, hj]]
  exact h.cellOf _ (hM j v hv)
/-- A Merge's setup's cells. -/
def mcf (r : Int) : Array Value := #[.int .i64 2, .int .i64 0, .int .i64 32, .int .i64 r, .int .i64 0, .int .i64 32, .int .i64 r, .int .i64 1099511627776, .int .i64 1048576]
def scf (r : Int) : Array Value := #[.int .i64 0, .int .i64 32, .int .i64 r]
/-- A Merge's cells. -/
def mgc (r : Int) (v p : Value) (nx pa ag si : Int) : Array Value := #[.int .i64 2, .int .i64 0, .int .i64 32, .int .i64 r, .int .i64 0, .int .i64 32, .int .i64 r, .int .i64 1099511627776, .int .i64 1048576, v, p, .int .i64 nx, .int .i64 pa, .int .i64 ag, .int .i64 si]
theorem scf_sub1 {r : Int} : ∀ j v, (scf r).toList[j]? = some v → (mcf r)[1 + j]? = some v
  | 0, v, h => h
  | 1, v, h => h
  | 2, v, h => h
  | n + 3, v, h => by simp [scf] at h
theorem scf_sub4 {r : Int} : ∀ j v, (scf r).toList[j]? = some v → (mcf r)[4 + j]? = some v
  | 0, v, h => h
  | 1, v, h => h
  | 2, v, h => h
  | n + 3, v, h => by simp [scf] at h
set_option maxRecDepth 100000 in
set_option maxHeartbeats 4000000 in
theorem mgCheck_ok (r : Int) (hr : 1 ≤ r ∧ r ≤ 1099511627776) (w : World) : Calls Tryz.prog 39 #[.agg (mcf r)] w fun e w' => e = .returned (.int .i64 0) ∧ Below w.heap.size w w' := by
  refine calls_sm (N := 41) Tryz.func39 rfl (by kernel_rfl) ?_
  intro a hs hd ha
  have e0 : a.tmps[0]? = some (.agg (mcf r)) := ha 0 _ rfl
  clear ha
  conv => arg 2; whnf
  refine wp_seq_k fun Kq1 hKq1 => ?_
  refine sm_list [0] 1 2 hs hd (by kernel_rfl) (agC e0 agN) rfl ?_
  simp only [seval]
  go_wp2_with fail
  intro a H; replace hs := H.s hs; replace hd := H.d rfl; replace e0 := H.g 0 rfl rfl; have e1 := H.g 1 rfl rfl; have e2 := H.g 2 rfl rfl; clear H; refine hKq1 _ _ ?_; clear hKq1 Kq1; refine wp_seq_k fun Kq2 hKq2 => ?_; refine wp_seq_k fun Kq3 hKq3 => ?_
  have B := Blk.new w 84 (mcf r)
  have L1 := (Below.refl w.heap.size w).alloc (Nat.le_refl _) (.cells (mcf r) 84)
  generalize hw1 : w.alloc (.cells (mcf r) 84) = w1 at B L1 ⊢
  obtain ⟨q, hq⟩ : ∃ q, q = w.heap.size := ⟨_, rfl⟩
  rw [← hq] at B e1
  have q0 := B.cellOf (v := .int .i64 2) 0 rfl
  have q7 := B.cellOf (v := .int .i64 1099511627776) 7 rfl
  have q8 := B.cellOf (v := .int .i64 1048576) 8 rfl
  clear hw1 hq
  refine sm_list [1] 4 28 hs hd (by kernel_rfl) (agC e1 agN) rfl ?_
  simp only [seval]
  go_wp2_with fail
  intro a H; replace hs := H.s hs; replace hd := H.d rfl; replace e1 := H.g 1 rfl rfl; replace e0 := H.k e0 rfl; replace e2 := H.k e2 rfl; have e31 := H.g 31 rfl rfl; clear H; refine hKq3 _ _ ?_; clear hKq3 Kq3
  refine wp_cond_false (slotE e31) ?_
  clear e31; refine wp_skip ?_; refine hKq2 _ _ ?_; clear hKq2 Kq2; refine wp_seq_k fun Kq4 hKq4 => ?_; refine wp_seq_k fun Kq5 hKq5 => ?_; clear q0 q7 q8
  refine sm_list [1, 3] 32 3 hs hd (by kernel_rfl) (agC e1 (agU agN)) rfl ?_
  simp only [seval]
  go_wp2_with (first | (refine wpList_load_any_d rfl 82 (.tmp 2) rfl ⟨q, 1, none⟩ rfl (scf r) _ (blk_sub B scf_sub1) Tryz.underlying82 rfl (by kernel_rfl) ?_) | fail)
  refine (sqCheck_ok r hr w1).mono ?_
  rintro e w2 ⟨rfl, hb2⟩
  go_wp2_with fail
  intro a H; replace hs := H.s hs; replace hd := H.d rfl; replace e1 := H.g 1 rfl rfl; replace e0 := H.k e0 rfl; replace e2 := H.k e2 rfl; have e3 := H.g 3 rfl rfl; clear H; refine hKq5 _ _ ?_; clear hKq5 Kq5; refine wp_seq_k fun Kq6 hKq6 => ?_
  have B2 := B.kept hb2
  have L2 := L1.trans (hb2.mono L1.size)
  clear B L1 hb2
  refine sm_list [3] 35 2 hs hd (by kernel_rfl) (agC e3 agN) rfl ?_
  simp only [seval]
  go_wp2_with fail
  intro a H; replace hs := H.s hs; replace hd := H.d rfl; replace e3 := H.g 3 rfl rfl; replace e0 := H.k e0 rfl; replace e1 := H.k e1 rfl; replace e2 := H.k e2 rfl; have e36 := H.g 36 rfl rfl; clear H; refine hKq6 _ _ ?_; clear hKq6 Kq6
  refine wp_cond_false (slotE e36) ?_
  clear e36; refine wp_skip ?_; refine hKq4 _ _ ?_; clear hKq4 Kq4; refine wp_seq_k fun Kq7 hKq7 => ?_
  refine sm_list [1, 2] 38 3 hs hd (by kernel_rfl) (agC e1 (agC e2 agN)) rfl ?_
  simp only [seval]
  go_wp2_with (first | (refine wpList_load_any_d rfl 82 (.tmp 2) rfl ⟨q, 4, none⟩ rfl (scf r) _ (blk_sub B2 scf_sub4) Tryz.underlying82 rfl (by kernel_rfl) ?_) | fail)
  refine (sqCheck_ok r hr w2).mono ?_
  rintro e w3 ⟨rfl, hb3⟩
  go_wp2_with fail
  intro a H; replace hs := H.s hs; replace hd := H.d rfl; replace e1 := H.g 1 rfl rfl; replace e0 := H.k e0 rfl; replace e3 := H.k e3 rfl; replace e2 := H.g 2 rfl rfl; clear H; refine hKq7 _ _ ?_; clear hKq7 Kq7; refine wp_ret ?_
  exact sm_ret rfl hd e2 ⟨rfl, L2.trans (hb3.mono L2.size)⟩
end Go.Proofs.YthhlfojaloaooaaGreat

namespace Go.Proofs.YthhlfojaloaooaaGreat
set_option linter.unusedSimpArgs false
set_option linter.unusedVariables false
open Go.RowKit Go.WideShapes Go.ChangeShapes
attribute [local go_sem ↓] Go.wp_at_zero Go.wp_at_succ

theorem reads_new1 (w : World) (u : Value) (e : TypeId) : Reads (w.alloc (.cells #[u] e)) (w.alloc (.cells #[u] e)).heap.size 1 (some ⟨w.heap.size, 0, none⟩) 1 [u] :=
  ⟨rfl, fun _ => ⟨_, rfl, (Blk.new w e #[u]).lt, fun j v hv => blk_cells (Blk.new w e #[u]) j v hv⟩⟩
section
variable {P : Program}
theorem wpList_push1 {ops : Array Oper} {rest : List Oper} {o : Oper} {a : Act} {Q : Exit → Act → World → Prop} (hgd : o.guard = none) (s x : Operand) (t : TypeId)
    (ho : o.op = .call { callee := .builtin .append, args := #[s, x], argTypes := #[t, t] })
    {e : TypeId} {bytes : Nat} (hty : SliceTy P t e 1 bytes) {u : Value} (h1 : u.oneCell' = true) {wr : World} {base : Nat} {v : Value} {n : Nat} {xs : List Value} (hs : a.eval s = v) (hown : wr.ownsRow base e 1 v n xs) (hx : a.eval x = .slice (some ⟨wr.heap.size, 0, none⟩) 1 1)
    (hbytes : (n + 1) * bytes ≤ 140737488355328) (hbase : base ≤ wr.heap.size)
    (h : ∀ v' w', w'.ownsRow base e 1 v' (n + 1) (xs ++ [u]) → (wr.alloc (.cells #[u] e)).grownBy w' v.ownBlock → wpList P ops Q rest (a.put o.dst v') w') : wpList P ops Q (o :: rest) a (wr.alloc (.cells #[u] e)) :=
  wpList_pushR hgd s x t ho hty hx (reads_new1 wr u e) (by intro z hz; simp at hz; subst hz; exact h1) hs (hown.alloc _) hbytes (Nat.le_trans hbase (Below.size ((Below.refl wr.heap.size wr).alloc (Nat.le_refl _) _))) h
end
/-- A Merge that is being made. -/
structure MgS (w wk : World) (q gm : Nat) (r now nx : Int) (v : Value) (gs : List Nat) : Prop where
  low : Below w.heap.size w wk
  bq : Blk wk q 84 (mcf r)
  bm : Blk wk gm 135 (mgc r v (.pointer none) nx 0 0 0)
  own : wk.ownsRow w.heap.size 133 1 v gs.length (gs.map fun g : Nat => (Value.pointer (some ⟨g, 0, none⟩)))
  sq : ∀ g ∈ gs, SqAt wk g r true 0 0 now ∧ w.heap.size ≤ g
  nd : gs.Nodup
  ge : w.heap.size ≤ gm
section
variable {w wk w1 w' : World} {q gm g : Nat} {r now nx : Int} {v v' : Value} {gs : List Nat}
theorem SqAt.lt {any : Bool} {last had when : Int} (h : SqAt w g r any last had when) : g < w.heap.size := by
  obtain ⟨_, _, _, _, _, _, hB⟩ := h
  exact hB.lt
theorem SqAt.row {any : Bool} {last had when : Int} {base n : Nat} {e : TypeId} {xs : List Value} (h : SqAt w g r any last had when) (hown : w.ownsRow base e 1 v n xs) (he : e ≠ 189) (gr : w.grownBy w' v.ownBlock) : SqAt w' g r any last had when := by
  have h0 := h
  obtain ⟨_, _, _, _, _, _, hB⟩ := h0
  exact h.grown gr (own_blk_ne hown hB he).symm
theorem SqAt.set_ {any : Bool} {last had when : Int} {T : TypeId} {cs : Array Value} {k i : Nat} {u : Value} (h : SqAt w g r any last had when) (hk : Blk w k T cs) (he : T ≠ 189) : SqAt (w.setCell ⟨k, i, none⟩ u) g r any last had when := by
  have h0 := h
  obtain ⟨_, _, _, _, _, _, hB⟩ := h0
  exact h.grown (gr_set (grownBy_refl w (some k)) i u) (by intro e; injection e with e; subst e; exact Blk.ne_ hB hk (Ne.symm he) rfl)
theorem MgS.kept (h : MgS w wk q gm r now nx v gs) (hb : Below wk.heap.size wk w') : MgS w w' q gm r now nx v gs :=
  ⟨h.low.trans (hb.mono h.low.size), h.bq.kept hb, h.bm.kept hb, own_kept h.own (gr_below hb none) (fun k _ => by simp), fun g hg => ⟨(h.sq g hg).1.kept hb, (h.sq g hg).2⟩, h.nd, h.ge⟩
theorem MgS.push (h : MgS w w1 q gm r now nx v gs) (hg : SqAt w1 g r true 0 0 now) (hgw : w.heap.size ≤ g) (hn : g ∉ gs) (own' : w'.ownsRow w.heap.size 133 1 v' (gs.length + 1) (gs.map (fun g : Nat => (Value.pointer (some ⟨g, 0, none⟩))) ++ [.pointer (some ⟨g, 0, none⟩)]))
    (gr : (w1.alloc (.cells #[.pointer (some ⟨g, 0, none⟩)] 133)).grownBy w' v.ownBlock) : Blk w' gm 135 (mgc r v (.pointer none) nx 0 0 0) ∧ MgS w (w'.setCell ⟨gm, 9, none⟩ v') q gm r now nx v' (gs ++ [g]) := by
  have ha : Below w1.heap.size w1 (w1.alloc (.cells #[.pointer (some ⟨g, 0, none⟩)] 133)) := (Below.refl _ _).alloc (Nat.le_refl _) _
  have hA := h.kept ha
  have hgA := hg.kept ha
  generalize w1.alloc (.cells #[.pointer (some ⟨g, 0, none⟩)] 133) = wa at *
  have bm := hA.bm.grown gr (own_blk_ne hA.own hA.bm (by decide)).symm
  have bq := hA.bq.grown gr (own_blk_ne hA.own hA.bq (by decide)).symm
  have low : Below w.heap.size w w' := hA.low.grown gr hA.low.size (fun k hk => (ownsRow_lt hA.own k hk).1)
  have gs_ := gr_set (grownBy_refl w' (some gm)) 9 v'
  refine ⟨bm, low.grown gs_ low.size (fun k hk => by cases hk; exact h.ge), bq.grown gs_ (by intro e; injection e with e; exact Blk.ne_ bq bm (by decide) e), bm.set_ 9 v', ?_, ?_, ?_, h.ge⟩
  · rw [List.length_append, List.map_append]
    exact own_kept own' gs_ (fun k hk e => by injection e with e; subst e; exact own_blk_ne own' bm (by decide) hk)
  · intro k hk
    rcases List.mem_append.1 hk with hk | hk
    · exact ⟨((hA.sq k hk).1.row hA.own (by decide) gr).set_ bm (by decide), (h.sq k hk).2⟩
    · rw [List.mem_singleton.1 hk]
      exact ⟨(hgA.row hA.own (by decide) gr).set_ bm (by decide), hgw⟩
  · rw [List.nodup_append]
    exact ⟨h.nd, by simp, fun a ha b hb => by rw [List.mem_singleton.1 hb]; intro e; subst e; exact hn ha⟩
end
theorem stySP : SliceTy Tryz.prog 132 133 1 8 := sliceTy_mk (z := .pointer none) Tryz.underlying132 (by kernel_rfl) rfl

end Go.Proofs.YthhlfojaloaooaaGreat

namespace Go.Proofs.YthhlfojaloaooaaGreat
set_option linter.unusedSimpArgs false
set_option linter.unusedVariables false
open Go.RowKit Go.WideShapes Go.ChangeShapes
attribute [local go_sem ↓] Go.wp_at_zero Go.wp_at_succ

/-- A Merge of two ways, in memory: its block, its ways' row, its Seqrs. -/
structure MgB where
  g : Nat
  h : Nat
  g0 : Nat
  g1 : Nat
  ga : Nat
/-- A Seqr's state: whether any number is taken; the last one; the window; when one was taken. -/
structure SqS where
  any : Bool
  last : Int
  had : Int
  when : Int
def SqAt' (w : World) (g : Nat) (r : Int) (s : SqS) : Prop := SqAt w g r s.any s.last s.had s.when
structure MgAt (w : World) (b : MgB) (r : Int) (s0 s1 sa : SqS) : Prop where
  bm : ∃ c nx pa ag si, Blk w b.g 135 (mgc r (.slice (some ⟨b.h, 0, none⟩) 2 c) (.pointer (some ⟨b.ga, 0, none⟩)) nx pa ag si) ∧ w.ownsRow 0 133 1 (.slice (some ⟨b.h, 0, none⟩) 2 c) 2 [.pointer (some ⟨b.g0, 0, none⟩), .pointer (some ⟨b.g1, 0, none⟩)]
  s0 : SqAt w b.g0 r s0.any s0.last s0.had s0.when
  s1 : SqAt w b.g1 r s1.any s1.last s1.had s1.when
  sa : SqAt w b.ga r sa.any sa.last sa.had sa.when
  ne : b.g0 ≠ b.g1 ∧ b.g0 ≠ b.ga ∧ b.g1 ≠ b.ga
/-- A Merge lies in blocks from B on. -/
def MgB.from (b : MgB) (B : Nat) : Prop := B ≤ b.g ∧ B ≤ b.h ∧ B ≤ b.g0 ∧ B ≤ b.g1 ∧ B ≤ b.ga
set_option maxRecDepth 100000 in
set_option maxHeartbeats 4000000 in
theorem mgNew_ok (r now : Int) (hr : 1 ≤ r ∧ r ≤ 1099511627776) (hn : 0 ≤ now ∧ now ≤ 1099511627776) (w : World) : Calls Tryz.prog 21 #[.agg (mcf r), .int .i64 now] w fun e w' => ∃ b, e = .returned (.tuple #[.pointer (some ⟨b.g, 0, none⟩), .int .i64 0]) ∧ Below w.heap.size w w' ∧ b.from w.heap.size ∧ MgAt w' b r ⟨true, 0, 0, now⟩ ⟨true, 0, 0, now⟩ ⟨true, 0, 0, now⟩ := by
  refine calls_sm (N := 61) Tryz.func21 rfl (by kernel_rfl) ?_
  intro a hs hd ha
  have e0 : a.tmps[0]? = some (.agg (mcf r)) := ha 0 _ rfl
  have e1 : a.tmps[1]? = some (.int .i64 now) := ha 1 _ rfl
  clear ha
  conv => arg 2; whnf
  refine wp_seq_k fun Kq1 hKq1 => ?_
  refine sm_list [0, 2] 4 2 hs hd (by kernel_rfl) (agC e0 (agU agN)) rfl ?_
  simp only [seval]
  go_wp2_with fail
  intro a H; replace hs := H.s hs; replace hd := H.d rfl; replace e0 := H.g 0 rfl rfl; replace e1 := H.k e1 rfl; have e2 := H.g 2 rfl rfl; have e4 := H.g 4 rfl rfl; have e5 := H.g 5 rfl rfl; clear H; refine hKq1 _ _ ?_; clear hKq1 Kq1; refine wp_seq_k fun Kq2 hKq2 => ?_; refine wp_seq_k fun Kq3 hKq3 => ?_
  have B := Blk.new w 84 (mcf r)
  have L1 := (Below.refl w.heap.size w).alloc (Nat.le_refl _) (.cells (mcf r) 84)
  generalize hw1 : w.alloc (.cells (mcf r) 84) = w1 at B L1 ⊢
  obtain ⟨q, hq⟩ : ∃ q, q = w.heap.size := ⟨_, rfl⟩
  have hqw : w.heap.size ≤ q := by omega
  rw [← hq] at B e2
  clear hw1 hq
  refine sm_list [2, 6] 10 2 hs hd (by kernel_rfl) (agC e2 (agU agN)) rfl ?_
  simp only [seval]
  go_wp2_with (first | (refine wpList_load_any_d rfl 84 (.tmp 0) rfl ⟨q, 0, none⟩ rfl (mcf r) _ (blk_cells B) Tryz.underlying84 rfl (by kernel_rfl) ?_) | fail)
  refine (mgCheck_ok r hr w1).mono ?_
  rintro e w2 ⟨rfl, hb2⟩
  go_wp2_with fail
  intro a H; replace hs := H.s hs; replace hd := H.d rfl; replace e2 := H.g 2 rfl rfl; replace e0 := H.k e0 rfl; replace e1 := H.k e1 rfl; replace e4 := H.k e4 rfl; replace e5 := H.k e5 rfl; have e6 := H.g 6 rfl rfl; clear H; refine hKq3 _ _ ?_; clear hKq3 Kq3; refine wp_seq_k fun Kq4 hKq4 => ?_
  have B2 := B.kept hb2
  have L2 := L1.trans (hb2.mono L1.size)
  clear B L1 hb2
  refine sm_list [6] 12 2 hs hd (by kernel_rfl) (agC e6 agN) rfl ?_
  simp only [seval]
  go_wp2_with fail
  intro a H; replace hs := H.s hs; replace hd := H.d rfl; replace e6 := H.g 6 rfl rfl; replace e0 := H.k e0 rfl; replace e1 := H.k e1 rfl; replace e2 := H.k e2 rfl; replace e4 := H.k e4 rfl; replace e5 := H.k e5 rfl; have e13 := H.g 13 rfl rfl; clear H; refine hKq4 _ _ ?_; clear hKq4 Kq4
  refine wp_cond_false (slotE e13) ?_
  clear e13; refine wp_skip ?_; refine hKq2 _ _ ?_; clear hKq2 Kq2; refine wp_seq_k fun Kq5 hKq5 => ?_; refine wp_seq_k fun Kq6 hKq6 => ?_
  have d1 : decide (now < 0) = false := decide_eq_false (by omega)
  have d2 : decide ((1099511627776 : Int) < now) = false := decide_eq_false (by omega)
  refine sm_list [1] 15 6 hs hd (by kernel_rfl) (agC e1 agN) rfl ?_
  simp only [seval]
  go_wp2_with fail
  intro a H; replace hs := H.s hs; replace hd := H.d rfl; replace e1 := H.g 1 rfl rfl; replace e0 := H.k e0 rfl; replace e2 := H.k e2 rfl; replace e4 := H.k e4 rfl; replace e5 := H.k e5 rfl; replace e6 := H.k e6 rfl; have e20 := H.g 20 rfl rfl; clear H; refine hKq6 _ _ ?_; clear hKq6 Kq6
  refine wp_cond_false (slotE e20) ?_
  clear e20; refine wp_skip ?_; refine hKq5 _ _ ?_; clear hKq5 Kq5; refine wp_seq_k fun Kq7 hKq7 => ?_; clear d1 d2
  have q7 := B2.cellOf (v := .int .i64 1099511627776) 7 rfl
  refine sm_list [1, 2, 7] 21 7 hs hd (by kernel_rfl) (agC e1 (agC e2 (agU agN))) rfl ?_
  simp only [seval]
  go_wp2_with (first | (refine wpList_load_any_d rfl 84 (.tmp 1) rfl ⟨q, 0, none⟩ rfl #[.int .i64 2, .int .i64 0, .int .i64 32, .int .i64 r, .int .i64 0, .int .i64 32, .int .i64 r, .int .i64 1099511627776, .int .i64 1048576] _ (blk_cells B2) Tryz.underlying84 rfl (by kernel_rfl) ?_) | fail)
  intro a H; replace hs := H.s hs; replace hd := H.d rfl; replace e1 := H.g 1 rfl rfl; replace e2 := H.g 2 rfl rfl; replace e0 := H.k e0 rfl; replace e4 := H.k e4 rfl; replace e5 := H.k e5 rfl; replace e6 := H.k e6 rfl; have e7 := H.g 7 rfl rfl; clear H; refine hKq7 _ _ ?_; clear hKq7 Kq7; refine wp_seq_k fun Kq8 hKq8 => ?_; refine wp_seq_k fun Kq9 hKq9 => ?_; clear q7
  obtain ⟨gm, hgm⟩ : ∃ gm, gm = w2.heap.size := ⟨_, rfl⟩
  have hgw : w.heap.size ≤ gm := by rw [hgm]; exact L2.size
  rw [← hgm] at e7
  refine (?_ : ∀ (W : World) (nx : Int), MgS w W q gm r now nx (.slice none 0 0) [] → Code.wp Tryz.prog _ _ _ W) _ _ ⟨L2.alloc L2.size _, B2.kept ((Below.refl _ _).alloc (Nat.le_refl _) _), by rw [hgm]; exact Blk.new w2 _ _, ownsRow_nil _ _ _ _, fun g hg => by simp at hg, List.nodup_nil, hgw⟩
  clear hgm B2 L2
  intro w3 nx S3
  have q0 := S3.bq.cellOf (v := .int .i64 2) 0 rfl
  refine sm_list [2] 28 3 hs hd (by kernel_rfl) (agC e2 agN) rfl ?_
  simp only [seval]
  go_wp2_with fail
  intro a H; replace hs := H.s hs; replace hd := H.d rfl; replace e2 := H.g 2 rfl rfl; replace e0 := H.k e0 rfl; replace e1 := H.k e1 rfl; replace e4 := H.k e4 rfl; replace e5 := H.k e5 rfl; replace e6 := H.k e6 rfl; replace e7 := H.k e7 rfl; have e29 := H.g 29 rfl rfl; have e30 := H.g 30 rfl rfl; clear H; refine hKq9 _ _ ?_; clear hKq9 Kq9; refine wp_block ?_; clear q0
  refine wp_loop (fun a w' => ∃ (j : Nat) (gs : List Nat) (A : Option Addr) (c : Nat), gs.length = j ∧ j ≤ 2 ∧ MgS w w' q gm r now nx (.slice A j c) gs ∧ a.tmps.size = 61 ∧ a.defers = [] ∧ a.tmps[1]? = some (.int .i64 now) ∧ a.tmps[2]? = some (.pointer (some ⟨q, 0, none⟩)) ∧ a.tmps[7]? = some (.pointer (some ⟨gm, 0, none⟩)) ∧ a.tmps[29]? = some (.int .i64 2) ∧ a.tmps[30]? = some (.int .i64 (j : Int))) (fun a _ => 2 - (intOf (a.tmps.getD 30 undef)).toNat) ?_ ?_
  · exact ⟨0, [], none, 0, rfl, by omega, S3, hs, hd, e1, e2, e7, e29, e30⟩
  clear e0 e1 e2 e4 e5 e6 e7 e29 e30 hs hd a S3
  rintro a w4 ⟨j, gs, A, c, hgl, hj, S4, hs, hd, e1, e2, e7, e29, e30⟩
  have hm := slot e30
  refine wp_seq_k fun Kq10 hKq10 => ?_
  by_cases hlt3 : j < 2
  ·
    have dj : decide ((j : Int) < 2) = true := decide_eq_true (by omega)
    have dj3 : (j : Int) < 2 := by omega
    refine sm_list [29, 30] 31 1 hs hd (by kernel_rfl) (agC e29 (agC e30 agN)) rfl ?_
    simp only [seval]
    go_wp2_with fail
    intro a H; replace hs := H.s hs; replace hd := H.d rfl; replace e29 := H.g 29 rfl rfl; replace e30 := H.g 30 rfl rfl; replace e1 := H.k e1 rfl; replace e2 := H.k e2 rfl; replace e7 := H.k e7 rfl; have e31 := H.g 31 rfl rfl; clear H; refine hKq10 _ _ ?_; clear hKq10 Kq10; refine wp_seq_k fun Kq11 hKq11 => ?_
    refine wp_cond_true (slotE e31) ?_
    clear e31; refine wp_skip ?_; refine hKq11 _ _ ?_; clear hKq11 Kq11; refine wp_seq_k fun Kq12 hKq12 => ?_; refine wp_block ?_; refine wp_seq_k fun Kq13 hKq13 => ?_; clear dj dj3
    refine sm_list [1, 2, 8, 9] 32 7 hs hd (by kernel_rfl) (agC e1 (agC e2 (agU (agU agN)))) rfl ?_
    simp only [seval]
    go_wp2_with (first | (refine wpList_load_any_d rfl 82 (.tmp 5) rfl ⟨q, 1, none⟩ rfl (scf r) _ (blk_sub S4.bq scf_sub1) Tryz.underlying82 rfl (by kernel_rfl) ?_) | fail)
    refine (sqNew_ok r now hr w4).mono ?_
    rintro e w5 ⟨g, rfl, hb5, hg5, hs5⟩
    go_wp2_with fail
    intro a H; replace hs := H.s hs; replace hd := H.d rfl; replace e1 := H.g 1 rfl rfl; replace e2 := H.g 2 rfl rfl; replace e7 := H.k e7 rfl; replace e29 := H.k e29 rfl; replace e30 := H.k e30 rfl; have e8 := H.g 8 rfl rfl; clear H; refine hKq13 _ _ ?_; clear hKq13 Kq13
    have S5 := S4.kept hb5
    have hgn : g ∉ gs := fun h => by have := (S4.sq g h).1.lt; omega
    have hgw5 : w.heap.size ≤ g := Nat.le_trans S4.low.size hg5
    clear hb5
    have q9 := S5.bm.cellOf (v := .slice A j c) 9 rfl
    have lz := S5.bm.lt
    refine sm_list [7, 8] 39 10 hs hd (by kernel_rfl) (agC e7 (agC e8 agN)) rfl ?_
    simp only [seval]
    go_wp2_with (at_builtin; refine wpList_push1 rfl (.tmp 6) (.tmp 8) 132 rfl stySP rfl rfl S5.own rfl (by omega) S5.low.size ?_; intro v6 w6 own6 gr6; obtain ⟨A6, c6, rfl, _, _⟩ := ownsRow_reads own6; obtain ⟨bm6, S6⟩ := S5.push hs5 hgw5 hgn own6 gr6; have q96 := bm6.cellOf (v := .slice A j c) 9 rfl; have fz6 := bm6.frozen; have lz6 := bm6.lt)
    intro a H; replace hs := H.s hs; replace hd := H.d rfl; replace e7 := H.g 7 rfl rfl; replace e8 := H.g 8 rfl rfl; replace e1 := H.k e1 rfl; replace e2 := H.k e2 rfl; replace e29 := H.k e29 rfl; replace e30 := H.k e30 rfl; clear H; refine hKq12 _ _ ?_; clear hKq12 Kq12
    rw [hgl] at S6
    refine (?_ : ∀ (W : World), MgS w W q gm r now nx (.slice A6 (j + 1) c6) (gs ++ [g]) → Code.wp Tryz.prog _ _ _ W) _ S6
    intro w7 S7
    clear S6 bm6 q96 fz6 lz6 own6 gr6 S5 S4 q9 lz hs5; clear e8
    refine sm_list [30] 49 1 hs hd (by kernel_rfl) (agC e30 agN) rfl ?_
    simp only [seval]
    go_wp2_with fail
    intro a H; replace hs := H.s hs; replace hd := H.d rfl; replace e1 := H.k e1 rfl; replace e2 := H.k e2 rfl; replace e7 := H.k e7 rfl; replace e29 := H.k e29 rfl; replace e30 := H.g 30 rfl rfl; clear H
    exact ⟨⟨j + 1, gs ++ [g], A6, c6, by rw [List.length_append, hgl]; rfl, by omega, S7, hs, hd, e1, e2, e7, e29, e30⟩, by first | (simp only [hm, slot e30, intOf]; omega) | (simp [hm, slot e30, intOf]; omega)⟩
  · have hkn : j = 2 := by omega
    subst hkn
    have HM := Lib.hid hm
    clear hm hj hlt3
    refine sm_list [29, 30] 31 1 hs hd (by kernel_rfl) (agC e29 (agC e30 agN)) rfl ?_
    simp only [seval]
    go_wp2_with fail
    intro a H; replace hs := H.s hs; replace hd := H.d rfl; replace e29 := H.g 29 rfl rfl; replace e30 := H.g 30 rfl rfl; replace e1 := H.k e1 rfl; replace e2 := H.k e2 rfl; replace e7 := H.k e7 rfl; have e31 := H.g 31 rfl rfl; clear H; refine hKq10 _ _ ?_; clear hKq10 Kq10; refine wp_seq_k fun Kq11 hKq11 => ?_
    refine wp_cond_false (slotE e31) ?_
    clear e31; refine wp_exit ?_; refine exit_then rfl ?_; clear hKq11 Kq11; refine exit_then rfl ?_; refine exit_hit ?_; refine hKq8 _ _ ?_; clear hKq8 Kq8; refine wp_seq_k fun Kq12 hKq12 => ?_
    obtain ⟨g0, g1, rfl⟩ : ∃ g0 g1, gs = [g0, g1] := by
        match gs, hgl with
        | [g0, g1], _ => exact ⟨g0, g1, rfl⟩
    have HS4 := Lib.hid S4
    refine sm_list [1, 2, 7] 50 10 hs hd (by kernel_rfl) (agC e1 (agC e2 (agC e7 agN))) rfl ?_
    simp only [seval]
    go_wp2_with (first | (refine wpList_load_any_d rfl 82 (.tmp 5) rfl ⟨q, 4, none⟩ rfl (scf r) _ (blk_sub HS4.out.bq scf_sub4) Tryz.underlying82 rfl (by kernel_rfl) ?_) | fail)
    refine (sqNew_ok r now hr w4).mono ?_
    rintro e w5 ⟨g, rfl, hb5, hg5, hs5⟩
    have S5 := HS4.out.kept hb5
    have q10 := S5.bm.cellOf (v := .pointer none) 10 rfl
    have fz5 := S5.bm.frozen
    have lz5 := S5.bm.lt
    have HS5 := Lib.hid (And.intro S5 hs5)
    clear S5 hs5
    go_wp2_with fail
    intro a H; replace hs := H.s hs; replace hd := H.d rfl; replace e1 := H.g 1 rfl rfl; replace e2 := H.g 2 rfl rfl; replace e7 := H.g 7 rfl rfl; replace e29 := H.k e29 rfl; replace e30 := H.k e30 rfl; clear H; refine hKq12 _ _ ?_; clear hKq12 Kq12; refine wp_seq_k fun Kq13 hKq13 => ?_; clear q10 fz5 lz5; have S5 := HS5.out.1; have hs5 := HS5.out.2
    have hn0 := (S5.sq g0 (by simp))
    have hn1 := (S5.sq g1 (by simp))
    have hx0 := (HS4.out.sq g0 (by simp)).1.lt
    have hx1 := (HS4.out.sq g1 (by simp)).1.lt
    have hnd := S5.nd
    have own5 := S5.own
    rcases own5.2 with ⟨_, hz⟩ | ⟨h, c5, cur, hv, hh, hcur, _⟩
    · simp at hz
    injection hv with hv1 _ hv2
    subst hv1
    have gs_ := gr_set (grownBy_refl w5 (some gm)) 10 (.pointer (some ⟨g, 0, none⟩))
    have lowF := S5.low.grown gs_ S5.low.size (fun k hk => by cases hk; exact S5.ge)
    have bmF := S5.bm.set_ 10 (.pointer (some ⟨g, 0, none⟩))
    have ownF := own_kept own5 gs_ (fun k hk e => by injection e with e; subst e; exact own_blk_ne own5 S5.bm (by decide) hk)
    refine (?_ : ∀ (W : World), Below w.heap.size w W → MgAt W ⟨gm, h, g0, g1, g⟩ r ⟨true, 0, 0, now⟩ ⟨true, 0, 0, now⟩ ⟨true, 0, 0, now⟩ → Code.wp Tryz.prog _ _ _ W) _ lowF ⟨⟨c, nx, 0, 0, 0, bmF, ownsRow_base ownF (Nat.zero_le _)⟩, hn0.1.set_ S5.bm (by decide), hn1.1.set_ S5.bm (by decide), hs5.set_ S5.bm (by decide), ⟨by simpa using hnd, by show g0 ≠ g; omega, by show g1 ≠ g; omega⟩⟩
    intro w6 L6 M6
    have hfrom : MgB.from ⟨gm, h, g0, g1, g⟩ w.heap.size := ⟨S5.ge, hh, hn0.2, hn1.2, Nat.le_trans HS4.out.low.size hg5⟩
    clear ownF bmF lowF gs_ hcur own5 S5 hs5 HS5 HS4 hnd hn0 hn1 hx0 hx1
    refine sm_list [4, 5, 7] 60 1 hs hd (by kernel_rfl) (agU (agU (agC e7 agN))) rfl ?_
    simp only [seval]
    go_wp2_with fail
    intro a H; replace hs := H.s hs; replace hd := H.d rfl; replace e7 := H.g 7 rfl rfl; replace e1 := H.k e1 rfl; replace e2 := H.k e2 rfl; replace e29 := H.k e29 rfl; replace e30 := H.k e30 rfl; have e4 := H.g 4 rfl rfl; have e5 := H.g 5 rfl rfl; clear H; refine hKq13 _ _ ?_; clear hKq13 Kq13; refine wp_ret ?_
    exact sm_ret2 rfl hd e4 e5 ⟨⟨gm, h, g0, g1, g⟩, rfl, L6, hfrom, M6⟩
end Go.Proofs.YthhlfojaloaooaaGreat
