/-
  What the gates of a port do, by the reference.
-/
import Derived.Test.YtaegngcbiefckaaRmMkZ
namespace Go.Proofs.Ytaegngcbiefckaa
set_option linter.unusedSimpArgs false
set_option linter.unusedVariables false
open Go.RowKit Go.WideShapes Go.ChangeShapes
attribute [local go_sem ↓] Go.wp_at_zero Go.wp_at_succ

def pick (e : Int × Int) (at_ : Int) (cur s : Sp) : Sp := if s.1 = e ∧ at_ ≤ s.2.1 ∧ s.2.1 < cur.2.1 then s else cur
theorem atEnd_iff {S : List Sp} {e x : Int × Int} : x ∈ atEnd S e ↔ (e, x) ∈ S := by
  unfold atEnd
  rw [List.mem_filterMap]
  constructor
  · rintro ⟨y, hy, h⟩
    split at h
    · rename_i hq
      cases h
      rw [← hq]
      exact hy
    · cases h
  · intro h
    exact ⟨_, h, if_pos rfl⟩
theorem pick_all {e : Int × Int} {at_ : Int} {d : Sp} : ∀ (S : List Sp) (cur : Sp), (cur = d ∨ (cur.1 = e ∧ at_ ≤ cur.2.1)) →
    ((S.foldl (pick e at_) cur) = d ∨ ((S.foldl (pick e at_) cur).1 = e ∧ at_ ≤ (S.foldl (pick e at_) cur).2.1)) ∧ ((S.foldl (pick e at_) cur) = cur ∨ (S.foldl (pick e at_) cur) ∈ S) ∧ (S.foldl (pick e at_) cur).2.1 ≤ cur.2.1 ∧
      ∀ s ∈ S, s.1 = e → at_ ≤ s.2.1 → (S.foldl (pick e at_) cur).2.1 ≤ s.2.1
  | [], cur, h => ⟨h, .inl rfl, Int.le_refl _, fun s hs => (by cases hs)⟩
  | x :: S, cur, h => by
    simp only [List.foldl_cons]
    by_cases hp : x.1 = e ∧ at_ ≤ x.2.1 ∧ x.2.1 < cur.2.1
    · have hq : pick e at_ cur x = x := if_pos hp
      rw [hq]
      obtain ⟨h1, h2, h3, h4⟩ := pick_all (d := d) S x (.inr ⟨hp.1, hp.2.1⟩)
      refine ⟨h1, .inr ?_, by omega, fun s hs h5 h6 => ?_⟩
      · rcases h2 with h2 | h2
        · rw [h2]; exact List.mem_cons_self ..
        · exact List.mem_cons_of_mem _ h2
      · rcases List.mem_cons.1 hs with rfl | hs
        · exact h3
        · exact h4 s hs h5 h6
    · have hq : pick e at_ cur x = cur := if_neg hp
      rw [hq]
      obtain ⟨h1, h2, h3, h4⟩ := pick_all (d := d) S cur h
      refine ⟨h1, h2.imp id (List.mem_cons_of_mem _), h3, fun s hs h5 h6 => ?_⟩
      rcases List.mem_cons.1 hs with rfl | hs
      · have : ¬ s.2.1 < cur.2.1 := fun c => hp ⟨h5, h6, c⟩
        omega
      · exact h4 s hs h5 h6
/-- Where the reference is in a port's gates: what is still to come. -/
structure GInv (cyc : Int) (S : List Sp) (e : Int × Int) (t : List (Int × Int)) (at_ : Int) (T r : List (Int × Int)) : Prop where
  go : some t = (goV cyc at_ r).map (T ++ ·)
  all : ∀ x, x ∈ atEnd S e → (at_ ≤ x.1 ↔ x ∈ r)
  sub : ∀ x ∈ r, x ∈ atEnd S e
  srt : r.Pairwise (fun x y => x.1 ≤ y.1)
theorem GInv.start {cyc : Int} {S : List Sp} {e : Int × Int} {ss t : List (Int × Int)} (hp : ss.Perm (atEnd S e)) (hs : ss.Pairwise (fun x y => x.1 ≤ y.1)) (hg : goV cyc 0 ss = some t) (h0 : ∀ x ∈ S, 0 ≤ x.2.1) : GInv cyc S e t 0 [] ss :=
  ⟨by rw [hg]; rfl, fun x hx => ⟨fun _ => hp.mem_iff.2 hx, fun _ => h0 _ (atEnd_iff.1 hx)⟩, fun x hx => hp.mem_iff.1 hx, hs⟩
section
variable {cyc at_ : Int} {S : List Sp} {e x : Int × Int} {t T r : List (Int × Int)}
theorem GInv.next (h : GInv cyc S e t at_ T (x :: r)) (hS : ∀ y ∈ S, 0 ≤ y.2.1 ∧ y.2.1 < y.2.2 ∧ y.2.2 ≤ cyc) : at_ ≤ x.1 ∧ x.1 < x.2 ∧ x.2 ≤ cyc ∧ (∀ y ∈ r, x.2 ≤ y.1) ∧ (S.foldl (pick e at_) ((0, 0), (cyc, cyc))).2 = x ∧ GInv cyc S e t x.2 (T ++ ((if at_ < x.1 then [(127, x.1 - at_)] else []) ++ [(128, x.2 - x.1)])) r := by
  have hx := h.sub x (List.mem_cons_self ..)
  have hxS := hS _ (atEnd_iff.1 hx)
  simp only at hxS
  obtain ⟨hs1, hs2⟩ := List.pairwise_cons.1 h.srt
  have hgo := h.go
  rw [show (x :: r) = ((x.1, x.2) :: r) from rfl, goV] at hgo
  have hlt : ¬ x.1 < at_ := by
    intro c
    rw [if_pos c] at hgo
    cases hgo
  rw [if_neg hlt] at hgo
  obtain ⟨u, hu⟩ : ∃ u, goV cyc x.2 r = some u := by
    cases hq : goV cyc x.2 r with
    | none => rw [hq] at hgo; cases hgo
    | some u => exact ⟨u, rfl⟩
  have hr : ∀ y ∈ r, x.2 ≤ y.1 := ((goV_some cyc r x.2 hs2 (fun y hy => (hS _ (atEnd_iff.1 (h.sub y (List.mem_cons_of_mem _ hy)))).2.1)).1 (by rw [hu]; rfl)).1
  refine ⟨by omega, hxS.2.1, hxS.2.2, hr, ?_, ?_, ?_, ?_, hs2⟩
  · obtain ⟨h1, h2, h3, h4⟩ := pick_all (e := e) (at_ := at_) (d := ((0, 0), (cyc, cyc))) S ((0, 0), (cyc, cyc)) (.inl rfl)
    have h5 := h4 _ (atEnd_iff.1 hx) rfl (by show at_ ≤ x.1; omega)
    simp only at h5
    have hne : S.foldl (pick e at_) ((0, 0), (cyc, cyc)) ≠ ((0, 0), (cyc, cyc)) := fun c => by rw [c] at h5; simp only at h5; omega
    rcases h1 with h1 | ⟨h1, h6⟩
    · exact absurd h1 hne
    rcases h2 with h2 | h2
    · exact absurd h2 hne
    have hm : (S.foldl (pick e at_) ((0, 0), (cyc, cyc))).2 ∈ atEnd S e := atEnd_iff.2 (by rw [show (e, (S.foldl (pick e at_) ((0, 0), (cyc, cyc))).2) = (S.foldl (pick e at_) ((0, 0), (cyc, cyc))) from Prod.ext h1.symm rfl]; exact h2)
    have hm2 := (h.all _ hm).1 h6
    rcases List.mem_cons.1 hm2 with hm2 | hm2
    · exact hm2
    · have := hr _ hm2
      omega
  · rw [hgo, hu]
    simp
  · intro y hy
    have h7 := h.all y hy
    have h8 := hS _ (atEnd_iff.1 hy)
    simp only at h8
    constructor
    · intro hle
      rcases List.mem_cons.1 (h7.1 (by omega)) with rfl | hm
      · omega
      · exact hm
    · intro hm
      exact hr y hm
  · exact fun y hy => h.sub y (List.mem_cons_of_mem _ hy)
theorem GInv.last (h : GInv cyc S e t at_ T []) (hS : ∀ y ∈ S, 0 ≤ y.2.1 ∧ y.2.1 < y.2.2 ∧ y.2.2 ≤ cyc) : (S.foldl (pick e at_) ((0, 0), (cyc, cyc))).2 = (cyc, cyc) ∧ t = T ++ (if at_ < cyc then [(127, cyc - at_)] else []) := by
  constructor
  · obtain ⟨h1, h2, h3, h4⟩ := pick_all (e := e) (at_ := at_) (d := ((0, 0), (cyc, cyc))) S ((0, 0), (cyc, cyc)) (.inl rfl)
    rcases h1 with h1 | ⟨h1, h6⟩
    · rw [h1]
    · rcases h2 with h2 | h2
      · rw [h2]
      · have hm : (S.foldl (pick e at_) ((0, 0), (cyc, cyc))).2 ∈ atEnd S e := atEnd_iff.2 (by rw [show (e, (S.foldl (pick e at_) ((0, 0), (cyc, cyc))).2) = (S.foldl (pick e at_) ((0, 0), (cyc, cyc))) from Prod.ext h1.symm rfl]; exact h2)
        have := (h.all _ hm).1 h6
        cases this
  · have := h.go
    rw [goV] at this
    simpa using this
theorem GInv.over (h : GInv cyc S e t at_ T r) (hS : ∀ y ∈ S, 0 ≤ y.2.1 ∧ y.2.1 < y.2.2 ∧ y.2.2 ≤ cyc) (hc : cyc ≤ at_) : t = T := by
  cases r with
  | nil => have := (h.last hS).2; rw [if_neg (by omega), List.append_nil] at this; exact this
  | cons x r => have := h.next hS; omega
theorem GInv.len (h : GInv cyc S e t at_ T r) : T.length ≤ t.length := by
  have := h.go
  cases hq : goV cyc at_ r with
  | none => rw [hq] at this; cases this
  | some u => rw [hq] at this; simp at this; rw [this]; simp
theorem GInv.full (h : GInv cyc S e t at_ T []) (hc : at_ < cyc) : GInv cyc S e t cyc (T ++ [(127, cyc - at_)]) [] := by
  refine ⟨?_, fun x hx => ⟨fun hle => ?_, fun hm => (by cases hm)⟩, fun x hx => (by cases hx), List.Pairwise.nil⟩
  · have := h.go
    rw [goV, if_pos hc] at this
    rw [goV, if_neg (Int.lt_irrefl _), this]
    simp
  · exact (h.all x hx).1 (by omega)
end
theorem goV_len {cyc : Int} : ∀ (d : List (Int × Int)) (at_ : Int) (t : List (Int × Int)), goV cyc at_ d = some t → t.length ≤ 2 * d.length + 1
  | [], at_, t, h => by
    rw [goV] at h
    cases h
    split <;> simp
  | (a, b) :: r, at_, t, h => by
    rw [goV] at h
    split at h
    · cases h
    · cases hq : goV cyc b r with
      | none => rw [hq] at h; cases h
      | some u =>
        rw [hq] at h
        cases h
        have := goV_len r b u hq
        simp only [List.length_append, List.length_cons]
        split <;> simp <;> omega
structure RSl (w : World) (g b0 : Nat) (cyc : Int) (sv : Value) (T : List (Int × Int)) : Prop where
  B : Blk w g 64 #[.int .i64 0, .int .i64 cyc, sv]
  own : w.ownsRow b0 68 2 sv T.length (T.flatMap spc)
  hz : b0 ≤ w.heap.size
  lt : g < b0
theorem RSl.keep {w w' : World} {g B : Nat} {cyc : Int} {sv : Value} {T : List (Int × Int)} (h : RSl w g B cyc sv T) (hb : Below w.heap.size w w') : RSl w' g B cyc sv T :=
  ⟨h.B.kept hb, ownsRow_keep h.own hb, Nat.le_trans h.hz hb.size, h.lt⟩
theorem RSl.far {w w' : World} {g B q : Nat} {cyc : Int} {sv : Value} {T : List (Int × Int)} {t2 : TypeId} {cs : Array Value} (h : RSl w g B cyc sv T) (hq : Blk w q t2 cs) (ht : t2 ≠ 68) (hne : q ≠ g) (hb : w.grownBy w' (some q)) : RSl w' g B cyc sv T :=
  ⟨h.B.grown hb (by simp; omega), own_kept h.own hb (fun k hk e => by injection e with e; subst e; exact own_blk_ne h.own hq (fun c => ht c.symm) hk), Nat.le_trans h.hz hb.size, h.lt⟩
theorem RSl.push {w w2 : World} {g B : Nat} {cyc : Int} {sv v2 : Value} {T : List (Int × Int)} (x : Int × Int) (h : RSl w g B cyc sv T) (own2 : w2.ownsRow B 68 2 v2 (T.length + 1) (T.flatMap spc ++ [.int .i64 x.1, .int .i64 x.2])) (gr : w.grownBy w2 sv.ownBlock) :
    Blk w2 g 64 #[.int .i64 0, .int .i64 cyc, sv] ∧ RSl (w2.setCell ⟨g, 2, none⟩ v2) g B cyc v2 (T ++ [x]) ∧ Below g w (w2.setCell ⟨g, 2, none⟩ v2) := by
  have hlt := h.lt
  have hz := h.hz
  have hr : ∀ k, sv.ownBlock = some k → B ≤ k := fun k hk => (ownsRow_lt h.own k hk).1
  have B2 : Blk w2 g 64 #[.int .i64 0, .int .i64 cyc, sv] := h.B.grown gr (fun e => by have := hr g e.symm; omega)
  refine ⟨B2, ⟨by have := B2.set_ 2 v2; simpa using this, ?_, ?_, hlt⟩, ?_⟩
  · have e : (T ++ [x]).flatMap spc = T.flatMap spc ++ [.int .i64 x.1, .int .i64 x.2] := by simp [spc]
    rw [e, List.length_append]
    exact own_kept own2 (gr_set (grownBy_refl w2 _) 2 v2) (fun k hk e => by have := (ownsRow_lt own2 k hk).1; injection e with e; omega)
  · have := gr.size; simp [World.setCell]; omega
  · have hb : Below g w w2 := (Below.refl _ _).grown gr (by omega) (fun k hk => by have := hr k hk; omega)
    exact hb.setCell (Nat.le_refl _) _
/-- What is shared of a walk's worlds: all below B stays. -/
def Cand (S : List Sp) (e : Int × Int) (at_ cyc : Int) (j : Nat) : Sp := (S.take j).foldl (pick e at_) ((0, 0), (cyc, cyc))
theorem Cand.zero (S : List Sp) (e : Int × Int) (at_ cyc : Int) : Cand S e at_ cyc 0 = ((0, 0), (cyc, cyc)) := by simp [Cand]
theorem Cand.yes {S : List Sp} {e : Int × Int} {at_ cyc : Int} {j : Nat} {s : Sp} (hs : S[j]? = some s) (h : s.1 = e ∧ at_ ≤ s.2.1 ∧ s.2.1 < (Cand S e at_ cyc j).2.1) : Cand S e at_ cyc (j + 1) = s := by
  unfold Cand at h ⊢
  rw [take_more hs, List.foldl_append]
  exact if_pos h
theorem Cand.no {S : List Sp} {e : Int × Int} {at_ cyc : Int} {j : Nat} {s : Sp} (hs : S[j]? = some s) (h : ¬ (s.1 = e ∧ at_ ≤ s.2.1 ∧ s.2.1 < (Cand S e at_ cyc j).2.1)) : Cand S e at_ cyc (j + 1) = Cand S e at_ cyc j := by
  unfold Cand at h ⊢
  rw [take_more hs, List.foldl_append]
  exact if_neg h
def RgI (C : Cf) (S : List Sp) (ex ey : Int) (t : List (Int × Int)) (L g5 g8 g9 : Nat) (w2 : World) (a : Act) (w' : World) : Prop :=
  ∃ (at_ : Int) (T r : List (Int × Int)) (sv : Value), 0 ≤ at_ ∧ at_ ≤ C.cycle ∧ a.tmps.size = 95 ∧ a.defers = [] ∧ a.tmps[2]? = some (.int .i64 ex) ∧ a.tmps[3]? = some (.int .i64 ey) ∧ a.tmps[4]? = some (.pointer (some ⟨L, 0, none⟩)) ∧ a.tmps[5]? = some (.pointer (some ⟨g5, 0, none⟩)) ∧ a.tmps[8]? = some (.pointer (some ⟨g8, 0, none⟩)) ∧ a.tmps[9]? = some (.pointer (some ⟨g9, 0, none⟩)) ∧ a.tmps[10]? = some (.int .i64 at_) ∧ Below g9 w2 w' ∧ RSl w' g9 (g9 + 1) C.cycle sv T ∧ GInv C.cycle S (ex, ey) t at_ T r
theorem RgI.intro {C : Cf} {S : List Sp} {ex ey : Int} {t : List (Int × Int)} {L g5 g8 g9 : Nat} {w2 : World} {a : Act} {w' : World} (h : ∃ (at_ : Int) (T r : List (Int × Int)) (sv : Value), 0 ≤ at_ ∧ at_ ≤ C.cycle ∧ a.tmps.size = 95 ∧ a.defers = [] ∧ a.tmps[2]? = some (.int .i64 ex) ∧ a.tmps[3]? = some (.int .i64 ey) ∧ a.tmps[4]? = some (.pointer (some ⟨L, 0, none⟩)) ∧ a.tmps[5]? = some (.pointer (some ⟨g5, 0, none⟩)) ∧ a.tmps[8]? = some (.pointer (some ⟨g8, 0, none⟩)) ∧ a.tmps[9]? = some (.pointer (some ⟨g9, 0, none⟩)) ∧ a.tmps[10]? = some (.int .i64 at_) ∧ Below g9 w2 w' ∧ RSl w' g9 (g9 + 1) C.cycle sv T ∧ GInv C.cycle S (ex, ey) t at_ T r) : RgI C S ex ey t L g5 g8 g9 w2 a w' := h
theorem RgI.out {C : Cf} {S : List Sp} {ex ey : Int} {t : List (Int × Int)} {L g5 g8 g9 : Nat} {w2 : World} {a : Act} {w' : World} (h : RgI C S ex ey t L g5 g8 g9 w2 a w') : ∃ (at_ : Int) (T r : List (Int × Int)) (sv : Value), 0 ≤ at_ ∧ at_ ≤ C.cycle ∧ a.tmps.size = 95 ∧ a.defers = [] ∧ a.tmps[2]? = some (.int .i64 ex) ∧ a.tmps[3]? = some (.int .i64 ey) ∧ a.tmps[4]? = some (.pointer (some ⟨L, 0, none⟩)) ∧ a.tmps[5]? = some (.pointer (some ⟨g5, 0, none⟩)) ∧ a.tmps[8]? = some (.pointer (some ⟨g8, 0, none⟩)) ∧ a.tmps[9]? = some (.pointer (some ⟨g9, 0, none⟩)) ∧ a.tmps[10]? = some (.int .i64 at_) ∧ Below g9 w2 w' ∧ RSl w' g9 (g9 + 1) C.cycle sv T ∧ GInv C.cycle S (ex, ey) t at_ T r := h
set_option maxRecDepth 100000 in
set_option maxHeartbeats 4000000 in
theorem rgates_any (C : Cf) (R : RL) (off : Int) (vW : Value) (A : Option Addr) (n c : Nat) (S : List Sp) (ex ey : Int) (ss t : List (Int × Int)) (w : World) (hv : vW.oneCell' = true) (hr : Reads w w.heap.size 4 A n (S.flatMap rsp)) (hn : S.length = n) (hnb : n ≤ 100000) (hcyc : 1 ≤ C.cycle ∧ C.cycle ≤ 1073741824) (hS : ∀ x ∈ S, GoodSp C x)
    (hp : ss.Perm (atEnd S (ex, ey))) (hs1 : ss.Pairwise (fun x y => x.1 ≤ y.1)) (hg : goV C.cycle 0 ss = some t) (ht : t.length ≤ 100000) :
    Calls Try.prog 15 #[.agg (rfc C R), .agg #[.int .i64 off, vW, .slice A n c], .int .i64 ex, .int .i64 ey] w fun e w' => ∃ sv, e = .returned (.agg #[.int .i64 0, .int .i64 C.cycle, sv]) ∧ Below w.heap.size w w' ∧ w'.ownsRow w.heap.size 68 2 sv t.length (t.flatMap spc) := by
  refine calls_sm (N := 95) Try.func15 rfl (by kernel_rfl) ?_
  intro a hs hd ha
  have e0 : a.tmps[0]? = some (.agg (rfc C R)) := ha 0 _ rfl
  have e1 : a.tmps[1]? = some (.agg #[.int .i64 off, vW, .slice A n c]) := ha 1 _ rfl
  have e2 : a.tmps[2]? = some (.int .i64 ex) := ha 2 _ rfl
  have e3 : a.tmps[3]? = some (.int .i64 ey) := ha 3 _ rfl
  clear ha
  conv => arg 2; whnf
  refine wp_seq_k fun Kq1 hKq1 => ?_
  refine sm_list [0, 1, 4, 5] 8 1 hs hd (by kernel_rfl) (agC e0 (agC e1 (agU (agU agN)))) rfl ?_
  simp only [rq, reOper, reOp, reO, reC, reK, Nat.reduceLeDiff, Nat.reduceEqDiff, ↓reduceIte, Nat.reduceAdd, Nat.reduceSub]
  go_wp2_with fail
  intro a H
  replace hs := H.size.trans hs
  replace hd : a.defers = [] := H.defers
  replace e2 := H.keep e2 rfl; replace e3 := H.keep e3 rfl
  clear e0
  clear e1
  have e4 : a.tmps[4]? = some _ := H.got rfl rfl
  have e5 : a.tmps[5]? = some _ := H.got rfl rfl
  have e8 : a.tmps[8]? = some _ := H.got rfl rfl
  clear H
  refine hKq1 _ _ ?_
  clear hKq1 Kq1
  refine wp_seq_k fun Kq2 hKq2 => ?_
  have B4 := ((Blk.new w 42 (rfc C R)).alloc (.cells (#[.int .i64 off, vW, .slice A n c] : Array Value) 47)).alloc (.cells #[.int .i64 0, .int .i64 0, .slice none 0 0] 64)
  have B5 := (Blk.new (w.alloc (.cells (rfc C R) 42)) 47 (#[.int .i64 off, vW, .slice A n c] : Array Value)).alloc (.cells #[.int .i64 0, .int .i64 0, .slice none 0 0] 64)
  have B8 := Blk.new ((w.alloc (.cells (rfc C R) 42)).alloc (.cells (#[.int .i64 off, vW, .slice A n c] : Array Value) 47)) 64 #[.int .i64 0, .int .i64 0, .slice none 0 0]
  have L0 : Below w.heap.size w (((w.alloc (.cells (rfc C R) 42)).alloc (.cells (#[.int .i64 off, vW, .slice A n c] : Array Value) 47)).alloc (.cells #[.int .i64 0, .int .i64 0, .slice none 0 0] 64)) := (((Below.refl _ _).alloc (Nat.le_refl _) _).alloc (by simp) _).alloc (by simp; omega) _
  obtain ⟨g5, hg5⟩ : ∃ g, g = (w.alloc (.cells (rfc C R) 42)).heap.size := ⟨_, rfl⟩
  obtain ⟨g8, hg8⟩ : ∃ g, g = ((w.alloc (.cells (rfc C R) 42)).alloc (.cells (#[.int .i64 off, vW, .slice A n c] : Array Value) 47)).heap.size := ⟨_, rfl⟩
  have e5q : a.tmps[5]? = some (.pointer (some ⟨g5, 0, none⟩)) := by rw [hg5]; simpa using e5
  have e8q : a.tmps[8]? = some (.pointer (some ⟨g8, 0, none⟩)) := by rw [hg8]; simpa using e8
  replace e5 := e5q
  replace e8 := e8q
  clear e5q e8q
  have h48 : w.heap.size < g5 ∧ g5 < g8 := by rw [hg5, hg8]; simp
  rw [← hg5] at B5
  rw [← hg8] at B8
  clear hg5 hg8
  replace hr := hr.below L0
  generalize (((w.alloc (.cells (rfc C R) 42)).alloc (.cells (#[.int .i64 off, vW, .slice A n c] : Array Value) 47)).alloc (.cells #[.int .i64 0, .int .i64 0, .slice none 0 0] 64)) = w1 at *
  obtain ⟨L, hL⟩ : ∃ B, B = w.heap.size := ⟨_, rfl⟩
  rw [← hL] at hr L0 h48 e4 B4
  have HLL := Lib.hid hL
  have hz8 : g8 < w1.heap.size := B8.lt
  obtain ⟨ho4, ho5⟩ := h48
  obtain ⟨hc1, hc2⟩ := hcyc
  have HG0 := Lib.hid (GInv.start hp hs1 hg (fun x hx => (hS x hx).1))
  have HS : Hid (∀ y ∈ S, 0 ≤ y.2.1 ∧ y.2.1 < y.2.2 ∧ y.2.2 ≤ C.cycle) := Lib.hid hS
  have HR := Lib.hid hr
  have HN := Lib.hid hn
  clear hL hr hn hp hs1 hg hS
  have c5 := B4.cellOf (v := .int .i64 C.cycle) 5 rfl
  refine sm_list [4, 9] 14 4 hs hd (by kernel_rfl) (agC e4 (agU agN)) rfl ?_
  simp only [rq, reOper, reOp, reO, reC, reK, Nat.reduceLeDiff, Nat.reduceEqDiff, ↓reduceIte, Nat.reduceAdd, Nat.reduceSub]
  go_wp2_with (first | (refine wpList_store_new rfl 64 (.tmp 1) (.tmp 5) rfl rfl rfl rfl rfl (by kernel_rfl) (by rw [← Array.all_toList]; rfl) ?_) | fail)
  intro a H
  replace hs := H.size.trans hs
  replace hd : a.defers = [] := H.defers
  replace e4 : a.tmps[4]? = some _ := H.got rfl rfl
  replace e2 := H.keep e2 rfl; replace e3 := H.keep e3 rfl; replace e5 := H.keep e5 rfl; replace e8 := H.keep e8 rfl
  have e9 : a.tmps[9]? = some _ := H.got rfl rfl
  clear H
  refine hKq2 _ _ ?_
  clear hKq2 Kq2
  refine wp_seq_k fun Kq3 hKq3 => ?_
  clear c5
  have L1 : Below w1.heap.size w1 (w1.alloc (.cells #[.int .i64 0, .int .i64 C.cycle, .slice none 0 0] 64)) := (Below.refl _ _).alloc (Nat.le_refl _) _
  have R0 : RSl (w1.alloc (.cells #[.int .i64 0, .int .i64 C.cycle, .slice none 0 0] 64)) w1.heap.size (w1.heap.size + 1) C.cycle (.slice none 0 0) [] := ⟨Blk.new w1 _ _, ownsRow_nil _ _ _ _, by simp, Nat.lt_succ_self _⟩
  replace B4 := B4.kept L1
  replace B5 := B5.kept L1
  replace B8 := B8.kept L1
  have L2 : Below L w (w1.alloc (.cells #[.int .i64 0, .int .i64 C.cycle, .slice none 0 0] 64)) := L0.trans (L1.mono (by omega))
  have hrw2 := HR.out.below (L1.mono (by omega : L ≤ w1.heap.size))
  generalize (w1.alloc (.cells #[.int .i64 0, .int .i64 C.cycle, .slice none 0 0] 64)) = w2 at *
  obtain ⟨g9, hg9⟩ : ∃ g, g = w1.heap.size := ⟨_, rfl⟩
  rw [← hg9] at R0 e9 hz8
  clear hg9
  have HR2 := Lib.hid hrw2
  clear hrw2 L1 L0
  refine sm_list [] 10 1 hs hd (by kernel_rfl) agN rfl ?_
  simp only [rq, reOper, reOp, reO, reC, reK, Nat.reduceLeDiff, Nat.reduceEqDiff, ↓reduceIte, Nat.reduceAdd, Nat.reduceSub]
  go_wp2_with fail
  intro a H
  replace hs := H.size.trans hs
  replace hd : a.defers = [] := H.defers
  replace e2 := H.keep e2 rfl; replace e3 := H.keep e3 rfl; replace e4 := H.keep e4 rfl; replace e5 := H.keep e5 rfl; replace e8 := H.keep e8 rfl; replace e9 := H.keep e9 rfl
  have e10 : a.tmps[10]? = some _ := H.got rfl rfl
  clear H
  refine hKq3 _ _ ?_
  clear hKq3 Kq3
  refine wp_seq_k fun Kq4 hKq4 => ?_
  refine wp_block ?_
  refine wp_loop (RgI C S ex ey t L g5 g8 g9 w2) (fun a _ => (C.cycle - intOf (a.tmps.getD 10 undef)).toNat) ?_ ?_
  · exact RgI.intro ⟨0, [], ss, _, by omega, by omega, hs, hd, e2, e3, e4, e5, e8, e9, e10, Below.refl _ _, R0, HG0.out⟩
  clear hs hd e10 e2 e3 e4 e5 e8 e9 a R0 HG0
  rintro a w3 hinv
  obtain ⟨at_, T, r, sv, ha0, ha1, hs, hd, e2, e3, e4, e5, e8, e9, e10, hb3, R3, hG⟩ := hinv.out
  clear hinv
  have hm := slot e10
  have HG := Lib.hid hG
  clear hG
  have hTl := Nat.le_trans HG.out.len ht
  have B43 : Blk w3 L 42 (rfc C R) := B4.below hb3 (by omega)
  refine wp_seq_k fun Kq5 hKq5 => ?_
  refine wp_seq_k fun Kq6 hKq6 => ?_
  have c5 := B43.cellOf (v := .int .i64 C.cycle) 5 rfl
  by_cases hlt : at_ < C.cycle
  ·
    have dj : decide (at_ < C.cycle) = true := decide_eq_true hlt
    refine sm_list [4, 10] 18 5 hs hd (by kernel_rfl) (agC e4 (agC e10 agN)) rfl ?_
    simp only [rq, reOper, reOp, reO, reC, reK, Nat.reduceLeDiff, Nat.reduceEqDiff, ↓reduceIte, Nat.reduceAdd, Nat.reduceSub]
    go_wp2_with fail
    intro a H
    replace hs := H.size.trans hs
    replace hd : a.defers = [] := H.defers
    replace e4 : a.tmps[4]? = some _ := H.got rfl rfl
    replace e10 : a.tmps[10]? = some _ := H.got rfl rfl
    replace e2 := H.keep e2 rfl; replace e3 := H.keep e3 rfl; replace e5 := H.keep e5 rfl; replace e8 := H.keep e8 rfl; replace e9 := H.keep e9 rfl
    have e22 : a.tmps[22]? = some _ := H.got rfl rfl
    clear H
    refine hKq6 _ _ ?_
    clear hKq6 Kq6
    refine wp_cond_true (slotE e22) ?_
    clear e22
    refine wp_skip ?_
    refine hKq5 _ _ ?_
    clear hKq5 Kq5
    refine wp_block ?_
    refine wp_seq_k fun Kq7 hKq7 => ?_
    refine sm_list [4, 11] 23 7 hs hd (by kernel_rfl) (agC e4 (agU agN)) rfl ?_
    simp only [rq, reOper, reOp, reO, reC, reK, Nat.reduceLeDiff, Nat.reduceEqDiff, ↓reduceIte, Nat.reduceAdd, Nat.reduceSub]
    go_wp2_with (first | (refine wpList_store_new rfl 103 (.tmp 1) (.tmp 8) rfl rfl rfl rfl rfl (by kernel_rfl) (by rw [← Array.all_toList]; rfl) ?_) | fail)
    intro a H
    replace hs := H.size.trans hs
    replace hd : a.defers = [] := H.defers
    replace e4 : a.tmps[4]? = some _ := H.got rfl rfl
    replace e2 := H.keep e2 rfl; replace e3 := H.keep e3 rfl; replace e5 := H.keep e5 rfl; replace e8 := H.keep e8 rfl; replace e9 := H.keep e9 rfl; replace e10 := H.keep e10 rfl
    have e11 : a.tmps[11]? = some _ := H.got rfl rfl
    clear H
    refine hKq7 _ _ ?_
    clear hKq7 Kq7
    refine wp_seq_k fun Kq8 hKq8 => ?_
    refine wp_seq_k fun Kq9 hKq9 => ?_
    clear c5 dj
    have B11 := Blk.new w3 103 #[.int .i64 0, .int .i64 0, .int .i64 C.cycle, .int .i64 C.cycle]
    have L5 : Below w3.heap.size w3 (w3.alloc (.cells #[.int .i64 0, .int .i64 0, .int .i64 C.cycle, .int .i64 C.cycle] 103)) := (Below.refl _ _).alloc (Nat.le_refl _) _
    have R5 := R3.keep L5
    have hzz : g9 + 1 ≤ w3.heap.size := R3.hz
    have hb5 : Below g9 w2 (w3.alloc (.cells #[.int .i64 0, .int .i64 0, .int .i64 C.cycle, .int .i64 C.cycle] 103)) := hb3.trans (L5.mono (by omega))
    generalize (w3.alloc (.cells #[.int .i64 0, .int .i64 0, .int .i64 C.cycle, .int .i64 C.cycle] 103)) = w5 at *
    obtain ⟨g11, hg11⟩ : ∃ g, g = w3.heap.size := ⟨_, rfl⟩
    rw [← hg11] at B11 e11 hzz
    clear hg11 L5 R3 hb3 B43
    have B55 : Blk w5 g5 47 (#[.int .i64 off, vW, .slice A n c] : Array Value) := B5.below hb5 (by omega)
    have p2 := B55.cellOf (v := .slice A n c) 2 rfl
    refine sm_list [5] 30 4 hs hd (by kernel_rfl) (agC e5 agN) rfl ?_
    simp only [rq, reOper, reOp, reO, reC, reK, Nat.reduceLeDiff, Nat.reduceEqDiff, ↓reduceIte, Nat.reduceAdd, Nat.reduceSub]
    go_wp2_with fail
    intro a H
    replace hs := H.size.trans hs
    replace hd : a.defers = [] := H.defers
    replace e5 : a.tmps[5]? = some _ := H.got rfl rfl
    replace e2 := H.keep e2 rfl; replace e3 := H.keep e3 rfl; replace e4 := H.keep e4 rfl; replace e8 := H.keep e8 rfl; replace e9 := H.keep e9 rfl; replace e10 := H.keep e10 rfl; replace e11 := H.keep e11 rfl
    have e31 : a.tmps[31]? = some _ := H.got rfl rfl
    have e32 : a.tmps[32]? = some _ := H.got rfl rfl
    have e33 : a.tmps[33]? = some _ := H.got rfl rfl
    clear H
    refine hKq9 _ _ ?_
    clear hKq9 Kq9
    refine wp_block ?_
    clear p2 B55
    refine wp_loop (fun a w' => ∃ (j : Nat) (cur : Sp), j ≤ n ∧ a.tmps.size = 95 ∧ a.defers = [] ∧ a.tmps[2]? = some (.int .i64 ex) ∧ a.tmps[3]? = some (.int .i64 ey) ∧ a.tmps[4]? = some (.pointer (some ⟨L, 0, none⟩)) ∧ a.tmps[5]? = some (.pointer (some ⟨g5, 0, none⟩)) ∧ a.tmps[8]? = some (.pointer (some ⟨g8, 0, none⟩)) ∧ a.tmps[9]? = some (.pointer (some ⟨g9, 0, none⟩)) ∧ a.tmps[10]? = some (.int .i64 at_) ∧ a.tmps[11]? = some (.pointer (some ⟨g11, 0, none⟩)) ∧ a.tmps[31]? = some (.slice A n c) ∧ a.tmps[32]? = some (.int .i64 (n : Int)) ∧ a.tmps[33]? = some (.int .i64 (j : Int)) ∧ Below g9 w2 w' ∧ RSl w' g9 (g9 + 1) C.cycle sv T ∧ Blk w' g11 103 (rsp cur).toArray ∧ Hid (cur = (Cand S (ex, ey) at_ C.cycle j))) (fun a _ => n - (intOf (a.tmps.getD 33 undef)).toNat) ?_ ?_
    · exact ⟨0, ((0, 0), (C.cycle, C.cycle)), Nat.zero_le _, hs, hd, e2, e3, e4, e5, e8, e9, e10, e11, e31, e32, e33, hb5, R5, B11, Lib.hid (Cand.zero S (ex, ey) at_ C.cycle).symm⟩
    clear hs hd e33 e2 e3 e4 e5 e8 e9 e10 e11 e31 e32 a hb5 R5 B11
    rintro a w6 ⟨j, ⟨⟨c1, c2⟩, c3, c4⟩, hj, hs, hd, e2, e3, e4, e5, e8, e9, e10, e11, e31, e32, e33, hb6, R6, B11, HC⟩
    have hmj := slot e33
    refine wp_seq_k fun Kq10 hKq10 => ?_
    by_cases hlj : j < n
    ·
      have dk : decide ((j : Int) < (n : Int)) = true := decide_eq_true (by omega)
      obtain ⟨⟨⟨x1, x2⟩, x3, x4⟩, hx⟩ : ∃ x, S[j]? = some x := ⟨_, List.getElem?_eq_getElem (by rw [HN.out]; exact hlj)⟩
      have dk : decide ((j : Int) < (n : Int)) = true := decide_eq_true (by omega)
      obtain ⟨⟨⟨x1, x2⟩, x3, x4⟩, hx⟩ : ∃ x, S[j]? = some x := ⟨_, List.getElem?_eq_getElem (by rw [HN.out]; exact hlj)⟩
      obtain ⟨ad, hA, hadb, hcl⟩ := reads_at rsp_len (HR2.out.below (hb6.mono (by omega))) hx hlj
      have HCL := Lib.hid hcl
      have HA := Lib.hid hA
      have HX := Lib.hid hx
      clear hcl hA hx
      rw [HA.out] at e31
      refine sm_list [32, 33] 34 1 hs hd (by kernel_rfl) (agC e32 (agC e33 agN)) rfl ?_
      simp only [rq, reOper, reOp, reO, reC, reK, Nat.reduceLeDiff, Nat.reduceEqDiff, ↓reduceIte, Nat.reduceAdd, Nat.reduceSub]
      go_wp2_with fail
      intro a H
      replace hs := H.size.trans hs
      replace hd : a.defers = [] := H.defers
      replace e32 : a.tmps[32]? = some _ := H.got rfl rfl
      replace e33 : a.tmps[33]? = some _ := H.got rfl rfl
      replace e2 := H.keep e2 rfl; replace e3 := H.keep e3 rfl; replace e4 := H.keep e4 rfl; replace e5 := H.keep e5 rfl; replace e8 := H.keep e8 rfl; replace e9 := H.keep e9 rfl; replace e10 := H.keep e10 rfl; replace e11 := H.keep e11 rfl; replace e31 := H.keep e31 rfl
      have e34 : a.tmps[34]? = some _ := H.got rfl rfl
      clear H
      refine hKq10 _ _ ?_
      clear hKq10 Kq10
      refine wp_seq_k fun Kq11 hKq11 => ?_
      refine wp_cond_true (slotE e34) ?_
      clear e34
      refine wp_skip ?_
      refine hKq11 _ _ ?_
      clear hKq11 Kq11
      refine wp_seq_k fun Kq12 hKq12 => ?_
      refine wp_block ?_
      refine wp_seq_k fun Kq13 hKq13 => ?_
      have B13 := Blk.new w6 103 #[.int .i64 x1, .int .i64 x2, .int .i64 x3, .int .i64 x4]
      have L7 : Below w6.heap.size w6 (w6.alloc (.cells #[.int .i64 x1, .int .i64 x2, .int .i64 x3, .int .i64 x4] 103)) := (Below.refl _ _).alloc (Nat.le_refl _) _
      have R7 := R6.keep L7
      have B117 := B11.kept L7
      have hz6 : g9 + 1 ≤ w6.heap.size := R6.hz
      have hb7 : Below g9 w2 (w6.alloc (.cells #[.int .i64 x1, .int .i64 x2, .int .i64 x3, .int .i64 x4] 103)) := hb6.trans (L7.mono (by omega))
      refine sm_list [13, 31, 33] 35 2 hs hd (by kernel_rfl) (agU (agC e31 (agC e33 agN))) rfl ?_
      simp only [rq, reOper, reOp, reO, reC, reK, Nat.reduceLeDiff, Nat.reduceEqDiff, ↓reduceIte, Nat.reduceAdd, Nat.reduceSub]
      go_wp2_with (first | (refine wpList_load_any_d rfl 103 (.tmp 3) rfl (ad.add (j * 4)) rfl (#[.int .i64 x1, .int .i64 x2, .int .i64 x3, .int .i64 x4]) _ (fun j u hu => HCL.out j u hu) Try.underlying103 rfl (by kernel_rfl) ?_) | (refine wpList_store_new rfl 103 (.tmp 0) (.tmp 4) rfl rfl rfl rfl rfl (by kernel_rfl) (by rw [← Array.all_toList]; rfl) ?_) | fail)
      intro a H
      replace hs := H.size.trans hs
      replace hd : a.defers = [] := H.defers
      replace e31 : a.tmps[31]? = some _ := H.got rfl rfl
      replace e33 : a.tmps[33]? = some _ := H.got rfl rfl
      replace e2 := H.keep e2 rfl; replace e3 := H.keep e3 rfl; replace e4 := H.keep e4 rfl; replace e5 := H.keep e5 rfl; replace e8 := H.keep e8 rfl; replace e9 := H.keep e9 rfl; replace e10 := H.keep e10 rfl; replace e11 := H.keep e11 rfl; replace e32 := H.keep e32 rfl
      have e13 : a.tmps[13]? = some _ := H.got rfl rfl
      clear H
      refine hKq13 _ _ ?_
      clear hKq13 Kq13
      refine wp_seq_k fun Kq14 hKq14 => ?_
      rw [← HA.out] at e31
      have hg13 : w6.heap.size ≠ g11 := fun e => by have := B11.lt; omega
      generalize (w6.alloc (.cells #[.int .i64 x1, .int .i64 x2, .int .i64 x3, .int .i64 x4] 103)) = w7 at *
      obtain ⟨g13, hg13e⟩ : ∃ g, g = w6.heap.size := ⟨_, rfl⟩
      rw [← hg13e] at B13 e13 hg13
      clear hg13e L7 R6 B11 hb6 dk hz6
      have u0 := B13.cellOf (v := .int .i64 x1) 0 rfl
      have u1 := B13.cellOf (v := .int .i64 x2) 1 rfl
      have u2 := B13.cellOf (v := .int .i64 x3) 2 rfl
      have u3 := B13.cellOf (v := .int .i64 x4) 3 rfl
      have s2 := B117.cellOf (v := .int .i64 c3) 2 rfl
      suffices HK : ∀ (a' : Act), a'.tmps.size = a.tmps.size → a'.defers = [] → a'.tmps[2]? = a.tmps[2]? → a'.tmps[3]? = a.tmps[3]? → a'.tmps[4]? = a.tmps[4]? → a'.tmps[5]? = a.tmps[5]? → a'.tmps[8]? = a.tmps[8]? → a'.tmps[9]? = a.tmps[9]? → a'.tmps[10]? = a.tmps[10]? → a'.tmps[11]? = a.tmps[11]? → a'.tmps[31]? = a.tmps[31]? → a'.tmps[32]? = a.tmps[32]? → a'.tmps[33]? = a.tmps[33]? → a'.tmps[13]? = a.tmps[13]? → a'.tmps[59]? = some (.bool (decide (x1 = ex ∧ x2 = ey ∧ at_ ≤ x3 ∧ x3 < c3))) → Kq14 a' w7 by
        by_cases q1 : x1 = ex
        all_goals by_cases q2 : x2 = ey
        all_goals by_cases q3 : at_ ≤ x3
        all_goals first | (have d1 : (x1 == ex) = true := beq_iff_eq.2 q1) | (have d1 : (x1 == ex) = false := beq_eq_false_iff_ne.2 q1)
        all_goals first | (have d2 : (x2 == ey) = true := beq_iff_eq.2 q2) | (have d2 : (x2 == ey) = false := beq_eq_false_iff_ne.2 q2)
        all_goals first | (have d3 : decide (x3 ≥ at_) = true := decide_eq_true q3) | (have d3 : decide (x3 ≥ at_) = false := decide_eq_false q3)
        all_goals first | (have d4 : decide (at_ ≤ x3) = true := decide_eq_true q3) | (have d4 : decide (at_ ≤ x3) = false := decide_eq_false q3)
        all_goals
          refine sm_list [2, 3, 10, 11, 13] 37 23 hs hd (by kernel_rfl) (agC e2 (agC e3 (agC e10 (agC e11 (agC e13 agN))))) rfl ?_
          simp only [rq, reOper, reOp, reO, reC, reK, Nat.reduceLeDiff, Nat.reduceEqDiff, ↓reduceIte, Nat.reduceAdd, Nat.reduceSub]
          go_wp2_with fail
          all_goals
            intro a' H
            refine HK a' H.size H.defers ((H.got rfl rfl).trans e2.symm) ((H.got rfl rfl).trans e3.symm) (H.out 4 rfl) (H.out 5 rfl) (H.out 8 rfl) (H.out 9 rfl) ((H.got rfl rfl).trans e10.symm) ((H.got rfl rfl).trans e11.symm) (H.out 31 rfl) (H.out 32 rfl) (H.out 33 rfl) ((H.got rfl rfl).trans e13.symm) ?_
            · (refine (H.got (t := 59) rfl rfl).trans (congrArg some ?_); refine congrArg Value.bool ?_; first | exact (decide_eq_true (by omega)).symm | exact (decide_eq_false (by omega)).symm | (rw [Bool.eq_iff_iff]; simp only [Bool.and_eq_true, decide_eq_true_eq, beq_iff_eq] <;> omega))
      intro a' g_s g_d g2 g3 g4 g5 g8 g9 g10 g11 g31 g32 g33 g13 f59
      replace hs := g_s.trans hs
      replace hd := g_d
      replace e2 := g2.trans e2
      replace e3 := g3.trans e3
      replace e4 := g4.trans e4
      replace e5 := g5.trans e5
      replace e8 := g8.trans e8
      replace e9 := g9.trans e9
      replace e10 := g10.trans e10
      replace e11 := g11.trans e11
      replace e31 := g31.trans e31
      replace e32 := g32.trans e32
      replace e33 := g33.trans e33
      replace e13 := g13.trans e13
      clear g_s g_d g2 g3 g4 g5 g8 g9 g10 g11 g31 g32 g33 g13
      have e59 := f59
      clear f59
      clear a
      obtain ⟨a, rfl⟩ : ∃ a, a = a' := ⟨_, rfl⟩
      refine hKq14 _ _ ?_
      clear hKq14 Kq14
      clear u0 u1 u2 u3 s2
      by_cases hv : x1 = ex ∧ x2 = ey ∧ at_ ≤ x3 ∧ x3 < c3
      · rw [decide_eq_true hv] at e59
        have HC2 : Hid (((x1, x2), (x3, x4)) = Cand S (ex, ey) at_ C.cycle (j + 1)) := Lib.hid (Cand.yes HX.out ⟨by rw [hv.1, hv.2.1], hv.2.2.1, by rw [← HC.out]; exact hv.2.2.2⟩).symm
        clear hv
        have HB11 := Lib.hid B117
        have HB13 := Lib.hid B13
        clear B117 B13
        refine wp_cond_true (slotE e59) ?_
        clear e59
        refine sm_list [11, 13] 60 1 hs hd (by kernel_rfl) (agC e11 (agC e13 agN)) rfl ?_
        simp only [rq, reOper, reOp, reO, reC, reK, Nat.reduceLeDiff, Nat.reduceEqDiff, ↓reduceIte, Nat.reduceAdd, Nat.reduceSub]
        go_wp2_with (first | (refine wpList_load_any_d rfl 103 (.tmp 1) rfl ⟨g13, 0, none⟩ rfl (#[.int .i64 x1, .int .i64 x2, .int .i64 x3, .int .i64 x4]) _ (blk_cells HB13.out) Try.underlying103 rfl (by kernel_rfl) ?_) | (refine wpList_store_part rfl 103 (.tmp 0) (.tmp 2) rfl (off := 0) rfl HB11.out rfl (by simp [rsp]) (by kernel_rfl) (by rw [← Array.all_toList]; rfl) ?_; intro w8 B8x z8 gr8) | fail)
        intro a H
        replace hs := H.size.trans hs
        replace hd : a.defers = [] := H.defers
        replace e11 : a.tmps[11]? = some _ := H.got rfl rfl
        replace e13 : a.tmps[13]? = some _ := H.got rfl rfl
        replace e2 := H.keep e2 rfl; replace e3 := H.keep e3 rfl; replace e4 := H.keep e4 rfl; replace e5 := H.keep e5 rfl; replace e8 := H.keep e8 rfl; replace e9 := H.keep e9 rfl; replace e10 := H.keep e10 rfl; replace e31 := H.keep e31 rfl; replace e32 := H.keep e32 rfl; replace e33 := H.keep e33 rfl
        clear H
        refine hKq12 _ _ ?_
        clear hKq12 Kq12
        have B118 : Blk w8 g11 103 (rsp ((x1, x2), (x3, x4))).toArray := by simpa [putAll, rsp] using B8x
        have R8 := R7.far HB11.out (by decide) (by omega) gr8
        have hb8 : Below g9 w2 w8 := hb7.grown gr8 (by have := R7.hz; omega) (fun k hk => by cases hk; omega)
        clear e13
        refine sm_list [33] 61 1 hs hd (by kernel_rfl) (agC e33 agN) rfl ?_
        simp only [rq, reOper, reOp, reO, reC, reK, Nat.reduceLeDiff, Nat.reduceEqDiff, ↓reduceIte, Nat.reduceAdd, Nat.reduceSub]
        go_wp2_with fail
        intro a H
        replace hs := H.size.trans hs
        replace hd : a.defers = [] := H.defers
        replace e2 := H.keep e2 rfl; replace e3 := H.keep e3 rfl; replace e4 := H.keep e4 rfl; replace e5 := H.keep e5 rfl; replace e8 := H.keep e8 rfl; replace e9 := H.keep e9 rfl; replace e10 := H.keep e10 rfl; replace e11 := H.keep e11 rfl; replace e31 := H.keep e31 rfl; replace e32 := H.keep e32 rfl
        replace e33 : a.tmps[33]? = some _ := H.got rfl rfl
        clear H
        exact ⟨⟨j + 1, ((x1, x2), (x3, x4)), by omega, hs, hd, e2, e3, e4, e5, e8, e9, e10, e11, e31, e32, e33, hb8, R8, B118, HC2⟩, by first | (simp only [hmj, slot e33, intOf]; omega) | (simp [e33, intOf]; omega)⟩
      · rw [decide_eq_false hv] at e59
        have HC2 : Hid (((c1, c2), (c3, c4)) = Cand S (ex, ey) at_ C.cycle (j + 1)) := Lib.hid (by rw [Cand.no HX.out (fun h => hv ⟨congrArg Prod.fst h.1, congrArg Prod.snd h.1, h.2.1, by have := h.2.2; rw [← HC.out] at this; exact this⟩)]; exact HC.out)
        clear hv
        refine wp_cond_false (slotE e59) ?_
        clear e59
        refine wp_skip ?_
        refine hKq12 _ _ ?_
        clear hKq12 Kq12
        clear e13
        refine sm_list [33] 61 1 hs hd (by kernel_rfl) (agC e33 agN) rfl ?_
        simp only [rq, reOper, reOp, reO, reC, reK, Nat.reduceLeDiff, Nat.reduceEqDiff, ↓reduceIte, Nat.reduceAdd, Nat.reduceSub]
        go_wp2_with fail
        intro a H
        replace hs := H.size.trans hs
        replace hd : a.defers = [] := H.defers
        replace e2 := H.keep e2 rfl; replace e3 := H.keep e3 rfl; replace e4 := H.keep e4 rfl; replace e5 := H.keep e5 rfl; replace e8 := H.keep e8 rfl; replace e9 := H.keep e9 rfl; replace e10 := H.keep e10 rfl; replace e11 := H.keep e11 rfl; replace e31 := H.keep e31 rfl; replace e32 := H.keep e32 rfl
        replace e33 : a.tmps[33]? = some _ := H.got rfl rfl
        clear H
        exact ⟨⟨j + 1, ((c1, c2), (c3, c4)), by omega, hs, hd, e2, e3, e4, e5, e8, e9, e10, e11, e31, e32, e33, hb7, R7, B117, HC2⟩, by first | (simp only [hmj, slot e33, intOf]; omega) | (simp [e33, intOf]; omega)⟩
    · have hje : j = n := by omega
      have dk : decide ((j : Int) < (n : Int)) = false := decide_eq_false (by omega)
      have dk2 : decide (j < n) = false := decide_eq_false hlj
      have HC2 : Hid (((c1, c2), (c3, c4)) = S.foldl (pick (ex, ey) at_) ((0, 0), (C.cycle, C.cycle))) := Lib.hid (by rw [HC.out, hje, ← HN.out]; unfold Cand; rw [List.take_length])
      clear hlj hmj hje HC
      refine sm_list [32, 33] 34 1 hs hd (by kernel_rfl) (agC e32 (agC e33 agN)) rfl ?_
      simp only [rq, reOper, reOp, reO, reC, reK, Nat.reduceLeDiff, Nat.reduceEqDiff, ↓reduceIte, Nat.reduceAdd, Nat.reduceSub]
      go_wp2_with fail
      intro a H
      replace hs := H.size.trans hs
      replace hd : a.defers = [] := H.defers
      replace e32 : a.tmps[32]? = some _ := H.got rfl rfl
      replace e33 : a.tmps[33]? = some _ := H.got rfl rfl
      replace e2 := H.keep e2 rfl; replace e3 := H.keep e3 rfl; replace e4 := H.keep e4 rfl; replace e5 := H.keep e5 rfl; replace e8 := H.keep e8 rfl; replace e9 := H.keep e9 rfl; replace e10 := H.keep e10 rfl; replace e11 := H.keep e11 rfl; replace e31 := H.keep e31 rfl
      have e34 : a.tmps[34]? = some _ := H.got rfl rfl
      clear H
      refine hKq10 _ _ ?_
      clear hKq10 Kq10
      refine wp_seq_k fun Kq11 hKq11 => ?_
      refine wp_cond_false (slotE e34) ?_
      clear e34
      refine wp_exit ?_
      refine exit_then rfl ?_
      clear hKq11 Kq11
      refine exit_then rfl ?_
      refine exit_hit ?_
      refine hKq8 _ _ ?_
      clear hKq8 Kq8
      refine wp_seq_k fun Kq12 hKq12 => ?_
      refine wp_seq_k fun Kq13 hKq13 => ?_
      clear e31
      clear e32
      clear e33
      have s2 := B11.cellOf (v := .int .i64 c3) 2 rfl
      have s3 := B11.cellOf (v := .int .i64 c4) 3 rfl
      clear dk dk2
      rcases r with _ | ⟨⟨a1, b1⟩, r⟩
      · have hlast := HG.out.last HS.out
        have h34 : c3 = C.cycle ∧ c4 = C.cycle := by have h := HC2.out; have h2 := hlast.1; rw [← h] at h2; simpa using h2
        obtain ⟨rfl, rfl⟩ := h34
        have HGF := Lib.hid (HG.out.full hlt)
        have d1 : decide (C.cycle > at_) = true := decide_eq_true hlt
        have d1b : decide (at_ < C.cycle) = true := decide_eq_true hlt
        clear hlast HC2
        have hbq := hb6
        clear hb6
        refine sm_list [10, 11] 62 4 hs hd (by kernel_rfl) (agC e10 (agC e11 agN)) rfl ?_
        simp only [rq, reOper, reOp, reO, reC, reK, Nat.reduceLeDiff, Nat.reduceEqDiff, ↓reduceIte, Nat.reduceAdd, Nat.reduceSub]
        go_wp2_with fail
        intro a H
        replace hs := H.size.trans hs
        replace hd : a.defers = [] := H.defers
        replace e10 : a.tmps[10]? = some _ := H.got rfl rfl
        replace e11 : a.tmps[11]? = some _ := H.got rfl rfl
        replace e2 := H.keep e2 rfl; replace e3 := H.keep e3 rfl; replace e4 := H.keep e4 rfl; replace e5 := H.keep e5 rfl; replace e8 := H.keep e8 rfl; replace e9 := H.keep e9 rfl
        have e65 : a.tmps[65]? = some _ := H.got rfl rfl
        clear H
        refine hKq13 _ _ ?_
        clear hKq13 Kq13
        refine wp_cond_true (slotE e65) ?_
        clear e65
        clear d1 d1b
        have p2 := R6.B.cellOf (v := sv) 2 rfl
        have HR5 := Lib.hid R6
        have hzq : g9 < w6.heap.size := R6.B.lt
        have B11n : (sv).ownBlock ≠ some g11 := own_blk_ne R6.own B11 (by decide)
        have HB11 := Lib.hid B11
        have HB11n := Lib.hid B11n
        clear R6 B11n B11
        refine sm_list [9, 10, 11] 66 10 hs hd (by kernel_rfl) (agC e9 (agC e10 (agC e11 agN))) rfl ?_
        simp only [rq, reOper, reOp, reO, reC, reK, Nat.reduceLeDiff, Nat.reduceEqDiff, ↓reduceIte, Nat.reduceAdd, Nat.reduceSub]
        go_wp2_with (first | (at_builtin; refine wpList_pushG 1 rfl (.tmp 4) (.tmp 10) 62 rfl rsG (wr := w6) (cs := #[.int .i64 127, .int .i64 (C.cycle - at_)]) rfl (by intro u hu; simp at hu; rcases hu with rfl | rfl <;> rfl) (v := sv) rfl HR5.out.own rfl rfl (by first | omega | (simp; omega)) HR5.out.hz ?_; intro v2 wq own2 gr2 mv2; obtain ⟨Bx, SX, bx⟩ := HR5.out.push (127, C.cycle - at_) own2 gr2; obtain ⟨Av, cv, rfl, _, _⟩ := ownsRow_reads own2; have fz := Bx.frozen; have xl := Bx.lt; have xc := Bx.cellOf (v := sv) 2 rfl; have SX := Lib.hid SX; have bx := Lib.hid bx; have BY := Lib.hid ((HB11.out.grown gr2 (Ne.symm HB11n.out)).far (p := ⟨g9, 2, none⟩) (by show g11 ≠ g9; omega) (.slice Av (T.length + 1) cv)); clear own2 gr2 mv2 Bx) | fail)
        intro a H
        replace hs := H.size.trans hs
        replace hd : a.defers = [] := H.defers
        replace e9 : a.tmps[9]? = some _ := H.got rfl rfl
        replace e10 : a.tmps[10]? = some _ := H.got rfl rfl
        replace e11 : a.tmps[11]? = some _ := H.got rfl rfl
        replace e2 := H.keep e2 rfl; replace e3 := H.keep e3 rfl; replace e4 := H.keep e4 rfl; replace e5 := H.keep e5 rfl; replace e8 := H.keep e8 rfl
        clear H
        refine hKq12 _ _ ?_
        clear hKq12 Kq12
        refine wp_seq_k fun Kq14 hKq14 => ?_
        refine wp_seq_k fun Kq15 hKq15 => ?_
        have R30 := SX.out
        have B11 := BY.out
        have hb40 := hbq.trans bx.out
        clear hbq
        have hbq := hb40
        clear hb40 p2 fz xl xc SX bx BY HR5 HB11 HB11n hzq
        generalize hsv : Value.slice Av (T.length + 1) cv = sv0 at *
        clear hsv
        generalize wq.setCell ⟨g9, 2, none⟩ sv0 = w20 at *
        have s2 := B11.cellOf (v := .int .i64 C.cycle) 2 rfl
        have s3 := B11.cellOf (v := .int .i64 C.cycle) 3 rfl
        have d2 : decide (C.cycle > C.cycle) = false := decide_eq_false (by omega)
        have d2b : decide (C.cycle < C.cycle) = false := decide_eq_false (by omega)
        refine sm_list [11] 76 5 hs hd (by kernel_rfl) (agC e11 agN) rfl ?_
        simp only [rq, reOper, reOp, reO, reC, reK, Nat.reduceLeDiff, Nat.reduceEqDiff, ↓reduceIte, Nat.reduceAdd, Nat.reduceSub]
        go_wp2_with fail
        intro a H
        replace hs := H.size.trans hs
        replace hd : a.defers = [] := H.defers
        replace e11 : a.tmps[11]? = some _ := H.got rfl rfl
        replace e2 := H.keep e2 rfl; replace e3 := H.keep e3 rfl; replace e4 := H.keep e4 rfl; replace e5 := H.keep e5 rfl; replace e8 := H.keep e8 rfl; replace e9 := H.keep e9 rfl; replace e10 := H.keep e10 rfl
        have e80 : a.tmps[80]? = some _ := H.got rfl rfl
        clear H
        refine hKq15 _ _ ?_
        clear hKq15 Kq15
        refine wp_cond_false (slotE e80) ?_
        clear e80
        refine wp_skip ?_
        refine hKq14 _ _ ?_
        clear hKq14 Kq14
        refine sm_list [10, 11] 92 2 hs hd (by kernel_rfl) (agC e10 (agC e11 agN)) rfl ?_
        simp only [rq, reOper, reOp, reO, reC, reK, Nat.reduceLeDiff, Nat.reduceEqDiff, ↓reduceIte, Nat.reduceAdd, Nat.reduceSub]
        go_wp2_with fail
        intro a H
        replace hs := H.size.trans hs
        replace hd : a.defers = [] := H.defers
        replace e11 : a.tmps[11]? = some _ := H.got rfl rfl
        replace e2 := H.keep e2 rfl; replace e3 := H.keep e3 rfl; replace e4 := H.keep e4 rfl; replace e5 := H.keep e5 rfl; replace e8 := H.keep e8 rfl; replace e9 := H.keep e9 rfl
        replace e10 : a.tmps[10]? = some _ := H.got rfl rfl
        clear H
        exact ⟨RgI.intro ⟨C.cycle, _, [], sv0, by omega, by omega, hs, hd, e2, e3, e4, e5, e8, e9, e10, hbq, R30, HGF.out⟩, by first | (simp only [hm, slot e10, intOf]; omega) | (simp [e10, intOf]; omega)⟩
      · obtain ⟨n1, n2, n3, _, n4, n5⟩ := HG.out.next HS.out
        simp only at n1 n2 n3 n5
        have h34 : c3 = a1 ∧ c4 = b1 := by have h := HC2.out; rw [← h] at n4; simpa using n4
        obtain ⟨rfl, rfl⟩ := h34
        have HGF := Lib.hid n5
        clear n4 n5 HC2
        have hbq := hb6
        clear hb6
        by_cases hgap : at_ < c3
        · have d1 : decide (c3 > at_) = true := decide_eq_true hgap
          have d1b : decide (at_ < c3) = true := decide_eq_true hgap
          rw [if_pos hgap] at HGF
          refine sm_list [10, 11] 62 4 hs hd (by kernel_rfl) (agC e10 (agC e11 agN)) rfl ?_
          simp only [rq, reOper, reOp, reO, reC, reK, Nat.reduceLeDiff, Nat.reduceEqDiff, ↓reduceIte, Nat.reduceAdd, Nat.reduceSub]
          go_wp2_with fail
          intro a H
          replace hs := H.size.trans hs
          replace hd : a.defers = [] := H.defers
          replace e10 : a.tmps[10]? = some _ := H.got rfl rfl
          replace e11 : a.tmps[11]? = some _ := H.got rfl rfl
          replace e2 := H.keep e2 rfl; replace e3 := H.keep e3 rfl; replace e4 := H.keep e4 rfl; replace e5 := H.keep e5 rfl; replace e8 := H.keep e8 rfl; replace e9 := H.keep e9 rfl
          have e65 : a.tmps[65]? = some _ := H.got rfl rfl
          clear H
          refine hKq13 _ _ ?_
          clear hKq13 Kq13
          refine wp_cond_true (slotE e65) ?_
          clear e65
          clear d1 d1b
          have p2 := R6.B.cellOf (v := sv) 2 rfl
          have HR5 := Lib.hid R6
          have hzq : g9 < w6.heap.size := R6.B.lt
          have B11n : (sv).ownBlock ≠ some g11 := own_blk_ne R6.own B11 (by decide)
          have HB11 := Lib.hid B11
          have HB11n := Lib.hid B11n
          clear R6 B11n B11
          refine sm_list [9, 10, 11] 66 10 hs hd (by kernel_rfl) (agC e9 (agC e10 (agC e11 agN))) rfl ?_
          simp only [rq, reOper, reOp, reO, reC, reK, Nat.reduceLeDiff, Nat.reduceEqDiff, ↓reduceIte, Nat.reduceAdd, Nat.reduceSub]
          go_wp2_with (first | (at_builtin; refine wpList_pushG 1 rfl (.tmp 4) (.tmp 10) 62 rfl rsG (wr := w6) (cs := #[.int .i64 127, .int .i64 (c3 - at_)]) rfl (by intro u hu; simp at hu; rcases hu with rfl | rfl <;> rfl) (v := sv) rfl HR5.out.own rfl rfl (by first | omega | (simp; omega)) HR5.out.hz ?_; intro v2 wq own2 gr2 mv2; obtain ⟨Bx, SX, bx⟩ := HR5.out.push (127, c3 - at_) own2 gr2; obtain ⟨Av, cv, rfl, _, _⟩ := ownsRow_reads own2; have fz := Bx.frozen; have xl := Bx.lt; have xc := Bx.cellOf (v := sv) 2 rfl; have SX := Lib.hid SX; have bx := Lib.hid bx; have BY := Lib.hid ((HB11.out.grown gr2 (Ne.symm HB11n.out)).far (p := ⟨g9, 2, none⟩) (by show g11 ≠ g9; omega) (.slice Av (T.length + 1) cv)); clear own2 gr2 mv2 Bx) | fail)
          intro a H
          replace hs := H.size.trans hs
          replace hd : a.defers = [] := H.defers
          replace e9 : a.tmps[9]? = some _ := H.got rfl rfl
          replace e10 : a.tmps[10]? = some _ := H.got rfl rfl
          replace e11 : a.tmps[11]? = some _ := H.got rfl rfl
          replace e2 := H.keep e2 rfl; replace e3 := H.keep e3 rfl; replace e4 := H.keep e4 rfl; replace e5 := H.keep e5 rfl; replace e8 := H.keep e8 rfl
          clear H
          refine hKq12 _ _ ?_
          clear hKq12 Kq12
          refine wp_seq_k fun Kq14 hKq14 => ?_
          refine wp_seq_k fun Kq15 hKq15 => ?_
          have R30 := SX.out
          have B11 := BY.out
          have hb40 := hbq.trans bx.out
          clear hbq
          have hbq := hb40
          clear hb40 p2 fz xl xc SX bx BY HR5 HB11 HB11n hzq
          generalize hsv : Value.slice Av (T.length + 1) cv = sv0 at *
          clear hsv
          generalize wq.setCell ⟨g9, 2, none⟩ sv0 = w20 at *
          obtain ⟨T1, hT1⟩ : ∃ T1, T1 = T ++ [((127 : Int), c3 - at_)] := ⟨_, rfl⟩
          have hTl1 : T1.length ≤ 100001 := by rw [hT1]; simp; omega
          rw [← hT1] at R30
          have HT1 := Lib.hid hT1
          clear hT1
          have s2 := B11.cellOf (v := .int .i64 c3) 2 rfl
          have s3 := B11.cellOf (v := .int .i64 c4) 3 rfl
          have d2 : decide (c4 > c3) = true := decide_eq_true n2
          have d2b : decide (c3 < c4) = true := decide_eq_true n2
          refine sm_list [11] 76 5 hs hd (by kernel_rfl) (agC e11 agN) rfl ?_
          simp only [rq, reOper, reOp, reO, reC, reK, Nat.reduceLeDiff, Nat.reduceEqDiff, ↓reduceIte, Nat.reduceAdd, Nat.reduceSub]
          go_wp2_with fail
          intro a H
          replace hs := H.size.trans hs
          replace hd : a.defers = [] := H.defers
          replace e11 : a.tmps[11]? = some _ := H.got rfl rfl
          replace e2 := H.keep e2 rfl; replace e3 := H.keep e3 rfl; replace e4 := H.keep e4 rfl; replace e5 := H.keep e5 rfl; replace e8 := H.keep e8 rfl; replace e9 := H.keep e9 rfl; replace e10 := H.keep e10 rfl
          have e80 : a.tmps[80]? = some _ := H.got rfl rfl
          clear H
          refine hKq15 _ _ ?_
          clear hKq15 Kq15
          refine wp_cond_true (slotE e80) ?_
          clear e80
          clear d2 d2b
          have p2 := R30.B.cellOf (v := sv0) 2 rfl
          have HR5 := Lib.hid R30
          have hzq : g9 < w20.heap.size := R30.B.lt
          have B11n : (sv0).ownBlock ≠ some g11 := own_blk_ne R30.own B11 (by decide)
          have HB11 := Lib.hid B11
          have HB11n := Lib.hid B11n
          clear R30 B11n B11
          refine sm_list [9, 11] 81 11 hs hd (by kernel_rfl) (agC e9 (agC e11 agN)) rfl ?_
          simp only [rq, reOper, reOp, reO, reC, reK, Nat.reduceLeDiff, Nat.reduceEqDiff, ↓reduceIte, Nat.reduceAdd, Nat.reduceSub]
          go_wp2_with (first | (at_builtin; refine wpList_pushG 1 rfl (.tmp 3) (.tmp 10) 62 rfl rsG (wr := w20) (cs := #[.int .i64 128, .int .i64 (c4 - c3)]) rfl (by intro u hu; simp at hu; rcases hu with rfl | rfl <;> rfl) (v := sv0) rfl HR5.out.own rfl rfl (by first | omega | (simp; omega)) HR5.out.hz ?_; intro v2 wq own2 gr2 mv2; obtain ⟨Bx, SX, bx⟩ := HR5.out.push (128, c4 - c3) own2 gr2; obtain ⟨Av, cv, rfl, _, _⟩ := ownsRow_reads own2; have fz := Bx.frozen; have xl := Bx.lt; have xc := Bx.cellOf (v := sv0) 2 rfl; have SX := Lib.hid SX; have bx := Lib.hid bx; have BY := Lib.hid ((HB11.out.grown gr2 (Ne.symm HB11n.out)).far (p := ⟨g9, 2, none⟩) (by show g11 ≠ g9; omega) (.slice Av (T1.length + 1) cv)); clear own2 gr2 mv2 Bx) | fail)
          intro a H
          replace hs := H.size.trans hs
          replace hd : a.defers = [] := H.defers
          replace e9 : a.tmps[9]? = some _ := H.got rfl rfl
          replace e11 : a.tmps[11]? = some _ := H.got rfl rfl
          replace e2 := H.keep e2 rfl; replace e3 := H.keep e3 rfl; replace e4 := H.keep e4 rfl; replace e5 := H.keep e5 rfl; replace e8 := H.keep e8 rfl; replace e10 := H.keep e10 rfl
          clear H
          refine hKq14 _ _ ?_
          clear hKq14 Kq14
          have R31 := SX.out
          have B11 := BY.out
          have hb41 := hbq.trans bx.out
          clear hbq
          have hbq := hb41
          clear hb41 p2 fz xl xc SX bx BY HR5 HB11 HB11n hzq
          generalize hsv : Value.slice Av (T1.length + 1) cv = sv1 at *
          clear hsv
          generalize wq.setCell ⟨g9, 2, none⟩ sv1 = w21 at *
          have s3 := B11.cellOf (v := .int .i64 c4) 3 rfl
          refine sm_list [10, 11] 92 2 hs hd (by kernel_rfl) (agC e10 (agC e11 agN)) rfl ?_
          simp only [rq, reOper, reOp, reO, reC, reK, Nat.reduceLeDiff, Nat.reduceEqDiff, ↓reduceIte, Nat.reduceAdd, Nat.reduceSub]
          go_wp2_with fail
          intro a H
          replace hs := H.size.trans hs
          replace hd : a.defers = [] := H.defers
          replace e11 : a.tmps[11]? = some _ := H.got rfl rfl
          replace e2 := H.keep e2 rfl; replace e3 := H.keep e3 rfl; replace e4 := H.keep e4 rfl; replace e5 := H.keep e5 rfl; replace e8 := H.keep e8 rfl; replace e9 := H.keep e9 rfl
          replace e10 : a.tmps[10]? = some _ := H.got rfl rfl
          clear H
          exact ⟨RgI.intro ⟨c4, _, r, sv1, by omega, by omega, hs, hd, e2, e3, e4, e5, e8, e9, e10, hbq, R31, by rw [HT1.out]; simpa using HGF.out⟩, by first | (simp only [hm, slot e10, intOf]; omega) | (simp [e10, intOf]; omega)⟩
        · have hge : c3 = at_ := by omega
          have d1 : decide (c3 > at_) = false := decide_eq_false hgap
          have d1b : decide (at_ < c3) = false := decide_eq_false hgap
          rw [if_neg hgap] at HGF
          have HGE := Lib.hid hge
          clear hge
          refine sm_list [10, 11] 62 4 hs hd (by kernel_rfl) (agC e10 (agC e11 agN)) rfl ?_
          simp only [rq, reOper, reOp, reO, reC, reK, Nat.reduceLeDiff, Nat.reduceEqDiff, ↓reduceIte, Nat.reduceAdd, Nat.reduceSub]
          go_wp2_with fail
          intro a H
          replace hs := H.size.trans hs
          replace hd : a.defers = [] := H.defers
          replace e10 : a.tmps[10]? = some _ := H.got rfl rfl
          replace e11 : a.tmps[11]? = some _ := H.got rfl rfl
          replace e2 := H.keep e2 rfl; replace e3 := H.keep e3 rfl; replace e4 := H.keep e4 rfl; replace e5 := H.keep e5 rfl; replace e8 := H.keep e8 rfl; replace e9 := H.keep e9 rfl
          have e65 : a.tmps[65]? = some _ := H.got rfl rfl
          clear H
          refine hKq13 _ _ ?_
          clear hKq13 Kq13
          refine wp_cond_false (slotE e65) ?_
          clear e65
          refine wp_skip ?_
          refine hKq12 _ _ ?_
          clear hKq12 Kq12
          refine wp_seq_k fun Kq14 hKq14 => ?_
          refine wp_seq_k fun Kq15 hKq15 => ?_
          clear d1 d1b s2 s3
          have s2 := B11.cellOf (v := .int .i64 c3) 2 rfl
          have s3 := B11.cellOf (v := .int .i64 c4) 3 rfl
          have d2 : decide (c4 > c3) = true := decide_eq_true n2
          have d2b : decide (c3 < c4) = true := decide_eq_true n2
          refine sm_list [11] 76 5 hs hd (by kernel_rfl) (agC e11 agN) rfl ?_
          simp only [rq, reOper, reOp, reO, reC, reK, Nat.reduceLeDiff, Nat.reduceEqDiff, ↓reduceIte, Nat.reduceAdd, Nat.reduceSub]
          go_wp2_with fail
          intro a H
          replace hs := H.size.trans hs
          replace hd : a.defers = [] := H.defers
          replace e11 : a.tmps[11]? = some _ := H.got rfl rfl
          replace e2 := H.keep e2 rfl; replace e3 := H.keep e3 rfl; replace e4 := H.keep e4 rfl; replace e5 := H.keep e5 rfl; replace e8 := H.keep e8 rfl; replace e9 := H.keep e9 rfl; replace e10 := H.keep e10 rfl
          have e80 : a.tmps[80]? = some _ := H.got rfl rfl
          clear H
          refine hKq15 _ _ ?_
          clear hKq15 Kq15
          refine wp_cond_true (slotE e80) ?_
          clear e80
          clear d2 d2b
          have p2 := R6.B.cellOf (v := sv) 2 rfl
          have HR5 := Lib.hid R6
          have hzq : g9 < w6.heap.size := R6.B.lt
          have B11n : (sv).ownBlock ≠ some g11 := own_blk_ne R6.own B11 (by decide)
          have HB11 := Lib.hid B11
          have HB11n := Lib.hid B11n
          clear R6 B11n B11
          refine sm_list [9, 11] 81 11 hs hd (by kernel_rfl) (agC e9 (agC e11 agN)) rfl ?_
          simp only [rq, reOper, reOp, reO, reC, reK, Nat.reduceLeDiff, Nat.reduceEqDiff, ↓reduceIte, Nat.reduceAdd, Nat.reduceSub]
          go_wp2_with (first | (at_builtin; refine wpList_pushG 1 rfl (.tmp 3) (.tmp 10) 62 rfl rsG (wr := w6) (cs := #[.int .i64 128, .int .i64 (c4 - c3)]) rfl (by intro u hu; simp at hu; rcases hu with rfl | rfl <;> rfl) (v := sv) rfl HR5.out.own rfl rfl (by first | omega | (simp; omega)) HR5.out.hz ?_; intro v2 wq own2 gr2 mv2; obtain ⟨Bx, SX, bx⟩ := HR5.out.push (128, c4 - c3) own2 gr2; obtain ⟨Av, cv, rfl, _, _⟩ := ownsRow_reads own2; have fz := Bx.frozen; have xl := Bx.lt; have xc := Bx.cellOf (v := sv) 2 rfl; have SX := Lib.hid SX; have bx := Lib.hid bx; have BY := Lib.hid ((HB11.out.grown gr2 (Ne.symm HB11n.out)).far (p := ⟨g9, 2, none⟩) (by show g11 ≠ g9; omega) (.slice Av (T.length + 1) cv)); clear own2 gr2 mv2 Bx) | fail)
          intro a H
          replace hs := H.size.trans hs
          replace hd : a.defers = [] := H.defers
          replace e9 : a.tmps[9]? = some _ := H.got rfl rfl
          replace e11 : a.tmps[11]? = some _ := H.got rfl rfl
          replace e2 := H.keep e2 rfl; replace e3 := H.keep e3 rfl; replace e4 := H.keep e4 rfl; replace e5 := H.keep e5 rfl; replace e8 := H.keep e8 rfl; replace e10 := H.keep e10 rfl
          clear H
          refine hKq14 _ _ ?_
          clear hKq14 Kq14
          have R30 := SX.out
          have B11 := BY.out
          have hb40 := hbq.trans bx.out
          clear hbq
          have hbq := hb40
          clear hb40 p2 fz xl xc SX bx BY HR5 HB11 HB11n hzq
          generalize hsv : Value.slice Av (T.length + 1) cv = sv0 at *
          clear hsv
          generalize wq.setCell ⟨g9, 2, none⟩ sv0 = w20 at *
          have s3 := B11.cellOf (v := .int .i64 c4) 3 rfl
          refine sm_list [10, 11] 92 2 hs hd (by kernel_rfl) (agC e10 (agC e11 agN)) rfl ?_
          simp only [rq, reOper, reOp, reO, reC, reK, Nat.reduceLeDiff, Nat.reduceEqDiff, ↓reduceIte, Nat.reduceAdd, Nat.reduceSub]
          go_wp2_with fail
          intro a H
          replace hs := H.size.trans hs
          replace hd : a.defers = [] := H.defers
          replace e11 : a.tmps[11]? = some _ := H.got rfl rfl
          replace e2 := H.keep e2 rfl; replace e3 := H.keep e3 rfl; replace e4 := H.keep e4 rfl; replace e5 := H.keep e5 rfl; replace e8 := H.keep e8 rfl; replace e9 := H.keep e9 rfl
          replace e10 : a.tmps[10]? = some _ := H.got rfl rfl
          clear H
          exact ⟨RgI.intro ⟨c4, _, r, sv0, by omega, by omega, hs, hd, e2, e3, e4, e5, e8, e9, e10, hbq, R30, by simpa using HGF.out⟩, by first | (simp only [hm, slot e10, intOf]; omega) | (simp [e10, intOf]; omega)⟩
  · have dj : decide (at_ < C.cycle) = false := decide_eq_false hlt
    have hTt := HG.out.over HS.out (by omega)
    have HTT := Lib.hid hTt
    clear hTt hm
    refine sm_list [4, 10] 18 5 hs hd (by kernel_rfl) (agC e4 (agC e10 agN)) rfl ?_
    simp only [rq, reOper, reOp, reO, reC, reK, Nat.reduceLeDiff, Nat.reduceEqDiff, ↓reduceIte, Nat.reduceAdd, Nat.reduceSub]
    go_wp2_with fail
    intro a H
    replace hs := H.size.trans hs
    replace hd : a.defers = [] := H.defers
    replace e4 : a.tmps[4]? = some _ := H.got rfl rfl
    replace e10 : a.tmps[10]? = some _ := H.got rfl rfl
    replace e2 := H.keep e2 rfl; replace e3 := H.keep e3 rfl; replace e5 := H.keep e5 rfl; replace e8 := H.keep e8 rfl; replace e9 := H.keep e9 rfl
    have e22 : a.tmps[22]? = some _ := H.got rfl rfl
    clear H
    refine hKq6 _ _ ?_
    clear hKq6 Kq6
    refine wp_cond_false (slotE e22) ?_
    clear e22
    refine wp_exit ?_
    refine exit_then rfl ?_
    clear hKq5 Kq5
    refine exit_then rfl ?_
    refine exit_hit ?_
    refine hKq4 _ _ ?_
    clear hKq4 Kq4
    refine wp_seq_k fun Kq7 hKq7 => ?_
    have B83 : Blk w3 g8 64 #[.int .i64 0, .int .i64 0, .slice none 0 0] := B8.below hb3 (by omega)
    have HB8 := Lib.hid B83
    have HR3 := Lib.hid R3
    obtain ⟨Av, cv, rfl, _, _⟩ := ownsRow_reads R3.own
    clear B83 R3 c5 dj
    refine sm_list [8, 9] 94 1 hs hd (by kernel_rfl) (agC e8 (agC e9 agN)) rfl ?_
    simp only [rq, reOper, reOp, reO, reC, reK, Nat.reduceLeDiff, Nat.reduceEqDiff, ↓reduceIte, Nat.reduceAdd, Nat.reduceSub]
    go_wp2_with (first | (refine wpList_load_any_d rfl 64 (.tmp 1) rfl ⟨g9, 0, none⟩ rfl (#[.int .i64 0, .int .i64 C.cycle, .slice Av T.length cv]) _ (blk_cells HR3.out.B) Try.underlying64 rfl (by kernel_rfl) ?_) | (refine wpList_store_part rfl 64 (.tmp 0) (.tmp 2) rfl (off := 0) rfl HB8.out rfl (by simp) (by kernel_rfl) (by rw [← Array.all_toList]; rfl) ?_; intro wq Bq zq grq) | fail)
    intro a H
    replace hs := H.size.trans hs
    replace hd : a.defers = [] := H.defers
    replace e8 : a.tmps[8]? = some _ := H.got rfl rfl
    replace e9 : a.tmps[9]? = some _ := H.got rfl rfl
    replace e2 := H.keep e2 rfl; replace e3 := H.keep e3 rfl; replace e4 := H.keep e4 rfl; replace e5 := H.keep e5 rfl; replace e10 := H.keep e10 rfl
    clear H
    refine hKq7 _ _ ?_
    clear hKq7 Kq7
    refine wp_ret ?_
    have Bq' : Blk wq g8 64 #[.int .i64 0, .int .i64 C.cycle, .slice Av T.length cv] := by simpa [putAll] using Bq
    have R4 := HR3.out.far HB8.out (by decide) (by omega) grq
    have hlz : L ≤ w3.heap.size := by have := HR3.out.hz; omega
    refine sm_ret_cell1 rfl hd e8 Bq' Try.underlying64 rfl (by kernel_rfl) ⟨_, rfl, by rw [← HLL.out]; exact (L2.trans (hb3.mono (by omega))).grown grq hlz (fun k hk => by cases hk; omega), ?_⟩
    have h := ownsRow_base R4.own (B' := w.heap.size) (by rw [← HLL.out]; omega)
    rw [HTT.out]
    exact h
end Go.Proofs.Ytaegngcbiefckaa
