/-
  The reference finds both ways.
-/
import Derived.Test.YtaegngcbiefckaaRmA
namespace Go.Proofs.Ytaegngcbiefckaa
set_option linter.unusedSimpArgs false
set_option linter.unusedVariables false
open Go.RowKit Go.WideShapes Go.ChangeShapes
attribute [local go_sem ↓] Go.wp_at_zero Go.wp_at_succ

/-- A way that was found: its ends and its nodes. -/
structure Got (C : Cf) (f : Fw) (w : World) (B : Nat) (p : Nat) (O N : Value) (xs : List (Int × Int)) : Prop where
  way : wayV C f.src f.dst (two f.w0 f.w1 p) = some xs
  oo : w.ownsRow B 53 2 O xs.length (xs.flatMap ecc)
  nn : w.ownsRow B 3 1 N (xs.length + 1) ((xs.map Prod.fst ++ [f.dst]).map (Value.int .i64))
theorem Got.keep {C : Cf} {f : Fw} {w w' : World} {B p : Nat} {O N : Value} {xs : List (Int × Int)} (h : Got C f w B p O N xs) (hb : Below w.heap.size w w') : Got C f w' B p O N xs := ⟨h.way, ownsRow_keep h.oo hb, ownsRow_keep h.nn hb⟩
theorem Got.far {C : Cf} {f : Fw} {w w' : World} {B p g : Nat} {O N : Value} {xs : List (Int × Int)} (h : Got C f w B p O N xs) (hb : w.grownBy w' (some g)) (hg : g < B) : Got C f w' B p O N xs :=
  ⟨h.way, own_kept h.oo hb (fun k hk e => by have := (ownsRow_lt h.oo k hk).1; injection e with e; omega), own_kept h.nn hb (fun k hk e => by have := (ownsRow_lt h.nn k hk).1; injection e with e; omega)⟩
theorem RHopsTo.two {C : Cf} {f : Fw} {ks : List Int} {w w' : World} {e : Ending} (h : RHopsTo C f ks w w' e) : ∃ (vo vn : Value) (ok : Bool) (xs : List (Int × Int)), e = .returned (.tuple #[vo, vn, .bool ok]) ∧ Below w.heap.size w w' ∧ (wayV C f.src f.dst ks = if ok then some xs else none) ∧
    (ok = true → w'.ownsRow w.heap.size 53 2 vo xs.length (xs.flatMap ecc) ∧ w'.ownsRow w.heap.size 3 1 vn (xs.length + 1) ((xs.map Prod.fst ++ [f.dst]).map (Value.int .i64))) := by
  obtain ⟨h0, h | ⟨xs, Ao, As, co, cs, h1, h2, _, h3, h4⟩⟩ := h
  · exact ⟨_, _, false, [], h.2, h0, h.1, fun e => (by cases e)⟩
  · exact ⟨_, _, true, xs, h2, h0, h1, fun _ => ⟨h3, h4⟩⟩
def set2 {α : Type} (q : Nat) (v : α) (f : Nat → α) : Nat → α := fun p => if p = q then v else f p
theorem set2_arr (q : Nat) (hq : q < 2) (v : Value) (f : Nat → Value) : (#[f 0, f 1] : Array Value).setIfInBounds q v = #[set2 q v f 0, set2 q v f 1] := by
  rcases (by omega : q = 0 ∨ q = 1) with rfl | rfl <;> rfl
theorem set2_at {α : Type} (q : Nat) (v : α) (f : Nat → α) : set2 q v f q = v := if_pos rfl
theorem set2_ne {α : Type} {q p : Nat} (h : p ≠ q) (v : α) (f : Nat → α) : set2 q v f p = f p := if_neg h
theorem pair_at (f : Nat → Value) (q : Nat) (hq : q < 2) : (#[f 0, f 1] : Array Value)[q]? = some (f q) := by
  rcases (by omega : q = 0 ∨ q = 1) with rfl | rfl <;> rfl
set_option maxRecDepth 100000 in
set_option maxHeartbeats 4000000 in
theorem rm_wys (C : Cf) (R : RL) (f : Fw) (sl : Sl × Sl) (i g1 g2 g7 g9 g10 : Nat) (v5 v46 v47 v48 : Value) (a : Act) (w : World) (Q : Exit → Act → World → Prop)
    (hs : a.tmps.size = 388) (hd : a.defers = []) (e1 : a.tmps[1]? = some (.pointer (some ⟨g1, 0, none⟩))) (e2 : a.tmps[2]? = some (.pointer (some ⟨g2, 0, none⟩))) (e5 : a.tmps[5]? = some (v5)) (e6 : a.tmps[6]? = some (.int .i64 (i : Int))) (e7 : a.tmps[7]? = some (.pointer (some ⟨g7, 0, none⟩))) (e9 : a.tmps[9]? = some (.pointer (some ⟨g9, 0, none⟩))) (e10 : a.tmps[10]? = some (.pointer (some ⟨g10, 0, none⟩))) (e46 : a.tmps[46]? = some (v46)) (e47 : a.tmps[47]? = some (v47)) (e48 : a.tmps[48]? = some (v48))
    (hC : RfAt w g1 C R) (BC : Blk w g1 42 (rfc C R)) (B2 : Blk w g2 47 #[.int .i64 0, .slice none 0 0, .slice none 0 0]) (B7 : Blk w g7 96 #[.int .i64 f.src, .int .i64 f.dst, .int .i64 f.start, .int .i64 f.len, .int .i64 f.size, .int .i64 f.late]) (B9 : Blk w g9 72 #[.slice none 0 0, .slice none 0 0]) (B10 : Blk w g10 99 #[.slice none 0 0, .slice none 0 0]) (hord : g1 < g9 ∧ g2 < g9 ∧ g7 < g9 ∧ g9 < g10) (hfl : C.flows[i]? = some f) (hsl : R.ws[i]? = some sl) (hfn : C.flows.length ≤ 16)
    (hck : checkV C = 0) (hsrc : 0 ≤ f.src) (hsrc2 : f.src < (C.nodes.length : Int)) (hlong : ¬ (16 < f.w0.length ∨ 16 < f.w1.length))
    (hend : ∀ (a : Act) (w' : World) (O N : Nat → Value) (xs : Nat → List (Int × Int)), a.tmps.size = 388 → a.defers = [] → a.tmps[1]? = some (.pointer (some ⟨g1, 0, none⟩)) → a.tmps[2]? = some (.pointer (some ⟨g2, 0, none⟩)) → a.tmps[5]? = some (v5) → a.tmps[6]? = some (.int .i64 (i : Int)) → a.tmps[7]? = some (.pointer (some ⟨g7, 0, none⟩)) → a.tmps[9]? = some (.pointer (some ⟨g9, 0, none⟩)) → a.tmps[10]? = some (.pointer (some ⟨g10, 0, none⟩)) → a.tmps[46]? = some (v46) → a.tmps[47]? = some (v47) → a.tmps[48]? = some (v48) → Below g9 w w' → Blk w' g9 72 #[N 0, N 1] → Blk w' g10 99 #[O 0, O 1] → (∀ p, p < 2 → Got C f w' (g10 + 1) p (O p) (N p) (xs p)) → Q .normal a w')
    (hret : ∀ (a : Act) (w' : World), a.tmps.size = 388 → a.defers = [] → a.tmps[2]? = some (.pointer (some ⟨g2, 0, none⟩)) → a.tmps[3]? = some (.int .i64 60) → Blk w' g2 47 #[.int .i64 0, .slice none 0 0, .slice none 0 0] → Below (min g1 g2) w w' → (wayV C f.src f.dst f.w0 = none ∨ wayV C f.src f.dst f.w1 = none) → Q .ret a w') :
    Code.wp Try.prog (sub [true, true, true, true, false, true, false, false, true, true, false, false, true, true, true, true, true, true, false] (bodyOf Try.f13)) Q a w := by
  conv => arg 2; whnf
  have HEND := Lib.hid (And.intro hend hret)
  clear hend hret
  obtain ⟨ho1, ho2, ho3, ho4⟩ := hord
  have hin : i < C.flows.length := (List.getElem?_eq_some_iff.1 hfl).1
  obtain ⟨adW, hW, hWb, hwq⟩ := ways_q hC hfl hsl
  have HRQ := Lib.hid (ways_qr hC hfl hsl)
  have HWQ := Lib.hid hwq
  have HWA := Lib.hid hW
  have HCK := Lib.hid hck
  have HSRC := Lib.hid (And.intro hsrc hsrc2)
  have HLG := Lib.hid hlong
  have HC := Lib.hid hC
  clear hW hwq hfl hsl hC hck hsrc hsrc2 hlong
  have hiI : (i : Int) < (C.flows.length : Int) := by omega
  have hiI0 : (0 : Int) ≤ (i : Int) := by omega
  refine wp_seq_k fun Kq1 hKq1 => ?_
  refine sm_list [] 12 1 hs hd (by kernel_rfl) agN rfl ?_
  simp only [seval]
  go_wp2_with fail
  intro a H; replace hs := H.s hs; replace hd := H.d rfl; replace e1 := H.k e1 rfl; replace e2 := H.k e2 rfl; replace e5 := H.k e5 rfl; replace e6 := H.k e6 rfl; replace e7 := H.k e7 rfl; replace e9 := H.k e9 rfl; replace e10 := H.k e10 rfl; replace e46 := H.k e46 rfl; replace e47 := H.k e47 rfl; replace e48 := H.k e48 rfl; have e12 := H.g 12 rfl rfl; clear H; refine hKq1 _ _ ?_; clear hKq1 Kq1; refine wp_block ?_
  refine wp_loop (fun a w' => ∃ (q : Nat) (O N : Nat → Value) (xs : Nat → List (Int × Int)), q ≤ 2 ∧ a.tmps.size = 388 ∧ a.defers = [] ∧ a.tmps[1]? = some (.pointer (some ⟨g1, 0, none⟩)) ∧ a.tmps[2]? = some (.pointer (some ⟨g2, 0, none⟩)) ∧ a.tmps[5]? = some (v5) ∧ a.tmps[6]? = some (.int .i64 (i : Int)) ∧ a.tmps[7]? = some (.pointer (some ⟨g7, 0, none⟩)) ∧ a.tmps[9]? = some (.pointer (some ⟨g9, 0, none⟩)) ∧ a.tmps[10]? = some (.pointer (some ⟨g10, 0, none⟩)) ∧ a.tmps[46]? = some (v46) ∧ a.tmps[47]? = some (v47) ∧ a.tmps[48]? = some (v48) ∧ a.tmps[12]? = some (.int .i64 (q : Int)) ∧ Below g9 w w' ∧ Blk w' g9 72 #[N 0, N 1] ∧ Blk w' g10 99 #[O 0, O 1] ∧ Hid (∀ p, p < q → Got C f w' (g10 + 1) p (O p) (N p) (xs p))) (fun a _ => 2 - (intOf (a.tmps.getD 12 undef)).toNat) ?_ ?_
  · exact ⟨0, fun _ => .slice none 0 0, fun _ => .slice none 0 0, fun _ => [], by omega, hs, hd, e1, e2, e5, e6, e7, e9, e10, e46, e47, e48, e12, Below.refl _ _, B9, B10, Lib.hid (fun p h => by omega)⟩
  clear hs hd e12 e1 e2 e5 e6 e7 e9 e10 e46 e47 e48 a B9 B10
  rintro a w3 ⟨q, O, N, xs, hq, hs, hd, e1, e2, e5, e6, e7, e9, e10, e46, e47, e48, e12, hb3, B9, B10, HN⟩
  have hm := slot e12
  refine wp_seq_k fun Kq2 hKq2 => ?_; refine wp_seq_k fun Kq3 hKq3 => ?_
  by_cases hlt : q < 2
  ·
    have dj : decide ((q : Int) < 2) = true := decide_eq_true (by omega)
    have dj2 : decide (q < 2) = true := decide_eq_true hlt
    have hqI : (q : Int) < 2 := by omega
    have hqI0 : (0 : Int) ≤ (q : Int) := by omega
    refine sm_list [12] 122 2 hs hd (by kernel_rfl) (agC e12 agN) rfl ?_
    simp only [seval]
    go_wp2_with fail
    intro a H; replace hs := H.s hs; replace hd := H.d rfl; replace e12 := H.g 12 rfl rfl; replace e1 := H.k e1 rfl; replace e2 := H.k e2 rfl; replace e5 := H.k e5 rfl; replace e6 := H.k e6 rfl; replace e7 := H.k e7 rfl; replace e9 := H.k e9 rfl; replace e10 := H.k e10 rfl; replace e46 := H.k e46 rfl; replace e47 := H.k e47 rfl; replace e48 := H.k e48 rfl; have e123 := H.g 123 rfl rfl; clear H; refine hKq3 _ _ ?_
    clear hKq3 Kq3
    refine wp_cond_true (slotE e123) ?_
    clear e123; refine wp_skip ?_; refine hKq2 _ _ ?_; clear hKq2 Kq2; refine wp_seq_k fun Kq4 hKq4 => ?_; refine wp_block ?_; refine wp_seq_k fun Kq5 hKq5 => ?_; clear dj dj2
    have hb1 : Below g1 w w3 := hb3.mono (Nat.le_of_lt ho1)
    have BC3 := BC.below hb3 ho1
    have B73 := B7.below hb3 ho3
    have hwq3 := (hb1.cell (p := (adW.add (i * 2)).add q) (by rw [add_blk, add_blk]; exact hWb)).trans (HWQ.out q hlt)
    have hrq := (HRQ.out q hlt).below hb1.drew
    have hC3 := HC.out.below hb1.drew
    have hz10 : g10 < w3.heap.size := B10.lt
    have hLq : (two f.w0 f.w1 q).length ≤ 16 := by
      have h := HLG.out
      rcases (by omega : q = 0 ∨ q = 1) with rfl | rfl
      · show f.w0.length ≤ 16; omega
      · show f.w1.length ≤ 16; omega
    have k4 := BC3.cellOf (v := .slice R.W.A C.flows.length R.W.c) 4 rfl
    rw [HWA.out] at k4
    generalize two sl.1 sl.2 q = sq at *
    obtain ⟨ks, hks⟩ : ∃ ks, ks = two f.w0 f.w1 q := ⟨_, rfl⟩
    rw [← hks] at hwq3 hrq hLq
    have HKS := Lib.hid hks
    clear hks
    have hHOP := rhops_any C R f ks.length sq.c sq.A ks w3.drew (hC3.more (by show g1 ≤ w3.heap.size; omega)) HCK.out HSRC.out.1 HSRC.out.2 (hrq.more (by show g1 ≤ w3.heap.size; omega)) rfl hLq
    have HHOP := Lib.hid hHOP
    clear hHOP hrq hC3
    have HA4 : Hid (∀ w', Below w3.heap.size w3 w' → w'.cell? ⟨g1, 4, none⟩ = some (.slice (some adW) C.flows.length R.W.c) ∧ w'.cell? ((adW.add (i * 2)).add q) = some (.slice sq.A ks.length sq.c)) := Lib.hid fun w' hw' => ⟨(hw'.cell (p := ⟨g1, 4, none⟩) (by show g1 < w3.heap.size; omega)).trans k4, (hw'.cell (p := (adW.add (i * 2)).add q) (by rw [add_blk, add_blk]; omega)).trans hwq3⟩
    clear k4 hwq3
    refine sm_any [1, 6, 7, 12, 13, 14, 15] 126 14 (by kernel_rfl) hs hd (by kernel_rfl) (agC e1 (agC e6 (agC e7 (agC e12 (agU (agU (agU agN))))))) rfl (any_script [(0, true), (1, true), (2, true), (3, true), (4, true), (5, true), (6, true), (7, true), (8, true), (9, false), (10, true), (11, true), (12, true), (13, true), (14, true), (15, true), (16, true)] (fun w' => Below w3.heap.size w3 w') (by kernel_rfl) (fun _ _ _ _ _ h => h) ((Below.refl _ _).drew) ?_)
    simp only [seval]
    (refine script_take (v := .agg (rfc C R)) rfl ?_ (fun w' hw' => run_load_whole_d 42 (.tmp 0) rfl rfl (BC3.kept hw') Try.underlying42 rfl (by kernel_rfl)) ?_; (first | exact wanted_none rfl | exact wanted_on rfl rfl rfl); simp only [Act.put, List.setIfInBounds_toArray, List.set_cons_zero, List.set_cons_succ])
    (refine script_take (v := .agg (#[.int .i64 f.src, .int .i64 f.dst, .int .i64 f.start, .int .i64 f.len, .int .i64 f.size, .int .i64 f.late])) rfl ?_ (fun w' hw' => run_load_whole_d 96 (.tmp 2) rfl rfl (B73.kept hw') Try.underlying96 rfl (by kernel_rfl)) ?_; (first | exact wanted_none rfl | exact wanted_on rfl rfl rfl); simp only [Act.put, List.setIfInBounds_toArray, List.set_cons_zero, List.set_cons_succ])
    iterate 7 (with_reducible (refine script_take (v := ?_) rfl ?_ ?_ ?_); rotate_left; (first | exact wanted_none rfl | exact wanted_on rfl rfl rfl); (rintro w' hw'; obtain ⟨q1, q2⟩ := HA4.out w' hw'; go_simp; with_reducible rfl); simp only [Act.put, List.setIfInBounds_toArray, List.set_cons_zero, List.set_cons_succ])
    (refine script_call 26 ?_ rfl ?_ ?_ ?_; rotate_left; (first | rfl | (go_simp; done)); (go_simp; with_reducible rfl))
    refine HHOP.out.mono ?_
    intro e w5 hh
    obtain ⟨vo, vn, ok, ys, rfl, hb5, hV, hR⟩ := hh.two
    have HV := Lib.hid hV
    have HR := Lib.hid hR
    have hb5c : Below w3.heap.size w3 w5 := ((Below.refl _ _).drew).trans hb5
    clear hh hV hR hb5
    refine ⟨_, rfl, hb5c, ?_⟩
    simp only [Act.put, List.setIfInBounds_toArray, List.set_cons_zero, List.set_cons_succ]
    iterate 7 (refine script_take (v := ?_) rfl ?_ ?_ ?_; rotate_left; (first | rfl | (go_simp; done)); (intro w' _; go_simp; with_reducible rfl); simp only [Act.put, List.setIfInBounds_toArray, List.set_cons_zero, List.set_cons_succ])
    refine script_nil ?_
    intro a H; replace hs := H.s hs; replace hd := H.d rfl; replace e1 := H.g 1 rfl rfl; replace e6 := H.g 6 rfl rfl; replace e7 := H.g 7 rfl rfl; replace e12 := H.g 12 rfl rfl; replace e2 := H.k e2 rfl; replace e5 := H.k e5 rfl; replace e9 := H.k e9 rfl; replace e10 := H.k e10 rfl; replace e46 := H.k e46 rfl; replace e47 := H.k e47 rfl; replace e48 := H.k e48 rfl; have e13 := H.g 13 rfl rfl; have e14 := H.g 14 rfl rfl
    have e15 := H.g 15 rfl rfl; clear H; refine hKq5 _ _ ?_; clear hKq5 Kq5; refine wp_seq_k fun Kq6 hKq6 => ?_; refine wp_seq_k fun Kq7 hKq7 => ?_; clear HHOP HA4
    have B95 := B9.kept hb5c
    have B105 := B10.kept hb5c
    have hb35 : Below g9 w w5 := hb3.trans (hb5c.mono (by omega))
    have hz5 : w3.heap.size ≤ w5.heap.size := hb5c.size
    have HN5 : Hid (∀ p, p < q → Got C f w5 (g10 + 1) p (O p) (N p) (xs p)) := Lib.hid fun p hp => (HN.out p hp).keep hb5c
    clear HN B9 B10 BC3 B73 hb1
    have hok : ok = false ∨ ok = true := by cases ok <;> simp
    rcases hok with rfl | rfl
    ·
      have HB : Hid (wayV C f.src f.dst f.w0 = none ∨ wayV C f.src f.dst f.w1 = none) := Lib.hid (by
        have h := HV.out
        rw [HKS.out] at h
        rcases (by omega : q = 0 ∨ q = 1) with rfl | rfl
        · exact .inl h
        · exact .inr h)
      have B2x := B2.below hb35 ho2
      clear B2 HR HV B95 B105
      have B2 := B2x
      clear B2x
      refine sm_list [15] 140 2 hs hd (by kernel_rfl) (agC e15 agN) rfl ?_
      simp only [seval]
      go_wp2_with fail
      intro a H; replace hs := H.s hs; replace hd := H.d rfl; replace e15 := H.g 15 rfl rfl; replace e1 := H.k e1 rfl; replace e2 := H.k e2 rfl; replace e5 := H.k e5 rfl; replace e6 := H.k e6 rfl; replace e7 := H.k e7 rfl; replace e9 := H.k e9 rfl; replace e10 := H.k e10 rfl; replace e46 := H.k e46 rfl; replace e47 := H.k e47 rfl; replace e48 := H.k e48 rfl; replace e12 := H.k e12 rfl; replace e13 := H.k e13 rfl; replace e14 := H.k e14 rfl
      have e141 := H.g 141 rfl rfl; clear H; refine hKq7 _ _ ?_; clear hKq7 Kq7
      refine wp_cond_true (slotE e141) ?_
      clear e141; refine wp_seq_k fun Kq8 hKq8 => ?_
      have HB2 := Lib.hid B2
      refine sm_list [2, 3] 142 1 hs hd (by kernel_rfl) (agC e2 (agU agN)) rfl ?_
      simp only [seval]
      go_wp2_with (first | (refine wpList_store_part rfl 47 (.tmp 0) (.tmp 2) rfl (off := 0) rfl HB2.out rfl (by simp) (by kernel_rfl) (by rw [← Array.all_toList]; rfl) ?_; intro wq Bq zq grq) | fail)
      intro a H; replace hs := H.s hs; replace hd := H.d rfl; replace e2 := H.g 2 rfl rfl; replace e1 := H.k e1 rfl; replace e5 := H.k e5 rfl; replace e6 := H.k e6 rfl; replace e7 := H.k e7 rfl; replace e9 := H.k e9 rfl; replace e10 := H.k e10 rfl; replace e46 := H.k e46 rfl; replace e47 := H.k e47 rfl; replace e48 := H.k e48 rfl; replace e12 := H.k e12 rfl; replace e13 := H.k e13 rfl; replace e14 := H.k e14 rfl; replace e15 := H.k e15 rfl
      have e3 := H.g 3 rfl rfl; clear H; refine hKq8 _ _ ?_; clear hKq8 Kq8; refine wp_ret ?_; refine exit_then rfl ?_; refine ret_block ?_; refine exit_then rfl ?_; refine exit_then rfl ?_; refine ret_block ?_
      have Bq' : Blk wq g2 47 #[.int .i64 0, .slice none 0 0, .slice none 0 0] := by simpa [putAll] using Bq
      have hmn : min g1 g2 ≤ w5.heap.size := Nat.le_trans (Nat.min_le_right _ _) (Nat.le_of_lt HB2.out.lt)
      exact HEND.out.2 a wq hs hd e2 e3 Bq' ((hb35.mono (by omega)).grown grq hmn (fun k hk => by cases hk; exact Nat.min_le_right _ _)) HB.out
    ·
      obtain ⟨hro, hrn⟩ := HR.out rfl
      obtain ⟨Ao, co, rfl, _, _⟩ := ownsRow_reads hro
      obtain ⟨An, cn, rfl, _, _⟩ := ownsRow_reads hrn
      obtain ⟨nq, hnq⟩ : ∃ m, m = ys.length := ⟨_, rfl⟩
      have hGq : Got C f w5 (g10 + 1) q (.slice Ao ys.length co) (.slice An (ys.length + 1) cn) ys := ⟨by rw [← HKS.out]; exact HV.out, ownsRow_base hro (by show g10 + 1 ≤ w3.heap.size; omega), ownsRow_base hrn (by show g10 + 1 ≤ w3.heap.size; omega)⟩
      rw [← hnq] at hGq e13 e14
      have HGQ := Lib.hid hGq
      have HNQ := Lib.hid hnq
      clear hGq hro hrn HR HV hnq
      refine sm_list [15] 140 2 hs hd (by kernel_rfl) (agC e15 agN) rfl ?_
      simp only [seval]
      go_wp2_with fail
      intro a H; replace hs := H.s hs; replace hd := H.d rfl; replace e15 := H.g 15 rfl rfl; replace e1 := H.k e1 rfl; replace e2 := H.k e2 rfl; replace e5 := H.k e5 rfl; replace e6 := H.k e6 rfl; replace e7 := H.k e7 rfl; replace e9 := H.k e9 rfl; replace e10 := H.k e10 rfl; replace e46 := H.k e46 rfl; replace e47 := H.k e47 rfl; replace e48 := H.k e48 rfl; replace e12 := H.k e12 rfl; replace e13 := H.k e13 rfl; replace e14 := H.k e14 rfl
      have e141 := H.g 141 rfl rfl; clear H; refine hKq7 _ _ ?_; clear hKq7 Kq7
      refine wp_cond_false (slotE e141) ?_
      clear e141; refine wp_skip ?_; refine hKq6 _ _ ?_; clear hKq6 Kq6; refine wp_seq_k fun Kq8 hKq8 => ?_
      have p0 := B105.cellOf q (pair_at O q hlt)
      have pz := B105.frozen
      have pl := B105.lt
      refine sm_list [10, 12, 13] 143 3 hs hd (by kernel_rfl) (agC e10 (agC e12 (agC e13 agN))) rfl ?_
      simp only [seval]
      go_wp2_with fail
      intro a H; replace hs := H.s hs; replace hd := H.d rfl; replace e10 := H.g 10 rfl rfl; replace e12 := H.g 12 rfl rfl; replace e13 := H.g 13 rfl rfl; replace e1 := H.k e1 rfl; replace e2 := H.k e2 rfl; replace e5 := H.k e5 rfl; replace e6 := H.k e6 rfl; replace e7 := H.k e7 rfl; replace e9 := H.k e9 rfl; replace e46 := H.k e46 rfl; replace e47 := H.k e47 rfl; replace e48 := H.k e48 rfl; replace e14 := H.k e14 rfl; replace e15 := H.k e15 rfl
      clear H; refine hKq8 _ _ ?_; clear hKq8 Kq8
      have B106 := B105.set_ q (.slice Ao nq co)
      rw [set2_arr q hlt] at B106
      have gr6 : w5.grownBy (w5.setCell ⟨g10, q, none⟩ (.slice Ao nq co)) (some g10) := gr_set (grownBy_refl w5 _) q _
      have B96 := B95.grown gr6 (by simp; omega)
      generalize w5.setCell ⟨g10, q, none⟩ (.slice Ao nq co) = w6 at *
      clear p0 pz pl B105 B95
      have r0 := B96.cellOf q (pair_at N q hlt)
      have rz := B96.frozen
      have rl := B96.lt
      refine sm_list [9, 12, 14] 146 3 hs hd (by kernel_rfl) (agC e9 (agC e12 (agC e14 agN))) rfl ?_
      simp only [seval]
      go_wp2_with fail
      intro a H; replace hs := H.s hs; replace hd := H.d rfl; replace e9 := H.g 9 rfl rfl; replace e12 := H.g 12 rfl rfl; replace e14 := H.g 14 rfl rfl; replace e1 := H.k e1 rfl; replace e2 := H.k e2 rfl; replace e5 := H.k e5 rfl; replace e6 := H.k e6 rfl; replace e7 := H.k e7 rfl; replace e10 := H.k e10 rfl; replace e46 := H.k e46 rfl; replace e47 := H.k e47 rfl; replace e48 := H.k e48 rfl; replace e13 := H.k e13 rfl; replace e15 := H.k e15 rfl
      clear H; refine hKq4 _ _ ?_; clear hKq4 Kq4
      have B97 := B96.set_ q (.slice An (nq + 1) cn)
      rw [set2_arr q hlt] at B97
      have gr7 : w6.grownBy (w6.setCell ⟨g9, q, none⟩ (.slice An (nq + 1) cn)) (some g9) := gr_set (grownBy_refl w6 _) q _
      have B107 := B106.grown gr7 (by simp; omega)
      generalize w6.setCell ⟨g9, q, none⟩ (.slice An (nq + 1) cn) = w7 at *
      clear r0 rz rl B106 B96
      have hz9 : g9 ≤ w5.heap.size := by omega
      have hb6 : Below g9 w w6 := hb35.grown gr6 hz9 (fun k hk => by cases hk; omega)
      have hb7 : Below g9 w w7 := hb6.grown gr7 (Nat.le_trans hz9 gr6.size) (fun k hk => by cases hk; omega)
      have HN7 : Hid (∀ p, p < q + 1 → Got C f w7 (g10 + 1) p (set2 q (.slice Ao nq co) O p) (set2 q (.slice An (nq + 1) cn) N p) (set2 q ys xs p)) := Lib.hid fun p hp => by
        rcases Nat.lt_or_ge p q with h | h
        · rw [set2_ne (by omega), set2_ne (by omega), set2_ne (by omega)]
          exact ((HN5.out p h).far gr6 (by omega)).far gr7 (by omega)
        · have e : p = q := by omega
          rw [e, set2_at, set2_at, set2_at]
          exact (HGQ.out.far gr6 (by omega)).far gr7 (by omega)
      clear HN5 HGQ hb35 hb6 gr6 gr7; clear e13; clear e14; clear e15
      refine sm_list [12] 124 2 hs hd (by kernel_rfl) (agC e12 agN) rfl ?_
      simp only [seval]
      go_wp2_with fail
      intro a H; replace hs := H.s hs; replace hd := H.d rfl; replace e1 := H.k e1 rfl; replace e2 := H.k e2 rfl; replace e5 := H.k e5 rfl; replace e6 := H.k e6 rfl; replace e7 := H.k e7 rfl; replace e9 := H.k e9 rfl; replace e10 := H.k e10 rfl; replace e46 := H.k e46 rfl; replace e47 := H.k e47 rfl; replace e48 := H.k e48 rfl; replace e12 := H.g 12 rfl rfl; clear H
      exact ⟨⟨q + 1, _, _, _, by omega, hs, hd, e1, e2, e5, e6, e7, e9, e10, e46, e47, e48, e12, hb7, B97, B107, HN7⟩, by first | (simp only [hm, slot e12, intOf]; omega) | (simp [e12, intOf]; omega)⟩
  · have hje : q = 2 := by omega
    have dj : decide ((q : Int) < 2) = false := decide_eq_false (by omega)
    have dj2 : decide (q < 2) = false := decide_eq_false hlt
    rw [hje] at HN
    clear hlt hm hje
    refine sm_list [12] 122 2 hs hd (by kernel_rfl) (agC e12 agN) rfl ?_
    simp only [seval]
    go_wp2_with fail
    intro a H; replace hs := H.s hs; replace hd := H.d rfl; replace e12 := H.g 12 rfl rfl; replace e1 := H.k e1 rfl; replace e2 := H.k e2 rfl; replace e5 := H.k e5 rfl; replace e6 := H.k e6 rfl; replace e7 := H.k e7 rfl; replace e9 := H.k e9 rfl; replace e10 := H.k e10 rfl; replace e46 := H.k e46 rfl; replace e47 := H.k e47 rfl; replace e48 := H.k e48 rfl; have e123 := H.g 123 rfl rfl; clear H; refine hKq3 _ _ ?_
    clear hKq3 Kq3
    refine wp_cond_false (slotE e123) ?_
    clear e123; refine wp_exit ?_; refine exit_then rfl ?_; clear hKq2 Kq2; refine exit_then rfl ?_; refine exit_hit ?_
    exact HEND.out.1 a w3 O N xs hs hd e1 e2 e5 e6 e7 e9 e10 e46 e47 e48 hb3 B9 B10 HN.out
end Go.Proofs.Ytaegngcbiefckaa

namespace Go.Proofs.Ytaegngcbiefckaa
set_option linter.unusedSimpArgs false
set_option linter.unusedVariables false
open Go.RowKit Go.WideShapes Go.ChangeShapes
attribute [local go_sem ↓] Go.wp_at_zero Go.wp_at_succ

set_option maxRecDepth 100000 in
set_option maxHeartbeats 4000000 in
theorem rm_lens (C : Cf) (R : RL) (f : Fw) (sl : Sl × Sl) (i g1 g2 : Nat) (v5 v7 v9 v10 v46 v47 v48 : Value) (a : Act) (w : World) (Q : Exit → Act → World → Prop)
    (hs : a.tmps.size = 388) (hd : a.defers = []) (e1 : a.tmps[1]? = some (.pointer (some ⟨g1, 0, none⟩))) (e2 : a.tmps[2]? = some (.pointer (some ⟨g2, 0, none⟩))) (e5 : a.tmps[5]? = some (v5)) (e6 : a.tmps[6]? = some (.int .i64 (i : Int))) (e7 : a.tmps[7]? = some (v7)) (e9 : a.tmps[9]? = some (v9)) (e10 : a.tmps[10]? = some (v10)) (e46 : a.tmps[46]? = some (v46)) (e47 : a.tmps[47]? = some (v47)) (e48 : a.tmps[48]? = some (v48))
    (hC : RfAt w g1 C R) (BC : Blk w g1 42 (rfc C R)) (B2 : Blk w g2 47 #[.int .i64 0, .slice none 0 0, .slice none 0 0]) (hfl : C.flows[i]? = some f) (hsl : R.ws[i]? = some sl) (hfn : C.flows.length ≤ 16)
    (hend : ∀ (a : Act), a.tmps.size = 388 → a.defers = [] → a.tmps[1]? = some (.pointer (some ⟨g1, 0, none⟩)) → a.tmps[2]? = some (.pointer (some ⟨g2, 0, none⟩)) → a.tmps[5]? = some (v5) → a.tmps[6]? = some (.int .i64 (i : Int)) → a.tmps[7]? = some (v7) → a.tmps[9]? = some (v9) → a.tmps[10]? = some (v10) → a.tmps[46]? = some (v46) → a.tmps[47]? = some (v47) → a.tmps[48]? = some (v48) → (¬ (16 < f.w0.length ∨ 16 < f.w1.length)) → Q .normal a w)
    (hret : ∀ (a : Act) (w' : World), a.tmps.size = 388 → a.defers = [] → a.tmps[2]? = some (.pointer (some ⟨g2, 0, none⟩)) → a.tmps[3]? = some (.int .i64 60) → Blk w' g2 47 #[.int .i64 0, .slice none 0 0, .slice none 0 0] → w.grownBy w' (some g2) → (16 < f.w0.length ∨ 16 < f.w1.length) → Q .ret a w') :
    Code.wp Try.prog (sub [true, true, true, true, false, true, false, false, true, true, false, false, true, true, true, true, true, false] (bodyOf Try.f13)) Q a w := by
  conv => arg 2; whnf
  have HEND := Lib.hid (And.intro hend hret)
  clear hend hret
  have hin : i < C.flows.length := (List.getElem?_eq_some_iff.1 hfl).1
  obtain ⟨adW, hW, hWb, hwq⟩ := ways_q hC hfl hsl
  have c4 := BC.cellOf (v := .slice R.W.A C.flows.length R.W.c) 4 rfl
  rw [hW] at c4
  have HWQ := Lib.hid hwq
  clear hW hwq hfl hsl hC
  have hiI : (i : Int) < (C.flows.length : Int) := by omega
  have hiI0 : (0 : Int) ≤ (i : Int) := by omega
  refine wp_seq_k fun Kq1 hKq1 => ?_
  refine sm_list [] 11 1 hs hd (by kernel_rfl) agN rfl ?_
  simp only [seval]
  go_wp2_with fail
  intro a H; replace hs := H.s hs; replace hd := H.d rfl; replace e1 := H.k e1 rfl; replace e2 := H.k e2 rfl; replace e5 := H.k e5 rfl; replace e6 := H.k e6 rfl; replace e7 := H.k e7 rfl; replace e9 := H.k e9 rfl; replace e10 := H.k e10 rfl; replace e46 := H.k e46 rfl; replace e47 := H.k e47 rfl; replace e48 := H.k e48 rfl; have e11 := H.g 11 rfl rfl; clear H; refine hKq1 _ _ ?_; clear hKq1 Kq1; refine wp_block ?_
  refine wp_loop (fun a w' => ∃ q : Nat, q ≤ 2 ∧ a.tmps.size = 388 ∧ a.defers = [] ∧ a.tmps[1]? = some (.pointer (some ⟨g1, 0, none⟩)) ∧ a.tmps[2]? = some (.pointer (some ⟨g2, 0, none⟩)) ∧ a.tmps[5]? = some (v5) ∧ a.tmps[6]? = some (.int .i64 (i : Int)) ∧ a.tmps[7]? = some (v7) ∧ a.tmps[9]? = some (v9) ∧ a.tmps[10]? = some (v10) ∧ a.tmps[46]? = some (v46) ∧ a.tmps[47]? = some (v47) ∧ a.tmps[48]? = some (v48) ∧ a.tmps[11]? = some (.int .i64 (q : Int)) ∧ w' = w ∧ Hid (∀ p, p < q → ¬ 16 < (two f.w0 f.w1 p).length)) (fun a _ => 2 - (intOf (a.tmps.getD 11 undef)).toNat) ?_ ?_
  · exact ⟨0, by omega, hs, hd, e1, e2, e5, e6, e7, e9, e10, e46, e47, e48, e11, rfl, Lib.hid (fun p h => by omega)⟩
  clear hs hd e11 e1 e2 e5 e6 e7 e9 e10 e46 e47 e48 a
  rintro a w3 ⟨q, hq, hs, hd, e1, e2, e5, e6, e7, e9, e10, e46, e47, e48, e11, rfl, HN⟩
  have hm := slot e11
  refine wp_seq_k fun Kq2 hKq2 => ?_; refine wp_seq_k fun Kq3 hKq3 => ?_
  by_cases hlt : q < 2
  ·
    have dj : decide ((q : Int) < 2) = true := decide_eq_true (by omega)
    have dj2 : decide (q < 2) = true := decide_eq_true hlt
    have hwq := HWQ.out q hlt
    have hqI : (q : Int) < 2 := by omega
    have hqI0 : (0 : Int) ≤ (q : Int) := by omega
    generalize two sl.1 sl.2 q = sq at *
    obtain ⟨L, hL⟩ : ∃ L, L = (two f.w0 f.w1 q).length := ⟨_, rfl⟩
    rw [← hL] at hwq
    have HL := Lib.hid hL
    clear hL
    refine sm_list [11] 108 2 hs hd (by kernel_rfl) (agC e11 agN) rfl ?_
    simp only [seval]
    go_wp2_with fail
    intro a H; replace hs := H.s hs; replace hd := H.d rfl; replace e11 := H.g 11 rfl rfl; replace e1 := H.k e1 rfl; replace e2 := H.k e2 rfl; replace e5 := H.k e5 rfl; replace e6 := H.k e6 rfl; replace e7 := H.k e7 rfl; replace e9 := H.k e9 rfl; replace e10 := H.k e10 rfl; replace e46 := H.k e46 rfl; replace e47 := H.k e47 rfl; replace e48 := H.k e48 rfl; have e109 := H.g 109 rfl rfl; clear H; refine hKq3 _ _ ?_
    clear hKq3 Kq3
    refine wp_cond_true (slotE e109) ?_
    clear e109; refine wp_skip ?_; refine hKq2 _ _ ?_; clear hKq2 Kq2; refine wp_seq_k fun Kq4 hKq4 => ?_; refine wp_block ?_; refine wp_seq_k fun Kq5 hKq5 => ?_; clear dj dj2
    by_cases hlong : 16 < L
    · have dl : decide ((L : Int) > 16) = true := decide_eq_true (by omega)
      have dl2 : decide (16 < L) = true := decide_eq_true hlong
      have dl3 : decide ((16 : Int) < (L : Int)) = true := decide_eq_true (by omega)
      have HB : Hid (16 < f.w0.length ∨ 16 < f.w1.length) := Lib.hid (by
        have h := HL.out
        rcases (by omega : q = 0 ∨ q = 1) with rfl | rfl
        · exact .inl (by rw [h] at hlong; exact hlong)
        · exact .inr (by rw [h] at hlong; exact hlong))
      clear hlong
      refine sm_list [1, 6, 11] 112 9 hs hd (by kernel_rfl) (agC e1 (agC e6 (agC e11 agN))) rfl ?_
      simp only [seval]
      go_wp2_with fail
      intro a H; replace hs := H.s hs; replace hd := H.d rfl; replace e1 := H.g 1 rfl rfl; replace e6 := H.g 6 rfl rfl; replace e11 := H.g 11 rfl rfl; replace e2 := H.k e2 rfl; replace e5 := H.k e5 rfl; replace e7 := H.k e7 rfl; replace e9 := H.k e9 rfl; replace e10 := H.k e10 rfl; replace e46 := H.k e46 rfl; replace e47 := H.k e47 rfl; replace e48 := H.k e48 rfl; have e120 := H.g 120 rfl rfl; clear H
      refine hKq5 _ _ ?_; clear hKq5 Kq5
      refine wp_cond_true (slotE e120) ?_
      clear e120; refine wp_seq_k fun Kq6 hKq6 => ?_; clear dl dl2 dl3
      have HB2 := Lib.hid B2
      refine sm_list [2, 3] 121 1 hs hd (by kernel_rfl) (agC e2 (agU agN)) rfl ?_
      simp only [seval]
      go_wp2_with (first | (refine wpList_store_part rfl 47 (.tmp 0) (.tmp 2) rfl (off := 0) rfl HB2.out rfl (by simp) (by kernel_rfl) (by rw [← Array.all_toList]; rfl) ?_; intro wq Bq zq grq) | fail)
      intro a H; replace hs := H.s hs; replace hd := H.d rfl; replace e2 := H.g 2 rfl rfl; replace e1 := H.k e1 rfl; replace e5 := H.k e5 rfl; replace e6 := H.k e6 rfl; replace e7 := H.k e7 rfl; replace e9 := H.k e9 rfl; replace e10 := H.k e10 rfl; replace e46 := H.k e46 rfl; replace e47 := H.k e47 rfl; replace e48 := H.k e48 rfl; replace e11 := H.k e11 rfl; have e3 := H.g 3 rfl rfl; clear H; refine hKq6 _ _ ?_
      clear hKq6 Kq6; refine wp_ret ?_; refine ret_block ?_; refine exit_then rfl ?_; refine exit_then rfl ?_; refine ret_block ?_
      have Bq' : Blk wq g2 47 #[.int .i64 0, .slice none 0 0, .slice none 0 0] := by simpa [putAll] using Bq
      exact HEND.out.2 a wq hs hd e2 e3 Bq' grq HB.out
    · have dl : decide ((L : Int) > 16) = false := decide_eq_false (by omega)
      have dl2 : decide (16 < L) = false := decide_eq_false hlong
      have dl3 : decide ((16 : Int) < (L : Int)) = false := decide_eq_false (by omega)
      have HN2 : Hid (∀ p, p < q + 1 → ¬ 16 < (two f.w0 f.w1 p).length) := Lib.hid (fun p hp => by
        rcases Nat.lt_or_ge p q with h | h
        · exact HN.out p h
        · have e : p = q := by omega
          rw [e, ← HL.out]; exact hlong)
      clear hlong
      refine sm_list [1, 6, 11] 112 9 hs hd (by kernel_rfl) (agC e1 (agC e6 (agC e11 agN))) rfl ?_
      simp only [seval]
      go_wp2_with fail
      intro a H; replace hs := H.s hs; replace hd := H.d rfl; replace e1 := H.g 1 rfl rfl; replace e6 := H.g 6 rfl rfl; replace e11 := H.g 11 rfl rfl; replace e2 := H.k e2 rfl; replace e5 := H.k e5 rfl; replace e7 := H.k e7 rfl; replace e9 := H.k e9 rfl; replace e10 := H.k e10 rfl; replace e46 := H.k e46 rfl; replace e47 := H.k e47 rfl; replace e48 := H.k e48 rfl; have e120 := H.g 120 rfl rfl; clear H
      refine hKq5 _ _ ?_; clear hKq5 Kq5
      refine wp_cond_false (slotE e120) ?_
      clear e120; refine wp_skip ?_; refine hKq4 _ _ ?_; clear hKq4 Kq4; clear dl dl2 dl3
      refine sm_list [11] 110 2 hs hd (by kernel_rfl) (agC e11 agN) rfl ?_
      simp only [seval]
      go_wp2_with fail
      intro a H; replace hs := H.s hs; replace hd := H.d rfl; replace e1 := H.k e1 rfl; replace e2 := H.k e2 rfl; replace e5 := H.k e5 rfl; replace e6 := H.k e6 rfl; replace e7 := H.k e7 rfl; replace e9 := H.k e9 rfl; replace e10 := H.k e10 rfl; replace e46 := H.k e46 rfl; replace e47 := H.k e47 rfl; replace e48 := H.k e48 rfl; replace e11 := H.g 11 rfl rfl; clear H
      exact ⟨⟨q + 1, by omega, hs, hd, e1, e2, e5, e6, e7, e9, e10, e46, e47, e48, e11, rfl, HN2⟩, by first | (simp only [hm, slot e11, intOf]; omega) | (simp [e11, intOf]; omega)⟩
  · have hje : q = 2 := by omega
    have dj : decide ((q : Int) < 2) = false := decide_eq_false (by omega)
    have dj2 : decide (q < 2) = false := decide_eq_false hlt
    have HNE : Hid (¬ (16 < f.w0.length ∨ 16 < f.w1.length)) := Lib.hid (fun h => h.elim (HN.out 0 (by omega)) (HN.out 1 (by omega)))
    clear hlt hm hje
    refine sm_list [11] 108 2 hs hd (by kernel_rfl) (agC e11 agN) rfl ?_
    simp only [seval]
    go_wp2_with fail
    intro a H; replace hs := H.s hs; replace hd := H.d rfl; replace e11 := H.g 11 rfl rfl; replace e1 := H.k e1 rfl; replace e2 := H.k e2 rfl; replace e5 := H.k e5 rfl; replace e6 := H.k e6 rfl; replace e7 := H.k e7 rfl; replace e9 := H.k e9 rfl; replace e10 := H.k e10 rfl; replace e46 := H.k e46 rfl; replace e47 := H.k e47 rfl; replace e48 := H.k e48 rfl; have e109 := H.g 109 rfl rfl; clear H; refine hKq3 _ _ ?_
    clear hKq3 Kq3
    refine wp_cond_false (slotE e109) ?_
    clear e109; refine wp_exit ?_; refine exit_then rfl ?_; clear hKq2 Kq2; refine exit_then rfl ?_; refine exit_hit ?_
    exact HEND.out.1 a hs hd e1 e2 e5 e6 e7 e9 e10 e46 e47 e48 HNE.out
end Go.Proofs.Ytaegngcbiefckaa
