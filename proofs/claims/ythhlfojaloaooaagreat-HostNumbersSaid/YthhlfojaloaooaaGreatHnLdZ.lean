/-
  HostNumbers: the walk.
-/
import Derived.Test.YthhlfojaloaooaaGreatRows
import Derived.Test.YthhlfojaloaooaaGreatHnLbZ
import Derived.Test.YthhlfojaloaooaaGreatHnYwZ
import Derived.WalkKit
import Derived.ProofKit
import Derived.OpenShut
import Derived.LoopTactic
import Derived.WalkLawsBesides
import Derived.WalkSpells
import Derived.Outline
import Derived.Lib.Hide
import Derived.Deep.DrawnRows
import Derived.Laws.CopyOwn
import Derived.MapKept
namespace Go.Proofs.YthhlfojaloaooaaGreat
set_option linter.unusedSimpArgs false
set_option linter.unusedVariables false
open Go.RowKit Go.WideShapes Go.ChangeShapes
attribute [local go_sem ↓] Go.wp_at_zero Go.wp_at_succ

def es3 : List Ed := [⟨10, 1, 0, 0, 0, 0, 0, 0, 0, 0, 0, 1, true⟩, ⟨11, 1, 1, 0, 0, 0, 0, 0, 0, 0, 1, 2, true⟩, ⟨12, 1, 2, 0, 0, 0, 0, 0, 0, 0, 2, 0, true⟩]
theorem hoV_three : hoV 5 3 9 es3 = 0 := by
  rw [hoV_ok (by simp [es3]) (by decide)]
  exact ckB_ok (by omega) (by omega) (by omega) (by omega)
/-- How the numbers stand. -/
structure NumS (B : Nat) (w : World) (g gb : Nat) (ve : Value) (hg : Nat) (vm : Value) (ps : List Value) (nx : Nat) (i : Nat) (gens : List Int) : Prop where
  at_ : HoAt B w g gb ve hg vm 3 ps 5 3 es3 gens 0 0
  nb : Blk w nx 44 (gensA gens)
  len : gens.length = 3
  rng : ∀ x ∈ gens, 0 ≤ x ∧ x ≤ i
theorem NumS.kept {B : Nat} {w w' : World} {g gb : Nat} {ve : Value} {hg : Nat} {vm : Value} {ps : List Value} {nx i : Nat} {gens : List Int} (h : NumS B w g gb ve hg vm ps nx i gens) (hb : Below w.heap.size w w') : NumS B w' g gb ve hg vm ps nx i gens :=
  ⟨h.at_.kept hb, h.nb.kept hb, h.len, h.rng⟩
theorem gens_set {l : List Int} {k : Nat} {x : Int} {i : Nat} (h : ∀ y ∈ l, 0 ≤ y ∧ y ≤ (i : Int)) (hx : 0 ≤ x ∧ x ≤ (i : Int) + 1) : ∀ y ∈ l.set k x, 0 ≤ y ∧ y ≤ ((i + 1 : Nat) : Int) := by
  intro y hy
  rcases List.mem_or_eq_of_mem_set hy with hy | hy
  · have := h y hy; omega
  · omega
/-- The frame that is sent. -/
def fmN (k : Int) (s : Int) (data : List Int) : Fm := ⟨[1, k, 0, 0, 0, 0], [0, 0, 0, 0, 0, 5], true, 10 + k, 7, false, true, s, 2048, data⟩
theorem fmN_ok {k s : Int} {data : List Int} (hk : 0 ≤ k ∧ k ≤ 2) (hs : 0 ≤ s ∧ s < 65536) (hl : data.length ≤ 1400) (hb : ∀ b ∈ data, 0 ≤ b ∧ b ≤ 255) : checkF (fmN k s data) = 0 ∧ (fmN k s data).Wf := by
  refine ⟨ckF_ok (by omega) hs (by omega), rfl, rfl, ?_, ?_, hb⟩
  · unfold fmN; intro b hb; simp at hb; omega
  · unfold fmN; intro b hb; simp at hb; omega
theorem bytes_256 {l : List Int} (h : ∀ b ∈ l, 0 ≤ b ∧ b ≤ 255) : Bytes l := fun b hb => by have := h b hb; omega
/-- The row of the three ends while it is made. -/
inductive EdR (B : Nat) (w : World) : Nat → Value → Prop
  | mk {j : Nat} {v : Value} (own : w.ownsRow B 32 13 v j ((es3.take j).flatMap Ed.cells)) : EdR B w j v
theorem own_at {w : World} {B n size : Nat} {e : TypeId} {v : Value} {xs : List Value} (h : w.ownsRow B e size v (n + 1) xs) : ∃ g c, v = .slice (some ⟨g, 0, none⟩) (n + 1) c ∧ g < w.heap.size ∧ ∀ j u, xs[j]? = some u → w.cell? ⟨g, j, none⟩ = some u := by
  obtain ⟨A, c, rfl, _, rd⟩ := ownsRow_reads h
  rcases h.2 with ⟨h1, _⟩ | ⟨g, cap, cur, hv, _, hh, _⟩
  · cases h1
  · injection hv with hv _ hc
    subst hv
    refine ⟨g, c, rfl, lt_of_block hh, fun j u hu => ?_⟩
    have hl := rd.1
    have hj := (List.getElem?_eq_some_iff.1 hu).1
    obtain ⟨ad, e', _, hcl⟩ := rd.2 (by omega)
    injection e' with e'
    subst e'
    have h3 := hcl j u hu
    have e4 : (⟨g, 0, none⟩ : Addr).add j = ⟨g, j, none⟩ := by unfold Addr.add; split <;> simp_all
    rwa [e4] at h3
theorem gs_cell {w w' : World} {g : Nat} {p : Addr} (gr : w.grownBy w' (some g)) (hl : p.block < w.heap.size) (hp : p.block ≠ g) : w'.cell? p = w.cell? p := (Fr.gr gr (S := [g]) (List.mem_singleton.2 rfl)).cell hl (by simpa using hp)
theorem src_sub0 {s : Int} {A3 : Option Addr} {l3 c3 : Nat} : ∀ j v, (#[.int .u8 0, .int .u8 0, .int .u8 0, .int .u8 0, .int .u8 0, .int .u8 5] : Array Value).toList[j]? = some v → (#[.int .u8 1, .int .u8 0, .int .u8 0, .int .u8 0, .int .u8 0, .int .u8 0, .int .u8 0, .int .u8 0, .int .u8 0, .int .u8 0, .int .u8 0, .int .u8 5, .bool true, .int .i64 10, .int .i64 7, .bool false, .bool true, .int .i64 s, .int .i64 2048, .slice A3 l3 c3] : Array Value)[6 + j]? = some v
  | 0, v, h => h
  | 1, v, h => h
  | 2, v, h => h
  | 3, v, h => h
  | 4, v, h => h
  | 5, v, h => h
  | n + 6, v, h => by simp at h
theorem src_sub1 {s : Int} {A3 : Option Addr} {l3 c3 : Nat} : ∀ j v, (#[.int .u8 0, .int .u8 0, .int .u8 0, .int .u8 0, .int .u8 0, .int .u8 5] : Array Value).toList[j]? = some v → (#[.int .u8 1, .int .u8 1, .int .u8 0, .int .u8 0, .int .u8 0, .int .u8 0, .int .u8 0, .int .u8 0, .int .u8 0, .int .u8 0, .int .u8 0, .int .u8 5, .bool true, .int .i64 11, .int .i64 7, .bool false, .bool true, .int .i64 s, .int .i64 2048, .slice A3 l3 c3] : Array Value)[6 + j]? = some v
  | 0, v, h => h
  | 1, v, h => h
  | 2, v, h => h
  | 3, v, h => h
  | 4, v, h => h
  | 5, v, h => h
  | n + 6, v, h => by simp at h
theorem src_sub2 {s : Int} {A3 : Option Addr} {l3 c3 : Nat} : ∀ j v, (#[.int .u8 0, .int .u8 0, .int .u8 0, .int .u8 0, .int .u8 0, .int .u8 5] : Array Value).toList[j]? = some v → (#[.int .u8 1, .int .u8 2, .int .u8 0, .int .u8 0, .int .u8 0, .int .u8 0, .int .u8 0, .int .u8 0, .int .u8 0, .int .u8 0, .int .u8 0, .int .u8 5, .bool true, .int .i64 12, .int .i64 7, .bool false, .bool true, .int .i64 s, .int .i64 2048, .slice A3 l3 c3] : Array Value)[6 + j]? = some v
  | 0, v, h => h
  | 1, v, h => h
  | 2, v, h => h
  | 3, v, h => h
  | 4, v, h => h
  | 5, v, h => h
  | n + 6, v, h => by simp at h
set_option maxRecDepth 100000 in
set_option maxHeartbeats 4000000 in
theorem hostNumbers_calls (zs : List Int) (A : Option Addr) (n c : Nat) (data : List Int) (A2 : Option Addr) (n2 c2 : Nat) (w : World) (hl : zs.length = n) (hr : Reads w w.heap.size 1 A n (zs.map (Value.int .i64))) (hl2 : data.length = n2) (hr2 : Reads w w.heap.size 1 A2 n2 (us data)) (hb2 : ∀ b ∈ data, 0 ≤ b ∧ b ≤ 255) : Calls Tryz.prog 3 #[.slice A n c, .slice A2 n2 c2] w fun e w' => e = .returned (.bool true) ∧ Below w.heap.size w w' := by
  have HR := Lib.hid (And.intro hr (And.intro hl (And.intro hr2 (And.intro hl2 hb2))))
  clear hr hl hr2 hl2 hb2
  refine calls_sm (N := 169) Tryz.func3 rfl (by kernel_rfl) ?_
  intro a hs hd ha
  have e0 : a.tmps[0]? = some (.slice A n c) := ha 0 _ rfl
  have e1 : a.tmps[1]? = some (.slice A2 n2 c2) := ha 1 _ rfl
  clear ha
  conv => arg 2; whnf
  refine wp_seq_k fun Kq1 hKq1 => ?_
  refine sm_list [] 4 1 hs hd (by kernel_rfl) agN rfl ?_
  simp only [seval]
  go_wp2_with fail
  intro a H; replace hs := H.s hs; replace hd := H.d rfl; replace e0 := H.k e0 rfl; replace e1 := H.k e1 rfl; have e4 := H.g 4 rfl rfl; clear H; refine hKq1 _ _ ?_; clear hKq1 Kq1; refine wp_seq_k fun Kq2 hKq2 => ?_; refine wp_seq_k fun Kq3 hKq3 => ?_
  refine sm_list [] 17 2 hs hd (by kernel_rfl) agN rfl ?_
  simp only [seval]
  go_wp2_with fail
  refine (head_any w).mono ?_
  rintro e w1 ⟨rfl, hb1⟩
  have HL1 := Lib.hid hb1
  clear hb1
  go_wp2_with fail
  intro a H; replace hs := H.s hs; replace hd := H.d rfl; replace e0 := H.k e0 rfl; replace e1 := H.k e1 rfl; replace e4 := H.k e4 rfl; have e18 := H.g 18 rfl rfl; clear H; refine hKq3 _ _ ?_; clear hKq3 Kq3
  refine wp_cond_false (slotE e18) ?_
  clear e18; refine wp_skip ?_; refine hKq2 _ _ ?_; clear hKq2 Kq2; refine wp_seq_k fun Kq4 hKq4 => ?_; refine wp_seq_k fun Kq5 hKq5 => ?_
  by_cases hc0 : 60 < n
  ·
    have d1 : decide (60 < n) = true := decide_eq_true hc0
    have d1b : (60 : Int) < (n : Int) := by omega
    refine sm_list [0, 1] 19 8 hs hd (by kernel_rfl) (agC e0 (agC e1 agN)) rfl ?_
    simp only [seval]
    go_wp2_with fail
    intro a H; replace hs := H.s hs; replace hd := H.d rfl; replace e0 := H.g 0 rfl rfl; replace e1 := H.g 1 rfl rfl; replace e4 := H.k e4 rfl; have e26 := H.g 26 rfl rfl; clear H; refine hKq5 _ _ ?_; clear hKq5 Kq5
    refine wp_cond_true (slotE e26) ?_
    clear e26; refine wp_seq_k fun Kq6 hKq6 => ?_
    refine sm_list [] 4 1 hs hd (by kernel_rfl) agN rfl ?_
    simp only [seval]
    go_wp2_with fail
    intro a H; replace hs := H.s hs; replace hd := H.d rfl; replace e0 := H.k e0 rfl; replace e1 := H.k e1 rfl; replace e4 := H.g 4 rfl rfl; clear H; refine hKq6 _ _ ?_; clear hKq6 Kq6; refine wp_ret ?_; refine exit_then rfl ?_
    exact sm_ret rfl hd e4 ⟨rfl, HL1.out⟩
  have dc0 : decide (60 < n) = false := decide_eq_false hc0
  have dc0b : decide ((60 : Int) < (n : Int)) = false := decide_eq_false (by omega)
  by_cases hc1 : 1400 < n2
  ·
    have d2 : decide (1400 < n2) = true := decide_eq_true hc1
    have d2b : (1400 : Int) < (n2 : Int) := by omega
    refine sm_list [0, 1] 19 8 hs hd (by kernel_rfl) (agC e0 (agC e1 agN)) rfl ?_
    simp only [seval]
    go_wp2_with fail
    intro a H; replace hs := H.s hs; replace hd := H.d rfl; replace e0 := H.g 0 rfl rfl; replace e1 := H.g 1 rfl rfl; replace e4 := H.k e4 rfl; have e26 := H.g 26 rfl rfl; clear H; refine hKq5 _ _ ?_; clear hKq5 Kq5
    refine wp_cond_true (slotE e26) ?_
    clear e26; refine wp_seq_k fun Kq6 hKq6 => ?_
    refine sm_list [] 4 1 hs hd (by kernel_rfl) agN rfl ?_
    simp only [seval]
    go_wp2_with fail
    intro a H; replace hs := H.s hs; replace hd := H.d rfl; replace e0 := H.k e0 rfl; replace e1 := H.k e1 rfl; replace e4 := H.g 4 rfl rfl; clear H; refine hKq6 _ _ ?_; clear hKq6 Kq6; refine wp_ret ?_; refine exit_then rfl ?_
    exact sm_ret rfl hd e4 ⟨rfl, HL1.out⟩
  have dc1 : decide (1400 < n2) = false := decide_eq_false hc1
  have dc1b : decide ((1400 : Int) < (n2 : Int)) = false := decide_eq_false (by omega)
  have HN := Lib.hid (And.intro hc0 hc1)
  clear hc0 hc1
  refine sm_list [0, 1] 19 8 hs hd (by kernel_rfl) (agC e0 (agC e1 agN)) rfl ?_
  simp only [seval]
  go_wp2_with fail
  intro a H; replace hs := H.s hs; replace hd := H.d rfl; replace e0 := H.g 0 rfl rfl; replace e1 := H.g 1 rfl rfl; replace e4 := H.k e4 rfl; have e26 := H.g 26 rfl rfl; clear H; refine hKq5 _ _ ?_; clear hKq5 Kq5
  refine wp_cond_false (slotE e26) ?_
  clear e26; refine wp_skip ?_; refine hKq4 _ _ ?_; clear hKq4 Kq4; refine wp_seq_k fun Kq6 hKq6 => ?_; clear dc0 dc0b dc1 dc1b
  refine sm_list [5] 27 1 hs hd (by kernel_rfl) (agU agN) rfl ?_
  simp only [seval]
  go_wp2_with fail
  intro a H; replace hs := H.s hs; replace hd := H.d rfl; replace e0 := H.k e0 rfl; replace e1 := H.k e1 rfl; replace e4 := H.k e4 rfl; have e5 := H.g 5 rfl rfl; clear H; refine hKq6 _ _ ?_; clear hKq6 Kq6; refine wp_seq_k fun Kq7 hKq7 => ?_; refine wp_seq_k fun Kq8 hKq8 => ?_
  have hal := (Below.refl w1.heap.size w1).alloc (Nat.le_refl _) (.cells #[] 32)
  have L2 := Lib.hid (HL1.out.trans (hal.mono HL1.out.size))
  have E0 := ownsRow_new w1 (base := w1.heap.size) (e := 32) (size := 13) (n := 0) (cs := #[]) (Nat.le_refl _) rfl (by simp)
  generalize hw2 : w1.alloc (.cells #[] 32) = w2 at hal L2 E0 ⊢
  obtain ⟨B0, hB0⟩ : ∃ B0, B0 = w1.heap.size := ⟨_, rfl⟩
  rw [← hB0] at E0 e5
  have HB0 : Hid (B0 ≤ w2.heap.size ∧ w.heap.size ≤ B0) := Lib.hid ⟨by rw [hB0]; exact hal.size, by rw [hB0]; exact HL1.out.size⟩
  clear hw2 hB0 hal HL1
  refine sm_list [] 6 1 hs hd (by kernel_rfl) agN rfl ?_
  simp only [seval]
  go_wp2_with fail
  intro a H; replace hs := H.s hs; replace hd := H.d rfl; replace e0 := H.k e0 rfl; replace e1 := H.k e1 rfl; replace e4 := H.k e4 rfl; replace e5 := H.k e5 rfl; have e6 := H.g 6 rfl rfl; clear H; refine hKq8 _ _ ?_; clear hKq8 Kq8; refine wp_block ?_
  refine wp_loop (fun a w' => ∃ (j : Nat) (v : Value), j ≤ 3 ∧ Below B0 w2 w' ∧ EdR B0 w' j v ∧ a.tmps.size = 169 ∧ a.defers = [] ∧ a.tmps[0]? = some (.slice A n c) ∧ a.tmps[1]? = some (.slice A2 n2 c2) ∧ a.tmps[5]? = some v ∧ a.tmps[6]? = some (.int .i64 (j : Int))) (fun a _ => 3 - (intOf (a.tmps.getD 6 undef)).toNat) ?_ ?_
  · exact ⟨0, _, by omega, Below.refl _ _, .mk E0, hs, hd, e0, e1, e5, e6⟩
  clear e0 e1 e4 e5 e6 hs hd a E0
  rintro a w3 ⟨j, v, hj, L3, E3, hs, hd, e0, e1, e5, e6⟩
  have hm := slot e6
  refine wp_seq_k fun Kq9 hKq9 => ?_; refine wp_seq_k fun Kq10 hKq10 => ?_
  obtain rfl | rfl | rfl | rfl : j = 0 ∨ j = 1 ∨ j = 2 ∨ j = 3 := by omega
  ·
    have HM := Lib.hid hm
    clear hm
    have own3 : w3.ownsRow B0 32 13 v 0 ((es3.take 0).flatMap Ed.cells) := by
        cases E3
        assumption
    have HL3 := Lib.hid L3
    clear E3
    refine sm_list [6] 28 2 hs hd (by kernel_rfl) (agC e6 agN) rfl ?_
    simp only [seval]
    go_wp2_with fail
    intro a H; replace hs := H.s hs; replace hd := H.d rfl; replace e6 := H.g 6 rfl rfl; replace e0 := H.k e0 rfl; replace e1 := H.k e1 rfl; replace e5 := H.k e5 rfl; have e29 := H.g 29 rfl rfl; clear H; refine hKq10 _ _ ?_; clear hKq10 Kq10
    refine wp_cond_true (slotE e29) ?_
    clear e29; refine wp_skip ?_; refine hKq9 _ _ ?_; clear hKq9 Kq9; refine wp_seq_k fun Kq11 hKq11 => ?_; refine wp_block ?_
    have hszb : B0 ≤ w3.heap.size := Nat.le_trans HB0.out.1 L3.size
    have hcv : ∀ W, (convert 3 5 (.int .i64 0)).run Tryz.prog W = .ok (.int .u8 0) W := fun W => by kernel_rfl
    have h1c : ∀ u ∈ (#[.int .i64 10, .int .u8 1, .int .u8 0, .int .u8 0, .int .u8 0, .int .u8 0, .int .u8 0, .int .i64 0, .int .i64 0, .int .i64 0, .int .i64 0, .int .i64 1, .bool true] : Array Value).toList, u.oneCell' = true := by intro u hu; simp only [List.mem_cons, List.not_mem_nil, or_false] at hu; rcases hu with rfl | rfl | rfl | rfl | rfl | rfl | rfl | rfl | rfl | rfl | rfl | rfl | rfl <;> rfl
    clear L3
    refine sm_list [5, 6] 32 15 hs hd (by kernel_rfl) (agC e5 (agC e6 agN)) rfl ?_
    simp only [seval]
    go_wp2_with (at_builtin; refine wpList_pushG 1 rfl (.tmp 2) (.tmp 15) 25 rfl styED (cs := #[.int .i64 10, .int .u8 1, .int .u8 0, .int .u8 0, .int .u8 0, .int .u8 0, .int .u8 0, .int .i64 0, .int .i64 0, .int .i64 0, .int .i64 0, .int .i64 1, .bool true]) rfl h1c rfl own3 rfl rfl (by omega) hszb ?_; intro v4 w4 own4 gr4 _; obtain ⟨A4, c4, rfl, _, _⟩ := ownsRow_reads own4; have HO4 := Lib.hid (And.intro own4 gr4); clear own4 gr4)
    intro a H; replace hs := H.s hs; replace hd := H.d rfl; replace e6 := H.g 6 rfl rfl; replace e0 := H.k e0 rfl; replace e1 := H.k e1 rfl; replace e5 := H.g 5 rfl rfl; clear H; refine hKq11 _ _ ?_; clear hKq11 Kq11
    have L4 : Below B0 w2 w4 := HL3.out.trans ((Below.refl _ _).grown HO4.out.2 hszb (fun q hq => (ownsRow_lt own3 q hq).1))
    have E4 : EdR B0 w4 1 (.slice A4 1 c4) := .mk HO4.out.1
    clear own3 hszb hcv h1c
    refine sm_list [6] 30 2 hs hd (by kernel_rfl) (agC e6 agN) rfl ?_
    simp only [seval]
    go_wp2_with fail
    intro a H; replace hs := H.s hs; replace hd := H.d rfl; replace e0 := H.k e0 rfl; replace e1 := H.k e1 rfl; replace e5 := H.k e5 rfl; replace e6 := H.g 6 rfl rfl; clear H
    exact ⟨⟨1, _, by omega, L4, E4, hs, hd, e0, e1, e5, e6⟩, by rw [HM.out, slot e6]; decide⟩
  ·
    have HM := Lib.hid hm
    clear hm
    have own3 : w3.ownsRow B0 32 13 v 1 ((es3.take 1).flatMap Ed.cells) := by
        cases E3
        assumption
    have HL3 := Lib.hid L3
    clear E3
    refine sm_list [6] 28 2 hs hd (by kernel_rfl) (agC e6 agN) rfl ?_
    simp only [seval]
    go_wp2_with fail
    intro a H; replace hs := H.s hs; replace hd := H.d rfl; replace e6 := H.g 6 rfl rfl; replace e0 := H.k e0 rfl; replace e1 := H.k e1 rfl; replace e5 := H.k e5 rfl; have e29 := H.g 29 rfl rfl; clear H; refine hKq10 _ _ ?_; clear hKq10 Kq10
    refine wp_cond_true (slotE e29) ?_
    clear e29; refine wp_skip ?_; refine hKq9 _ _ ?_; clear hKq9 Kq9; refine wp_seq_k fun Kq11 hKq11 => ?_; refine wp_block ?_
    have hszb : B0 ≤ w3.heap.size := Nat.le_trans HB0.out.1 L3.size
    have hcv : ∀ W, (convert 3 5 (.int .i64 1)).run Tryz.prog W = .ok (.int .u8 1) W := fun W => by kernel_rfl
    have h1c : ∀ u ∈ (#[.int .i64 11, .int .u8 1, .int .u8 1, .int .u8 0, .int .u8 0, .int .u8 0, .int .u8 0, .int .i64 0, .int .i64 0, .int .i64 0, .int .i64 1, .int .i64 2, .bool true] : Array Value).toList, u.oneCell' = true := by intro u hu; simp only [List.mem_cons, List.not_mem_nil, or_false] at hu; rcases hu with rfl | rfl | rfl | rfl | rfl | rfl | rfl | rfl | rfl | rfl | rfl | rfl | rfl <;> rfl
    clear L3
    refine sm_list [5, 6] 32 15 hs hd (by kernel_rfl) (agC e5 (agC e6 agN)) rfl ?_
    simp only [seval]
    go_wp2_with (at_builtin; refine wpList_pushG 1 rfl (.tmp 2) (.tmp 15) 25 rfl styED (cs := #[.int .i64 11, .int .u8 1, .int .u8 1, .int .u8 0, .int .u8 0, .int .u8 0, .int .u8 0, .int .i64 0, .int .i64 0, .int .i64 0, .int .i64 1, .int .i64 2, .bool true]) rfl h1c rfl own3 rfl rfl (by omega) hszb ?_; intro v4 w4 own4 gr4 _; obtain ⟨A4, c4, rfl, _, _⟩ := ownsRow_reads own4; have HO4 := Lib.hid (And.intro own4 gr4); clear own4 gr4)
    intro a H; replace hs := H.s hs; replace hd := H.d rfl; replace e6 := H.g 6 rfl rfl; replace e0 := H.k e0 rfl; replace e1 := H.k e1 rfl; replace e5 := H.g 5 rfl rfl; clear H; refine hKq11 _ _ ?_; clear hKq11 Kq11
    have L4 : Below B0 w2 w4 := HL3.out.trans ((Below.refl _ _).grown HO4.out.2 hszb (fun q hq => (ownsRow_lt own3 q hq).1))
    have E4 : EdR B0 w4 2 (.slice A4 2 c4) := .mk HO4.out.1
    clear own3 hszb hcv h1c
    refine sm_list [6] 30 2 hs hd (by kernel_rfl) (agC e6 agN) rfl ?_
    simp only [seval]
    go_wp2_with fail
    intro a H; replace hs := H.s hs; replace hd := H.d rfl; replace e0 := H.k e0 rfl; replace e1 := H.k e1 rfl; replace e5 := H.k e5 rfl; replace e6 := H.g 6 rfl rfl; clear H
    exact ⟨⟨2, _, by omega, L4, E4, hs, hd, e0, e1, e5, e6⟩, by rw [HM.out, slot e6]; decide⟩
  ·
    have HM := Lib.hid hm
    clear hm
    have own3 : w3.ownsRow B0 32 13 v 2 ((es3.take 2).flatMap Ed.cells) := by
        cases E3
        assumption
    have HL3 := Lib.hid L3
    clear E3
    refine sm_list [6] 28 2 hs hd (by kernel_rfl) (agC e6 agN) rfl ?_
    simp only [seval]
    go_wp2_with fail
    intro a H; replace hs := H.s hs; replace hd := H.d rfl; replace e6 := H.g 6 rfl rfl; replace e0 := H.k e0 rfl; replace e1 := H.k e1 rfl; replace e5 := H.k e5 rfl; have e29 := H.g 29 rfl rfl; clear H; refine hKq10 _ _ ?_; clear hKq10 Kq10
    refine wp_cond_true (slotE e29) ?_
    clear e29; refine wp_skip ?_; refine hKq9 _ _ ?_; clear hKq9 Kq9; refine wp_seq_k fun Kq11 hKq11 => ?_; refine wp_block ?_
    have hszb : B0 ≤ w3.heap.size := Nat.le_trans HB0.out.1 L3.size
    have hcv : ∀ W, (convert 3 5 (.int .i64 2)).run Tryz.prog W = .ok (.int .u8 2) W := fun W => by kernel_rfl
    have h1c : ∀ u ∈ (#[.int .i64 12, .int .u8 1, .int .u8 2, .int .u8 0, .int .u8 0, .int .u8 0, .int .u8 0, .int .i64 0, .int .i64 0, .int .i64 0, .int .i64 2, .int .i64 0, .bool true] : Array Value).toList, u.oneCell' = true := by intro u hu; simp only [List.mem_cons, List.not_mem_nil, or_false] at hu; rcases hu with rfl | rfl | rfl | rfl | rfl | rfl | rfl | rfl | rfl | rfl | rfl | rfl | rfl <;> rfl
    clear L3
    refine sm_list [5, 6] 32 15 hs hd (by kernel_rfl) (agC e5 (agC e6 agN)) rfl ?_
    simp only [seval]
    go_wp2_with (at_builtin; refine wpList_pushG 1 rfl (.tmp 2) (.tmp 15) 25 rfl styED (cs := #[.int .i64 12, .int .u8 1, .int .u8 2, .int .u8 0, .int .u8 0, .int .u8 0, .int .u8 0, .int .i64 0, .int .i64 0, .int .i64 0, .int .i64 2, .int .i64 0, .bool true]) rfl h1c rfl own3 rfl rfl (by omega) hszb ?_; intro v4 w4 own4 gr4 _; obtain ⟨A4, c4, rfl, _, _⟩ := ownsRow_reads own4; have HO4 := Lib.hid (And.intro own4 gr4); clear own4 gr4)
    intro a H; replace hs := H.s hs; replace hd := H.d rfl; replace e6 := H.g 6 rfl rfl; replace e0 := H.k e0 rfl; replace e1 := H.k e1 rfl; replace e5 := H.g 5 rfl rfl; clear H; refine hKq11 _ _ ?_; clear hKq11 Kq11
    have L4 : Below B0 w2 w4 := HL3.out.trans ((Below.refl _ _).grown HO4.out.2 hszb (fun q hq => (ownsRow_lt own3 q hq).1))
    have E4 : EdR B0 w4 3 (.slice A4 3 c4) := .mk HO4.out.1
    clear own3 hszb hcv h1c
    refine sm_list [6] 30 2 hs hd (by kernel_rfl) (agC e6 agN) rfl ?_
    simp only [seval]
    go_wp2_with fail
    intro a H; replace hs := H.s hs; replace hd := H.d rfl; replace e0 := H.k e0 rfl; replace e1 := H.k e1 rfl; replace e5 := H.k e5 rfl; replace e6 := H.g 6 rfl rfl; clear H
    exact ⟨⟨3, _, by omega, L4, E4, hs, hd, e0, e1, e5, e6⟩, by rw [HM.out, slot e6]; decide⟩
  ·
    clear hm
    have own3 : w3.ownsRow B0 32 13 v 3 (es3.flatMap Ed.cells) := by
        cases E3
        assumption
    obtain ⟨Ae, ce, rfl, _, rde⟩ := ownsRow_reads own3
    have HL3 := Lib.hid (And.intro (L2.out.trans (L3.mono HB0.out.2)) rde)
    clear E3 own3 rde L3
    refine sm_list [6] 28 2 hs hd (by kernel_rfl) (agC e6 agN) rfl ?_
    simp only [seval]
    go_wp2_with fail
    intro a H; replace hs := H.s hs; replace hd := H.d rfl; replace e6 := H.g 6 rfl rfl; replace e0 := H.k e0 rfl; replace e1 := H.k e1 rfl; replace e5 := H.k e5 rfl; have e29 := H.g 29 rfl rfl; clear H; refine hKq10 _ _ ?_; clear hKq10 Kq10
    refine wp_cond_false (slotE e29) ?_
    clear e29; refine wp_exit ?_; refine exit_then rfl ?_; clear hKq9 Kq9; refine exit_then rfl ?_; refine exit_hit ?_; refine hKq7 _ _ ?_; clear hKq7 Kq7; refine wp_seq_k fun Kq11 hKq11 => ?_
    refine sm_list [5, 7, 8] 47 6 hs hd (by kernel_rfl) (agC e5 (agU (agU agN))) rfl ?_
    simp only [seval]
    go_wp2_with fail
    refine (conf_any 5 3 w3).mono ?_
    rintro x w4 ⟨rfl, hb4⟩
    go_wp2_with fail
    refine (hoNew_any 5 3 9 es3 Ae 3 ce w4 rfl ((HL3.out.2.below hb4).more hb4.size)).mono ?_
    rintro x w5 ⟨hb5, hor⟩
    obtain ⟨g, gb, ve, hg, vm, ms, rfl, hml, hX⟩ : ∃ g gb ve hg vm ms, x = .returned (.tuple #[.pointer (some ⟨g, 0, none⟩), .int .i64 0]) ∧ ms.length = es3.length ∧ HoX w4 w5 g gb ve hg vm ms 5 3 9 es3 := by
      rcases hor with ⟨h1, _⟩ | ⟨_, g, gb, ve, hg, vm, ms, h1, h2, h3⟩
      · exact absurd hoV_three h1
      · exact ⟨g, gb, ve, hg, vm, ms, h1, h2, h3⟩
    have HX := Lib.hid (And.intro hX (And.intro hml (And.intro (HL3.out.1.trans (hb4.mono HL3.out.1.size)) hb5)))
    clear hor hb5 hb4 hX hml
    go_wp2_with fail
    intro a H; replace hs := H.s hs; replace hd := H.d rfl; replace e5 := H.g 5 rfl rfl; replace e0 := H.k e0 rfl; replace e1 := H.k e1 rfl; replace e6 := H.k e6 rfl; have e7 := H.g 7 rfl rfl; have e8 := H.g 8 rfl rfl; clear H; refine hKq11 _ _ ?_; clear hKq11 Kq11; refine wp_seq_k fun Kq12 hKq12 => ?_; refine wp_seq_k fun Kq13 hKq13 => ?_
    refine sm_list [8] 53 2 hs hd (by kernel_rfl) (agC e8 agN) rfl ?_
    simp only [seval]
    go_wp2_with fail
    intro a H; replace hs := H.s hs; replace hd := H.d rfl; replace e8 := H.g 8 rfl rfl; replace e0 := H.k e0 rfl; replace e1 := H.k e1 rfl; replace e5 := H.k e5 rfl; replace e6 := H.k e6 rfl; replace e7 := H.k e7 rfl; have e54 := H.g 54 rfl rfl; clear H; refine hKq13 _ _ ?_; clear hKq13 Kq13
    refine wp_cond_false (slotE e54) ?_
    clear e54; refine wp_skip ?_; refine hKq12 _ _ ?_; clear hKq12 Kq12; refine wp_seq_k fun Kq14 hKq14 => ?_
    refine sm_list [9] 55 1 hs hd (by kernel_rfl) (agU agN) rfl ?_
    simp only [seval]
    go_wp2_with fail
    intro a H; replace hs := H.s hs; replace hd := H.d rfl; replace e0 := H.k e0 rfl; replace e1 := H.k e1 rfl; replace e5 := H.k e5 rfl; replace e6 := H.k e6 rfl; replace e7 := H.k e7 rfl; replace e8 := H.k e8 rfl; have e9 := H.g 9 rfl rfl; clear H; refine hKq14 _ _ ?_; clear hKq14 Kq14; refine wp_seq_k fun Kq15 hKq15 => ?_; refine wp_seq_k fun Kq16 hKq16 => ?_
    have BN := Blk.new w5 44 #[.int .i64 0, .int .i64 0, .int .i64 0]
    have hal := (Below.refl w5.heap.size w5).alloc (Nat.le_refl _) (.cells #[.int .i64 0, .int .i64 0, .int .i64 0] 44)
    have hat := HX.out.1.at_.kept hal
    rw [HX.out.2.1] at hat
    have L6 := (HX.out.2.2.1.trans (HX.out.2.2.2.mono HX.out.2.2.1.size)).trans (hal.mono (HX.out.2.2.1.trans (HX.out.2.2.2.mono HX.out.2.2.1.size)).size)
    generalize hw6 : w5.alloc (.cells #[.int .i64 0, .int .i64 0, .int .i64 0] 44) = w6 at BN hal hat L6 ⊢
    obtain ⟨nx, hnx⟩ : ∃ nx, nx = w5.heap.size := ⟨_, rfl⟩
    rw [← hnx] at BN e9
    have S6 : NumS w4.heap.size w6 g gb ve hg vm (ms.map fun b => (Value.pointer (some ⟨b.g, 0, none⟩))) nx 0 [0, 0, 0] := ⟨hat, BN, rfl, by simp⟩
    obtain ⟨ps, hps⟩ : ∃ ps, ps = ms.map fun b => (Value.pointer (some ⟨b.g, 0, none⟩)) := ⟨_, rfl⟩
    rw [← hps] at S6
    have HGE : Hid (w.heap.size ≤ hg ∧ w.heap.size ≤ nx ∧ w.heap.size ≤ w4.heap.size) := Lib.hid ⟨Nat.le_trans HX.out.2.2.1.size HX.out.1.geh, by rw [hnx]; exact Nat.le_trans HX.out.2.2.1.size HX.out.2.2.2.size, HX.out.2.2.1.size⟩
    clear hw6 hnx BN hal hat hps HX HL3
    refine sm_list [0] 56 3 hs hd (by kernel_rfl) (agC e0 agN) rfl ?_
    simp only [seval]
    go_wp2_with fail
    intro a H; replace hs := H.s hs; replace hd := H.d rfl; replace e0 := H.g 0 rfl rfl; replace e1 := H.k e1 rfl; replace e5 := H.k e5 rfl; replace e6 := H.k e6 rfl; replace e7 := H.k e7 rfl; replace e8 := H.k e8 rfl; replace e9 := H.k e9 rfl; have e56 := H.g 56 rfl rfl; have e57 := H.g 57 rfl rfl; have e58 := H.g 58 rfl rfl; clear H; refine hKq16 _ _ ?_; clear hKq16 Kq16; refine wp_block ?_
    refine wp_loop (fun a w' => ∃ (i : Nat) (gens : List Int), i ≤ n ∧ Below w.heap.size w w' ∧ NumS w4.heap.size w' g gb ve hg vm ps nx i gens ∧ a.tmps.size = 169 ∧ a.defers = [] ∧ a.tmps[0]? = some (.slice A n c) ∧ a.tmps[1]? = some (.slice A2 n2 c2) ∧ a.tmps[7]? = some (.pointer (some ⟨g, 0, none⟩)) ∧ a.tmps[9]? = some (.pointer (some ⟨nx, 0, none⟩)) ∧ a.tmps[56]? = some (.slice A n c) ∧ a.tmps[57]? = some (.int .i64 (n : Int)) ∧ a.tmps[58]? = some (.int .i64 (i : Int))) (fun a _ => n - (intOf (a.tmps.getD 58 undef)).toNat) ?_ ?_
    · exact ⟨0, _, by omega, L6, S6, hs, hd, e0, e1, e7, e9, e56, e57, e58⟩
    clear e0 e1 e5 e6 e7 e8 e9 e56 e57 e58 hs hd a S6 L6
    rintro a w7 ⟨i, gens, hi, L7, S7, hs, hd, e0, e1, e7, e9, e56, e57, e58⟩
    have hm := slot e58
    refine wp_seq_k fun Kq17 hKq17 => ?_
    by_cases hlt3 : i < n
    ·
      have dj : decide ((i : Int) < (n : Int)) = true := decide_eq_true (by omega)
      have j1 : (i : Int) < (n : Int) := by omega
      have HM := Lib.hid hm
      have HI := Lib.hid hlt3
      clear hm hi
      refine sm_list [57, 58] 59 1 hs hd (by kernel_rfl) (agC e57 (agC e58 agN)) rfl ?_
      simp only [seval]
      go_wp2_with fail
      intro a H; replace hs := H.s hs; replace hd := H.d rfl; replace e57 := H.g 57 rfl rfl; replace e58 := H.g 58 rfl rfl; replace e0 := H.k e0 rfl; replace e1 := H.k e1 rfl; replace e7 := H.k e7 rfl; replace e9 := H.k e9 rfl; replace e56 := H.k e56 rfl; have e59 := H.g 59 rfl rfl; clear H; refine hKq17 _ _ ?_; clear hKq17 Kq17; refine wp_seq_k fun Kq18 hKq18 => ?_
      refine wp_cond_true (slotE e59) ?_
      clear e59; refine wp_skip ?_; refine hKq18 _ _ ?_; clear hKq18 Kq18; refine wp_seq_k fun Kq19 hKq19 => ?_; refine wp_block ?_; refine wp_seq_k fun Kq20 hKq20 => ?_; clear dj
      obtain ⟨ad, u, rfl, _, hu, hcu⟩ := (HR.out.1.below L7).at_ hlt3
      obtain ⟨z, rfl⟩ : ∃ z : Int, u = .int .i64 z := by
        rw [List.getElem?_map] at hu
        cases hz : zs[i]? with
        | none => rw [hz] at hu; cases hu
        | some z => rw [hz] at hu; injection hu with hu; exact ⟨z, hu.symm⟩
      refine sm_list [11, 56, 58] 60 2 hs hd (by kernel_rfl) (agU (agC e56 (agC e58 agN))) rfl ?_
      simp only [seval]
      go_wp2_with fail
      intro a H; replace hs := H.s hs; replace hd := H.d rfl; replace e56 := H.g 56 rfl rfl; replace e58 := H.g 58 rfl rfl; replace e0 := H.k e0 rfl; replace e1 := H.k e1 rfl; replace e7 := H.k e7 rfl; replace e9 := H.k e9 rfl; replace e57 := H.k e57 rfl; have e11 := H.g 11 rfl rfl; clear H; refine hKq20 _ _ ?_; clear hKq20 Kq20; refine wp_seq_k fun Kq21 hKq21 => ?_; clear hcu hu j1
      have a1 : bits .and .i64 z 255 = z % 256 := andI z 8 (by omega) _ rfl
      obtain ⟨zz, hzz⟩ : ∃ zz, zz = z % 256 := ⟨_, rfl⟩
      rw [← hzz] at a1
      have z0 : 0 ≤ zz ∧ zz < 256 := by omega
      obtain ⟨K, hK⟩ : ∃ K, K = zz % 3 := ⟨_, rfl⟩
      have a2 : zz.tmod 3 = K := by rw [hK]; exact Int.tmod_eq_emod_of_nonneg z0.1
      have k0 : K = 0 ∨ K = 1 ∨ K = 2 := by omega
      have a3 : IntKind.i64.wrap K = K := IntWalk.i64_in _ ⟨by omega, by omega⟩
      have HK3 := Lib.hid k0
      clear hzz z0 hK k0 hlt3
      refine sm_list [11] 62 3 hs hd (by kernel_rfl) (agC e11 agN) rfl ?_
      simp only [seval]
      go_wp2_with fail
      intro a H; replace hs := H.s hs; replace hd := H.d rfl; replace e0 := H.k e0 rfl; replace e1 := H.k e1 rfl; replace e7 := H.k e7 rfl; replace e9 := H.k e9 rfl; replace e56 := H.k e56 rfl; replace e57 := H.k e57 rfl; replace e58 := H.k e58 rfl; replace e11 := H.g 11 rfl rfl; clear H; refine hKq21 _ _ ?_; clear hKq21 Kq21; refine wp_seq_k fun Kq22 hKq22 => ?_; clear a1 a2 a3
      have HS7 := Lib.hid (And.intro S7 L7)
      clear S7 L7
      obtain ⟨g0, g1, g2, rfl⟩ : ∃ g0 g1 g2, gens = [g0, g1, g2] := by
        match gens, HS7.out.1.len with
        | [a, b, c], _ => exact ⟨a, b, c, rfl⟩
      rcases HK3.out with rfl | rfl | rfl
      ·
        have hg0 := HS7.out.1.rng g0 (by simp)
        obtain ⟨s, hs_⟩ : ∃ s, s = g0 := ⟨_, rfl⟩
        have s0 : 0 ≤ s ∧ s < 65536 := by have := HI.out; have := HN.out; omega
        obtain ⟨hck, hwf⟩ := fmN_ok (k := 0) (s := s) (data := data) (by omega) s0 (by rw [HR.out.2.2.2.1]; have := HN.out; omega) HR.out.2.2.2.2
        obtain ⟨f, hf⟩ : ∃ f, f = fmN 0 s data := ⟨_, rfl⟩
        rw [← hf] at hck hwf
        have hde := dec_enc f hwf hck
        obtain ⟨el, hel⟩ : ∃ el, el = encF f := ⟨_, rfl⟩
        have hlen := encF_len f hwf hck
        rw [← hel] at hde hlen
        have HF := Lib.hid (And.intro hck (And.intro hwf (And.intro hde (And.intro hlen (And.intro hel (And.intro hf (And.intro s0 hs_)))))))
        clear hck hwf hde hlen hel hf s0 hs_ hg0
        have HADR : Hid (∀ ad, A2 = some ad → 0 < n2 → ad.block ≠ hg) := Lib.hid (fun ad h hp => by
          obtain ⟨ad', e', hb', _⟩ := HR.out.2.2.1.2 (by omega)
          rw [h] at e'
          injection e' with e'
          have := HGE.out.1
          rw [e']
          omega)
        refine sm_list [1, 7, 11, 12, 13, 14] 65 8 hs hd (by kernel_rfl) (agC e1 (agC e7 (agC e11 (agU (agU (agU agN)))))) rfl ?_
        simp only [seval]
        go_wp2_with fail
        refine (hSend_w w4.heap.size g gb ve hg vm 3 ps 5 3 es3 [g0, g1, g2] 0 0 0 ⟨10, 1, 0, 0, 0, 0, 0, 0, 0, 0, 0, 1, true⟩ s A2 n2 c2 data f w7 HS7.out.1.at_ rfl rfl (by rw [HF.out.2.2.2.2.2.2.2]; rfl) HF.out.2.2.2.2.2.2.1 (by omega) (by rw [HF.out.2.2.2.2.2.1]; rfl) HF.out.2.1 HF.out.1 ((HR.out.2.2.1.below HS7.out.2).more HS7.out.2.size) (fun ad h hp => HADR.out ad h hp) (by have := HN.out; omega) (by decide)).mono ?_
        rintro x w8 ⟨vo, o0, o1, rfl, own8, r08, r18, f8, X8, F8⟩
        rw [← HF.out.2.2.2.2.1] at r08 r18
        obtain ⟨L, hL⟩ : ∃ L, L = el.length := ⟨_, rfl⟩
        rw [← hL] at r08 r18
        obtain ⟨A0, cc0, rfl, hc0, rd0⟩ := ownsRow_reads r08
        obtain ⟨A1, cc1, rfl, hc1, rd1⟩ := ownsRow_reads r18
        obtain ⟨go, co, rfl, lgo, hco⟩ := own_at own8
        have L8 : Below w.heap.size w w8 := HS7.out.2.trans (F8.below HS7.out.2.size (fun q hq => by rw [List.mem_singleton.1 hq]; exact HGE.out.1))
        have e8 : (s + 1) % 65536 = s + 1 := by have := HF.out.2.2.2.2.2.2.1; have := HS7.out.1.rng g0 (by simp); have := HF.out.2.2.2.2.2.2.2; have := HI.out; have := HN.out; omega
        rw [e8] at X8
        have nb8 := f8.blk HS7.out.1.nb (by decide)
        have HS8 := Lib.hid (And.intro X8 (And.intro nb8 (And.intro L8 (And.intro rd0 (And.intro rd1 (And.intro hc0 hL))))))
        have HC8 := Lib.hid (And.intro lgo hco)
        clear own8 r08 r18 f8 X8 F8 rd0 rd1 hc0 hc1 hL nb8 L8 e8 lgo hco
        go_wp2_with fail
        intro a H; replace hs := H.s hs; replace hd := H.d rfl; replace e1 := H.g 1 rfl rfl; replace e7 := H.g 7 rfl rfl; replace e11 := H.g 11 rfl rfl; replace e0 := H.k e0 rfl; replace e9 := H.k e9 rfl; replace e56 := H.k e56 rfl; replace e57 := H.k e57 rfl; replace e58 := H.k e58 rfl; have e12 := H.g 12 rfl rfl; have e13 := H.g 13 rfl rfl; have e14 := H.g 14 rfl rfl; clear H; refine hKq22 _ _ ?_
        clear hKq22 Kq22; refine wp_seq_k fun Kq23 hKq23 => ?_; refine wp_seq_k fun Kq24 hKq24 => ?_
        have c0 : w8.cell? ⟨go, 0, none⟩ = some (.int .i64 0) := HC8.out.2 0 _ rfl
        have c5 : w8.cell? ⟨go, 5, none⟩ = some (.int .i64 1) := HC8.out.2 5 _ rfl
        have c4 : w8.cell? ⟨go, 4, none⟩ = some (.slice A0 L cc0) := HC8.out.2 4 _ rfl
        have c9 : w8.cell? ⟨go, 9, none⟩ = some (.slice A1 L cc1) := HC8.out.2 9 _ rfl
        have lgo := HC8.out.1
        have qn : w8.cell? ⟨nx, 0, none⟩ = some (.int .i64 s) := by rw [HF.out.2.2.2.2.2.2.2]; exact HS8.out.2.1.cellOf 0 rfl
        have lnx := HS8.out.2.1.lt
        have hss : (s != s) = false := by simp
        have hSM : ∀ W, Below w8.heap.size w8 W → Calls Tryz.prog 10 #[.slice A0 L cc0, .slice A1 L cc1] W fun e w' => e = .returned (.bool true) ∧ Below W.heap.size W w' := fun W hW => (same_any A0 A1 L cc0 L cc1 el el W _ _ ((HS8.out.2.2.2.1).below hW) ((HS8.out.2.2.2.2.1).below hW) (bytes_256 HF.out.2.2.2.1.2) (bytes_256 HF.out.2.2.2.1.2)).mono (by rintro e w' ⟨rfl, rfl⟩; exact ⟨by simp, Below.refl _ _⟩)
        have HSM := Lib.hid hSM
        clear hSM
        refine sm_any [9, 11, 12, 13, 14] 73 44 (by kernel_rfl) hs hd (by kernel_rfl) (agC e9 (agC e11 (agC e12 (agC e13 (agC e14 agN))))) rfl (any_class (fun w' => Below w8.heap.size w8 w') (by kernel_rfl) ((Below.refl _ _).drew) ?_)
        simp only [seval]
        repeat (first | (with_reducible (refine wpQuiet_call (v := ?_) 10 ?_ ?_ ?_ ?_ ?_); rotate_left 2; (first | exact wanted_none rfl | exact wanted_on rfl rfl rfl); (intro w' hw'; obtain ⟨hc, hf⟩ := bcell hw'; go_simp; with_reducible rfl); (intro w' hw'; (with_reducible refine (HSM.out w' hw').mono ?_); rintro e w2 ⟨rfl, hb⟩; refine ⟨?_, hw'.trans (hb.mono (by have h0 := hw'.size; first | omega | (simp at h0; omega)))⟩; with_reducible rfl); simp only [Act.put, List.setIfInBounds_toArray, List.set_cons_zero, List.set_cons_succ]) | (with_reducible (refine wpQuiet_skip ?_ ?_); (first | exact wanted_off rfl rfl rfl rfl | exact wanted_off2 rfl rfl rfl); simp only [Act.put, List.setIfInBounds_toArray, List.set_cons_zero, List.set_cons_succ]) | (with_reducible (refine wpQuiet_val (v := ?_) ?_ ?_ ?_); rotate_left; (first | exact wanted_none rfl | exact wanted_on rfl rfl rfl); (intro w' hw'; obtain ⟨hc, hf⟩ := bcell hw'; go_simp; with_reducible rfl); simp only [Act.put, List.setIfInBounds_toArray, List.set_cons_zero, List.set_cons_succ]))
        refine wpQuiet_nil ?_
        intro w9 hw9
        intro a H; replace hs := H.s hs; replace hd := H.d rfl; replace e9 := H.g 9 rfl rfl; replace e11 := H.g 11 rfl rfl; replace e12 := H.g 12 rfl rfl; replace e13 := H.g 13 rfl rfl; replace e14 := H.g 14 rfl rfl; replace e0 := H.k e0 rfl; replace e1 := H.k e1 rfl; replace e7 := H.k e7 rfl; replace e56 := H.k e56 rfl; replace e57 := H.k e57 rfl; replace e58 := H.k e58 rfl; have e116 := H.g 116 rfl rfl
        clear H; refine hKq24 _ _ ?_; clear hKq24 Kq24
        refine wp_cond_false (slotE e116) ?_
        clear e116; refine wp_skip ?_; refine hKq23 _ _ ?_; clear hKq23 Kq23; refine wp_seq_k fun Kq25 hKq25 => ?_
        have HW9 := Lib.hid hw9
        have c4b : w9.cell? ⟨go, 4, none⟩ = some (.slice A0 L cc0) := by rw [hw9.cell lgo]; exact c4
        have nb9 := HS8.out.2.1.kept hw9
        have qn9 := nb9.cellOf (v := .int .i64 s) 0 (by rw [HF.out.2.2.2.2.2.2.2]; rfl)
        have fz := nb9.frozen
        have lz := nb9.lt
        have HB9 := Lib.hid nb9
        clear c0 c5 c4 c9 lgo qn lnx hss hw9 nb9 HSM
        refine sm_list [9, 11] 117 5 hs hd (by kernel_rfl) (agC e9 (agC e11 agN)) rfl ?_
        simp only [seval]
        go_wp2_with fail
        intro a H; replace hs := H.s hs; replace hd := H.d rfl; replace e9 := H.g 9 rfl rfl; replace e11 := H.g 11 rfl rfl; replace e0 := H.k e0 rfl; replace e1 := H.k e1 rfl; replace e7 := H.k e7 rfl; replace e56 := H.k e56 rfl; replace e57 := H.k e57 rfl; replace e58 := H.k e58 rfl; replace e12 := H.k e12 rfl; replace e13 := H.k e13 rfl; replace e14 := H.k e14 rfl; clear H; refine hKq25 _ _ ?_; clear hKq25 Kq25
        refine wp_seq_k fun Kq26 hKq26 => ?_; have gs_ := gr_set (grownBy_refl w9 (some nx)) 0 (.int .i64 (RowKit.wrap64 (s + 1)))
        have es1 : RowKit.wrap64 (s + 1) = s + 1 := IntWalk.wrap64_in _ (by have := HF.out.2.2.2.2.2.2.1; omega)
        rw [es1] at gs_ ⊢
        have nb10 := HB9.out.set_ 0 (.int .i64 (s + 1))
        rw [gensA_set] at nb10
        have f10 := FTy.gr (T := [44]) HB9.out (by simp) gs_
        have y10 := Bys.blk HB9.out (by unfold gensA; rw [← Array.all_toList]; simp [noU8]) gs_
        have X10 := (HS8.out.1.kept HW9.out).fty f10 (by decide)
        have rd10 := y10 _ _ _ ((HS8.out.2.2.2.1.below HW9.out).more HW9.out.size)
        have L10 : Below w.heap.size w (w9.setCell ⟨nx, 0, none⟩ (.int .i64 (s + 1))) := (HS8.out.2.2.1.trans (HW9.out.mono HS8.out.2.2.1.size)).grown gs_ (HS8.out.2.2.1.trans (HW9.out.mono HS8.out.2.2.1.size)).size (fun q hq => by cases hq; exact HGE.out.2.1)
        skip
        generalize hw10 : w9.setCell ⟨nx, 0, none⟩ (.int .i64 (s + 1)) = w10 at gs_ nb10 f10 y10 X10 rd10 L10 ⊢
        have c4d : w10.cell? ⟨go, 4, none⟩ = some (.slice A0 L cc0) := (gs_cell gs_ (by have := HC8.out.1; have := HW9.out.size; show go < _; omega) (by have h9 := HB9.out; intro e; rw [show go = nx from e] at c4b; rw [h9.cell] at c4b; simp [gensA] at c4b)).trans c4b
        have H10 := Lib.hid (And.intro X10 (And.intro nb10 (And.intro rd10 L10)))
        clear hw10 gs_ nb10 f10 y10 X10 rd10 L10 es1 qn9 fz lz c4b
        refine sm_list [12, 15, 16] 122 8 hs hd (by kernel_rfl) (agC e12 (agU (agU agN))) rfl ?_
        simp only [seval]
        go_wp2_with fail
        refine (decode_any A0 L cc0 el w10 H10.out.2.2.1 HF.out.2.2.2.1.2 (by have := HF.out.2.2.2.1.1; have := HS8.out.2.2.2.2.2.2; omega) HS8.out.2.2.2.2.2.1).mono ?_
        rintro x w11 ⟨hb11, hdr⟩
        rw [HF.out.2.2.1] at hdr
        obtain ⟨_, A3, c3, rfl, rd11⟩ := hdr
        obtain ⟨l3, hl3⟩ : ∃ l3, l3 = f.data.length := ⟨_, rfl⟩
        rw [← hl3] at rd11 ⊢
        have hM : f.cells A3 l3 c3 = #[.int .u8 1, .int .u8 0, .int .u8 0, .int .u8 0, .int .u8 0, .int .u8 0, .int .u8 0, .int .u8 0, .int .u8 0, .int .u8 0, .int .u8 0, .int .u8 5, .bool true, .int .i64 10, .int .i64 7, .bool false, .bool true, .int .i64 s, .int .i64 2048, .slice A3 l3 c3] := by rw [HF.out.2.2.2.2.2.1]; rfl
        rw [hM]
        have hdd : f.data = data := by rw [HF.out.2.2.2.2.2.1]; rfl
        rw [hdd] at rd11 hl3
        have H11 := Lib.hid (And.intro hb11 (And.intro rd11 hl3))
        clear hb11 rd11 hM hdd hl3
        go_wp2_with (first | (refine wpList_store_new rfl 52 (.tmp 1) (.tmp 9) rfl rfl rfl rfl rfl (by kernel_rfl) (by rw [← Array.all_toList]; rfl) ?_) | fail)
        intro a H; replace hs := H.s hs; replace hd := H.d rfl; replace e12 := H.g 12 rfl rfl; replace e0 := H.k e0 rfl; replace e1 := H.k e1 rfl; replace e7 := H.k e7 rfl; replace e9 := H.k e9 rfl; replace e56 := H.k e56 rfl; replace e57 := H.k e57 rfl; replace e58 := H.k e58 rfl; replace e11 := H.k e11 rfl; replace e13 := H.k e13 rfl; replace e14 := H.k e14 rfl; have e15 := H.g 15 rfl rfl; have e16 := H.g 16 rfl rfl
        clear H; refine hKq26 _ _ ?_; clear hKq26 Kq26; refine wp_seq_k fun Kq27 hKq27 => ?_; clear c4d
        have BF := Blk.new w11 52 #[.int .u8 1, .int .u8 0, .int .u8 0, .int .u8 0, .int .u8 0, .int .u8 0, .int .u8 0, .int .u8 0, .int .u8 0, .int .u8 0, .int .u8 0, .int .u8 5, .bool true, .int .i64 10, .int .i64 7, .bool false, .bool true, .int .i64 s, .int .i64 2048, .slice A3 l3 c3]
        have hal := (Below.refl w11.heap.size w11).alloc (Nat.le_refl _) (.cells #[.int .u8 1, .int .u8 0, .int .u8 0, .int .u8 0, .int .u8 0, .int .u8 0, .int .u8 0, .int .u8 0, .int .u8 0, .int .u8 0, .int .u8 0, .int .u8 5, .bool true, .int .i64 10, .int .i64 7, .bool false, .bool true, .int .i64 s, .int .i64 2048, .slice A3 l3 c3] 52)
        have L12 : Below w10.heap.size w10 (w11.alloc (.cells #[.int .u8 1, .int .u8 0, .int .u8 0, .int .u8 0, .int .u8 0, .int .u8 0, .int .u8 0, .int .u8 0, .int .u8 0, .int .u8 0, .int .u8 0, .int .u8 5, .bool true, .int .i64 10, .int .i64 7, .bool false, .bool true, .int .i64 s, .int .i64 2048, .slice A3 l3 c3] 52)) := H11.out.1.trans (hal.mono H11.out.1.size)
        have rd12 := (H11.out.2.1.below hal).more hal.size
        generalize hw12 : w11.alloc (.cells #[.int .u8 1, .int .u8 0, .int .u8 0, .int .u8 0, .int .u8 0, .int .u8 0, .int .u8 0, .int .u8 0, .int .u8 0, .int .u8 0, .int .u8 0, .int .u8 5, .bool true, .int .i64 10, .int .i64 7, .bool false, .bool true, .int .i64 s, .int .i64 2048, .slice A3 l3 c3] 52) = w12 at BF hal L12 rd12 ⊢
        obtain ⟨q, hq⟩ : ∃ q, q = w11.heap.size := ⟨_, rfl⟩
        rw [← hq] at BF e15
        have rdd : Reads w12 w12.heap.size 1 A2 n2 (us data) := (HR.out.2.2.1.below (H10.out.2.2.2.trans (L12.mono H10.out.2.2.2.size))).more (H10.out.2.2.2.trans (L12.mono H10.out.2.2.2.size)).size
        have k13 := BF.cellOf (v := .int .i64 10) 13 rfl
        have k14 := BF.cellOf (v := .int .i64 7) 14 rfl
        have k16 := BF.cellOf (v := .bool true) 16 rfl
        have k17 := BF.cellOf (v := .int .i64 s) 17 rfl
        have k19 := BF.cellOf (v := .slice A3 l3 c3) 19 rfl
        have lq := BF.lt
        have hss : (s != s) = false := by simp
        have hE : ∀ W, (binOp .neq 27 (.agg #[.int .u8 0, .int .u8 0, .int .u8 0, .int .u8 0, .int .u8 0, .int .u8 5]) (.agg #[.int .u8 0, .int .u8 0, .int .u8 0, .int .u8 0, .int .u8 0, .int .u8 5])).run Tryz.prog W = .ok (.bool false) W := fun W => by kernel_rfl
        have hSM : ∀ W, Below w12.heap.size w12 W → Calls Tryz.prog 10 #[.slice A3 l3 c3, .slice A2 n2 c2] W fun e w' => e = .returned (.bool true) ∧ Below W.heap.size W w' := fun W hW => (same_any A3 A2 l3 c3 n2 c2 data data W _ _ (rd12.below hW) (rdd.below hW) (bytes_256 HR.out.2.2.2.2) (bytes_256 HR.out.2.2.2.2)).mono (by rintro e w' ⟨rfl, rfl⟩; exact ⟨by simp, Below.refl _ _⟩)
        have HSM := Lib.hid hSM
        have H12 := Lib.hid (And.intro BF L12)
        clear hSM hw12 hq BF hal L12 rd12 rdd
        refine sm_any [1, 11, 13, 15, 16] 130 38 (by kernel_rfl) hs hd (by kernel_rfl) (agC e1 (agC e11 (agC e13 (agC e15 (agC e16 agN))))) rfl (any_class (fun w' => Below w12.heap.size w12 w') (by kernel_rfl) ((Below.refl _ _).drew) ?_)
        simp only [seval]
        repeat (first | (with_reducible (refine wpQuiet_call (v := ?_) 10 ?_ ?_ ?_ ?_ ?_); rotate_left 2; (first | exact wanted_none rfl | exact wanted_on rfl rfl rfl); (intro w' hw'; obtain ⟨hc, hf⟩ := bcell hw'; go_simp; with_reducible rfl); (intro w' hw'; (with_reducible refine (HSM.out w' hw').mono ?_); rintro e w2 ⟨rfl, hb⟩; refine ⟨?_, hw'.trans (hb.mono (by have h0 := hw'.size; first | omega | (simp at h0; omega)))⟩; with_reducible rfl); simp only [Act.put, List.setIfInBounds_toArray, List.set_cons_zero, List.set_cons_succ]) | (with_reducible (refine wpQuiet_call (v := ?_) 12 ?_ ?_ ?_ ?_ ?_); rotate_left 2; (first | exact wanted_none rfl | exact wanted_on rfl rfl rfl); (intro w' hw'; obtain ⟨hc, hf⟩ := bcell hw'; go_simp; with_reducible rfl); (intro w' hw'; (with_reducible refine (of_any 5 (by omega) w').mono ?_); rintro e w2 ⟨rfl, hb⟩; refine ⟨?_, hw'.trans (hb.mono (by have h0 := hw'.size; first | omega | (simp at h0; omega)))⟩; with_reducible rfl); simp only [Act.put, List.setIfInBounds_toArray, List.set_cons_zero, List.set_cons_succ]) | (refine wpQuiet_val (v := .agg #[.int .u8 0, .int .u8 0, .int .u8 0, .int .u8 0, .int .u8 0, .int .u8 5]) ?_ (fun w' hw' => run_load_cells_d 27 (.tmp 26) rfl ⟨q, 6, none⟩ rfl #[.int .u8 0, .int .u8 0, .int .u8 0, .int .u8 0, .int .u8 0, .int .u8 5] (blk_sub (H12.out.1.kept hw') src_sub0) Tryz.underlying27 rfl (by kernel_rfl)) ?_; (first | exact wanted_none rfl | exact wanted_on rfl rfl rfl); simp only [Act.put, List.setIfInBounds_toArray, List.set_cons_zero, List.set_cons_succ]) | (with_reducible (refine wpQuiet_skip ?_ ?_); (first | exact wanted_off rfl rfl rfl rfl | exact wanted_off2 rfl rfl rfl); simp only [Act.put, List.setIfInBounds_toArray, List.set_cons_zero, List.set_cons_succ]) | (with_reducible (refine wpQuiet_val (v := ?_) ?_ ?_ ?_); rotate_left; (first | exact wanted_none rfl | exact wanted_on rfl rfl rfl); (intro w' hw'; obtain ⟨hc, hf⟩ := bcell hw'; go_simp; with_reducible rfl); simp only [Act.put, List.setIfInBounds_toArray, List.set_cons_zero, List.set_cons_succ]))
        refine wpQuiet_nil ?_
        intro w13 hw13
        intro a H; replace hs := H.s hs; replace hd := H.d rfl; replace e1 := H.g 1 rfl rfl; replace e11 := H.g 11 rfl rfl; replace e13 := H.g 13 rfl rfl; replace e15 := H.g 15 rfl rfl; replace e16 := H.g 16 rfl rfl; replace e0 := H.k e0 rfl; replace e7 := H.k e7 rfl; replace e9 := H.k e9 rfl; replace e56 := H.k e56 rfl; replace e57 := H.k e57 rfl; replace e58 := H.k e58 rfl; replace e12 := H.k e12 rfl; replace e14 := H.k e14 rfl
        have e167 := H.g 167 rfl rfl; clear H; refine hKq27 _ _ ?_; clear hKq27 Kq27
        refine wp_cond_false (slotE e167) ?_
        clear e167; refine wp_skip ?_; refine hKq19 _ _ ?_; clear hKq19 Kq19; clear k13 k14 k16 k17 k19 lq hss hE HSM; have L13 := H12.out.2.trans (hw13.mono H12.out.2.size)
        have S13 : NumS w4.heap.size w13 g gb ve hg vm ps nx (i + 1) [s + 1, g1, g2] := ⟨H10.out.1.kept L13, H10.out.2.1.kept L13, rfl, gens_set (l := [g0, g1, g2]) (k := 0) HS7.out.1.rng (by have h1 := HS7.out.1.rng g0 (by simp); have h2 := HF.out.2.2.2.2.2.2.2; omega)⟩
        have LF := H10.out.2.2.2.trans (L13.mono H10.out.2.2.2.size); have hlt3 := HI.out; have hn60 := HN.out.1; clear e11; clear e12; clear e13; clear e14; clear e15; clear e16
        refine sm_list [58] 168 1 hs hd (by kernel_rfl) (agC e58 agN) rfl ?_
        simp only [seval]
        go_wp2_with fail
        intro a H; replace hs := H.s hs; replace hd := H.d rfl; replace e0 := H.k e0 rfl; replace e1 := H.k e1 rfl; replace e7 := H.k e7 rfl; replace e9 := H.k e9 rfl; replace e56 := H.k e56 rfl; replace e57 := H.k e57 rfl; replace e58 := H.g 58 rfl rfl; clear H
        exact ⟨⟨i + 1, _, by omega, LF, S13, hs, hd, e0, e1, e7, e9, e56, e57, e58⟩, by first | (simp only [HM.out, slot e58, intOf]; omega) | (simp [HM.out, slot e58, intOf]; omega)⟩
      ·
        have hg1 := HS7.out.1.rng g1 (by simp)
        obtain ⟨s, hs_⟩ : ∃ s, s = g1 := ⟨_, rfl⟩
        have s0 : 0 ≤ s ∧ s < 65536 := by have := HI.out; have := HN.out; omega
        obtain ⟨hck, hwf⟩ := fmN_ok (k := 1) (s := s) (data := data) (by omega) s0 (by rw [HR.out.2.2.2.1]; have := HN.out; omega) HR.out.2.2.2.2
        obtain ⟨f, hf⟩ : ∃ f, f = fmN 1 s data := ⟨_, rfl⟩
        rw [← hf] at hck hwf
        have hde := dec_enc f hwf hck
        obtain ⟨el, hel⟩ : ∃ el, el = encF f := ⟨_, rfl⟩
        have hlen := encF_len f hwf hck
        rw [← hel] at hde hlen
        have HF := Lib.hid (And.intro hck (And.intro hwf (And.intro hde (And.intro hlen (And.intro hel (And.intro hf (And.intro s0 hs_)))))))
        clear hck hwf hde hlen hel hf s0 hs_ hg1
        have HADR : Hid (∀ ad, A2 = some ad → 0 < n2 → ad.block ≠ hg) := Lib.hid (fun ad h hp => by
          obtain ⟨ad', e', hb', _⟩ := HR.out.2.2.1.2 (by omega)
          rw [h] at e'
          injection e' with e'
          have := HGE.out.1
          rw [e']
          omega)
        refine sm_list [1, 7, 11, 12, 13, 14] 65 8 hs hd (by kernel_rfl) (agC e1 (agC e7 (agC e11 (agU (agU (agU agN)))))) rfl ?_
        simp only [seval]
        go_wp2_with fail
        refine (hSend_w w4.heap.size g gb ve hg vm 3 ps 5 3 es3 [g0, g1, g2] 0 0 1 ⟨11, 1, 1, 0, 0, 0, 0, 0, 0, 0, 1, 2, true⟩ s A2 n2 c2 data f w7 HS7.out.1.at_ rfl rfl (by rw [HF.out.2.2.2.2.2.2.2]; rfl) HF.out.2.2.2.2.2.2.1 (by omega) (by rw [HF.out.2.2.2.2.2.1]; rfl) HF.out.2.1 HF.out.1 ((HR.out.2.2.1.below HS7.out.2).more HS7.out.2.size) (fun ad h hp => HADR.out ad h hp) (by have := HN.out; omega) (by decide)).mono ?_
        rintro x w8 ⟨vo, o0, o1, rfl, own8, r08, r18, f8, X8, F8⟩
        rw [← HF.out.2.2.2.2.1] at r08 r18
        obtain ⟨L, hL⟩ : ∃ L, L = el.length := ⟨_, rfl⟩
        rw [← hL] at r08 r18
        obtain ⟨A0, cc0, rfl, hc0, rd0⟩ := ownsRow_reads r08
        obtain ⟨A1, cc1, rfl, hc1, rd1⟩ := ownsRow_reads r18
        obtain ⟨go, co, rfl, lgo, hco⟩ := own_at own8
        have L8 : Below w.heap.size w w8 := HS7.out.2.trans (F8.below HS7.out.2.size (fun q hq => by rw [List.mem_singleton.1 hq]; exact HGE.out.1))
        have e8 : (s + 1) % 65536 = s + 1 := by have := HF.out.2.2.2.2.2.2.1; have := HS7.out.1.rng g1 (by simp); have := HF.out.2.2.2.2.2.2.2; have := HI.out; have := HN.out; omega
        rw [e8] at X8
        have nb8 := f8.blk HS7.out.1.nb (by decide)
        have HS8 := Lib.hid (And.intro X8 (And.intro nb8 (And.intro L8 (And.intro rd0 (And.intro rd1 (And.intro hc0 hL))))))
        have HC8 := Lib.hid (And.intro lgo hco)
        clear own8 r08 r18 f8 X8 F8 rd0 rd1 hc0 hc1 hL nb8 L8 e8 lgo hco
        go_wp2_with fail
        intro a H; replace hs := H.s hs; replace hd := H.d rfl; replace e1 := H.g 1 rfl rfl; replace e7 := H.g 7 rfl rfl; replace e11 := H.g 11 rfl rfl; replace e0 := H.k e0 rfl; replace e9 := H.k e9 rfl; replace e56 := H.k e56 rfl; replace e57 := H.k e57 rfl; replace e58 := H.k e58 rfl; have e12 := H.g 12 rfl rfl; have e13 := H.g 13 rfl rfl; have e14 := H.g 14 rfl rfl; clear H; refine hKq22 _ _ ?_
        clear hKq22 Kq22; refine wp_seq_k fun Kq23 hKq23 => ?_; refine wp_seq_k fun Kq24 hKq24 => ?_
        have c0 : w8.cell? ⟨go, 0, none⟩ = some (.int .i64 1) := HC8.out.2 0 _ rfl
        have c5 : w8.cell? ⟨go, 5, none⟩ = some (.int .i64 2) := HC8.out.2 5 _ rfl
        have c4 : w8.cell? ⟨go, 4, none⟩ = some (.slice A0 L cc0) := HC8.out.2 4 _ rfl
        have c9 : w8.cell? ⟨go, 9, none⟩ = some (.slice A1 L cc1) := HC8.out.2 9 _ rfl
        have lgo := HC8.out.1
        have qn : w8.cell? ⟨nx, 1, none⟩ = some (.int .i64 s) := by rw [HF.out.2.2.2.2.2.2.2]; exact HS8.out.2.1.cellOf 1 rfl
        have lnx := HS8.out.2.1.lt
        have hss : (s != s) = false := by simp
        have hSM : ∀ W, Below w8.heap.size w8 W → Calls Tryz.prog 10 #[.slice A0 L cc0, .slice A1 L cc1] W fun e w' => e = .returned (.bool true) ∧ Below W.heap.size W w' := fun W hW => (same_any A0 A1 L cc0 L cc1 el el W _ _ ((HS8.out.2.2.2.1).below hW) ((HS8.out.2.2.2.2.1).below hW) (bytes_256 HF.out.2.2.2.1.2) (bytes_256 HF.out.2.2.2.1.2)).mono (by rintro e w' ⟨rfl, rfl⟩; exact ⟨by simp, Below.refl _ _⟩)
        have HSM := Lib.hid hSM
        clear hSM
        refine sm_any [9, 11, 12, 13, 14] 73 44 (by kernel_rfl) hs hd (by kernel_rfl) (agC e9 (agC e11 (agC e12 (agC e13 (agC e14 agN))))) rfl (any_class (fun w' => Below w8.heap.size w8 w') (by kernel_rfl) ((Below.refl _ _).drew) ?_)
        simp only [seval]
        repeat (first | (with_reducible (refine wpQuiet_call (v := ?_) 10 ?_ ?_ ?_ ?_ ?_); rotate_left 2; (first | exact wanted_none rfl | exact wanted_on rfl rfl rfl); (intro w' hw'; obtain ⟨hc, hf⟩ := bcell hw'; go_simp; with_reducible rfl); (intro w' hw'; (with_reducible refine (HSM.out w' hw').mono ?_); rintro e w2 ⟨rfl, hb⟩; refine ⟨?_, hw'.trans (hb.mono (by have h0 := hw'.size; first | omega | (simp at h0; omega)))⟩; with_reducible rfl); simp only [Act.put, List.setIfInBounds_toArray, List.set_cons_zero, List.set_cons_succ]) | (with_reducible (refine wpQuiet_skip ?_ ?_); (first | exact wanted_off rfl rfl rfl rfl | exact wanted_off2 rfl rfl rfl); simp only [Act.put, List.setIfInBounds_toArray, List.set_cons_zero, List.set_cons_succ]) | (with_reducible (refine wpQuiet_val (v := ?_) ?_ ?_ ?_); rotate_left; (first | exact wanted_none rfl | exact wanted_on rfl rfl rfl); (intro w' hw'; obtain ⟨hc, hf⟩ := bcell hw'; go_simp; with_reducible rfl); simp only [Act.put, List.setIfInBounds_toArray, List.set_cons_zero, List.set_cons_succ]))
        refine wpQuiet_nil ?_
        intro w9 hw9
        intro a H; replace hs := H.s hs; replace hd := H.d rfl; replace e9 := H.g 9 rfl rfl; replace e11 := H.g 11 rfl rfl; replace e12 := H.g 12 rfl rfl; replace e13 := H.g 13 rfl rfl; replace e14 := H.g 14 rfl rfl; replace e0 := H.k e0 rfl; replace e1 := H.k e1 rfl; replace e7 := H.k e7 rfl; replace e56 := H.k e56 rfl; replace e57 := H.k e57 rfl; replace e58 := H.k e58 rfl; have e116 := H.g 116 rfl rfl
        clear H; refine hKq24 _ _ ?_; clear hKq24 Kq24
        refine wp_cond_false (slotE e116) ?_
        clear e116; refine wp_skip ?_; refine hKq23 _ _ ?_; clear hKq23 Kq23; refine wp_seq_k fun Kq25 hKq25 => ?_
        have HW9 := Lib.hid hw9
        have c4b : w9.cell? ⟨go, 4, none⟩ = some (.slice A0 L cc0) := by rw [hw9.cell lgo]; exact c4
        have nb9 := HS8.out.2.1.kept hw9
        have qn9 := nb9.cellOf (v := .int .i64 s) 1 (by rw [HF.out.2.2.2.2.2.2.2]; rfl)
        have fz := nb9.frozen
        have lz := nb9.lt
        have HB9 := Lib.hid nb9
        clear c0 c5 c4 c9 lgo qn lnx hss hw9 nb9 HSM
        refine sm_list [9, 11] 117 5 hs hd (by kernel_rfl) (agC e9 (agC e11 agN)) rfl ?_
        simp only [seval]
        go_wp2_with fail
        intro a H; replace hs := H.s hs; replace hd := H.d rfl; replace e9 := H.g 9 rfl rfl; replace e11 := H.g 11 rfl rfl; replace e0 := H.k e0 rfl; replace e1 := H.k e1 rfl; replace e7 := H.k e7 rfl; replace e56 := H.k e56 rfl; replace e57 := H.k e57 rfl; replace e58 := H.k e58 rfl; replace e12 := H.k e12 rfl; replace e13 := H.k e13 rfl; replace e14 := H.k e14 rfl; clear H; refine hKq25 _ _ ?_; clear hKq25 Kq25
        refine wp_seq_k fun Kq26 hKq26 => ?_; have gs_ := gr_set (grownBy_refl w9 (some nx)) 1 (.int .i64 (RowKit.wrap64 (s + 1)))
        have es1 : RowKit.wrap64 (s + 1) = s + 1 := IntWalk.wrap64_in _ (by have := HF.out.2.2.2.2.2.2.1; omega)
        rw [es1] at gs_ ⊢
        have nb10 := HB9.out.set_ 1 (.int .i64 (s + 1))
        rw [gensA_set] at nb10
        have f10 := FTy.gr (T := [44]) HB9.out (by simp) gs_
        have y10 := Bys.blk HB9.out (by unfold gensA; rw [← Array.all_toList]; simp [noU8]) gs_
        have X10 := (HS8.out.1.kept HW9.out).fty f10 (by decide)
        have rd10 := y10 _ _ _ ((HS8.out.2.2.2.1.below HW9.out).more HW9.out.size)
        have L10 : Below w.heap.size w (w9.setCell ⟨nx, 1, none⟩ (.int .i64 (s + 1))) := (HS8.out.2.2.1.trans (HW9.out.mono HS8.out.2.2.1.size)).grown gs_ (HS8.out.2.2.1.trans (HW9.out.mono HS8.out.2.2.1.size)).size (fun q hq => by cases hq; exact HGE.out.2.1)
        skip
        generalize hw10 : w9.setCell ⟨nx, 1, none⟩ (.int .i64 (s + 1)) = w10 at gs_ nb10 f10 y10 X10 rd10 L10 ⊢
        have c4d : w10.cell? ⟨go, 4, none⟩ = some (.slice A0 L cc0) := (gs_cell gs_ (by have := HC8.out.1; have := HW9.out.size; show go < _; omega) (by have h9 := HB9.out; intro e; rw [show go = nx from e] at c4b; rw [h9.cell] at c4b; simp [gensA] at c4b)).trans c4b
        have H10 := Lib.hid (And.intro X10 (And.intro nb10 (And.intro rd10 L10)))
        clear hw10 gs_ nb10 f10 y10 X10 rd10 L10 es1 qn9 fz lz c4b
        refine sm_list [12, 15, 16] 122 8 hs hd (by kernel_rfl) (agC e12 (agU (agU agN))) rfl ?_
        simp only [seval]
        go_wp2_with fail
        refine (decode_any A0 L cc0 el w10 H10.out.2.2.1 HF.out.2.2.2.1.2 (by have := HF.out.2.2.2.1.1; have := HS8.out.2.2.2.2.2.2; omega) HS8.out.2.2.2.2.2.1).mono ?_
        rintro x w11 ⟨hb11, hdr⟩
        rw [HF.out.2.2.1] at hdr
        obtain ⟨_, A3, c3, rfl, rd11⟩ := hdr
        obtain ⟨l3, hl3⟩ : ∃ l3, l3 = f.data.length := ⟨_, rfl⟩
        rw [← hl3] at rd11 ⊢
        have hM : f.cells A3 l3 c3 = #[.int .u8 1, .int .u8 1, .int .u8 0, .int .u8 0, .int .u8 0, .int .u8 0, .int .u8 0, .int .u8 0, .int .u8 0, .int .u8 0, .int .u8 0, .int .u8 5, .bool true, .int .i64 11, .int .i64 7, .bool false, .bool true, .int .i64 s, .int .i64 2048, .slice A3 l3 c3] := by rw [HF.out.2.2.2.2.2.1]; rfl
        rw [hM]
        have hdd : f.data = data := by rw [HF.out.2.2.2.2.2.1]; rfl
        rw [hdd] at rd11 hl3
        have H11 := Lib.hid (And.intro hb11 (And.intro rd11 hl3))
        clear hb11 rd11 hM hdd hl3
        go_wp2_with (first | (refine wpList_store_new rfl 52 (.tmp 1) (.tmp 9) rfl rfl rfl rfl rfl (by kernel_rfl) (by rw [← Array.all_toList]; rfl) ?_) | fail)
        intro a H; replace hs := H.s hs; replace hd := H.d rfl; replace e12 := H.g 12 rfl rfl; replace e0 := H.k e0 rfl; replace e1 := H.k e1 rfl; replace e7 := H.k e7 rfl; replace e9 := H.k e9 rfl; replace e56 := H.k e56 rfl; replace e57 := H.k e57 rfl; replace e58 := H.k e58 rfl; replace e11 := H.k e11 rfl; replace e13 := H.k e13 rfl; replace e14 := H.k e14 rfl; have e15 := H.g 15 rfl rfl; have e16 := H.g 16 rfl rfl
        clear H; refine hKq26 _ _ ?_; clear hKq26 Kq26; refine wp_seq_k fun Kq27 hKq27 => ?_; clear c4d
        have BF := Blk.new w11 52 #[.int .u8 1, .int .u8 1, .int .u8 0, .int .u8 0, .int .u8 0, .int .u8 0, .int .u8 0, .int .u8 0, .int .u8 0, .int .u8 0, .int .u8 0, .int .u8 5, .bool true, .int .i64 11, .int .i64 7, .bool false, .bool true, .int .i64 s, .int .i64 2048, .slice A3 l3 c3]
        have hal := (Below.refl w11.heap.size w11).alloc (Nat.le_refl _) (.cells #[.int .u8 1, .int .u8 1, .int .u8 0, .int .u8 0, .int .u8 0, .int .u8 0, .int .u8 0, .int .u8 0, .int .u8 0, .int .u8 0, .int .u8 0, .int .u8 5, .bool true, .int .i64 11, .int .i64 7, .bool false, .bool true, .int .i64 s, .int .i64 2048, .slice A3 l3 c3] 52)
        have L12 : Below w10.heap.size w10 (w11.alloc (.cells #[.int .u8 1, .int .u8 1, .int .u8 0, .int .u8 0, .int .u8 0, .int .u8 0, .int .u8 0, .int .u8 0, .int .u8 0, .int .u8 0, .int .u8 0, .int .u8 5, .bool true, .int .i64 11, .int .i64 7, .bool false, .bool true, .int .i64 s, .int .i64 2048, .slice A3 l3 c3] 52)) := H11.out.1.trans (hal.mono H11.out.1.size)
        have rd12 := (H11.out.2.1.below hal).more hal.size
        generalize hw12 : w11.alloc (.cells #[.int .u8 1, .int .u8 1, .int .u8 0, .int .u8 0, .int .u8 0, .int .u8 0, .int .u8 0, .int .u8 0, .int .u8 0, .int .u8 0, .int .u8 0, .int .u8 5, .bool true, .int .i64 11, .int .i64 7, .bool false, .bool true, .int .i64 s, .int .i64 2048, .slice A3 l3 c3] 52) = w12 at BF hal L12 rd12 ⊢
        obtain ⟨q, hq⟩ : ∃ q, q = w11.heap.size := ⟨_, rfl⟩
        rw [← hq] at BF e15
        have rdd : Reads w12 w12.heap.size 1 A2 n2 (us data) := (HR.out.2.2.1.below (H10.out.2.2.2.trans (L12.mono H10.out.2.2.2.size))).more (H10.out.2.2.2.trans (L12.mono H10.out.2.2.2.size)).size
        have k13 := BF.cellOf (v := .int .i64 11) 13 rfl
        have k14 := BF.cellOf (v := .int .i64 7) 14 rfl
        have k16 := BF.cellOf (v := .bool true) 16 rfl
        have k17 := BF.cellOf (v := .int .i64 s) 17 rfl
        have k19 := BF.cellOf (v := .slice A3 l3 c3) 19 rfl
        have lq := BF.lt
        have hss : (s != s) = false := by simp
        have hE : ∀ W, (binOp .neq 27 (.agg #[.int .u8 0, .int .u8 0, .int .u8 0, .int .u8 0, .int .u8 0, .int .u8 5]) (.agg #[.int .u8 0, .int .u8 0, .int .u8 0, .int .u8 0, .int .u8 0, .int .u8 5])).run Tryz.prog W = .ok (.bool false) W := fun W => by kernel_rfl
        have hSM : ∀ W, Below w12.heap.size w12 W → Calls Tryz.prog 10 #[.slice A3 l3 c3, .slice A2 n2 c2] W fun e w' => e = .returned (.bool true) ∧ Below W.heap.size W w' := fun W hW => (same_any A3 A2 l3 c3 n2 c2 data data W _ _ (rd12.below hW) (rdd.below hW) (bytes_256 HR.out.2.2.2.2) (bytes_256 HR.out.2.2.2.2)).mono (by rintro e w' ⟨rfl, rfl⟩; exact ⟨by simp, Below.refl _ _⟩)
        have HSM := Lib.hid hSM
        have H12 := Lib.hid (And.intro BF L12)
        clear hSM hw12 hq BF hal L12 rd12 rdd
        refine sm_any [1, 11, 13, 15, 16] 130 38 (by kernel_rfl) hs hd (by kernel_rfl) (agC e1 (agC e11 (agC e13 (agC e15 (agC e16 agN))))) rfl (any_class (fun w' => Below w12.heap.size w12 w') (by kernel_rfl) ((Below.refl _ _).drew) ?_)
        simp only [seval]
        repeat (first | (with_reducible (refine wpQuiet_call (v := ?_) 10 ?_ ?_ ?_ ?_ ?_); rotate_left 2; (first | exact wanted_none rfl | exact wanted_on rfl rfl rfl); (intro w' hw'; obtain ⟨hc, hf⟩ := bcell hw'; go_simp; with_reducible rfl); (intro w' hw'; (with_reducible refine (HSM.out w' hw').mono ?_); rintro e w2 ⟨rfl, hb⟩; refine ⟨?_, hw'.trans (hb.mono (by have h0 := hw'.size; first | omega | (simp at h0; omega)))⟩; with_reducible rfl); simp only [Act.put, List.setIfInBounds_toArray, List.set_cons_zero, List.set_cons_succ]) | (with_reducible (refine wpQuiet_call (v := ?_) 12 ?_ ?_ ?_ ?_ ?_); rotate_left 2; (first | exact wanted_none rfl | exact wanted_on rfl rfl rfl); (intro w' hw'; obtain ⟨hc, hf⟩ := bcell hw'; go_simp; with_reducible rfl); (intro w' hw'; (with_reducible refine (of_any 5 (by omega) w').mono ?_); rintro e w2 ⟨rfl, hb⟩; refine ⟨?_, hw'.trans (hb.mono (by have h0 := hw'.size; first | omega | (simp at h0; omega)))⟩; with_reducible rfl); simp only [Act.put, List.setIfInBounds_toArray, List.set_cons_zero, List.set_cons_succ]) | (refine wpQuiet_val (v := .agg #[.int .u8 0, .int .u8 0, .int .u8 0, .int .u8 0, .int .u8 0, .int .u8 5]) ?_ (fun w' hw' => run_load_cells_d 27 (.tmp 26) rfl ⟨q, 6, none⟩ rfl #[.int .u8 0, .int .u8 0, .int .u8 0, .int .u8 0, .int .u8 0, .int .u8 5] (blk_sub (H12.out.1.kept hw') src_sub1) Tryz.underlying27 rfl (by kernel_rfl)) ?_; (first | exact wanted_none rfl | exact wanted_on rfl rfl rfl); simp only [Act.put, List.setIfInBounds_toArray, List.set_cons_zero, List.set_cons_succ]) | (with_reducible (refine wpQuiet_skip ?_ ?_); (first | exact wanted_off rfl rfl rfl rfl | exact wanted_off2 rfl rfl rfl); simp only [Act.put, List.setIfInBounds_toArray, List.set_cons_zero, List.set_cons_succ]) | (with_reducible (refine wpQuiet_val (v := ?_) ?_ ?_ ?_); rotate_left; (first | exact wanted_none rfl | exact wanted_on rfl rfl rfl); (intro w' hw'; obtain ⟨hc, hf⟩ := bcell hw'; go_simp; with_reducible rfl); simp only [Act.put, List.setIfInBounds_toArray, List.set_cons_zero, List.set_cons_succ]))
        refine wpQuiet_nil ?_
        intro w13 hw13
        intro a H; replace hs := H.s hs; replace hd := H.d rfl; replace e1 := H.g 1 rfl rfl; replace e11 := H.g 11 rfl rfl; replace e13 := H.g 13 rfl rfl; replace e15 := H.g 15 rfl rfl; replace e16 := H.g 16 rfl rfl; replace e0 := H.k e0 rfl; replace e7 := H.k e7 rfl; replace e9 := H.k e9 rfl; replace e56 := H.k e56 rfl; replace e57 := H.k e57 rfl; replace e58 := H.k e58 rfl; replace e12 := H.k e12 rfl; replace e14 := H.k e14 rfl
        have e167 := H.g 167 rfl rfl; clear H; refine hKq27 _ _ ?_; clear hKq27 Kq27
        refine wp_cond_false (slotE e167) ?_
        clear e167; refine wp_skip ?_; refine hKq19 _ _ ?_; clear hKq19 Kq19; clear k13 k14 k16 k17 k19 lq hss hE HSM; have L13 := H12.out.2.trans (hw13.mono H12.out.2.size)
        have S13 : NumS w4.heap.size w13 g gb ve hg vm ps nx (i + 1) [g0, s + 1, g2] := ⟨H10.out.1.kept L13, H10.out.2.1.kept L13, rfl, gens_set (l := [g0, g1, g2]) (k := 1) HS7.out.1.rng (by have h1 := HS7.out.1.rng g1 (by simp); have h2 := HF.out.2.2.2.2.2.2.2; omega)⟩
        have LF := H10.out.2.2.2.trans (L13.mono H10.out.2.2.2.size); have hlt3 := HI.out; have hn60 := HN.out.1; clear e11; clear e12; clear e13; clear e14; clear e15; clear e16
        refine sm_list [58] 168 1 hs hd (by kernel_rfl) (agC e58 agN) rfl ?_
        simp only [seval]
        go_wp2_with fail
        intro a H; replace hs := H.s hs; replace hd := H.d rfl; replace e0 := H.k e0 rfl; replace e1 := H.k e1 rfl; replace e7 := H.k e7 rfl; replace e9 := H.k e9 rfl; replace e56 := H.k e56 rfl; replace e57 := H.k e57 rfl; replace e58 := H.g 58 rfl rfl; clear H
        exact ⟨⟨i + 1, _, by omega, LF, S13, hs, hd, e0, e1, e7, e9, e56, e57, e58⟩, by first | (simp only [HM.out, slot e58, intOf]; omega) | (simp [HM.out, slot e58, intOf]; omega)⟩
      ·
        have hg2 := HS7.out.1.rng g2 (by simp)
        obtain ⟨s, hs_⟩ : ∃ s, s = g2 := ⟨_, rfl⟩
        have s0 : 0 ≤ s ∧ s < 65536 := by have := HI.out; have := HN.out; omega
        obtain ⟨hck, hwf⟩ := fmN_ok (k := 2) (s := s) (data := data) (by omega) s0 (by rw [HR.out.2.2.2.1]; have := HN.out; omega) HR.out.2.2.2.2
        obtain ⟨f, hf⟩ : ∃ f, f = fmN 2 s data := ⟨_, rfl⟩
        rw [← hf] at hck hwf
        have hde := dec_enc f hwf hck
        obtain ⟨el, hel⟩ : ∃ el, el = encF f := ⟨_, rfl⟩
        have hlen := encF_len f hwf hck
        rw [← hel] at hde hlen
        have HF := Lib.hid (And.intro hck (And.intro hwf (And.intro hde (And.intro hlen (And.intro hel (And.intro hf (And.intro s0 hs_)))))))
        clear hck hwf hde hlen hel hf s0 hs_ hg2
        have HADR : Hid (∀ ad, A2 = some ad → 0 < n2 → ad.block ≠ hg) := Lib.hid (fun ad h hp => by
          obtain ⟨ad', e', hb', _⟩ := HR.out.2.2.1.2 (by omega)
          rw [h] at e'
          injection e' with e'
          have := HGE.out.1
          rw [e']
          omega)
        refine sm_list [1, 7, 11, 12, 13, 14] 65 8 hs hd (by kernel_rfl) (agC e1 (agC e7 (agC e11 (agU (agU (agU agN)))))) rfl ?_
        simp only [seval]
        go_wp2_with fail
        refine (hSend_w w4.heap.size g gb ve hg vm 3 ps 5 3 es3 [g0, g1, g2] 0 0 2 ⟨12, 1, 2, 0, 0, 0, 0, 0, 0, 0, 2, 0, true⟩ s A2 n2 c2 data f w7 HS7.out.1.at_ rfl rfl (by rw [HF.out.2.2.2.2.2.2.2]; rfl) HF.out.2.2.2.2.2.2.1 (by omega) (by rw [HF.out.2.2.2.2.2.1]; rfl) HF.out.2.1 HF.out.1 ((HR.out.2.2.1.below HS7.out.2).more HS7.out.2.size) (fun ad h hp => HADR.out ad h hp) (by have := HN.out; omega) (by decide)).mono ?_
        rintro x w8 ⟨vo, o0, o1, rfl, own8, r08, r18, f8, X8, F8⟩
        rw [← HF.out.2.2.2.2.1] at r08 r18
        obtain ⟨L, hL⟩ : ∃ L, L = el.length := ⟨_, rfl⟩
        rw [← hL] at r08 r18
        obtain ⟨A0, cc0, rfl, hc0, rd0⟩ := ownsRow_reads r08
        obtain ⟨A1, cc1, rfl, hc1, rd1⟩ := ownsRow_reads r18
        obtain ⟨go, co, rfl, lgo, hco⟩ := own_at own8
        have L8 : Below w.heap.size w w8 := HS7.out.2.trans (F8.below HS7.out.2.size (fun q hq => by rw [List.mem_singleton.1 hq]; exact HGE.out.1))
        have e8 : (s + 1) % 65536 = s + 1 := by have := HF.out.2.2.2.2.2.2.1; have := HS7.out.1.rng g2 (by simp); have := HF.out.2.2.2.2.2.2.2; have := HI.out; have := HN.out; omega
        rw [e8] at X8
        have nb8 := f8.blk HS7.out.1.nb (by decide)
        have HS8 := Lib.hid (And.intro X8 (And.intro nb8 (And.intro L8 (And.intro rd0 (And.intro rd1 (And.intro hc0 hL))))))
        have HC8 := Lib.hid (And.intro lgo hco)
        clear own8 r08 r18 f8 X8 F8 rd0 rd1 hc0 hc1 hL nb8 L8 e8 lgo hco
        go_wp2_with fail
        intro a H; replace hs := H.s hs; replace hd := H.d rfl; replace e1 := H.g 1 rfl rfl; replace e7 := H.g 7 rfl rfl; replace e11 := H.g 11 rfl rfl; replace e0 := H.k e0 rfl; replace e9 := H.k e9 rfl; replace e56 := H.k e56 rfl; replace e57 := H.k e57 rfl; replace e58 := H.k e58 rfl; have e12 := H.g 12 rfl rfl; have e13 := H.g 13 rfl rfl; have e14 := H.g 14 rfl rfl; clear H; refine hKq22 _ _ ?_
        clear hKq22 Kq22; refine wp_seq_k fun Kq23 hKq23 => ?_; refine wp_seq_k fun Kq24 hKq24 => ?_
        have c0 : w8.cell? ⟨go, 0, none⟩ = some (.int .i64 2) := HC8.out.2 0 _ rfl
        have c5 : w8.cell? ⟨go, 5, none⟩ = some (.int .i64 0) := HC8.out.2 5 _ rfl
        have c4 : w8.cell? ⟨go, 4, none⟩ = some (.slice A0 L cc0) := HC8.out.2 4 _ rfl
        have c9 : w8.cell? ⟨go, 9, none⟩ = some (.slice A1 L cc1) := HC8.out.2 9 _ rfl
        have lgo := HC8.out.1
        have qn : w8.cell? ⟨nx, 2, none⟩ = some (.int .i64 s) := by rw [HF.out.2.2.2.2.2.2.2]; exact HS8.out.2.1.cellOf 2 rfl
        have lnx := HS8.out.2.1.lt
        have hss : (s != s) = false := by simp
        have hSM : ∀ W, Below w8.heap.size w8 W → Calls Tryz.prog 10 #[.slice A0 L cc0, .slice A1 L cc1] W fun e w' => e = .returned (.bool true) ∧ Below W.heap.size W w' := fun W hW => (same_any A0 A1 L cc0 L cc1 el el W _ _ ((HS8.out.2.2.2.1).below hW) ((HS8.out.2.2.2.2.1).below hW) (bytes_256 HF.out.2.2.2.1.2) (bytes_256 HF.out.2.2.2.1.2)).mono (by rintro e w' ⟨rfl, rfl⟩; exact ⟨by simp, Below.refl _ _⟩)
        have HSM := Lib.hid hSM
        clear hSM
        refine sm_any [9, 11, 12, 13, 14] 73 44 (by kernel_rfl) hs hd (by kernel_rfl) (agC e9 (agC e11 (agC e12 (agC e13 (agC e14 agN))))) rfl (any_class (fun w' => Below w8.heap.size w8 w') (by kernel_rfl) ((Below.refl _ _).drew) ?_)
        simp only [seval]
        repeat (first | (with_reducible (refine wpQuiet_call (v := ?_) 10 ?_ ?_ ?_ ?_ ?_); rotate_left 2; (first | exact wanted_none rfl | exact wanted_on rfl rfl rfl); (intro w' hw'; obtain ⟨hc, hf⟩ := bcell hw'; go_simp; with_reducible rfl); (intro w' hw'; (with_reducible refine (HSM.out w' hw').mono ?_); rintro e w2 ⟨rfl, hb⟩; refine ⟨?_, hw'.trans (hb.mono (by have h0 := hw'.size; first | omega | (simp at h0; omega)))⟩; with_reducible rfl); simp only [Act.put, List.setIfInBounds_toArray, List.set_cons_zero, List.set_cons_succ]) | (with_reducible (refine wpQuiet_skip ?_ ?_); (first | exact wanted_off rfl rfl rfl rfl | exact wanted_off2 rfl rfl rfl); simp only [Act.put, List.setIfInBounds_toArray, List.set_cons_zero, List.set_cons_succ]) | (with_reducible (refine wpQuiet_val (v := ?_) ?_ ?_ ?_); rotate_left; (first | exact wanted_none rfl | exact wanted_on rfl rfl rfl); (intro w' hw'; obtain ⟨hc, hf⟩ := bcell hw'; go_simp; with_reducible rfl); simp only [Act.put, List.setIfInBounds_toArray, List.set_cons_zero, List.set_cons_succ]))
        refine wpQuiet_nil ?_
        intro w9 hw9
        intro a H; replace hs := H.s hs; replace hd := H.d rfl; replace e9 := H.g 9 rfl rfl; replace e11 := H.g 11 rfl rfl; replace e12 := H.g 12 rfl rfl; replace e13 := H.g 13 rfl rfl; replace e14 := H.g 14 rfl rfl; replace e0 := H.k e0 rfl; replace e1 := H.k e1 rfl; replace e7 := H.k e7 rfl; replace e56 := H.k e56 rfl; replace e57 := H.k e57 rfl; replace e58 := H.k e58 rfl; have e116 := H.g 116 rfl rfl
        clear H; refine hKq24 _ _ ?_; clear hKq24 Kq24
        refine wp_cond_false (slotE e116) ?_
        clear e116; refine wp_skip ?_; refine hKq23 _ _ ?_; clear hKq23 Kq23; refine wp_seq_k fun Kq25 hKq25 => ?_
        have HW9 := Lib.hid hw9
        have c4b : w9.cell? ⟨go, 4, none⟩ = some (.slice A0 L cc0) := by rw [hw9.cell lgo]; exact c4
        have nb9 := HS8.out.2.1.kept hw9
        have qn9 := nb9.cellOf (v := .int .i64 s) 2 (by rw [HF.out.2.2.2.2.2.2.2]; rfl)
        have fz := nb9.frozen
        have lz := nb9.lt
        have HB9 := Lib.hid nb9
        clear c0 c5 c4 c9 lgo qn lnx hss hw9 nb9 HSM
        refine sm_list [9, 11] 117 5 hs hd (by kernel_rfl) (agC e9 (agC e11 agN)) rfl ?_
        simp only [seval]
        go_wp2_with fail
        intro a H; replace hs := H.s hs; replace hd := H.d rfl; replace e9 := H.g 9 rfl rfl; replace e11 := H.g 11 rfl rfl; replace e0 := H.k e0 rfl; replace e1 := H.k e1 rfl; replace e7 := H.k e7 rfl; replace e56 := H.k e56 rfl; replace e57 := H.k e57 rfl; replace e58 := H.k e58 rfl; replace e12 := H.k e12 rfl; replace e13 := H.k e13 rfl; replace e14 := H.k e14 rfl; clear H; refine hKq25 _ _ ?_; clear hKq25 Kq25
        refine wp_seq_k fun Kq26 hKq26 => ?_; have gs_ := gr_set (grownBy_refl w9 (some nx)) 2 (.int .i64 (RowKit.wrap64 (s + 1)))
        have es1 : RowKit.wrap64 (s + 1) = s + 1 := IntWalk.wrap64_in _ (by have := HF.out.2.2.2.2.2.2.1; omega)
        rw [es1] at gs_ ⊢
        have nb10 := HB9.out.set_ 2 (.int .i64 (s + 1))
        rw [gensA_set] at nb10
        have f10 := FTy.gr (T := [44]) HB9.out (by simp) gs_
        have y10 := Bys.blk HB9.out (by unfold gensA; rw [← Array.all_toList]; simp [noU8]) gs_
        have X10 := (HS8.out.1.kept HW9.out).fty f10 (by decide)
        have rd10 := y10 _ _ _ ((HS8.out.2.2.2.1.below HW9.out).more HW9.out.size)
        have L10 : Below w.heap.size w (w9.setCell ⟨nx, 2, none⟩ (.int .i64 (s + 1))) := (HS8.out.2.2.1.trans (HW9.out.mono HS8.out.2.2.1.size)).grown gs_ (HS8.out.2.2.1.trans (HW9.out.mono HS8.out.2.2.1.size)).size (fun q hq => by cases hq; exact HGE.out.2.1)
        skip
        generalize hw10 : w9.setCell ⟨nx, 2, none⟩ (.int .i64 (s + 1)) = w10 at gs_ nb10 f10 y10 X10 rd10 L10 ⊢
        have c4d : w10.cell? ⟨go, 4, none⟩ = some (.slice A0 L cc0) := (gs_cell gs_ (by have := HC8.out.1; have := HW9.out.size; show go < _; omega) (by have h9 := HB9.out; intro e; rw [show go = nx from e] at c4b; rw [h9.cell] at c4b; simp [gensA] at c4b)).trans c4b
        have H10 := Lib.hid (And.intro X10 (And.intro nb10 (And.intro rd10 L10)))
        clear hw10 gs_ nb10 f10 y10 X10 rd10 L10 es1 qn9 fz lz c4b
        refine sm_list [12, 15, 16] 122 8 hs hd (by kernel_rfl) (agC e12 (agU (agU agN))) rfl ?_
        simp only [seval]
        go_wp2_with fail
        refine (decode_any A0 L cc0 el w10 H10.out.2.2.1 HF.out.2.2.2.1.2 (by have := HF.out.2.2.2.1.1; have := HS8.out.2.2.2.2.2.2; omega) HS8.out.2.2.2.2.2.1).mono ?_
        rintro x w11 ⟨hb11, hdr⟩
        rw [HF.out.2.2.1] at hdr
        obtain ⟨_, A3, c3, rfl, rd11⟩ := hdr
        obtain ⟨l3, hl3⟩ : ∃ l3, l3 = f.data.length := ⟨_, rfl⟩
        rw [← hl3] at rd11 ⊢
        have hM : f.cells A3 l3 c3 = #[.int .u8 1, .int .u8 2, .int .u8 0, .int .u8 0, .int .u8 0, .int .u8 0, .int .u8 0, .int .u8 0, .int .u8 0, .int .u8 0, .int .u8 0, .int .u8 5, .bool true, .int .i64 12, .int .i64 7, .bool false, .bool true, .int .i64 s, .int .i64 2048, .slice A3 l3 c3] := by rw [HF.out.2.2.2.2.2.1]; rfl
        rw [hM]
        have hdd : f.data = data := by rw [HF.out.2.2.2.2.2.1]; rfl
        rw [hdd] at rd11 hl3
        have H11 := Lib.hid (And.intro hb11 (And.intro rd11 hl3))
        clear hb11 rd11 hM hdd hl3
        go_wp2_with (first | (refine wpList_store_new rfl 52 (.tmp 1) (.tmp 9) rfl rfl rfl rfl rfl (by kernel_rfl) (by rw [← Array.all_toList]; rfl) ?_) | fail)
        intro a H; replace hs := H.s hs; replace hd := H.d rfl; replace e12 := H.g 12 rfl rfl; replace e0 := H.k e0 rfl; replace e1 := H.k e1 rfl; replace e7 := H.k e7 rfl; replace e9 := H.k e9 rfl; replace e56 := H.k e56 rfl; replace e57 := H.k e57 rfl; replace e58 := H.k e58 rfl; replace e11 := H.k e11 rfl; replace e13 := H.k e13 rfl; replace e14 := H.k e14 rfl; have e15 := H.g 15 rfl rfl; have e16 := H.g 16 rfl rfl
        clear H; refine hKq26 _ _ ?_; clear hKq26 Kq26; refine wp_seq_k fun Kq27 hKq27 => ?_; clear c4d
        have BF := Blk.new w11 52 #[.int .u8 1, .int .u8 2, .int .u8 0, .int .u8 0, .int .u8 0, .int .u8 0, .int .u8 0, .int .u8 0, .int .u8 0, .int .u8 0, .int .u8 0, .int .u8 5, .bool true, .int .i64 12, .int .i64 7, .bool false, .bool true, .int .i64 s, .int .i64 2048, .slice A3 l3 c3]
        have hal := (Below.refl w11.heap.size w11).alloc (Nat.le_refl _) (.cells #[.int .u8 1, .int .u8 2, .int .u8 0, .int .u8 0, .int .u8 0, .int .u8 0, .int .u8 0, .int .u8 0, .int .u8 0, .int .u8 0, .int .u8 0, .int .u8 5, .bool true, .int .i64 12, .int .i64 7, .bool false, .bool true, .int .i64 s, .int .i64 2048, .slice A3 l3 c3] 52)
        have L12 : Below w10.heap.size w10 (w11.alloc (.cells #[.int .u8 1, .int .u8 2, .int .u8 0, .int .u8 0, .int .u8 0, .int .u8 0, .int .u8 0, .int .u8 0, .int .u8 0, .int .u8 0, .int .u8 0, .int .u8 5, .bool true, .int .i64 12, .int .i64 7, .bool false, .bool true, .int .i64 s, .int .i64 2048, .slice A3 l3 c3] 52)) := H11.out.1.trans (hal.mono H11.out.1.size)
        have rd12 := (H11.out.2.1.below hal).more hal.size
        generalize hw12 : w11.alloc (.cells #[.int .u8 1, .int .u8 2, .int .u8 0, .int .u8 0, .int .u8 0, .int .u8 0, .int .u8 0, .int .u8 0, .int .u8 0, .int .u8 0, .int .u8 0, .int .u8 5, .bool true, .int .i64 12, .int .i64 7, .bool false, .bool true, .int .i64 s, .int .i64 2048, .slice A3 l3 c3] 52) = w12 at BF hal L12 rd12 ⊢
        obtain ⟨q, hq⟩ : ∃ q, q = w11.heap.size := ⟨_, rfl⟩
        rw [← hq] at BF e15
        have rdd : Reads w12 w12.heap.size 1 A2 n2 (us data) := (HR.out.2.2.1.below (H10.out.2.2.2.trans (L12.mono H10.out.2.2.2.size))).more (H10.out.2.2.2.trans (L12.mono H10.out.2.2.2.size)).size
        have k13 := BF.cellOf (v := .int .i64 12) 13 rfl
        have k14 := BF.cellOf (v := .int .i64 7) 14 rfl
        have k16 := BF.cellOf (v := .bool true) 16 rfl
        have k17 := BF.cellOf (v := .int .i64 s) 17 rfl
        have k19 := BF.cellOf (v := .slice A3 l3 c3) 19 rfl
        have lq := BF.lt
        have hss : (s != s) = false := by simp
        have hE : ∀ W, (binOp .neq 27 (.agg #[.int .u8 0, .int .u8 0, .int .u8 0, .int .u8 0, .int .u8 0, .int .u8 5]) (.agg #[.int .u8 0, .int .u8 0, .int .u8 0, .int .u8 0, .int .u8 0, .int .u8 5])).run Tryz.prog W = .ok (.bool false) W := fun W => by kernel_rfl
        have hSM : ∀ W, Below w12.heap.size w12 W → Calls Tryz.prog 10 #[.slice A3 l3 c3, .slice A2 n2 c2] W fun e w' => e = .returned (.bool true) ∧ Below W.heap.size W w' := fun W hW => (same_any A3 A2 l3 c3 n2 c2 data data W _ _ (rd12.below hW) (rdd.below hW) (bytes_256 HR.out.2.2.2.2) (bytes_256 HR.out.2.2.2.2)).mono (by rintro e w' ⟨rfl, rfl⟩; exact ⟨by simp, Below.refl _ _⟩)
        have HSM := Lib.hid hSM
        have H12 := Lib.hid (And.intro BF L12)
        clear hSM hw12 hq BF hal L12 rd12 rdd
        refine sm_any [1, 11, 13, 15, 16] 130 38 (by kernel_rfl) hs hd (by kernel_rfl) (agC e1 (agC e11 (agC e13 (agC e15 (agC e16 agN))))) rfl (any_class (fun w' => Below w12.heap.size w12 w') (by kernel_rfl) ((Below.refl _ _).drew) ?_)
        simp only [seval]
        repeat (first | (with_reducible (refine wpQuiet_call (v := ?_) 10 ?_ ?_ ?_ ?_ ?_); rotate_left 2; (first | exact wanted_none rfl | exact wanted_on rfl rfl rfl); (intro w' hw'; obtain ⟨hc, hf⟩ := bcell hw'; go_simp; with_reducible rfl); (intro w' hw'; (with_reducible refine (HSM.out w' hw').mono ?_); rintro e w2 ⟨rfl, hb⟩; refine ⟨?_, hw'.trans (hb.mono (by have h0 := hw'.size; first | omega | (simp at h0; omega)))⟩; with_reducible rfl); simp only [Act.put, List.setIfInBounds_toArray, List.set_cons_zero, List.set_cons_succ]) | (with_reducible (refine wpQuiet_call (v := ?_) 12 ?_ ?_ ?_ ?_ ?_); rotate_left 2; (first | exact wanted_none rfl | exact wanted_on rfl rfl rfl); (intro w' hw'; obtain ⟨hc, hf⟩ := bcell hw'; go_simp; with_reducible rfl); (intro w' hw'; (with_reducible refine (of_any 5 (by omega) w').mono ?_); rintro e w2 ⟨rfl, hb⟩; refine ⟨?_, hw'.trans (hb.mono (by have h0 := hw'.size; first | omega | (simp at h0; omega)))⟩; with_reducible rfl); simp only [Act.put, List.setIfInBounds_toArray, List.set_cons_zero, List.set_cons_succ]) | (refine wpQuiet_val (v := .agg #[.int .u8 0, .int .u8 0, .int .u8 0, .int .u8 0, .int .u8 0, .int .u8 5]) ?_ (fun w' hw' => run_load_cells_d 27 (.tmp 26) rfl ⟨q, 6, none⟩ rfl #[.int .u8 0, .int .u8 0, .int .u8 0, .int .u8 0, .int .u8 0, .int .u8 5] (blk_sub (H12.out.1.kept hw') src_sub2) Tryz.underlying27 rfl (by kernel_rfl)) ?_; (first | exact wanted_none rfl | exact wanted_on rfl rfl rfl); simp only [Act.put, List.setIfInBounds_toArray, List.set_cons_zero, List.set_cons_succ]) | (with_reducible (refine wpQuiet_skip ?_ ?_); (first | exact wanted_off rfl rfl rfl rfl | exact wanted_off2 rfl rfl rfl); simp only [Act.put, List.setIfInBounds_toArray, List.set_cons_zero, List.set_cons_succ]) | (with_reducible (refine wpQuiet_val (v := ?_) ?_ ?_ ?_); rotate_left; (first | exact wanted_none rfl | exact wanted_on rfl rfl rfl); (intro w' hw'; obtain ⟨hc, hf⟩ := bcell hw'; go_simp; with_reducible rfl); simp only [Act.put, List.setIfInBounds_toArray, List.set_cons_zero, List.set_cons_succ]))
        refine wpQuiet_nil ?_
        intro w13 hw13
        intro a H; replace hs := H.s hs; replace hd := H.d rfl; replace e1 := H.g 1 rfl rfl; replace e11 := H.g 11 rfl rfl; replace e13 := H.g 13 rfl rfl; replace e15 := H.g 15 rfl rfl; replace e16 := H.g 16 rfl rfl; replace e0 := H.k e0 rfl; replace e7 := H.k e7 rfl; replace e9 := H.k e9 rfl; replace e56 := H.k e56 rfl; replace e57 := H.k e57 rfl; replace e58 := H.k e58 rfl; replace e12 := H.k e12 rfl; replace e14 := H.k e14 rfl
        have e167 := H.g 167 rfl rfl; clear H; refine hKq27 _ _ ?_; clear hKq27 Kq27
        refine wp_cond_false (slotE e167) ?_
        clear e167; refine wp_skip ?_; refine hKq19 _ _ ?_; clear hKq19 Kq19; clear k13 k14 k16 k17 k19 lq hss hE HSM; have L13 := H12.out.2.trans (hw13.mono H12.out.2.size)
        have S13 : NumS w4.heap.size w13 g gb ve hg vm ps nx (i + 1) [g0, g1, s + 1] := ⟨H10.out.1.kept L13, H10.out.2.1.kept L13, rfl, gens_set (l := [g0, g1, g2]) (k := 2) HS7.out.1.rng (by have h1 := HS7.out.1.rng g2 (by simp); have h2 := HF.out.2.2.2.2.2.2.2; omega)⟩
        have LF := H10.out.2.2.2.trans (L13.mono H10.out.2.2.2.size); have hlt3 := HI.out; have hn60 := HN.out.1; clear e11; clear e12; clear e13; clear e14; clear e15; clear e16
        refine sm_list [58] 168 1 hs hd (by kernel_rfl) (agC e58 agN) rfl ?_
        simp only [seval]
        go_wp2_with fail
        intro a H; replace hs := H.s hs; replace hd := H.d rfl; replace e0 := H.k e0 rfl; replace e1 := H.k e1 rfl; replace e7 := H.k e7 rfl; replace e9 := H.k e9 rfl; replace e56 := H.k e56 rfl; replace e57 := H.k e57 rfl; replace e58 := H.g 58 rfl rfl; clear H
        exact ⟨⟨i + 1, _, by omega, LF, S13, hs, hd, e0, e1, e7, e9, e56, e57, e58⟩, by first | (simp only [HM.out, slot e58, intOf]; omega) | (simp [HM.out, slot e58, intOf]; omega)⟩
    ·
      have dj : decide ((i : Int) < (n : Int)) = false := decide_eq_false (by omega)
      have dj2 : decide (i < n) = false := decide_eq_false hlt3
      clear hm hi hlt3 S7
      refine sm_list [57, 58] 59 1 hs hd (by kernel_rfl) (agC e57 (agC e58 agN)) rfl ?_
      simp only [seval]
      go_wp2_with fail
      intro a H; replace hs := H.s hs; replace hd := H.d rfl; replace e57 := H.g 57 rfl rfl; replace e58 := H.g 58 rfl rfl; replace e0 := H.k e0 rfl; replace e1 := H.k e1 rfl; replace e7 := H.k e7 rfl; replace e9 := H.k e9 rfl; replace e56 := H.k e56 rfl; have e59 := H.g 59 rfl rfl; clear H; refine hKq17 _ _ ?_; clear hKq17 Kq17; refine wp_seq_k fun Kq18 hKq18 => ?_
      refine wp_cond_false (slotE e59) ?_
      clear e59; refine wp_exit ?_; refine exit_then rfl ?_; clear hKq18 Kq18; refine exit_then rfl ?_; refine exit_hit ?_; refine hKq15 _ _ ?_; clear hKq15 Kq15; refine wp_seq_k fun Kq19 hKq19 => ?_
      refine sm_list [] 4 1 hs hd (by kernel_rfl) agN rfl ?_
      simp only [seval]
      go_wp2_with fail
      intro a H; replace hs := H.s hs; replace hd := H.d rfl; replace e0 := H.k e0 rfl; replace e1 := H.k e1 rfl; replace e7 := H.k e7 rfl; replace e9 := H.k e9 rfl; replace e56 := H.k e56 rfl; replace e57 := H.k e57 rfl; replace e58 := H.k e58 rfl; have e4 := H.g 4 rfl rfl; clear H; refine hKq19 _ _ ?_; clear hKq19 Kq19; refine wp_ret ?_
      exact sm_ret rfl hd e4 ⟨rfl, L7⟩
end Go.Proofs.YthhlfojaloaooaaGreat
