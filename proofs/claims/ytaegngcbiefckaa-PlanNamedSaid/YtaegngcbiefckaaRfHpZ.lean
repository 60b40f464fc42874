/-
  A way of the reference.
-/
import Derived.Test.YtaegngcbiefckaaRfHtZ
namespace Go.Proofs.Ytaegngcbiefckaa
set_option linter.unusedSimpArgs false
set_option linter.unusedVariables false
open Go.RowKit Go.WideShapes Go.ChangeShapes
attribute [local go_sem ↓] Go.wp_at_zero Go.wp_at_succ

def RHopsTo (C : Cf) (f : Fw) (ks : List Int) (w w' : World) (e : Ending) : Prop :=
  Below w.heap.size w w' ∧ ((wayV C f.src f.dst ks = none ∧ e = .returned (.tuple #[.slice none 0 0, .slice none 0 0, .bool false])) ∨ ∃ (xs : List (Int × Int)) (Ao As : Option Addr) (co cs : Nat), wayV C f.src f.dst ks = some xs ∧ e = .returned (.tuple #[.slice Ao xs.length co, .slice As (xs.length + 1) cs, .bool true]) ∧ xs.length + 1 ≤ cs ∧
    w'.ownsRow w.heap.size 53 2 (.slice Ao xs.length co) xs.length (xs.flatMap ecc) ∧ w'.ownsRow w.heap.size 3 1 (.slice As (xs.length + 1) cs) (xs.length + 1) ((xs.map Prod.fst ++ [f.dst]).map (Value.int .i64)))
theorem way_none {C : Cf} {src dst at_ : Int} {seen : List Int} {out : List (Int × Int)} {ks : List Int} {i : Nat} {k : Int} (h : rGo C src [src] [] ks = rGo C at_ seen out (ks.drop i)) (hk : ks[i]? = some k) (hn : ∀ l e nxt, RHop C at_ k l e nxt → seen.contains nxt = true) : wayV C src dst ks = none := by
  have hd : ks.drop i = k :: ks.drop (i + 1) := by
    obtain ⟨hlt, rfl⟩ := List.getElem?_eq_some_iff.1 hk
    exact List.drop_eq_getElem_cons hlt
  rw [rhV_way]
  unfold rhV
  rw [h, hd]
  rcases hop_dec (C := C) at_ k with ⟨l, e, nxt, hh⟩ | ⟨h1, _⟩
  · rw [rGo_step hh, if_pos (hn l e nxt hh)]
  · rw [h1]
theorem way_go {C : Cf} {src at_ : Int} {seen : List Int} {out : List (Int × Int)} {ks : List Int} {i : Nat} {k : Int} {l : Lk} {e : Int × Int} {nxt : Int} (h : rGo C src [src] [] ks = rGo C at_ seen out (ks.drop i)) (hk : ks[i]? = some k) (hh : RHop C at_ k l e nxt) (hn : seen.contains nxt = false) :
    rGo C src [src] [] ks = rGo C nxt (seen ++ [nxt]) (out ++ [e]) (ks.drop (i + 1)) := by
  have hd : ks.drop i = k :: ks.drop (i + 1) := by
    obtain ⟨hlt, rfl⟩ := List.getElem?_eq_some_iff.1 hk
    exact List.drop_eq_getElem_cons hlt
  rw [h, hd, rGo_step hh, if_neg (by rw [hn]; simp)]
theorem rhop_uniq {C : Cf} {at_ k : Int} {l : Lk} (hl : C.links[k.toNat]? = some l) {l' : Lk} {e : Int × Int} {nxt : Int} (h : RHop C at_ k l' e nxt) : l' = l := by
  have := h.hl
  rw [hl] at this
  exact (Option.some.inj this).symm
theorem rGo_in {C : Cf} (hl : ∀ l ∈ C.links, (0 ≤ l.n0 ∧ l.n0 < (C.nodes.length : Int)) ∧ 0 ≤ l.n1 ∧ l.n1 < (C.nodes.length : Int)) {src : Int} (hs : 0 ≤ src ∧ src < (C.nodes.length : Int)) {ks : List Int} {a : Int} {s : List Int} {o : List (Int × Int)} (h : rGo C src [src] [] ks = some (a, s, o)) {x : Int} (hx : x ∈ s) : 0 ≤ x ∧ x < (C.nodes.length : Int) := by
  have key : ∀ (ks : List Int) (at_ : Int) (seen : List Int) (out : List (Int × Int)) (a : Int) (s : List Int) (o : List (Int × Int)), rGo C at_ seen out ks = some (a, s, o) → (∀ x ∈ seen, 0 ≤ x ∧ x < (C.nodes.length : Int)) → ∀ x ∈ s, 0 ≤ x ∧ x < (C.nodes.length : Int) := by
    intro ks
    induction ks with
    | nil =>
      intro at_ seen out a s o h hs
      rw [rGo] at h
      cases h
      exact hs
    | cons k ks ih =>
      intro at_ seen out a s o h hs
      obtain ⟨l, e, nxt, hh, _, h2⟩ := rGo_cons h
      refine ih _ _ _ _ _ _ h2 (fun x hx => ?_)
      rcases List.mem_append.1 hx with hx | hx
      · exact hs x hx
      · simp at hx
        subst hx
        have := hl l (List.mem_of_getElem? hh.hl)
        rcases hh.hop with ⟨_, _, rfl⟩ | ⟨_, _, _, rfl⟩
        · exact this.2
        · exact this.1
  exact key ks src [src] [] a s o h (by simpa using hs) x hx
theorem all_at {p : Int → Bool} {s : List Int} (h : ∀ (k : Nat) (x : Int), s[k]? = some x → p x = true) : s.all p = true := by
  rw [List.all_eq_true]
  intro x hx
  obtain ⟨k, hk⟩ := List.getElem?_of_mem hx
  exact h k x hk
set_option maxRecDepth 100000 in
set_option maxHeartbeats 4000000 in
theorem rhops_any (C : Cf) (R : RL) (f : Fw) (n c : Nat) (A : Option Addr) (ks : List Int) (w : World) (hC : RfAt w w.heap.size C R) (hck : checkV C = 0) (hsrc : 0 ≤ f.src) (hsrc2 : f.src < (C.nodes.length : Int)) (hk : Reads w w.heap.size 1 A n (ks.map (Value.int .i64))) (hkl : ks.length = n) (hn : n ≤ 16) :
    Calls Try.prog 26 #[.agg (rfc C R), .agg #[.int .i64 f.src, .int .i64 f.dst, .int .i64 f.start, .int .i64 f.len, .int .i64 f.size, .int .i64 f.late], .slice A n c] w fun e w' => RHopsTo C f ks w w' e := by
  refine calls_sm (N := 117) Try.func26 rfl (by kernel_rfl) ?_
  intro a hs hd ha
  have e0 : a.tmps[0]? = some (.agg (rfc C R)) := ha 0 _ rfl
  have e1 : a.tmps[1]? = some (.agg #[.int .i64 f.src, .int .i64 f.dst, .int .i64 f.start, .int .i64 f.len, .int .i64 f.size, .int .i64 f.late]) := ha 1 _ rfl
  have e2 : a.tmps[2]? = some (.slice A n c) := ha 2 _ rfl
  clear ha
  conv => arg 2; whnf
  refine wp_seq_k fun Kq1 hKq1 => ?_
  refine sm_list [0, 1, 3, 4] 6 3 hs hd (by kernel_rfl) (agC e0 (agC e1 (agU (agU agN)))) rfl ?_
  simp only [seval]
  go_wp2_with fail
  intro a H; replace hs := H.s hs; replace hd := H.d rfl; replace e2 := H.k e2 rfl; clear e0; clear e1; have e3 := H.g 3 rfl rfl; have e4 := H.g 4 rfl rfl; clear H; refine hKq1 _ _ ?_; clear hKq1 Kq1; refine wp_seq_k fun Kq2 hKq2 => ?_
  have B3 := (Blk.new w 42 (rfc C R)).alloc (.cells #[.int .i64 f.src, .int .i64 f.dst, .int .i64 f.start, .int .i64 f.len, .int .i64 f.size, .int .i64 f.late] 96)
  have B4 := Blk.new (w.alloc (.cells (rfc C R) 42)) 96 #[.int .i64 f.src, .int .i64 f.dst, .int .i64 f.start, .int .i64 f.len, .int .i64 f.size, .int .i64 f.late]
  have L0 : Below w.heap.size w ((w.alloc (.cells (rfc C R) 42)).alloc (.cells #[.int .i64 f.src, .int .i64 f.dst, .int .i64 f.start, .int .i64 f.len, .int .i64 f.size, .int .i64 f.late] 96)) := ((Below.refl _ _).alloc (Nat.le_refl _) _).alloc (by simp) _
  obtain ⟨g4, hg4⟩ : ∃ g, g = (w.alloc (.cells (rfc C R) 42)).heap.size := ⟨_, rfl⟩
  have e4q : a.tmps[4]? = some (.pointer (some ⟨g4, 0, none⟩)) := by rw [hg4]; simpa using e4
  replace e4 := e4q
  clear e4q
  rw [← hg4] at B4
  clear hg4
  replace hC := hC.below L0
  replace hk := hk.below L0
  generalize ((w.alloc (.cells (rfc C R) 42)).alloc (.cells #[.int .i64 f.src, .int .i64 f.dst, .int .i64 f.start, .int .i64 f.len, .int .i64 f.size, .int .i64 f.late] 96)) = w1 at *
  obtain ⟨g3, hg3⟩ : ∃ B, B = w.heap.size := ⟨_, rfl⟩
  rw [← hg3] at L0 e3 B3 hC hk
  have HLL := Lib.hid hg3
  clear hg3
  have HW := Lib.hid (well hck)
  have HCK := Lib.hid hck
  have HLN : Hid (∀ l ∈ C.links, (0 ≤ l.n0 ∧ l.n0 < (C.nodes.length : Int)) ∧ 0 ≤ l.n1 ∧ l.n1 < (C.nodes.length : Int)) := Lib.hid (fun l hl => ⟨(HW.out.link l hl).a, (HW.out.link l hl).b⟩)
  have HSRC := Lib.hid hsrc2
  have HKL := Lib.hid hkl
  clear hck hkl
  have hl64 : C.links.length ≤ 64 := HW.out.off.l1
  have hn16 : (C.nodes.length : Int) ≤ 16 := HW.out.off.n2
  have y0 := B4.cellOf (v := .int .i64 f.src) 0 rfl
  have hz4 : g4 < w1.heap.size := B4.lt
  have hz3 : g3 < w1.heap.size := B3.lt
  refine sm_list [4, 9] 20 2 hs hd (by kernel_rfl) (agC e4 (agU agN)) rfl ?_
  simp only [seval]
  go_wp2_with fail
  intro a H; replace hs := H.s hs; replace hd := H.d rfl; replace e4 := H.g 4 rfl rfl; replace e2 := H.k e2 rfl; replace e3 := H.k e3 rfl; have e9 := H.g 9 rfl rfl; clear H; refine hKq2 _ _ ?_; clear hKq2 Kq2; refine wp_seq_k fun Kq3 hKq3 => ?_; clear y0
  have HC := Lib.hid hC
  have HK := Lib.hid hk
  clear hC hk
  refine sm_list [9, 10] 22 2 hs hd (by kernel_rfl) (agC e9 (agU agN)) rfl ?_
  simp only [seval]
  go_wp2_with fail
  intro a H; replace hs := H.s hs; replace hd := H.d rfl; replace e9 := H.g 9 rfl rfl; replace e2 := H.k e2 rfl; replace e3 := H.k e3 rfl; replace e4 := H.k e4 rfl; have e10 := H.g 10 rfl rfl; clear H; refine hKq3 _ _ ?_; clear hKq3 Kq3; refine wp_seq_k fun Kq4 hKq4 => ?_
  have rN : (w1.alloc (.cells #[.int .i64 f.src] 3)).ownsRow w1.heap.size 3 1 (.slice (some ⟨w1.heap.size, 0, none⟩) 1 1) 1 ([f.src].map (Value.int .i64)) := ownsRow_new w1 (Nat.le_refl _) rfl (by simp only [maxLen]; omega)
  have b2 : Below w1.heap.size w1 (w1.alloc (.cells #[.int .i64 f.src] 3)) := (Below.refl _ _).alloc (Nat.le_refl _) _
  have hz2 : w1.heap.size ≤ (w1.alloc (.cells #[.int .i64 f.src] 3)).heap.size := by simp
  generalize (w1.alloc (.cells #[.int .i64 f.src] 3)) = w2 at *
  generalize hvN : Value.slice (some ⟨w1.heap.size, 0, none⟩) 1 1 = vN at *
  clear hvN
  refine sm_list [11] 24 1 hs hd (by kernel_rfl) (agU agN) rfl ?_
  simp only [seval]
  go_wp2_with fail
  intro a H; replace hs := H.s hs; replace hd := H.d rfl; replace e2 := H.k e2 rfl; replace e3 := H.k e3 rfl; replace e4 := H.k e4 rfl; replace e9 := H.k e9 rfl; replace e10 := H.k e10 rfl; have e11 := H.g 11 rfl rfl; clear H; refine hKq4 _ _ ?_; clear hKq4 Kq4; refine wp_seq_k fun Kq5 hKq5 => ?_; refine wp_seq_k fun Kq6 hKq6 => ?_
  have rO : (w2.alloc (.cells #[] 53)).ownsRow w1.heap.size 53 2 (.slice (some ⟨w2.heap.size, 0, none⟩) 0 0) ([] : List (Int × Int)).length (([] : List (Int × Int)).flatMap ecc) := ownsRow_new w2 hz2 rfl (by simp only [maxLen]; omega)
  have b3 : Below w1.heap.size w1 (w2.alloc (.cells #[] 53)) := b2.alloc hz2 _
  have rN3 := ownsRow_keep rN ((Below.refl w2.heap.size w2).alloc (Nat.le_refl _) (.cells #[] 53))
  have hz5 : w1.heap.size ≤ (w2.alloc (.cells #[] 53)).heap.size := b3.size
  generalize (w2.alloc (.cells #[] 53)) = w3 at *
  generalize hvO : Value.slice (some ⟨w2.heap.size, 0, none⟩) 0 0 = vO at *
  clear hvO rN b2 hz2
  obtain ⟨B0, hB0⟩ : ∃ B, B = w1.heap.size := ⟨_, rfl⟩
  rw [← hB0] at rN3 rO b3 hz5 hz3 hz4
  have hB01 : B0 ≤ w1.heap.size := Nat.le_of_eq hB0
  clear hB0
  obtain ⟨nN, hnN⟩ : ∃ s : List Int, s = [f.src] := ⟨_, rfl⟩
  refine sm_list [2] 25 3 hs hd (by kernel_rfl) (agC e2 agN) rfl ?_
  simp only [seval]
  go_wp2_with fail
  intro a H; replace hs := H.s hs; replace hd := H.d rfl; replace e2 := H.g 2 rfl rfl; replace e3 := H.k e3 rfl; replace e4 := H.k e4 rfl; replace e9 := H.k e9 rfl; replace e10 := H.k e10 rfl; replace e11 := H.k e11 rfl; have e25 := H.g 25 rfl rfl; have e26 := H.g 26 rfl rfl; have e27 := H.g 27 rfl rfl; clear H; refine hKq6 _ _ ?_; clear hKq6 Kq6; refine wp_block ?_
  have rN4 : w3.ownsRow B0 3 1 vN nN.length (nN.map (Value.int .i64)) := by rw [hnN]; exact rN3
  clear rN3
  refine wp_loop (fun a w' => ∃ (i : Nat) (at_ : Int) (seen : List Int) (out : List (Int × Int)) (vN vO : Value), i ≤ n ∧ seen.length = i + 1 ∧ out.length = i ∧ a.tmps.size = 117 ∧ a.defers = [] ∧ a.tmps[2]? = some (.slice A n c) ∧ a.tmps[3]? = some (.pointer (some ⟨g3, 0, none⟩)) ∧ a.tmps[4]? = some (.pointer (some ⟨g4, 0, none⟩)) ∧ a.tmps[25]? = some (.slice A n c) ∧ a.tmps[26]? = some (.int .i64 (n : Int)) ∧ a.tmps[9]? = some (.int .i64 at_) ∧ a.tmps[10]? = some vN ∧ a.tmps[11]? = some vO ∧ a.tmps[27]? = some (.int .i64 (i : Int)) ∧ Below B0 w1 w' ∧ Hid (w'.ownsRow B0 3 1 vN seen.length (seen.map (Value.int .i64)) ∧ w'.ownsRow B0 53 2 vO out.length (out.flatMap ecc) ∧ (rGo C f.src [f.src] [] ks = rGo C at_ seen out (ks.drop i)))) (fun a _ => n - (intOf (a.tmps.getD 27 undef)).toNat) ?_ ?_
  · exact ⟨0, f.src, nN, [], vN, vO, Nat.zero_le _, by rw [hnN]; rfl, rfl, hs, hd, e2, e3, e4, e25, e26, e9, e10, e11, e27, b3, Lib.hid ⟨rN4, rO, by rw [hnN, List.drop_zero]⟩⟩
  clear hs hd e27 e9 e10 e11 e2 e3 e4 e25 e26 rN4 rO b3 hnN nN vN vO a
  rintro a w4 ⟨i, at_, seen, out, vN, vO, hi, hsl, hol, hs, hd, e2, e3, e4, e25, e26, e9, e10, e11, e27, hb4, HR⟩
  have hm := slot e27
  have hm9 := hm
  refine wp_seq_k fun Kq7 hKq7 => ?_
  by_cases hlt : i < n
  ·
    have dj : decide ((i : Int) < (n : Int)) = true := decide_eq_true (by omega)
    obtain ⟨k, hk⟩ : ∃ k, ks[i]? = some k := ⟨_, List.getElem?_eq_getElem (by rw [HKL.out]; exact hlt)⟩
    obtain ⟨ad, u, had, hadb, hu, hcl⟩ := (HK.out.below (hb4.mono (Nat.le_of_lt hz3))).at_ hlt
    have hu2 : u = .int .i64 k := by rw [List.getElem?_map, hk] at hu; exact (Option.some.inj hu).symm
    subst hu2
    have HKI := Lib.hid hk
    have HA := Lib.hid had
    clear hu hk had
    rw [HA.out] at e25
    refine sm_list [26, 27] 28 1 hs hd (by kernel_rfl) (agC e26 (agC e27 agN)) rfl ?_
    simp only [seval]
    go_wp2_with fail
    intro a H; replace hs := H.s hs; replace hd := H.d rfl; replace e26 := H.g 26 rfl rfl; replace e27 := H.g 27 rfl rfl; replace e2 := H.k e2 rfl; replace e3 := H.k e3 rfl; replace e4 := H.k e4 rfl; replace e25 := H.k e25 rfl; replace e9 := H.k e9 rfl; replace e10 := H.k e10 rfl; replace e11 := H.k e11 rfl; have e28 := H.g 28 rfl rfl; clear H; refine hKq7 _ _ ?_; clear hKq7 Kq7; refine wp_seq_k fun Kq8 hKq8 => ?_
    refine wp_cond_true (slotE e28) ?_
    clear e28; refine wp_skip ?_; refine hKq8 _ _ ?_; clear hKq8 Kq8; refine wp_seq_k fun Kq9 hKq9 => ?_; refine wp_block ?_; refine wp_seq_k fun Kq10 hKq10 => ?_
    refine sm_list [13, 25, 27] 29 2 hs hd (by kernel_rfl) (agU (agC e25 (agC e27 agN))) rfl ?_
    simp only [seval]
    go_wp2_with fail
    intro a H; replace hs := H.s hs; replace hd := H.d rfl; replace e25 := H.g 25 rfl rfl; replace e27 := H.g 27 rfl rfl; replace e2 := H.k e2 rfl; replace e3 := H.k e3 rfl; replace e4 := H.k e4 rfl; replace e26 := H.k e26 rfl; replace e9 := H.k e9 rfl; replace e10 := H.k e10 rfl; replace e11 := H.k e11 rfl; have e13 := H.g 13 rfl rfl; clear H; refine hKq10 _ _ ?_; clear hKq10 Kq10; refine wp_seq_k fun Kq11 hKq11 => ?_
    refine wp_seq_k fun Kq12 hKq12 => ?_
    rw [← HA.out] at e25
    clear hcl
    have B34 := B3.below hb4 hz3
    have c2 := B34.cellOf (v := .slice R.L.A C.links.length R.L.c) 2 rfl
    by_cases hkr : 0 ≤ k ∧ k ≤ (C.links.length : Int) - 1
    rotate_left
    ·
      skip
      have hv := way_none (dst := f.dst) HR.out.2.2 HKI.out (fun l e nxt h => absurd (And.intro h.k0 (by have h1 := (List.getElem?_eq_some_iff.1 h.hl).1; have h2 := h.k0; omega)) hkr)
      have HV := Lib.hid hv
      clear hv
      refine sm_list [3, 13] 31 7 hs hd (by kernel_rfl) (agC e3 (agC e13 agN)) rfl ?_
      simp only [seval]
      go_wp2_with fail
      refine (between_no _ _ _ _ (by omega)).mono ?_
      rintro e w9 ⟨rfl, hw9⟩
      replace hw9 := hw9.symm
      subst hw9
      go_wp2_with fail
      intro a H; replace hs := H.s hs; replace hd := H.d rfl; replace e3 := H.g 3 rfl rfl; replace e13 := H.g 13 rfl rfl; replace e2 := H.k e2 rfl; replace e4 := H.k e4 rfl; replace e25 := H.k e25 rfl; replace e26 := H.k e26 rfl; replace e9 := H.k e9 rfl; replace e10 := H.k e10 rfl; replace e11 := H.k e11 rfl; replace e27 := H.k e27 rfl; have e37 := H.g 37 rfl rfl; clear H; refine hKq12 _ _ ?_; clear hKq12 Kq12
      refine wp_cond_true (slotE e37) ?_
      clear e37; refine wp_seq_k fun Kq13 hKq13 => ?_
      refine sm_list [] 6 3 hs hd (by kernel_rfl) agN rfl ?_
      simp only [seval]
      go_wp2_with fail
      intro a H; replace hs := H.s hs; replace hd := H.d rfl; replace e2 := H.k e2 rfl; replace e3 := H.k e3 rfl; replace e4 := H.k e4 rfl; replace e25 := H.k e25 rfl; replace e26 := H.k e26 rfl; replace e9 := H.k e9 rfl; replace e10 := H.k e10 rfl; replace e11 := H.k e11 rfl; replace e27 := H.k e27 rfl; replace e13 := H.k e13 rfl; have e6 := H.g 6 rfl rfl; have e7 := H.g 7 rfl rfl; have e8 := H.g 8 rfl rfl
      clear H; refine hKq13 _ _ ?_; clear hKq13 Kq13; refine wp_ret ?_; refine exit_then rfl ?_; refine ret_block ?_; refine exit_then rfl ?_; refine exit_then rfl ?_; refine ret_block ?_; refine exit_then rfl ?_
      exact sm_ret3 rfl hd e6 e7 e8 ⟨by rw [← HLL.out]; exact L0.trans (hb4.mono (Nat.le_of_lt hz3)), .inl ⟨HV.out, rfl⟩⟩
    ·
      obtain ⟨hk0, hk1⟩ := hkr
      refine sm_list [3, 13] 31 7 hs hd (by kernel_rfl) (agC e3 (agC e13 agN)) rfl ?_
      simp only [seval]
      go_wp2_with fail
      refine (between_yes _ _ _ _ (by omega)).mono ?_
      rintro e w9 ⟨rfl, hw9⟩
      replace hw9 := hw9.symm
      subst hw9
      go_wp2_with fail
      intro a H; replace hs := H.s hs; replace hd := H.d rfl; replace e3 := H.g 3 rfl rfl; replace e13 := H.g 13 rfl rfl; replace e2 := H.k e2 rfl; replace e4 := H.k e4 rfl; replace e25 := H.k e25 rfl; replace e26 := H.k e26 rfl; replace e9 := H.k e9 rfl; replace e10 := H.k e10 rfl; replace e11 := H.k e11 rfl; replace e27 := H.k e27 rfl; have e37 := H.g 37 rfl rfl; clear H; refine hKq12 _ _ ?_; clear hKq12 Kq12
      refine wp_cond_false (slotE e37) ?_
      clear e37; refine wp_skip ?_; refine hKq11 _ _ ?_; clear hKq11 Kq11; refine wp_seq_k fun Kq13 hKq13 => ?_; clear c2
      obtain ⟨kk, rfl⟩ := Int.eq_ofNat_of_zero_le hk0
      have hkk : kk < C.links.length := by omega
      obtain ⟨l, hl⟩ : ∃ l, C.links[kk]? = some l := ⟨_, List.getElem?_eq_getElem hkk⟩
      have hlt2 : C.links[((kk : Int)).toNat]? = some l := by rw [Int.toNat_natCast]; exact hl
      have hln := HLN.out l (List.mem_of_getElem? hl)
      obtain ⟨⟨hq1, hq2⟩, hq3, hq4⟩ := hln
      obtain ⟨bd, hD, hbdb, hcd⟩ := reads_at lkc_len (HC.out.below (hb4.mono (Nat.le_of_lt hz3))).links hl hkk
      have HL := Lib.hid hlt2
      have HCD := Lib.hid hcd
      have HD := Lib.hid hD
      clear hl hlt2 hcd hD hk0 hk1
      have c2 := B34.cellOf (v := .slice R.L.A C.links.length R.L.c) 2 rfl
      rw [HD.out] at c2
      have hkI : (kk : Int) < (C.links.length : Int) := by omega
      have hkI0 : (0 : Int) ≤ (kk : Int) := by omega
      refine sm_list [3, 13, 14] 38 5 hs hd (by kernel_rfl) (agC e3 (agC e13 (agU agN))) rfl ?_
      simp only [seval]
      go_wp2_with (first | (refine wpList_load_any_d rfl 96 (.tmp 6) rfl (bd.add (kk * 6)) rfl ((lkc l).toArray) _ (by simpa using HCD.out) Try.underlying96 rfl (by kernel_rfl) ?_) | (refine wpList_store_new rfl 96 (.tmp 2) (.tmp 7) rfl rfl rfl rfl rfl (by kernel_rfl) (by rw [← Array.all_toList]; rfl) ?_) | fail)
      intro a H; replace hs := H.s hs; replace hd := H.d rfl; replace e3 := H.g 3 rfl rfl; replace e13 := H.g 13 rfl rfl; replace e2 := H.k e2 rfl; replace e4 := H.k e4 rfl; replace e25 := H.k e25 rfl; replace e26 := H.k e26 rfl; replace e9 := H.k e9 rfl; replace e10 := H.k e10 rfl; replace e11 := H.k e11 rfl; replace e27 := H.k e27 rfl; have e14 := H.g 14 rfl rfl; clear H; refine hKq13 _ _ ?_; clear hKq13 Kq13
      refine wp_seq_k fun Kq14 hKq14 => ?_; clear c2
      have hz4b : B0 ≤ w4.heap.size := Nat.le_trans hB01 hb4.size
      have B14 := Blk.new w4 96 (lkc l).toArray
      have hb5 : Below B0 w1 (w4.alloc (.cells (lkc l).toArray 96)) := hb4.alloc hz4b _
      have L5 : Below w4.heap.size w4 (w4.alloc (.cells (lkc l).toArray 96)) := (Below.refl _ _).alloc (Nat.le_refl _) _
      have HR5 : Hid ((w4.alloc (.cells (lkc l).toArray 96)).ownsRow B0 3 1 vN seen.length (seen.map (Value.int .i64)) ∧ (w4.alloc (.cells (lkc l).toArray 96)).ownsRow B0 53 2 vO out.length (out.flatMap ecc) ∧ (rGo C f.src [f.src] [] ks = rGo C at_ seen out (ks.drop i))) := Lib.hid ⟨ownsRow_keep HR.out.1 L5, ownsRow_keep HR.out.2.1 L5, HR.out.2.2⟩
      have hz5b : B0 ≤ (w4.alloc (.cells (lkc l).toArray 96)).heap.size := Nat.le_trans hz4b L5.size
      generalize (w4.alloc (.cells (lkc l).toArray 96)) = w5 at *
      obtain ⟨g14, hg14⟩ : ∃ g, g = w4.heap.size := ⟨_, rfl⟩
      rw [← hg14] at B14 e14 hz4b
      clear hg14 L5 HR hb4 B34
      have x0 := B14.cellOf (v := .int .i64 l.n0) 0 rfl
      have x1 := B14.cellOf (v := .int .i64 l.p0) 1 rfl
      have x2 := B14.cellOf (v := .int .i64 l.n1) 2 rfl
      have x3 := B14.cellOf (v := .int .i64 l.p1) 3 rfl
      refine sm_list [] 15 1 hs hd (by kernel_rfl) agN rfl ?_
      simp only [seval]
      go_wp2_with fail
      intro a H; replace hs := H.s hs; replace hd := H.d rfl; replace e2 := H.k e2 rfl; replace e3 := H.k e3 rfl; replace e4 := H.k e4 rfl; replace e25 := H.k e25 rfl; replace e26 := H.k e26 rfl; replace e9 := H.k e9 rfl; replace e10 := H.k e10 rfl; replace e11 := H.k e11 rfl; replace e27 := H.k e27 rfl; replace e13 := H.k e13 rfl; replace e14 := H.k e14 rfl; have e15 := H.g 15 rfl rfl; clear H; refine hKq14 _ _ ?_
      clear hKq14 Kq14; refine wp_seq_k fun Kq15 hKq15 => ?_; refine wp_seq_k fun Kq16 hKq16 => ?_
      by_cases h0 : l.n0 = at_
      · subst h0
        refine sm_list [9, 14] 43 4 hs hd (by kernel_rfl) (agC e9 (agC e14 agN)) rfl ?_
        simp only [seval]
        go_wp2_with fail
        intro a H; replace hs := H.s hs; replace hd := H.d rfl; replace e9 := H.g 9 rfl rfl; replace e14 := H.g 14 rfl rfl; replace e2 := H.k e2 rfl; replace e3 := H.k e3 rfl; replace e4 := H.k e4 rfl; replace e25 := H.k e25 rfl; replace e26 := H.k e26 rfl; replace e10 := H.k e10 rfl; replace e11 := H.k e11 rfl; replace e27 := H.k e27 rfl; replace e13 := H.k e13 rfl; replace e15 := H.k e15 rfl; have e46 := H.g 46 rfl rfl
        clear H; refine hKq16 _ _ ?_; clear hKq16 Kq16
        refine wp_cond_true (slotE e46) ?_
        clear e46; refine wp_seq_k fun Kq17 hKq17 => ?_
        have hop : RHop C l.n0 (kk : Int) l (l.n0, l.p0) l.n1 := ⟨by omega, HL.out, .inl ⟨rfl, rfl, rfl⟩⟩
        have HOP := Lib.hid hop
        clear hop
        have B14n := own_blk_ne HR5.out.2.1 B14 (by decide)
        have HB14 := Lib.hid B14
        have HB14n := Lib.hid B14n
        have HBZ := Lib.hid hz5b
        clear B14n B14
        refine sm_list [11, 14] 47 8 hs hd (by kernel_rfl) (agC e11 (agC e14 agN)) rfl ?_
        simp only [seval]
        go_wp2_with (first | (at_builtin; refine wpList_pushG 1 rfl (.tmp 2) (.tmp 8) 44 rfl rsO (wr := w5) (cs := #[.int .i64 l.n0, .int .i64 l.p0]) rfl (by intro u hu; simp at hu; rcases hu with rfl | rfl <;> rfl) (v := vO) rfl HR5.out.2.1 rfl rfl (by omega) HBZ.out ?_; intro v2 w6 own2 gr2 mv2; have OWN := Lib.hid own2; have GR := Lib.hid gr2; clear own2 gr2 mv2) | fail)
        intro a H; replace hs := H.s hs; replace hd := H.d rfl; replace e14 := H.g 14 rfl rfl; replace e2 := H.k e2 rfl; replace e3 := H.k e3 rfl; replace e4 := H.k e4 rfl; replace e25 := H.k e25 rfl; replace e26 := H.k e26 rfl; replace e9 := H.k e9 rfl; replace e10 := H.k e10 rfl; replace e27 := H.k e27 rfl; replace e13 := H.k e13 rfl; replace e15 := H.k e15 rfl; replace e11 := H.g 11 rfl rfl; clear H
        refine hKq17 _ _ ?_; clear hKq17 Kq17
        have hb6 := hb5.trans (below_of_grown GR.out HR5.out.2.1 HBZ.out)
        have rN6 := own_type HR5.out.1 (row_type HR5.out.2.1 GR.out (by decide))
        have B146 := HB14.out.grown GR.out (fun e => HB14n.out e.symm)
        have hz6b : B0 ≤ w6.heap.size := Nat.le_trans hz5b GR.out.size
        have rO6 : w6.ownsRow B0 53 2 v2 (out ++ [(l.n0, l.p0)]).length ((out ++ [(l.n0, l.p0)]).flatMap ecc) := by rw [List.length_append, List.flatMap_append]; exact OWN.out
        have HGO := Lib.hid HR5.out.2.2
        clear GR HB14 HB14n OWN HR5 hb5 x0 x1 x2 x3
        have x0 := B146.cellOf (v := .int .i64 l.n0) 0 rfl
        have x2 := B146.cellOf (v := .int .i64 l.n1) 2 rfl
        refine sm_list [14, 15] 55 2 hs hd (by kernel_rfl) (agC e14 (agC e15 agN)) rfl ?_
        simp only [seval]
        go_wp2_with fail
        intro a H; replace hs := H.s hs; replace hd := H.d rfl; replace e14 := H.g 14 rfl rfl; replace e2 := H.k e2 rfl; replace e3 := H.k e3 rfl; replace e4 := H.k e4 rfl; replace e25 := H.k e25 rfl; replace e26 := H.k e26 rfl; replace e9 := H.k e9 rfl; replace e10 := H.k e10 rfl; replace e27 := H.k e27 rfl; replace e13 := H.k e13 rfl; replace e11 := H.k e11 rfl; replace e15 := H.g 15 rfl rfl; clear H
        refine hKq15 _ _ ?_; clear hKq15 Kq15; clear x0 x2 B146; clear e14; clear e9; clear e13
        refine rh_tail g3 g4 n c i B0 A l.n1 vN v2 seen (out ++ [(l.n0, l.p0)]) a w6 _ hs hd e2 e3 e4 e10 e11 e15 e25 e26 e27 (by omega) (by omega) hsl hz6b rN6 rO6 ?_ ?_
        · clear e2 e3 e4 e10 e11 e15 e25 e26 e27 hs hd a rN6 rO6
          intro a hs hd e6 e7 e8 hc
          refine ret_block ?_; refine exit_then rfl ?_; refine exit_then rfl ?_; refine ret_block ?_; refine exit_then rfl ?_
          have hv := way_none (dst := f.dst) HGO.out HKI.out (fun l' e' nxt' h' => by
            have e1 := rhop_uniq HL.out h'
            subst e1
            rcases h'.hop with ⟨_, _, h3⟩ | ⟨h3, _, _, h4⟩
            · first | (rw [h3]; exact hc) | (exfalso; omega)
            · first | (rw [h4]; exact hc) | (exfalso; omega))
          have HV := Lib.hid hv
          exact sm_ret3 rfl hd e6 e7 e8 ⟨by rw [← HLL.out]; exact L0.trans (hb6.mono (Nat.le_of_lt hz3)), .inl ⟨HV.out, rfl⟩⟩
        · clear e2 e3 e4 e10 e11 e15 e25 e26 e27 hs hd a rN6 rO6
          intro a w7 vN7 hs hd e2 e3 e4 e11 e25 e26 e27 e9 e10 hc hb7 rN7 rO7
          have hgo := way_go HGO.out HKI.out HOP.out hc
          have hb8 := hb6.trans hb7
          have HR8 : Hid (_ ∧ _ ∧ _) := Lib.hid (And.intro rN7 (And.intro rO7 hgo))
          clear rN7 rO7 hgo hb7 hc; refine hKq9 _ _ ?_; clear hKq9 Kq9
          refine sm_list [27] 88 1 hs hd (by kernel_rfl) (agC e27 agN) rfl ?_
          simp only [seval]
          go_wp2_with fail
          intro a H; replace hs := H.s hs; replace hd := H.d rfl; replace e2 := H.k e2 rfl; replace e3 := H.k e3 rfl; replace e4 := H.k e4 rfl; replace e11 := H.k e11 rfl; replace e25 := H.k e25 rfl; replace e26 := H.k e26 rfl; replace e9 := H.k e9 rfl; replace e10 := H.k e10 rfl; replace e27 := H.g 27 rfl rfl; clear H
          exact ⟨⟨i + 1, l.n1, seen ++ [l.n1], out ++ [(l.n0, l.p0)], vN7, v2, by omega, by simp [hsl], by simp [hol], hs, hd, e2, e3, e4, e25, e26, e9, e10, e11, e27, hb8, HR8⟩, by first | (simp only [hm, slot e27, intOf]; omega) | (simp [e27, intOf]; omega)⟩
      · have dq : (l.n0 == at_) = false := beq_eq_false_iff_ne.2 h0
        refine sm_list [9, 14] 43 4 hs hd (by kernel_rfl) (agC e9 (agC e14 agN)) rfl ?_
        simp only [seval]
        go_wp2_with fail
        intro a H; replace hs := H.s hs; replace hd := H.d rfl; replace e9 := H.g 9 rfl rfl; replace e14 := H.g 14 rfl rfl; replace e2 := H.k e2 rfl; replace e3 := H.k e3 rfl; replace e4 := H.k e4 rfl; replace e25 := H.k e25 rfl; replace e26 := H.k e26 rfl; replace e10 := H.k e10 rfl; replace e11 := H.k e11 rfl; replace e27 := H.k e27 rfl; replace e13 := H.k e13 rfl; replace e15 := H.k e15 rfl; have e46 := H.g 46 rfl rfl
        clear H; refine hKq16 _ _ ?_; clear hKq16 Kq16
        refine wp_cond_false (slotE e46) ?_
        clear e46; refine wp_seq_k fun Kq17 hKq17 => ?_; clear dq
        by_cases h1 : l.n1 = at_
        · subst h1
          refine sm_list [9, 14] 57 4 hs hd (by kernel_rfl) (agC e9 (agC e14 agN)) rfl ?_
          simp only [seval]
          go_wp2_with fail
          intro a H; replace hs := H.s hs; replace hd := H.d rfl; replace e9 := H.g 9 rfl rfl; replace e14 := H.g 14 rfl rfl; replace e2 := H.k e2 rfl; replace e3 := H.k e3 rfl; replace e4 := H.k e4 rfl; replace e25 := H.k e25 rfl; replace e26 := H.k e26 rfl; replace e10 := H.k e10 rfl; replace e11 := H.k e11 rfl; replace e27 := H.k e27 rfl; replace e13 := H.k e13 rfl; replace e15 := H.k e15 rfl; have e60 := H.g 60 rfl rfl
          clear H; refine hKq17 _ _ ?_; clear hKq17 Kq17
          refine wp_cond_true (slotE e60) ?_
          clear e60; refine wp_seq_k fun Kq18 hKq18 => ?_
          have hop : RHop C l.n1 (kk : Int) l (l.n1, l.p1) l.n0 := ⟨by omega, HL.out, .inr ⟨h0, rfl, rfl, rfl⟩⟩
          have HOP := Lib.hid hop
          clear hop
          have B14n := own_blk_ne HR5.out.2.1 B14 (by decide)
          have HB14 := Lib.hid B14
          have HB14n := Lib.hid B14n
          have HBZ := Lib.hid hz5b
          clear B14n B14
          refine sm_list [11, 14] 61 8 hs hd (by kernel_rfl) (agC e11 (agC e14 agN)) rfl ?_
          simp only [seval]
          go_wp2_with (first | (at_builtin; refine wpList_pushG 1 rfl (.tmp 2) (.tmp 8) 44 rfl rsO (wr := w5) (cs := #[.int .i64 l.n1, .int .i64 l.p1]) rfl (by intro u hu; simp at hu; rcases hu with rfl | rfl <;> rfl) (v := vO) rfl HR5.out.2.1 rfl rfl (by omega) HBZ.out ?_; intro v2 w6 own2 gr2 mv2; have OWN := Lib.hid own2; have GR := Lib.hid gr2; clear own2 gr2 mv2) | fail)
          intro a H; replace hs := H.s hs; replace hd := H.d rfl; replace e14 := H.g 14 rfl rfl; replace e2 := H.k e2 rfl; replace e3 := H.k e3 rfl; replace e4 := H.k e4 rfl; replace e25 := H.k e25 rfl; replace e26 := H.k e26 rfl; replace e9 := H.k e9 rfl; replace e10 := H.k e10 rfl; replace e27 := H.k e27 rfl; replace e13 := H.k e13 rfl; replace e15 := H.k e15 rfl; replace e11 := H.g 11 rfl rfl; clear H
          refine hKq18 _ _ ?_; clear hKq18 Kq18
          have hb6 := hb5.trans (below_of_grown GR.out HR5.out.2.1 HBZ.out)
          have rN6 := own_type HR5.out.1 (row_type HR5.out.2.1 GR.out (by decide))
          have B146 := HB14.out.grown GR.out (fun e => HB14n.out e.symm)
          have hz6b : B0 ≤ w6.heap.size := Nat.le_trans hz5b GR.out.size
          have rO6 : w6.ownsRow B0 53 2 v2 (out ++ [(l.n1, l.p1)]).length ((out ++ [(l.n1, l.p1)]).flatMap ecc) := by rw [List.length_append, List.flatMap_append]; exact OWN.out
          have HGO := Lib.hid HR5.out.2.2
          clear GR HB14 HB14n OWN HR5 hb5 x0 x1 x2 x3
          have x0 := B146.cellOf (v := .int .i64 l.n0) 0 rfl
          have x2 := B146.cellOf (v := .int .i64 l.n1) 2 rfl
          refine sm_list [14, 15] 69 2 hs hd (by kernel_rfl) (agC e14 (agC e15 agN)) rfl ?_
          simp only [seval]
          go_wp2_with fail
          intro a H; replace hs := H.s hs; replace hd := H.d rfl; replace e14 := H.g 14 rfl rfl; replace e2 := H.k e2 rfl; replace e3 := H.k e3 rfl; replace e4 := H.k e4 rfl; replace e25 := H.k e25 rfl; replace e26 := H.k e26 rfl; replace e9 := H.k e9 rfl; replace e10 := H.k e10 rfl; replace e27 := H.k e27 rfl; replace e13 := H.k e13 rfl; replace e11 := H.k e11 rfl; replace e15 := H.g 15 rfl rfl; clear H
          refine hKq15 _ _ ?_; clear hKq15 Kq15; clear x0 x2 B146; clear e14; clear e9; clear e13
          refine rh_tail g3 g4 n c i B0 A l.n0 vN v2 seen (out ++ [(l.n1, l.p1)]) a w6 _ hs hd e2 e3 e4 e10 e11 e15 e25 e26 e27 (by omega) (by omega) hsl hz6b rN6 rO6 ?_ ?_
          · clear e2 e3 e4 e10 e11 e15 e25 e26 e27 hs hd a rN6 rO6
            intro a hs hd e6 e7 e8 hc
            refine ret_block ?_; refine exit_then rfl ?_; refine exit_then rfl ?_; refine ret_block ?_; refine exit_then rfl ?_
            have hv := way_none (dst := f.dst) HGO.out HKI.out (fun l' e' nxt' h' => by
              have e1 := rhop_uniq HL.out h'
              subst e1
              rcases h'.hop with ⟨_, _, h3⟩ | ⟨h3, _, _, h4⟩
              · first | (rw [h3]; exact hc) | (exfalso; omega)
              · first | (rw [h4]; exact hc) | (exfalso; omega))
            have HV := Lib.hid hv
            exact sm_ret3 rfl hd e6 e7 e8 ⟨by rw [← HLL.out]; exact L0.trans (hb6.mono (Nat.le_of_lt hz3)), .inl ⟨HV.out, rfl⟩⟩
          · clear e2 e3 e4 e10 e11 e15 e25 e26 e27 hs hd a rN6 rO6
            intro a w7 vN7 hs hd e2 e3 e4 e11 e25 e26 e27 e9 e10 hc hb7 rN7 rO7
            have hgo := way_go HGO.out HKI.out HOP.out hc
            have hb8 := hb6.trans hb7
            have HR8 : Hid (_ ∧ _ ∧ _) := Lib.hid (And.intro rN7 (And.intro rO7 hgo))
            clear rN7 rO7 hgo hb7 hc; refine hKq9 _ _ ?_; clear hKq9 Kq9
            refine sm_list [27] 88 1 hs hd (by kernel_rfl) (agC e27 agN) rfl ?_
            simp only [seval]
            go_wp2_with fail
            intro a H; replace hs := H.s hs; replace hd := H.d rfl; replace e2 := H.k e2 rfl; replace e3 := H.k e3 rfl; replace e4 := H.k e4 rfl; replace e11 := H.k e11 rfl; replace e25 := H.k e25 rfl; replace e26 := H.k e26 rfl; replace e9 := H.k e9 rfl; replace e10 := H.k e10 rfl; replace e27 := H.g 27 rfl rfl; clear H
            exact ⟨⟨i + 1, l.n0, seen ++ [l.n0], out ++ [(l.n1, l.p1)], vN7, v2, by omega, by simp [hsl], by simp [hol], hs, hd, e2, e3, e4, e25, e26, e9, e10, e11, e27, hb8, HR8⟩, by first | (simp only [hm, slot e27, intOf]; omega) | (simp [e27, intOf]; omega)⟩
        · have dq : (l.n1 == at_) = false := beq_eq_false_iff_ne.2 h1
          refine sm_list [9, 14] 57 4 hs hd (by kernel_rfl) (agC e9 (agC e14 agN)) rfl ?_
          simp only [seval]
          go_wp2_with fail
          intro a H; replace hs := H.s hs; replace hd := H.d rfl; replace e9 := H.g 9 rfl rfl; replace e14 := H.g 14 rfl rfl; replace e2 := H.k e2 rfl; replace e3 := H.k e3 rfl; replace e4 := H.k e4 rfl; replace e25 := H.k e25 rfl; replace e26 := H.k e26 rfl; replace e10 := H.k e10 rfl; replace e11 := H.k e11 rfl; replace e27 := H.k e27 rfl; replace e13 := H.k e13 rfl; replace e15 := H.k e15 rfl; have e60 := H.g 60 rfl rfl
          clear H; refine hKq17 _ _ ?_; clear hKq17 Kq17
          refine wp_cond_false (slotE e60) ?_
          clear e60; refine wp_skip ?_; refine hKq15 _ _ ?_; clear hKq15 Kq15; refine wp_seq_k fun Kq18 hKq18 => ?_; refine wp_seq_k fun Kq19 hKq19 => ?_
          have hv := way_none (dst := f.dst) HR5.out.2.2 HKI.out (fun l' e' nxt' h' => by
            have e1 := rhop_uniq HL.out h'
            subst e1
            rcases h'.hop with ⟨h3, _⟩ | ⟨_, h3, _⟩
            · exact absurd h3 h0
            · exact absurd h3 h1)
          have HV := Lib.hid hv
          clear hv dq x0 x1 x2 x3
          refine sm_list [15] 71 2 hs hd (by kernel_rfl) (agC e15 agN) rfl ?_
          simp only [seval]
          go_wp2_with fail
          intro a H; replace hs := H.s hs; replace hd := H.d rfl; replace e15 := H.g 15 rfl rfl; replace e2 := H.k e2 rfl; replace e3 := H.k e3 rfl; replace e4 := H.k e4 rfl; replace e25 := H.k e25 rfl; replace e26 := H.k e26 rfl; replace e9 := H.k e9 rfl; replace e10 := H.k e10 rfl; replace e11 := H.k e11 rfl; replace e27 := H.k e27 rfl; replace e13 := H.k e13 rfl; replace e14 := H.k e14 rfl; have e72 := H.g 72 rfl rfl
          clear H; refine hKq19 _ _ ?_; clear hKq19 Kq19
          refine wp_cond_true (slotE e72) ?_
          clear e72; refine wp_seq_k fun Kq20 hKq20 => ?_
          refine sm_list [] 6 3 hs hd (by kernel_rfl) agN rfl ?_
          simp only [seval]
          go_wp2_with fail
          intro a H; replace hs := H.s hs; replace hd := H.d rfl; replace e2 := H.k e2 rfl; replace e3 := H.k e3 rfl; replace e4 := H.k e4 rfl; replace e25 := H.k e25 rfl; replace e26 := H.k e26 rfl; replace e9 := H.k e9 rfl; replace e10 := H.k e10 rfl; replace e11 := H.k e11 rfl; replace e27 := H.k e27 rfl; replace e13 := H.k e13 rfl; replace e14 := H.k e14 rfl; replace e15 := H.k e15 rfl; have e6 := H.g 6 rfl rfl
          have e7 := H.g 7 rfl rfl; have e8 := H.g 8 rfl rfl; clear H; refine hKq20 _ _ ?_; clear hKq20 Kq20; refine wp_ret ?_; refine exit_then rfl ?_; refine ret_block ?_; refine exit_then rfl ?_; refine exit_then rfl ?_; refine ret_block ?_; refine exit_then rfl ?_
          exact sm_ret3 rfl hd e6 e7 e8 ⟨by rw [← HLL.out]; exact L0.trans (hb5.mono (Nat.le_of_lt hz3)), .inl ⟨HV.out, rfl⟩⟩
  · have hin : i = n := by omega
    have dj : decide ((i : Int) < (n : Int)) = false := decide_eq_false (by omega)
    clear hlt hm hm9
    refine sm_list [26, 27] 28 1 hs hd (by kernel_rfl) (agC e26 (agC e27 agN)) rfl ?_
    simp only [seval]
    go_wp2_with fail
    intro a H; replace hs := H.s hs; replace hd := H.d rfl; replace e26 := H.g 26 rfl rfl; replace e27 := H.g 27 rfl rfl; replace e2 := H.k e2 rfl; replace e3 := H.k e3 rfl; replace e4 := H.k e4 rfl; replace e25 := H.k e25 rfl; replace e9 := H.k e9 rfl; replace e10 := H.k e10 rfl; replace e11 := H.k e11 rfl; have e28 := H.g 28 rfl rfl; clear H; refine hKq7 _ _ ?_; clear hKq7 Kq7; refine wp_seq_k fun Kq8 hKq8 => ?_
    refine wp_cond_false (slotE e28) ?_
    clear e28; refine wp_exit ?_; refine exit_then rfl ?_; clear hKq8 Kq8; refine exit_then rfl ?_; refine exit_hit ?_; refine hKq5 _ _ ?_; clear hKq5 Kq5; refine wp_seq_k fun Kq9 hKq9 => ?_; refine wp_seq_k fun Kq10 hKq10 => ?_; clear e25; clear e26; clear e27; clear dj
    have hgo : rGo C f.src [f.src] [] ks = some (at_, seen, out) := by
      have h := HR.out.2.2
      rw [hin, ← HKL.out, List.drop_length] at h
      exact h
    have HGO := Lib.hid hgo
    have B44 := B4.below hb4 hz4
    have y1 := B44.cellOf (v := .int .i64 f.dst) 1 rfl
    have hz4b : B0 ≤ w4.heap.size := Nat.le_trans hB01 hb4.size
    have hwv : wayV C f.src f.dst ks = if ks ≠ [] ∧ at_ = f.dst ∧ ((seen.drop 1).dropLast).all (brd C) = true then some out else none := by
      rw [rhV_way]
      unfold rhV
      rw [hgo]
    have HWV := Lib.hid hwv
    clear hwv hgo
    have hks0 : ks = [] ↔ n = 0 := by rw [← HKL.out]; exact ⟨fun h => by rw [h]; rfl, fun h => List.eq_nil_of_length_eq_zero h⟩
    have HK0 := Lib.hid hks0
    clear hks0
    by_cases hn0 : n = 0
    · have dn : ((n : Int) == 0) = true := beq_iff_eq.2 (by omega)
      have dn2 : (n == 0) = true := beq_iff_eq.2 hn0
      have hv : wayV C f.src f.dst ks = none := by rw [HWV.out, if_neg (fun h => h.1 (HK0.out.2 hn0))]
      have HV := Lib.hid hv
      clear hv hn0
      refine sm_list [2, 4, 9] 89 9 hs hd (by kernel_rfl) (agC e2 (agC e4 (agC e9 agN))) rfl ?_
      simp only [seval]
      go_wp2_with fail
      intro a H; replace hs := H.s hs; replace hd := H.d rfl; replace e2 := H.g 2 rfl rfl; replace e4 := H.g 4 rfl rfl; replace e9 := H.g 9 rfl rfl; replace e3 := H.k e3 rfl; replace e10 := H.k e10 rfl; replace e11 := H.k e11 rfl; have e97 := H.g 97 rfl rfl; clear H; refine hKq10 _ _ ?_; clear hKq10 Kq10
      refine wp_cond_true (slotE e97) ?_
      clear e97; refine wp_seq_k fun Kq11 hKq11 => ?_
      refine sm_list [] 6 3 hs hd (by kernel_rfl) agN rfl ?_
      simp only [seval]
      go_wp2_with fail
      intro a H; replace hs := H.s hs; replace hd := H.d rfl; replace e2 := H.k e2 rfl; replace e3 := H.k e3 rfl; replace e4 := H.k e4 rfl; replace e9 := H.k e9 rfl; replace e10 := H.k e10 rfl; replace e11 := H.k e11 rfl; have e6 := H.g 6 rfl rfl; have e7 := H.g 7 rfl rfl; have e8 := H.g 8 rfl rfl; clear H; refine hKq11 _ _ ?_; clear hKq11 Kq11; refine wp_ret ?_; refine exit_then rfl ?_
      exact sm_ret3 rfl hd e6 e7 e8 ⟨by rw [← HLL.out]; exact L0.trans (hb4.mono (Nat.le_of_lt hz3)), .inl ⟨HV.out, rfl⟩⟩
    · have dn : ((n : Int) == 0) = false := beq_eq_false_iff_ne.2 (by omega)
      have dn2 : (n == 0) = false := beq_eq_false_iff_ne.2 hn0
      by_cases had : at_ = f.dst
      rotate_left
      ·
        have dd : (at_ != f.dst) = true := bne_iff_ne.2 had
        have hv : wayV C f.src f.dst ks = none := by rw [HWV.out, if_neg (fun h => had h.2.1)]
        have HV := Lib.hid hv
        clear hv
        refine sm_list [2, 4, 9] 89 9 hs hd (by kernel_rfl) (agC e2 (agC e4 (agC e9 agN))) rfl ?_
        simp only [seval]
        go_wp2_with fail
        intro a H; replace hs := H.s hs; replace hd := H.d rfl; replace e2 := H.g 2 rfl rfl; replace e4 := H.g 4 rfl rfl; replace e9 := H.g 9 rfl rfl; replace e3 := H.k e3 rfl; replace e10 := H.k e10 rfl; replace e11 := H.k e11 rfl; have e97 := H.g 97 rfl rfl; clear H; refine hKq10 _ _ ?_; clear hKq10 Kq10
        refine wp_cond_true (slotE e97) ?_
        clear e97; refine wp_seq_k fun Kq11 hKq11 => ?_
        refine sm_list [] 6 3 hs hd (by kernel_rfl) agN rfl ?_
        simp only [seval]
        go_wp2_with fail
        intro a H; replace hs := H.s hs; replace hd := H.d rfl; replace e2 := H.k e2 rfl; replace e3 := H.k e3 rfl; replace e4 := H.k e4 rfl; replace e9 := H.k e9 rfl; replace e10 := H.k e10 rfl; replace e11 := H.k e11 rfl; have e6 := H.g 6 rfl rfl; have e7 := H.g 7 rfl rfl; have e8 := H.g 8 rfl rfl; clear H; refine hKq11 _ _ ?_; clear hKq11 Kq11; refine wp_ret ?_; refine exit_then rfl ?_
        exact sm_ret3 rfl hd e6 e7 e8 ⟨by rw [← HLL.out]; exact L0.trans (hb4.mono (Nat.le_of_lt hz3)), .inl ⟨HV.out, rfl⟩⟩
      · have dd : (at_ != f.dst) = false := by rw [had]; simp
        refine sm_list [2, 4, 9] 89 9 hs hd (by kernel_rfl) (agC e2 (agC e4 (agC e9 agN))) rfl ?_
        simp only [seval]
        go_wp2_with fail
        intro a H; replace hs := H.s hs; replace hd := H.d rfl; replace e2 := H.g 2 rfl rfl; replace e4 := H.g 4 rfl rfl; replace e9 := H.g 9 rfl rfl; replace e3 := H.k e3 rfl; replace e10 := H.k e10 rfl; replace e11 := H.k e11 rfl; have e97 := H.g 97 rfl rfl; clear H; refine hKq10 _ _ ?_; clear hKq10 Kq10
        refine wp_cond_false (slotE e97) ?_
        clear e97; refine wp_skip ?_; refine hKq9 _ _ ?_; clear hKq9 Kq9; refine wp_seq_k fun Kq11 hKq11 => ?_; refine wp_seq_k fun Kq12 hKq12 => ?_; clear dn dn2 dd y1
        obtain ⟨As, cs, hvN, hcs, hrN⟩ := ownsRow_reads HR.out.1
        obtain ⟨Ao, co, hvO, _, hrO⟩ := ownsRow_reads HR.out.2.1
        subst hvN hvO
        obtain ⟨N, hNe⟩ : ∃ N, N = seen.length := ⟨_, rfl⟩
        rw [← hNe] at e10 hcs hrN
        have hN2 : 2 ≤ N := by omega
        have hN17 : N ≤ 17 := by omega
        obtain ⟨ads, hAs⟩ : ∃ ad, As = some ad := by
          obtain ⟨ad, h, _⟩ := hrN.2 (by omega)
          exact ⟨ad, h⟩
        subst hAs
        obtain ⟨Am, hmid, hmr⟩ := slice_mid ads N cs hN2 hcs
        have hrM := hmr w4 _ _ hrN
        have HNE := Lib.hid hNe
        have HRN := Lib.hid hrN
        have HRO := Lib.hid hrO
        clear hmr hrN hrO hNe
        skip
        obtain ⟨m, hmN⟩ : ∃ m, m = N - 2 := ⟨_, rfl⟩
        rw [← hmN] at hmid hrM
        have HMN := Lib.hid hmN
        have hmb : m ≤ 15 := by omega
        clear hmN
        refine sm_list [10] 98 7 hs hd (by kernel_rfl) (agC e10 agN) rfl ?_
        simp only [seval]
        go_wp2_with fail
        intro a H; replace hs := H.s hs; replace hd := H.d rfl; replace e10 := H.g 10 rfl rfl; replace e2 := H.k e2 rfl; replace e3 := H.k e3 rfl; replace e4 := H.k e4 rfl; replace e9 := H.k e9 rfl; replace e11 := H.k e11 rfl; have e102 := H.g 102 rfl rfl; have e103 := H.g 103 rfl rfl; have e104 := H.g 104 rfl rfl; clear H; refine hKq12 _ _ ?_; clear hKq12 Kq12; refine wp_block ?_; clear hmid; clear e9
        clear e2; clear e4
        have hmidx : ∀ (k : Nat) (x : Int), ((seen.drop 1).dropLast)[k]? = some x ↔ k < m ∧ seen[1 + k]? = some x := by
          intro k x
          rw [List.dropLast_eq_take, List.getElem?_take, List.length_drop, ← HNE.out]
          have := HMN.out
          split
          · rw [List.getElem?_drop]; exact ⟨fun h => ⟨(by omega), h⟩, fun h => h.2⟩
          · exact ⟨fun h => (by cases h), fun h => (by omega)⟩
        have HMI := Lib.hid hmidx
        clear hmidx
        refine wp_loop (fun a w' => ∃ k : Nat, k ≤ m ∧ a.tmps.size = 117 ∧ a.defers = [] ∧ a.tmps[3]? = some (.pointer (some ⟨g3, 0, none⟩)) ∧ a.tmps[10]? = some (.slice (some ads) N cs) ∧ a.tmps[11]? = some (.slice Ao out.length co) ∧ a.tmps[102]? = some (.slice Am m (cs - 1)) ∧ a.tmps[103]? = some (.int .i64 (m : Int)) ∧ a.tmps[104]? = some (.int .i64 (k : Int)) ∧ w' = w4 ∧ Hid (∀ k' x, k' < k → seen[1 + k']? = some x → brd C x = true)) (fun a _ => m - (intOf (a.tmps.getD 104 undef)).toNat) ?_ ?_
        · exact ⟨0, Nat.zero_le _, hs, hd, e3, e10, e11, e102, e103, e104, rfl, Lib.hid (fun k x h => by omega)⟩
        clear hs hd e104 e3 e10 e11 e102 e103 a
        rintro a w5 ⟨k, hk, hs, hd, e3, e10, e11, e102, e103, e104, rfl, HG⟩
        have hm := slot e104
        refine wp_seq_k fun Kq13 hKq13 => ?_
        by_cases hlt : k < m
        ·
          have dj : decide ((k : Int) < (m : Int)) = true := decide_eq_true (by omega)
          obtain ⟨x, hx⟩ : ∃ x, seen[1 + k]? = some x := ⟨_, List.getElem?_eq_getElem (by have h1 := HNE.out; have h2 := HMN.out; omega)⟩
          obtain ⟨ad, u, hadm, hadb, hu, hcl⟩ := hrM.at_ hlt
          have hu2 : u = .int .i64 x := by
            rw [List.getElem?_take_of_lt hlt, List.getElem?_drop, List.getElem?_map, hx] at hu
            exact (Option.some.inj hu).symm
          subst hu2
          have HX := Lib.hid hx
          have HA := Lib.hid hadm
          clear hu hx hadm
          rw [HA.out] at e102
          refine sm_list [103, 104] 105 1 hs hd (by kernel_rfl) (agC e103 (agC e104 agN)) rfl ?_
          simp only [seval]
          go_wp2_with fail
          intro a H; replace hs := H.s hs; replace hd := H.d rfl; replace e103 := H.g 103 rfl rfl; replace e104 := H.g 104 rfl rfl; replace e3 := H.k e3 rfl; replace e10 := H.k e10 rfl; replace e11 := H.k e11 rfl; replace e102 := H.k e102 rfl; have e105 := H.g 105 rfl rfl; clear H; refine hKq13 _ _ ?_; clear hKq13 Kq13; refine wp_seq_k fun Kq14 hKq14 => ?_
          refine wp_cond_true (slotE e105) ?_
          clear e105; refine wp_skip ?_; refine hKq14 _ _ ?_; clear hKq14 Kq14; refine wp_seq_k fun Kq15 hKq15 => ?_; refine wp_block ?_; refine wp_seq_k fun Kq16 hKq16 => ?_
          refine sm_list [19, 102, 104] 106 2 hs hd (by kernel_rfl) (agU (agC e102 (agC e104 agN))) rfl ?_
          simp only [seval]
          go_wp2_with fail
          intro a H; replace hs := H.s hs; replace hd := H.d rfl; replace e102 := H.g 102 rfl rfl; replace e104 := H.g 104 rfl rfl; replace e3 := H.k e3 rfl; replace e10 := H.k e10 rfl; replace e11 := H.k e11 rfl; replace e103 := H.k e103 rfl; have e19 := H.g 19 rfl rfl; clear H; refine hKq16 _ _ ?_; clear hKq16 Kq16; refine wp_seq_k fun Kq17 hKq17 => ?_
          rw [← HA.out] at e102
          clear hcl
          have hxr : 0 ≤ x ∧ x < (C.nodes.length : Int) := rGo_in HLN.out ⟨hsrc, HSRC.out⟩ HGO.out (List.mem_of_getElem? HX.out)
          obtain ⟨hx0, hx1⟩ := hxr
          obtain ⟨xn, rfl⟩ := Int.eq_ofNat_of_zero_le hx0
          obtain ⟨nd, hnd⟩ : ∃ nd, C.nodes[xn]? = some nd := ⟨_, List.getElem?_eq_getElem (by omega)⟩
          have hxn : xn < C.nodes.length := by omega
          obtain ⟨bd, u, hbd, _, hu, hcb⟩ := (HC.out.below (hb4.mono (Nat.le_of_lt hz3))).brs.at_ hxn
          have hu2 : u = .bool nd.br := by rw [List.getElem?_map, hnd] at hu; exact (Option.some.inj hu).symm
          subst hu2
          have B34 := B3.below hb4 hz3
          have c1 := B34.cellOf (v := .slice R.B.A C.nodes.length R.B.c) 1 rfl
          have hbr : brd C (xn : Int) = nd.br := by unfold brd; rw [Int.toNat_natCast, hnd]
          have HBR := Lib.hid hbr
          have HBD := Lib.hid hbd
          rw [HBD.out] at c1
          clear hbr hbd hu hnd
          have hdb : nd.br = true ∨ nd.br = false := by cases nd.br <;> simp
          rcases hdb with hdb | hdb
          rotate_left
          ·
            have hv : wayV C f.src f.dst ks = none := by
              rw [HWV.out, if_neg]
              rintro ⟨_, _, hall⟩
              have h1 := List.all_eq_true.1 hall (xn : Int) (List.mem_of_getElem? ((HMI.out k (xn : Int)).2 ⟨hlt, HX.out⟩))
              rw [HBR.out, hdb] at h1
              cases h1
            have HV := Lib.hid hv
            clear hv
            refine sm_list [3, 19] 108 6 hs hd (by kernel_rfl) (agC e3 (agC e19 agN)) rfl ?_
            simp only [seval]
            go_wp2_with fail
            intro a H; replace hs := H.s hs; replace hd := H.d rfl; replace e3 := H.g 3 rfl rfl; replace e19 := H.g 19 rfl rfl; replace e10 := H.k e10 rfl; replace e11 := H.k e11 rfl; replace e102 := H.k e102 rfl; replace e103 := H.k e103 rfl; replace e104 := H.k e104 rfl; have e113 := H.g 113 rfl rfl; clear H; refine hKq17 _ _ ?_; clear hKq17 Kq17
            refine wp_cond_true (slotE e113) ?_
            clear e113; refine wp_seq_k fun Kq18 hKq18 => ?_
            refine sm_list [] 6 3 hs hd (by kernel_rfl) agN rfl ?_
            simp only [seval]
            go_wp2_with fail
            intro a H; replace hs := H.s hs; replace hd := H.d rfl; replace e3 := H.k e3 rfl; replace e10 := H.k e10 rfl; replace e11 := H.k e11 rfl; replace e102 := H.k e102 rfl; replace e103 := H.k e103 rfl; replace e104 := H.k e104 rfl; replace e19 := H.k e19 rfl; have e6 := H.g 6 rfl rfl; have e7 := H.g 7 rfl rfl; have e8 := H.g 8 rfl rfl; clear H; refine hKq18 _ _ ?_; clear hKq18 Kq18; refine wp_ret ?_
            refine ret_block ?_; refine exit_then rfl ?_; refine exit_then rfl ?_; refine ret_block ?_; refine exit_then rfl ?_
            exact sm_ret3 rfl hd e6 e7 e8 ⟨by rw [← HLL.out]; exact L0.trans (hb4.mono (Nat.le_of_lt hz3)), .inl ⟨HV.out, rfl⟩⟩
          ·
            have HG2 : Hid (∀ k' x, k' < k + 1 → seen[1 + k']? = some x → brd C x = true) := Lib.hid (fun k' x h1 h2 => by
              rcases Nat.lt_or_ge k' k with h3 | h3
              · exact HG.out k' x h3 h2
              · have e : k' = k := by omega
                subst e
                have h4 := HX.out
                rw [h2] at h4
                have h5 := Option.some.inj h4
                rw [h5, HBR.out, hdb])
            refine sm_list [3, 19] 108 6 hs hd (by kernel_rfl) (agC e3 (agC e19 agN)) rfl ?_
            simp only [seval]
            go_wp2_with fail
            intro a H; replace hs := H.s hs; replace hd := H.d rfl; replace e3 := H.g 3 rfl rfl; replace e19 := H.g 19 rfl rfl; replace e10 := H.k e10 rfl; replace e11 := H.k e11 rfl; replace e102 := H.k e102 rfl; replace e103 := H.k e103 rfl; replace e104 := H.k e104 rfl; have e113 := H.g 113 rfl rfl; clear H; refine hKq17 _ _ ?_; clear hKq17 Kq17
            refine wp_cond_false (slotE e113) ?_
            clear e113; refine wp_skip ?_; refine hKq15 _ _ ?_; clear hKq15 Kq15; clear e19
            refine sm_list [104] 114 1 hs hd (by kernel_rfl) (agC e104 agN) rfl ?_
            simp only [seval]
            go_wp2_with fail
            intro a H; replace hs := H.s hs; replace hd := H.d rfl; replace e3 := H.k e3 rfl; replace e10 := H.k e10 rfl; replace e11 := H.k e11 rfl; replace e102 := H.k e102 rfl; replace e103 := H.k e103 rfl; replace e104 := H.g 104 rfl rfl; clear H
            exact ⟨⟨k + 1, by omega, hs, hd, e3, e10, e11, e102, e103, e104, rfl, HG2⟩, by first | (simp only [hm, slot e104, intOf]; omega) | (simp [e104, intOf]; omega)⟩
        · have hke : k = m := by omega
          have dj : decide ((k : Int) < (m : Int)) = false := decide_eq_false (by omega)
          clear hlt hm
          refine sm_list [103, 104] 105 1 hs hd (by kernel_rfl) (agC e103 (agC e104 agN)) rfl ?_
          simp only [seval]
          go_wp2_with fail
          intro a H; replace hs := H.s hs; replace hd := H.d rfl; replace e103 := H.g 103 rfl rfl; replace e104 := H.g 104 rfl rfl; replace e3 := H.k e3 rfl; replace e10 := H.k e10 rfl; replace e11 := H.k e11 rfl; replace e102 := H.k e102 rfl; have e105 := H.g 105 rfl rfl; clear H; refine hKq13 _ _ ?_; clear hKq13 Kq13; refine wp_seq_k fun Kq14 hKq14 => ?_
          refine wp_cond_false (slotE e105) ?_
          clear e105; refine wp_exit ?_; refine exit_then rfl ?_; clear hKq14 Kq14; refine exit_then rfl ?_; refine exit_hit ?_; refine hKq11 _ _ ?_; clear hKq11 Kq11; refine wp_seq_k fun Kq15 hKq15 => ?_; clear e102; clear e103; clear e104
          refine sm_list [6, 7, 8, 10, 11] 115 2 hs hd (by kernel_rfl) (agU (agU (agU (agC e10 (agC e11 agN))))) rfl ?_
          simp only [seval]
          go_wp2_with fail
          intro a H; replace hs := H.s hs; replace hd := H.d rfl; replace e10 := H.g 10 rfl rfl; replace e11 := H.g 11 rfl rfl; replace e3 := H.k e3 rfl; have e6 := H.g 6 rfl rfl; have e7 := H.g 7 rfl rfl; have e8 := H.g 8 rfl rfl; clear H; refine hKq15 _ _ ?_; clear hKq15 Kq15; refine wp_ret ?_
          have hall : ((seen.drop 1).dropLast).all (brd C) = true := all_at (fun k' x h => by
            obtain ⟨h1, h2⟩ := (HMI.out k' x).1 h
            exact HG.out k' x (by omega) h2)
          have hv : wayV C f.src f.dst ks = some out := by rw [HWV.out, if_pos ⟨fun h => hn0 (HK0.out.1 h), had, hall⟩]
          have hN1 : N = out.length + 1 := by rw [HNE.out, hsl, hol]
          subst hN1
          refine sm_ret3 rfl hd e6 e7 e8 ⟨by rw [← HLL.out]; exact L0.trans (hb4.mono (Nat.le_of_lt hz3)), .inr ⟨out, Ao, some ads, co, cs, hv, rfl, hcs, ownsRow_base HR.out.2.1 (by rw [← HLL.out]; omega), ?_⟩⟩
          have h := ownsRow_base HR.out.1 (B' := w.heap.size) (by rw [← HLL.out]; omega)
          rw [← HNE.out, rGo_nodes ks HGO.out rfl, had] at h
          exact h
end Go.Proofs.Ytaegngcbiefckaa
