/-
  AgendaDrops: for all times and drops the law returns true: what was taken off never comes; all else does. No condition.
-/
import Derived.Test.YtkocedbpnpclcaaAgL
namespace Go.Proofs.Ytkocedbpnpclcaa
set_option linter.unusedSimpArgs false
set_option linter.unusedVariables false
open Go.RowKit Go.WideShapes Go.ChangeShapes Go.Maps
attribute [local go_sem ↓] Go.wp_at_zero Go.wp_at_succ

theorem Has.far {w0 w w' : World} {g : Nat} {S T : List Nat} {a : Ag} (h : Has w0 w g S a) (hf : Fr T w w') (hT : ∀ k ∈ T, k ∉ S) (hg : ∀ k ∈ T, w0.heap.size ≤ k) : Has w0 w' g S a :=
  ⟨h.at_.fr hf hT, h.new, h.below.trans (hf.below h.below.size hg)⟩
def rdB (v : Value) : Option (DataW Unit × List MemPlace) := match v with | .bool b => some (.lit (.bool b), []) | _ => none
theorem rdB_inv {v : Value} {b : Bool} {ps : List MemPlace} (h : rdB v = some (.lit (.bool b), ps)) : v = .bool b := by
  unfold rdB at h
  split at h
  · simp at h; rw [h.1]
  · cases h
theorem zeroB (w : World) : (zeroValue 4).run Try.prog w = .ok (.bool false) w := by kernel_rfl
/-- What was taken off, as the law's own map has it. -/
structure MapG (D : DataW Unit) (G : List Int) : Prop where
  has : ∀ k : Int, Maps.has D (.int .i64 k) = decide (k ∈ G)
  at_ : ∀ k : Int, D.atKey (.int .i64 k) (.lit (.bool false)) = .lit (.bool (decide (k ∈ G)))
  size : Maps.size D = G.length
theorem MapG.put {D : DataW Unit} {G : List Int} (h : MapG D G) (ht : Tidy D) {k : Int} (hk : WideAt.IsKeyLit (.int .i64 k)) (hn : k ∉ G) : MapG (D.put (.int .i64 k) (.lit (.bool true))) (k :: G) := by
  refine ⟨fun j => ?_, fun j => ?_, ?_⟩
  · by_cases e : j = k
    · subst e; rw [has_put_same ht.isMap hk]; simp
    · rw [has_put_other (fun e' => by injection e' with _ e'; exact e e'), h.has]; simp [e]
  · by_cases e : j = k
    · subst e; rw [atKey_put_same ht.isMap hk]; simp
    · rw [atKey_put_other (fun e' => by injection e' with _ e'; exact e e'), h.at_]; simp [e]
  · rw [size_put ht, h.has, h.size]; simp [hn]
/-- What is still to come. -/
structure Left (t : Nat → Int) (n : Nat) (G : List Int) (its : List It) : Prop where
  sub : ∀ y ∈ its, y ∈ tims t n
  not : ∀ y ∈ its, y.turn ∉ G
  all : ∀ i : Nat, i < n → ((i : Int) + 1) ∉ G → (⟨t i, (i : Int) + 1, (i : Int)⟩ : It) ∈ its
  len : its.length + G.length = n
theorem tims_turn {t : Nat → Int} {n : Nat} {y : It} (h : y ∈ tims t n) : 1 ≤ y.turn ∧ y.turn ≤ n := by
  obtain ⟨i, hi, rfl⟩ := tims_mem h
  show 1 ≤ (i : Int) + 1 ∧ (i : Int) + 1 ≤ n
  omega
set_option maxRecDepth 100000 in
set_option maxHeartbeats 4000000 in
theorem agendaDrops_calls (A : Option Addr) (n c : Nat) (xs : List Value) (f : Nat → Int) (A2 : Option Addr) (n2 c2 : Nat) (xs2 : List Value) (f2 : Nat → Int) (w : World) (hr : Reads w w.heap.size 1 A n xs) (hx : ∀ i, i < n → xs[i]? = some (.int .i64 (f i)))
    (hr2 : Reads w w.heap.size 1 A2 n2 xs2) (hx2 : ∀ i, i < n2 → xs2[i]? = some (.int .i64 (f2 i))) :
    Calls Try.prog 5 #[.slice A n c, .slice A2 n2 c2] w fun e w' => e = .returned (.bool true) ∧ Below w.heap.size w w' := by
  have HR := Lib.hid (And.intro hr hx)
  have HR2 := Lib.hid (And.intro hr2 hx2)
  have hmask : ∀ f : Nat → Int, ∃ t : Nat → Int, ∀ i, bits .and .i64 (f i) 255 = t i ∧ 0 ≤ t i ∧ t i ≤ 255 := fun f => ⟨fun i => bits .and .i64 (f i) 255, fun i => by
    obtain ⟨x, h1, h2, h3⟩ := and_mask (f i) 8 255 rfl (by omega)
    exact ⟨rfl, by show 0 ≤ bits .and .i64 (f i) 255; rw [h1]; exact h2, by show bits .and .i64 (f i) 255 ≤ 255; rw [h1]; exact h3⟩⟩
  obtain ⟨t, ht⟩ := hmask f
  obtain ⟨d, hd⟩ := hmask f2
  have HT := Lib.hid ht
  have HDr := Lib.hid hd
  have hmk := @run_makeMap Try.prog
  clear hr hx hr2 hx2 ht hd hmask
  by_cases hn : 100 < n
  · have dn : (100 : Int) < (n : Int) := by omega
    clear hn
    go_enter Try.func5, Try.ntmps5
    go_wp2_with fail
    refine (head_any _).mono ?_
    rintro e w1 ⟨rfl, b1⟩
    go_wp2_with fail
    go_ret
    exact ⟨rfl, b1⟩
  have dn : decide ((100 : Int) < (n : Int)) = false := by simp; omega
  by_cases hn2 : 100 < n2
  · have dn2 : (100 : Int) < (n2 : Int) := by omega
    clear hn hn2
    go_enter Try.func5, Try.ntmps5
    go_wp2_with fail
    refine (head_any _).mono ?_
    rintro e w1 ⟨rfl, b1⟩
    go_wp2_with fail
    go_ret
    exact ⟨rfl, b1⟩
  have dn2 : decide ((100 : Int) < (n2 : Int)) = false := by simp; omega
  have HN : Hid (n ≤ 100 ∧ n2 ≤ 100) := Lib.hid ⟨by omega, by omega⟩
  clear hn hn2
  go_enter Try.func5, Try.ntmps5
  go_wp2_with fail
  refine (head_any _).mono ?_
  rintro e w1 ⟨rfl, b1⟩
  have HB1 := Lib.hid b1
  clear b1
  go_wp2_with fail
  refine (new_anyI w1).mono ?_
  rintro e w2 ⟨g, S, rfl, hA, hS, hb⟩
  have HA : Hid (Has w w2 g S (tAg t 0)) := Lib.hid ⟨hA, fun k hk => Nat.le_trans HB1.out.size (hS k hk), HB1.out.trans (hb.mono HB1.out.size)⟩
  clear hA hS hb HB1
  go_wp2_with fail
  clear dn dn2
  go_loopw [34] (fun i wr => ∃ (k : Nat) (S' : List Nat), i = .int .i64 (k : Nat) ∧ k ≤ n ∧ Hid (Has w wr g S' (tAg t k))) (fun i _ => n - (intOf i).toNat)
  case atStart => exact ⟨0, S, rfl, Nat.zero_le _, HA⟩
  case round =>
    clear HA
    obtain ⟨k, S', rfl, hk, hinv⟩ := hrel
    obtain ⟨wo, rfl⟩ : ∃ wo : World, wo = wr := ⟨_, rfl⟩
    by_cases hlt : k < n
    · obtain ⟨ad, rfl, hblk, hcell⟩ := (HR.out.1.below hinv.out.below).2 (by omega)
      have x0 := hcell k _ (HR.out.2 k hlt)
      have fm := (HT.out k).1
      obtain ⟨K, hK⟩ : ∃ K, K = k + 1 := ⟨_, rfl⟩
      have fk : IntKind.i64.wrap ((k : Int) + 1) = (K : Int) := by have := HN.out; rw [hK]; exact IntWalk.i64_in _ ⟨by omega, by omega⟩
      have HK := Lib.hid (And.intro hK hlt)
      clear hK hcell hblk
      have HC := Lib.hid (put_anyI wo g S' (tAg t k) hinv.out.at_ (t k) k (by have := HN.out; have := HK.out.2; show (k : Int) ≤ 1000000000; omega))
      go_wp2_with fail
      refine HC.out.mono ?_
      rintro e w3 (⟨h, _⟩ | ⟨_, he, S3, hA3, hS3, hF3⟩)
      · exact absurd (tAg_putE ⟨(HT.out k).2.1, by have := (HT.out k).2.2; omega⟩ (by have := HN.out; have := HK.out.2; omega)) h
      rw [tAg_put] at hA3
      rw [show (tAg t k).turn + 1 = (K : Int) from by rw [HK.out.1]; rfl] at he
      subst he
      have HI := Lib.hid (hinv.out.step hA3 hS3 hF3)
      clear hA3 hS3 hF3 hinv HC fm x0
      go_wp2_with fail
      clear fk
      go_roundw
      case rel => exact ⟨K, S3, rfl, by have := HK.out; omega, by rw [HK.out.1]; exact HI⟩
      case measure => have := HK.out; simp [intOf]; omega
    · obtain rfl : k = n := by omega
      clear hk
      have hM0 := World.ownsMap_made wo Try.prog 3 rdB
      have HI : Hid (Has w (wo.alloc (.map #[] 0)) g S' (tAg t k) ∧ (wo.alloc (.map #[] 0)).ownsMap Try.prog 3 rdB wo.heap.size 0 (.map []) ∧ wo.heap.size ∉ S' ∧ w.heap.size ≤ wo.heap.size) := Lib.hid ⟨hinv.out.mv ((Below.refl _ _).alloc (Nat.le_refl _) _), hM0, fun hm => Nat.lt_irrefl _ (hinv.out.at_.lt _ hm), hinv.out.below.size⟩
      clear hinv hM0
      go_wp2_with fail
      clear hlt hmk
      generalize wo.alloc (.map #[] 0) = wb at *
      generalize wo.heap.size = gq at *
      go_loopw [59] (fun i wr => ∃ (q : Nat) (S2 : List Nat) (a : Ag) (D : DataW Unit) (G : List Int) (n0 : Nat), i = .int .i64 (q : Nat) ∧ q ≤ n2 ∧ Hid (Has w wr g S2 a ∧ wr.ownsMap Try.prog 3 rdB gq n0 D ∧ n0 ≤ q ∧ MapG D G ∧ Left t k G a.its ∧ a.turn = k ∧ gq ∉ S2 ∧ w.heap.size ≤ gq)) (fun i _ => n2 - (intOf i).toNat)
      case atStart =>
        refine ⟨0, S', tAg t k, .map [], [], 0, rfl, Nat.zero_le _, Lib.hid ⟨HI.out.1, HI.out.2.1, Nat.le_refl _, ⟨fun _ => rfl, fun _ => rfl, rfl⟩, ⟨fun y hy => hy, fun y _ => by simp, fun i hi _ => List.mem_map.2 ⟨i, List.mem_range.2 hi, rfl⟩, by show (tims t k).length + 0 = k; rw [tims_len]; omega⟩, rfl, HI.out.2.2.1, HI.out.2.2.2⟩⟩
      case round =>
        clear HI
        obtain ⟨q, S2, a, D, G, n0, rfl, hq, hinv⟩ := hrel
        obtain ⟨wo2, rfl⟩ : ∃ wo2 : World, wo2 = wr := ⟨_, rfl⟩
        by_cases hlt : q < n2
        · obtain ⟨ad, rfl, hblk, hcell⟩ := (HR2.out.1.below hinv.out.1.below).2 (by omega)
          have x0 := hcell q _ (HR2.out.2 q hlt)
          have fm := (HDr.out q).1
          obtain ⟨T, hT⟩ : ∃ T, T = 1 + d q := ⟨_, rfl⟩
          have hTr : -9223372036854775808 ≤ T ∧ T ≤ 9223372036854775807 := by have := HDr.out q; omega
          have hT1 : 1 ≤ T ∧ T ≤ 256 := by have := HDr.out q; omega
          have fT : IntKind.i64.wrap (1 + d q) = T := by rw [← hT]; exact IntWalk.i64_in _ hTr
          obtain ⟨Q, hQ⟩ : ∃ Q, Q = q + 1 := ⟨_, rfl⟩
          have fq : IntKind.i64.wrap ((q : Int) + 1) = (Q : Int) := by have := HN.out; rw [hQ]; exact IntWalk.i64_in _ ⟨by omega, by omega⟩
          have HQ := Lib.hid (And.intro hQ hlt)
          obtain ⟨v, ps, hrun, hv⟩ := hinv.out.2.1.lookup lawI Try.underlying35 (zeroB wo2) (zd := .lit (.bool false)) (zp := []) rfl (keyI hTr)
          rw [hinv.out.2.2.2.1.at_] at hv
          obtain rfl := rdB_inv hv
          have HC := Lib.hid (drop_anyI wo2 g S2 a hinv.out.1.at_ T hTr)
          have HTr := Lib.hid (And.intro hTr hT1)
          clear hcell hblk hQ hv hT
          have hcase : (T ≤ (k : Int) ∧ decide (T ∈ G) = false) ∨ (T ≤ (k : Int) ∧ decide (T ∈ G) = true) ∨ decide (T ≤ (k : Int)) = false := by
            by_cases h1 : T ≤ (k : Int)
            · by_cases h2 : T ∈ G
              · exact .inr (.inl ⟨h1, decide_eq_true h2⟩)
              · exact .inl ⟨h1, decide_eq_false h2⟩
            · exact .inr (.inr (decide_eq_false h1))
          rcases hcase with ⟨h1, h2⟩ | ⟨h1, h2⟩ | h1
          · have H2 := Lib.hid (And.intro h1 (of_decide_eq_false h2))
            rw [h2] at hrun
            clear h2 hTr hT1
            go_wp2_with fail
            refine HC.out.mono ?_
            rintro e w3 (⟨hno, _⟩ | ⟨m, hm, hmt, rfl, S3, hA3, hS3, hF3⟩)
            · exfalso
              obtain ⟨hH, hM, hn0, hMG, hLe, hat, hgq, hge⟩ := hinv.out
              obtain ⟨hTr, hT1⟩ := HTr.out
              obtain ⟨h3, h4⟩ := H2.out
              have := hLe.all (T - 1).toNat (by omega) (by rw [show (((T - 1).toNat : Nat) : Int) + 1 = T by omega]; exact h4)
              exact hno _ this (by show (((T - 1).toNat : Nat) : Int) + 1 = T; omega)
            obtain ⟨hH, hM, hn0, hMG, hLe, hat, hgq, hge⟩ := hinv.out
            have hM3 := ownsMap_fr hM hF3 hgq
            obtain ⟨w4, hrun4, hM4, htn⟩ := World.ownsMap.store hM3 lawI Try.underlying35 (by have := HN.out; have := HQ.out; unfold maxLen; omega) (keyI HTr.out.1) (show rdB (.bool true) = some (.lit (.bool true), []) from rfl)
            have f4 : Fr [gq] w3 w4 := Fr.gr (g := gq) htn.grown (by simp)
            have hgq3 : gq ∉ S3 := fun hm => by
              rcases hS3 gq hm with h | h
              · exact hgq h
              · have := hM.lt; omega
            have hgl := gone_len hm hH.at_.facts.1
            have hLe4 : Left t k (T :: G) (a.gone m a.now).its := by
              refine ⟨fun y hy => hLe.sub y (List.mem_filter.1 hy).1, fun y hy => ?_, fun i hi hn => ?_, ?_⟩
              · obtain ⟨hy1, hy2⟩ := List.mem_filter.1 hy
                have h2 : y.turn ≠ m.turn := of_decide_eq_true hy2
                intro h
                rcases List.mem_cons.1 h with h | h
                · exact h2 (h.trans hmt.symm)
                · exact hLe.not y hy1 h
              · refine List.mem_filter.2 ⟨hLe.all i hi (fun h => hn (List.mem_cons_of_mem _ h)), decide_eq_true ?_⟩
                intro h
                have h' : (i : Int) + 1 = m.turn := h
                exact hn (by rw [h', hmt]; exact List.mem_cons_self ..)
              · have h5 := hLe.len
                show (a.its.filter _).length + (T :: G).length = k
                simp only [List.length_cons]
                omega
            have HI : Hid (Has w w4 g S3 (a.gone m a.now) ∧ w4.ownsMap Try.prog 3 rdB gq (n0 + 1) (D.put (.int .i64 T) (.lit (.bool true))) ∧ n0 + 1 ≤ Q ∧ MapG (D.put (.int .i64 T) (.lit (.bool true))) (T :: G) ∧ Left t k (T :: G) (a.gone m a.now).its ∧ (a.gone m a.now).turn = k ∧ gq ∉ S3 ∧ w.heap.size ≤ gq) :=
              Lib.hid ⟨(hH.step hA3 hS3 hF3).far f4 (by intro x hx; simp at hx; rw [hx]; exact hgq3) (by intro x hx; simp at hx; rw [hx]; exact hge), hM4, by have := HQ.out; omega, hMG.put (hM.tidy lawI) (lawI.key (keyI HTr.out.1)) H2.out.2, hLe4, hat, hgq3, hge⟩
            clear hH hM hn0 hMG hLe hat hgq hge hM3 hM4 htn f4 hgq3 hgl hLe4 hA3 hS3 hF3 hinv HC hrun hm hmt x0 fm fT
            go_wp2_with fail
            clear fq hrun4
            go_roundw
            case rel => exact ⟨Q, S3, a.gone m a.now, D.put (.int .i64 T) (.lit (.bool true)), T :: G, n0 + 1, rfl, by have := HQ.out; omega, HI⟩
            case measure => have := HQ.out; simp [intOf]; omega
          · have H2 := Lib.hid (And.intro h1 (of_decide_eq_true h2))
            rw [h2] at hrun
            clear h2 hTr hT1
            go_wp2_with fail
            refine HC.out.mono ?_
            rintro e w3 (⟨_, rfl, hA3, hb3⟩ | ⟨m, hm, hmt, _⟩)
            rotate_left
            · exfalso
              exact hinv.out.2.2.2.2.1.not m hm (by rw [hmt]; exact H2.out.2)
            obtain ⟨hH, hM, hn0, hMG, hLe, hat, hgq, hge⟩ := hinv.out
            have HI : Hid (Has w w3 g S2 a ∧ w3.ownsMap Try.prog 3 rdB gq n0 D ∧ n0 ≤ Q ∧ MapG D G ∧ Left t k G a.its ∧ a.turn = k ∧ gq ∉ S2 ∧ w.heap.size ≤ gq) := Lib.hid ⟨hH.kept hA3 hb3, ownsMap_fr hM (Fr.be (S := []) hb3) (by simp), by have := HQ.out; omega, hMG, hLe, hat, hgq, hge⟩
            clear hH hM hn0 hMG hLe hat hgq hge hA3 hb3 hinv HC hrun x0 fm fT
            go_wp2_with fail
            clear fq
            go_roundw
            case rel => exact ⟨Q, S2, a, D, G, n0, rfl, by have := HQ.out; omega, HI⟩
            case measure => have := HQ.out; simp [intOf]; omega
          · have H2 := Lib.hid (of_decide_eq_false h1)
            clear hrun hTr hT1
            go_wp2_with fail
            refine HC.out.mono ?_
            rintro e w3 (⟨_, rfl, hA3, hb3⟩ | ⟨m, hm, hmt, _⟩)
            rotate_left
            · exfalso
              have h5 := tims_turn (hinv.out.2.2.2.2.1.sub m hm)
              have h6 := H2.out
              omega
            obtain ⟨hH, hM, hn0, hMG, hLe, hat, hgq, hge⟩ := hinv.out
            have HI : Hid (Has w w3 g S2 a ∧ w3.ownsMap Try.prog 3 rdB gq n0 D ∧ n0 ≤ Q ∧ MapG D G ∧ Left t k G a.its ∧ a.turn = k ∧ gq ∉ S2 ∧ w.heap.size ≤ gq) := Lib.hid ⟨hH.kept hA3 hb3, ownsMap_fr hM (Fr.be (S := []) hb3) (by simp), by have := HQ.out; omega, hMG, hLe, hat, hgq, hge⟩
            clear hH hM hn0 hMG hLe hat hgq hge hA3 hb3 hinv HC x0 fm fT
            go_wp2_with fail
            clear fq
            go_roundw
            case rel => exact ⟨Q, S2, a, D, G, n0, rfl, by have := HQ.out; omega, HI⟩
            case measure => have := HQ.out; simp [intOf]; omega
        · obtain rfl : q = n2 := by omega
          clear hq
          have HI := hinv
          clear hinv
          go_wp2_with fail
          clear hlt
          go_loopw [15, 16, 87] (fun cv lv i wr => ∃ (q : Nat) (last : Int) (S3 : List Nat) (b : Ag), cv = .int .i64 (q : Nat) ∧ lv = .int .i64 last ∧ i = .int .i64 (q : Nat) ∧ q ≤ k ∧ Hid (Has w wr g S3 b ∧ wr.ownsMap Try.prog 3 rdB gq n0 D ∧ MapG D G ∧ (∀ y ∈ b.its, y ∈ tims t k ∧ y.turn ∉ G ∧ last ≤ y.at_) ∧ b.its.length + G.length + q = k ∧ b.turn = k ∧ gq ∉ S3)) (fun _ _ i _ => k - (intOf i).toNat)
          case atStart =>
            obtain ⟨hH, hM, hn0, hMG, hLe, hat, hgq, hge⟩ := HI.out
            exact ⟨0, -1, S2, a, rfl, rfl, rfl, Nat.zero_le _, Lib.hid ⟨hH, hM, hMG, fun y hy => ⟨hLe.sub y hy, hLe.not y hy, by obtain ⟨i, _, rfl⟩ := tims_mem (hLe.sub y hy); have := (HT.out i).2.1; show -1 ≤ t i; omega⟩, by have := hLe.len; omega, hat, hgq⟩⟩
          case round =>
            clear HI
            obtain ⟨j, last, S3, b, rfl, rfl, rfl, hj, hinv⟩ := hrel
            obtain ⟨wo3, rfl⟩ : ∃ wo3 : World, wo3 = wr := ⟨_, rfl⟩
            have hend : ∀ w4, wo3.ownsMap Try.prog 3 rdB gq n0 D → Fr S3 wo3 w4 → (Builtin.len_ #[35] 3 #[.map (some gq)]).run Try.prog w4 = .ok (.int .i64 (G.length : Nat)) w4 := fun w4 hM hF => by
              have := (ownsMap_fr hM hF hinv.out.2.2.2.2.2.2).len Try.underlying35 3
              rw [hinv.out.2.2.1.size] at this
              exact this
            by_cases hlt : j < k
            · have HC := Lib.hid (next_anyI wo3 g S3 b hinv.out.1.at_ 255 (by have := HN.out; have := hinv.out.2.2.2.2.2.1; omega))
              have HE := Lib.hid hend
              clear hend
              go_wp2_with fail
              refine HC.out.mono ?_
              rintro e w4 (⟨hno, rfl, hA4, hb4⟩ | ⟨m, hm, hmin, _, he, S4, hA4, hS4, hF4⟩)
              · have hnil : b.its.length = 0 := by
                  cases hbi : b.its with
                  | nil => rfl
                  | cons y ys =>
                    exfalso
                    have hy : y ∈ b.its := by rw [hbi]; simp
                    obtain ⟨i, hi, e⟩ := tims_mem (hinv.out.2.2.2.1 y hy).1
                    have h1 := hno y hy
                    have h2 := (HT.out i).2.2
                    rw [e] at h1
                    have h3 : 255 < t i := h1
                    omega
                obtain ⟨L, hL⟩ : ∃ L, G.length = L := ⟨_, rfl⟩
                have hlen := HE.out w4 hinv.out.2.1 (Fr.be hb4)
                rw [hL] at hlen
                have fL : IntKind.i64.wrap ((k : Int) - (L : Int)) = (j : Int) := by
                  have := hinv.out.2.2.2.2.1
                  rw [show (k : Int) - (L : Int) = (j : Int) by omega]
                  have := HN.out
                  exact IntWalk.i64_in _ ⟨by omega, by omega⟩
                have HW := Lib.hid (hinv.out.1.kept hA4 hb4).below
                clear hinv HC hnil hno hA4 hb4 hL HE
                go_wp2_with fail
                go_ret
                exact ⟨rfl, HW.out⟩
              · obtain ⟨hH, hM, hMG, hall, hlen, hat, hgq⟩ := hinv.out
                have hM4 := ownsMap_fr hM hF4 hgq
                have hgq4 : gq ∉ S4 := fun hm => by
                  rcases hS4 gq hm with h | h
                  · exact hgq h
                  · have := hM.lt; omega
                obtain ⟨T, hT⟩ : ∃ T, m.turn = T := ⟨_, rfl⟩
                obtain ⟨X, hX⟩ : ∃ X, m.at_ = X := ⟨_, rfl⟩
                have hTt := tims_turn (hall m hm).1
                have hTr : -9223372036854775808 ≤ T ∧ T ≤ 9223372036854775807 := by have := HN.out; omega
                obtain ⟨v, ps, hrun, hv⟩ := hM4.lookup lawI Try.underlying35 (zeroB w4) (zd := .lit (.bool false)) (zp := []) rfl (keyI hTr)
                rw [hMG.at_, decide_eq_false (by rw [← hT]; exact (hall m hm).2.1)] at hv
                obtain rfl := rdB_inv hv
                have d1 : decide (X < last) = false := decide_eq_false (by have := (hall m hm).2.2; omega)
                have hgl := gone_len hm hH.at_.facts.1
                obtain ⟨Q, hQ⟩ : ∃ Q, Q = j + 1 := ⟨_, rfl⟩
                have fq : IntKind.i64.wrap ((j : Int) + 1) = (Q : Int) := by have := HN.out; rw [hQ]; exact IntWalk.i64_in _ ⟨by omega, by omega⟩
                have HI : Hid (Has w w4 g S4 (b.gone m X) ∧ w4.ownsMap Try.prog 3 rdB gq n0 D ∧ MapG D G ∧ (∀ y ∈ (b.gone m X).its, y ∈ tims t k ∧ y.turn ∉ G ∧ X ≤ y.at_) ∧ (b.gone m X).its.length + G.length + Q = k ∧ (b.gone m X).turn = k ∧ gq ∉ S4) := Lib.hid (by
                  rw [hX] at hA4
                  refine ⟨hH.step hA4 hS4 hF4, hM4, hMG, fun y hy => ?_, by show (b.its.filter _).length + G.length + Q = k; omega, hat, hgq4⟩
                  have hy1 := (List.mem_filter.1 hy).1
                  obtain ⟨h1, h2, _⟩ := hall y hy1
                  have h3 := hmin y hy1
                  unfold It.le at h3
                  exact ⟨h1, h2, by omega⟩)
                have HQ2 := Lib.hid (And.intro hQ hlt)
                rw [hT, hX] at he
                subst he
                clear hH hM hMG hall hlen hat hgq hM4 hgq4 hT hX hTt hTr hv hgl hQ hA4 hS4 hF4 hm hmin hinv HC HE
                go_wp2_with fail
                clear fq hrun d1
                go_roundw
                case rel => exact ⟨Q, X, S4, b.gone m X, rfl, rfl, rfl, by have := HQ2.out; omega, HI⟩
                case measure => have := HQ2.out; simp [intOf]; omega
            · obtain rfl : j = k := by omega
              obtain ⟨L, hL⟩ : ∃ L, G.length = L := ⟨_, rfl⟩
              have hlen := hend wo3 hinv.out.2.1 (Fr.refl _ _)
              rw [hL] at hlen
              have fL : IntKind.i64.wrap ((j : Int) - (L : Int)) = (j : Int) := by
                have := hinv.out.2.2.2.2.1
                rw [show (j : Int) - (L : Int) = (j : Int) by omega]
                have := HN.out
                exact IntWalk.i64_in _ ⟨by omega, by omega⟩
              have HW := Lib.hid hinv.out.1.below
              clear hinv hL hend
              go_wp2_with fail
              go_ret
              exact ⟨rfl, HW.out⟩

/-! ### The row's step -/
set_option maxRecDepth 100000 in
theorem agendaDrops_lifted (os : Os) (started : os.Started) (H : Type) (enc : TypeId × Value → H) :
    ReturnsInHanded {} Try.checked os 5 .any (Rows.agendaDropsSpec.pre6 enc Try.prog Try.f5 Rows.agendaDropsRow.domain false) (Rows.agendaDropsSpec.post enc Try.prog Try.f5 false true false false) := by
  refine returnsInHanded_of_change (C := Try.checked) own started (by kernel_rfl) Try.func5
    (ChangeSpec.witness6 (enc := enc) (C := Try.checked) false ⟨#[], #[.slice none 0 0, .slice none 0 0], []⟩ 8 (by kernel_rfl) (by kernel_rfl) (by kernel_rfl) (by kernel_rfl)) ?_
  intro W base args ds gs before hval0 hW _ _
  have hval : ∀ (j : Nat) t v, Try.f5.params[j]? = some t → args[j]? = some v → Value.okWide Try.prog W .any base t v := hval0
  have hW' := hW
  obtain ⟨p, q, hA0, hV, rfl, hfz, hnd⟩ := hW
  have hA : DataW.TrodAll enc Try.prog W 0 (fun _ => true) true Try.f5.params.toList args.toList ds p := hA0
  rw [Try.params5] at hA hval
  obtain ⟨v0, v1, d0, d1, p0, p1, rfl, rfl, rfl, h0, h1⟩ := trodAll_two hA
  obtain ⟨A, n, c, xs, f, rfl, hn, hr, hx⟩ := open_ints (hval 0 22 v0 rfl rfl) h0 (fun x hx => hW'.lt x (by simp [hx]))
  obtain ⟨A2, n2, c2, xs2, f2, rfl, hn2, hr2, hx2⟩ := open_ints (hval 1 22 v1 rfl rfl) h1 (fun x hx => hW'.lt x (by simp [hx]))
  exact law_post laidOut (by kernel_rfl) rfl (by kernel_rfl) Try.underlying4 rfl hW' (agendaDrops_calls A n c xs f A2 n2 c2 xs2 f2 W hr hx hr2 hx2)

theorem agendaDrops_holds : Rows.AgendaDropsSaid :=
  OpenClaim.holds_of_wide 5 Try.f5 rfl rfl rfl rfl rfl rfl rfl ⟨rfl, rfl, rfl, rfl, rfl⟩ rfl rfl rfl rfl rfl (by kernel_rfl) Try.func5 (by kernel_rfl)
    (of_decide_eq_true (by kernel_rfl)) (by unfold Func.isWrapper; first | (rw [if_pos (by decide +kernel)]; kernel_rfl) | (rw [if_neg (by decide +kernel)]; exact ⟨rfl, rfl⟩))
    (fun os started H enc _ => agendaDrops_lifted os started H enc)

#print axioms agendaDrops_holds
end Go.Proofs.Ytkocedbpnpclcaa
