/-
  TreeForms: a message goes over a wire.
-/
import Derived.Test.YtcdgofndfajekaaFmO
import Derived.Test.YtcdgofndfajekaaSm
namespace Go.Proofs.Ytcdgofndfajekaa
set_option linter.unusedSimpArgs false
set_option linter.unusedVariables false
open Go.RowKit Go.WideShapes Go.ChangeShapes
attribute [local go_sem ↓] Go.wp_at_zero Go.wp_at_succ

set_option maxRecDepth 100000 in
set_option maxHeartbeats 4000000 in
theorem tf_send0 {P : Nat → Pr} {n : Nat} {F : List Nat} {Bs : List Bks} {L : List Tre} {PS : List (List Value)} {W : List Wire} {g8 g14 : Nat} {A8 A14 : Addr} {c8 c14 : Nat} {now : Nat} {w : World}
    (hP : Who P n) (hN : Net n W) (hI : Inv P n W (now : Int) L) (hT : Nt w F Bs L PS) (hR : Wr w Bs W g8 g14 A8 A14 c8 c14) (hnow : now ≤ 1000) {g6 j : Nat} {x : Wire} (hx : W[j]? = some x) (B6 : Blk w g6 66 (wcs4 x).toArray) (h6 : ∀ k ∈ turns Bs, k < g6) (a : Act) (Q : Exit → Act → World → Prop)
    (hs : a.tmps.size = 63) (hd : a.defers = []) (e0 : a.tmps[0]? = some (.int .i64 (now : Int))) (e1 : a.tmps[1]? = some (.pointer (some ⟨g14, 0, none⟩))) (e2 : a.tmps[2]? = some (.pointer (some ⟨g8, 0, none⟩))) (e4 : a.tmps[4]? = some (.bool false)) (e6 : a.tmps[6]? = some (.pointer (some ⟨g6, 0, none⟩))) (e7 : a.tmps[7]? = some (.int .i64 0)) (e11 : a.tmps[11]? = some (.slice (some A14) W.length c14)) (e12 : a.tmps[12]? = some (.int .i64 (W.length : Int))) (e13 : a.tmps[13]? = some (.int .i64 (j : Int)))
    (hend : ∀ (a : Act) (w' : World) (PS' : List (List Value)), a.tmps.size = 63 → a.defers = [] → a.tmps[0]? = some (.int .i64 (now : Int)) → a.tmps[1]? = some (.pointer (some ⟨g14, 0, none⟩)) → a.tmps[2]? = some (.pointer (some ⟨g8, 0, none⟩)) → a.tmps[4]? = some (.bool false) → a.tmps[6]? = some (.pointer (some ⟨g6, 0, none⟩)) → a.tmps[7]? = some (.int .i64 0) → a.tmps[11]? = some (.slice (some A14) W.length c14) → a.tmps[12]? = some (.int .i64 (W.length : Int)) → a.tmps[13]? = some (.int .i64 (j : Int)) → Nt w' F Bs (sends L x.1 x.2 ((now % 256 : Nat) : Int) (now : Int)) PS' → Wr w' Bs W g8 g14 A8 A14 c8 c14 → Blk w' g6 66 (wcs4 x).toArray → Fr (turns Bs) w w' → Q .normal a w') :
    Code.wp Try.prog (sub [true, false, true, false, false, true, true, false, false, true, true, false, false, true, false] (bodyOf Try.f17)) Q a w := by
  conv => arg 2; whnf
  have HEND := Lib.hid hend
  clear hend
  have hl : Link W x.1 x.2 := ⟨x, List.mem_of_getElem? hx, .inl ⟨rfl, rfl⟩⟩
  have hlt := hN.lt hl
  obtain ⟨t, ht, tok⟩ := hI.sys.tre hlt.1
  obtain ⟨u, hu, uok⟩ := hI.sys.tre hlt.2.1
  obtain ⟨ba, pa, hba, hpa, Ta⟩ := hT.get ht
  obtain ⟨bb, pb, hbb, hpb, Tb⟩ := hT.get hu
  have hBl : Bs.length = n := by rw [hT.lenB]; exact hI.sys.len
  obtain ⟨s, hsd⟩ : ∃ s : Int, s = ((now % 256 : Nat) : Int) := ⟨_, rfl⟩
  have hs0 : 0 ≤ s ∧ s ≤ 65535 := by rw [hsd]; omega
  have hand : bits .and .i64 (now : Int) 255 = s := by rw [andI (now : Int) 8 (by omega) 255 rfl, hsd]; omega
  have HO := Lib.hid (out_net (p := x.1.2) (s := s) (now := (now : Int)) hP hlt.1 tok hlt.2.2.1 hs0 ⟨by omega, by omega⟩ Ta)
  have HSO := Lib.hid (sent_ok hP hN hI hs0 hl ht hu)
  rw [← hsd] at HEND
  have HOLD : Hid (∀ (i : Nat) (b : Bks), Bs[i]? = some b → ∀ g ∈ b.all, g < w.heap.size) := Lib.hid fun i b hb g hg => hT.old g (hT.sub b (List.mem_of_getElem? hb) g hg)
  have HF := Lib.hid (And.intro ht (And.intro hu (And.intro hba (And.intro hbb (And.intro hpa hpb)))))
  have hx0 := B6.cellOf (v := .int .i64 (x.1.1 : Int)) 0 rfl
  have hx1 := B6.cellOf (v := .int .i64 (x.1.2 : Int)) 1 rfl
  have hy0 := B6.cellOf (v := .int .i64 (x.2.1 : Int)) 2 rfl
  have hy1 := B6.cellOf (v := .int .i64 (x.2.2 : Int)) 3 rfl
  have hc8 := hR.box8.cellOf (v := .slice (some A8) Bs.length c8) 0 rfl
  have l8 := hR.box8.lt
  have l6 := B6.lt
  have hpx : ∀ w', Below w.heap.size w w' → w'.cell? (A8.add x.1.1) = some (.pointer (some ⟨ba.g, 0, none⟩)) := fun w' hw => by
      rw [hw.cell (by rw [block_of_add]; exact hR.lt8)]; exact hR.pts _ _ hba
  have hpy : ∀ w', Below w.heap.size w w' → w'.cell? (A8.add x.2.1) = some (.pointer (some ⟨bb.g, 0, none⟩)) := fun w' hw => by
      rw [hw.cell (by rw [block_of_add]; exact hR.lt8)]; exact hR.pts _ _ hbb
  obtain ⟨xa, hxa⟩ : ∃ xa, xa = x.1.1 := ⟨_, rfl⟩
  obtain ⟨xp, hxp⟩ : ∃ xp, xp = x.1.2 := ⟨_, rfl⟩
  obtain ⟨ya, hya⟩ : ∃ ya, ya = x.2.1 := ⟨_, rfl⟩
  obtain ⟨yp, hyp⟩ : ∃ yp, yp = x.2.2 := ⟨_, rfl⟩
  have HX := Lib.hid (And.intro hxa (And.intro hxp (And.intro hya hyp)))
  rw [← hxa] at hx0 hpx hlt
  rw [← hxp] at hx1 HO hlt
  rw [← hya] at hy0 hpy hlt
  rw [← hyp] at hy1 HSO hlt
  rw [← hxp] at HSO
  have a0 : (0 : Int) ≤ (xa : Int) := by omega
  have a1 : (xa : Int) < (Bs.length : Int) := by omega
  have b0 : (0 : Int) ≤ (ya : Int) := by omega
  have b1 : (ya : Int) < (Bs.length : Int) := by omega
  have d1 : (1 : Int) - 0 = 1 := by decide
  have d2 : IntKind.i64.wrap 1 = 1 := rfl
  have HPX := Lib.hid hpx
  have HB6 := Lib.hid B6
  have HT := Lib.hid hT
  have HR := Lib.hid hR
  have HIN := Lib.hid (And.intro hs0 (And.intro hnow (And.intro tok uok)))
  have H6 := Lib.hid h6
  clear hl ht hu hba hbb hpa hpb hx hs0 tok uok hsd hxa hxp hya hyp Ta Tb hT hR hI hP hN B6 hnow h6 hlt hBl; refine wp_block ?_; refine wp_seq_k fun Kq1 hKq1 => ?_
  suffices HK : ∀ (a' : Act) (w8 : World) (gm : Nat) (m : Mg) (A : Option Addr) (c : Nat) (ok : Bool), a'.tmps.size = a.tmps.size → a'.defers = [] → a'.tmps[0]? = a.tmps[0]? → a'.tmps[1]? = a.tmps[1]? → a'.tmps[2]? = a.tmps[2]? → a'.tmps[4]? = a.tmps[4]? → a'.tmps[6]? = a.tmps[6]? → a'.tmps[7]? = a.tmps[7]? → a'.tmps[11]? = a.tmps[11]? → a'.tmps[12]? = a.tmps[12]? → a'.tmps[13]? = a.tmps[13]? → a'.tmps[8]? = some (.pointer (some ⟨gm, 0, none⟩)) → a'.tmps[9]? = some (.bool ok) → Below w.heap.size w w8 → Blk w8 gm 38 (mcells m A m.path.length c) → Path w8 [] A m.path → (∀ ad, A = some ad → w.heap.size ≤ ad.block) → m.path.length ≤ 1000 → ((ok = true ∧ roleAt t.own (t.top (now : Int)) (t.hs (now : Int)) xp = 1 ∧ m = t.outM xp s (now : Int)) ∨ (ok = false ∧ roleAt t.own (t.top (now : Int)) (t.hs (now : Int)) xp ≠ 1)) → Kq1 a' w8 by
    refine sm_any [0, 2, 6, 7, 8, 9] 21 18 (by kernel_rfl) hs hd (by kernel_rfl) (agC e0 (agC e2 (agC e6 (agC e7 (agU (agU agN)))))) rfl (any_tree [] (.take 0 (.take 1 (.take 2 (.take 3 (.take 4 (.take 5 (.take 6 (.take 7 (.take 8 (.take 9 (.take 10 (.take 11 (.take 12 (.take 13 (.two 14 18 (.take 15 (.take 16 (.take 17 (.one 18 (.one 19 (.take 20 .nil)))))) (.one 14 (.take 15 (.take 16 (.take 17 (.one 19 (.take 20 .nil))))))))))))))))))))) (fun (w' : World) => Below w.heap.size w w') (by kernel_rfl) (fun _ _ _ _ _ h => h) ((Below.refl _ _).drew) ?_)
    simp only [seval]
    have hwd6 : Below w.heap.size w w.drew := (Below.refl _ _).drew
    obtain ⟨wd, hwd⟩ : ∃ wd, wd = w.drew := ⟨_, rfl⟩
    rw [← hwd] at hwd6 ⊢
    clear hwd
    (with_reducible (refine tr_take (v := ?_) rfl ?_ ?_ ?_); rotate_left; (first | exact wanted_none rfl | exact wanted_on rfl rfl rfl); (rintro w' hw'; obtain ⟨hc, hf⟩ := bcell hw'; go_simp; with_reducible rfl); simp only [Act.put, List.setIfInBounds_toArray, List.set_cons_zero, List.set_cons_succ])
    (with_reducible (refine tr_take (v := ?_) rfl ?_ ?_ ?_); rotate_left; (first | exact wanted_none rfl | exact wanted_on rfl rfl rfl); (rintro w' hw'; obtain ⟨hc, hf⟩ := bcell hw'; go_simp; with_reducible rfl); simp only [Act.put, List.setIfInBounds_toArray, List.set_cons_zero, List.set_cons_succ])
    (with_reducible (refine tr_take (v := ?_) rfl ?_ ?_ ?_); rotate_left; (first | exact wanted_none rfl | exact wanted_on rfl rfl rfl); (rintro w' hw'; obtain ⟨hc, hf⟩ := bcell hw'; go_simp; with_reducible rfl); simp only [Act.put, List.setIfInBounds_toArray, List.set_cons_zero, List.set_cons_succ])
    (with_reducible (refine tr_take (v := ?_) rfl ?_ ?_ ?_); rotate_left; (first | exact wanted_none rfl | exact wanted_on rfl rfl rfl); (rintro w' hw'; obtain ⟨hc, hf⟩ := bcell hw'; go_simp; with_reducible rfl); simp only [Act.put, List.setIfInBounds_toArray, List.set_cons_zero, List.set_cons_succ])
    (with_reducible (refine tr_take (v := ?_) rfl ?_ ?_ ?_); rotate_left; (first | exact wanted_none rfl | exact wanted_on rfl rfl rfl); (rintro w' hw'; obtain ⟨hc, hf⟩ := bcell hw'; go_simp; with_reducible rfl); simp only [Act.put, List.setIfInBounds_toArray, List.set_cons_zero, List.set_cons_succ])
    (with_reducible (refine tr_take (v := ?_) rfl ?_ ?_ ?_); rotate_left; (first | exact wanted_none rfl | exact wanted_on rfl rfl rfl); (rintro w' hw'; obtain ⟨hc, hf⟩ := bcell hw'; go_simp; with_reducible rfl); simp only [Act.put, List.setIfInBounds_toArray, List.set_cons_zero, List.set_cons_succ])
    (with_reducible (refine tr_take (v := ?_) rfl ?_ ?_ ?_); rotate_left; (first | exact wanted_none rfl | exact wanted_on rfl rfl rfl); (rintro w' hw'; have hq := hpx w' hw'; obtain ⟨hc, hf⟩ := bcell hw'; go_simp; with_reducible rfl); simp only [Act.put, List.setIfInBounds_toArray, List.set_cons_zero, List.set_cons_succ])
    (with_reducible (refine tr_take (v := ?_) rfl ?_ ?_ ?_); rotate_left; (first | exact wanted_none rfl | exact wanted_on rfl rfl rfl); (rintro w' hw'; obtain ⟨hc, hf⟩ := bcell hw'; go_simp; with_reducible rfl); simp only [Act.put, List.setIfInBounds_toArray, List.set_cons_zero, List.set_cons_succ])
    (with_reducible (refine tr_take (v := ?_) rfl ?_ ?_ ?_); rotate_left; (first | exact wanted_none rfl | exact wanted_on rfl rfl rfl); (rintro w' hw'; obtain ⟨hc, hf⟩ := bcell hw'; go_simp; with_reducible rfl); simp only [Act.put, List.setIfInBounds_toArray, List.set_cons_zero, List.set_cons_succ])
    (with_reducible (refine tr_take (v := ?_) rfl ?_ ?_ ?_); rotate_left; (first | exact wanted_none rfl | exact wanted_on rfl rfl rfl); (rintro w' hw'; obtain ⟨hc, hf⟩ := bcell hw'; go_simp; with_reducible rfl); simp only [Act.put, List.setIfInBounds_toArray, List.set_cons_zero, List.set_cons_succ])
    (with_reducible (refine tr_take (v := ?_) rfl ?_ ?_ ?_); rotate_left; (first | exact wanted_none rfl | exact wanted_on rfl rfl rfl); (rintro w' hw'; obtain ⟨hc, hf⟩ := bcell hw'; go_simp; with_reducible rfl); simp only [Act.put, List.setIfInBounds_toArray, List.set_cons_zero, List.set_cons_succ])
    (with_reducible (refine tr_take (v := ?_) rfl ?_ ?_ ?_); rotate_left; (first | exact wanted_none rfl | exact wanted_on rfl rfl rfl); (rintro w' hw'; obtain ⟨hc, hf⟩ := bcell hw'; go_simp; with_reducible rfl); simp only [Act.put, List.setIfInBounds_toArray, List.set_cons_zero, List.set_cons_succ])
    (with_reducible (refine tr_take (v := ?_) rfl ?_ ?_ ?_); rotate_left; (first | exact wanted_none rfl | exact wanted_on rfl rfl rfl); (rintro w' hw'; obtain ⟨hc, hf⟩ := bcell hw'; go_simp; with_reducible rfl); simp only [Act.put, List.setIfInBounds_toArray, List.set_cons_zero, List.set_cons_succ])
    (with_reducible (refine tr_take (v := ?_) rfl ?_ ?_ ?_); rotate_left; (first | exact wanted_none rfl | exact wanted_on rfl rfl rfl); (rintro w' hw'; obtain ⟨hc, hf⟩ := bcell hw'; go_simp; with_reducible rfl); simp only [Act.put, List.setIfInBounds_toArray, List.set_cons_zero, List.set_cons_succ])
    refine tr_two ?_ ?_
    (with_reducible (refine tr_call 10 ?_ rfl ?_ ?_ ?_); rotate_left; (first | exact wanted_none rfl | exact wanted_on rfl rfl rfl); (go_simp; with_reducible rfl))
    refine (HO.out wd hwd6).mono ?_
    rintro e w7 ⟨m, A, c, ok, rfl, hb7, hpt7, hA7, hln7, hcs7⟩
    have hS7 : Below w.heap.size w w7 := hwd6.trans (hb7.mono hwd6.size)
    refine ⟨_, rfl, hS7, ?_⟩
    simp only [Act.put, List.setIfInBounds_toArray, List.set_cons_zero, List.set_cons_succ]
    iterate 3 (with_reducible (refine tr_take (v := ?_) rfl ?_ ?_ ?_); rotate_left; (first | exact wanted_none rfl | exact wanted_on rfl rfl rfl); (rintro w' _;  go_simp; with_reducible rfl); simp only [Act.put, List.setIfInBounds_toArray, List.set_cons_zero, List.set_cons_succ])
    have hA8 : ∀ cs : Array Value, Below w.heap.size w (w7.alloc (.cells cs 38)) := fun cs => hS7.alloc hS7.size _
    have hA9 := hA8 (#[.int .i64 0, .int .i64 0, .int .i64 0, .int .i64 0, .int .i64 0, .int .i64 0, .int .i64 0, .int .i64 0, .int .i64 0, .int .i64 0, .int .i64 0, .int .i64 0, .int .i64 0, .int .i64 0, .int .i64 0, .slice none 0 0])
    (with_reducible (refine tr_run (v := ?_) (w' := ?_) rfl ?_ ?_ ?_ ?_); rotate_left 2; (first | exact wanted_none rfl | exact wanted_on rfl rfl rfl); (go_simp; refine ⟨?_, ?_⟩ <;> with_reducible rfl); (exact hA9); simp only [Act.put, List.setIfInBounds_toArray, List.set_cons_zero, List.set_cons_succ])
    have h1c : (mcells m A m.path.length c).all (·.oneCell') = true := by rw [← Array.all_toList]; rfl
    refine tr_store_new rfl rfl 38 (.tmp 4) (.tmp 22) rfl rfl rfl rfl rfl (by kernel_rfl) h1c ⟨hA8 _, ?_⟩
    simp only [Act.put, List.setIfInBounds_toArray, List.set_cons_zero, List.set_cons_succ]
    (with_reducible (refine tr_take (v := ?_) rfl ?_ ?_ ?_); rotate_left; (first | exact wanted_none rfl | exact wanted_on rfl rfl rfl); (rintro w' _;  go_simp; with_reducible rfl); simp only [Act.put, List.setIfInBounds_toArray, List.set_cons_zero, List.set_cons_succ])
    obtain ⟨gm, hgm⟩ : ∃ g, g = w7.heap.size := ⟨_, rfl⟩
    have B9 : Blk (w7.alloc (.cells (mcells m A m.path.length c) 38)) gm 38 (mcells m A m.path.length c) := Blk.at_new _ _ _ hgm
    have L8 : Below w7.heap.size w7 (w7.alloc (.cells (mcells m A m.path.length c) 38)) := (Below.refl _ _).alloc (Nat.le_refl _) _
    have hpt9 : Path (w7.alloc (.cells (mcells m A m.path.length c) 38)) [] A m.path := hpt7.fr (Fr.be (S := []) L8) (by simp)
    have hgm0 : w.heap.size ≤ gm := by rw [hgm]; exact hS7.size
    have hA10 : ∀ ad, A = some ad → w.heap.size ≤ ad.block := fun ad h => Nat.le_trans hwd6.size (hA7 ad h)
    have hS9 := hA8 (mcells m A m.path.length c)
    rw [← hgm]
    refine tr_nil ?_
    rotate_left
    have hA9 : Below w.heap.size w (wd.alloc (.cells (#[.int .i64 0, .int .i64 0, .int .i64 0, .int .i64 0, .int .i64 0, .int .i64 0, .int .i64 0, .int .i64 0, .int .i64 0, .int .i64 0, .int .i64 0, .int .i64 0, .int .i64 0, .int .i64 0, .int .i64 0, .slice none 0 0]) 38)) := hwd6.alloc hwd6.size _
    (with_reducible (refine tr_run (v := ?_) (w' := ?_) rfl ?_ ?_ ?_ ?_); rotate_left 2; (first | exact wanted_none rfl | exact wanted_on rfl rfl rfl); (go_simp; refine ⟨?_, ?_⟩ <;> with_reducible rfl); (exact hA9); simp only [Act.put, List.setIfInBounds_toArray, List.set_cons_zero, List.set_cons_succ])
    obtain ⟨gm, hgm⟩ : ∃ g, g = wd.heap.size := ⟨_, rfl⟩
    have Bz : Blk (wd.alloc (.cells (#[.int .i64 0, .int .i64 0, .int .i64 0, .int .i64 0, .int .i64 0, .int .i64 0, .int .i64 0, .int .i64 0, .int .i64 0, .int .i64 0, .int .i64 0, .int .i64 0, .int .i64 0, .int .i64 0, .int .i64 0, .slice none 0 0]) 38)) gm 38 (#[.int .i64 0, .int .i64 0, .int .i64 0, .int .i64 0, .int .i64 0, .int .i64 0, .int .i64 0, .int .i64 0, .int .i64 0, .int .i64 0, .int .i64 0, .int .i64 0, .int .i64 0, .int .i64 0, .int .i64 0, .slice none 0 0]) := Blk.at_new _ _ _ hgm
    rw [← hgm]
    have hgm0 : w.heap.size ≤ gm := by rw [hgm]; exact hwd6.size
    have hzz : gm < (wd.alloc (.cells (#[.int .i64 0, .int .i64 0, .int .i64 0, .int .i64 0, .int .i64 0, .int .i64 0, .int .i64 0, .int .i64 0, .int .i64 0, .int .i64 0, .int .i64 0, .int .i64 0, .int .i64 0, .int .i64 0, .int .i64 0, .slice none 0 0]) 38)).heap.size := Bz.lt
    clear hgm
    generalize (wd.alloc (.cells (#[.int .i64 0, .int .i64 0, .int .i64 0, .int .i64 0, .int .i64 0, .int .i64 0, .int .i64 0, .int .i64 0, .int .i64 0, .int .i64 0, .int .i64 0, .int .i64 0, .int .i64 0, .int .i64 0, .int .i64 0, .slice none 0 0]) 38)) = wz at *
    (with_reducible (refine tr_call 10 ?_ rfl ?_ ?_ ?_); rotate_left; (first | exact wanted_none rfl | exact wanted_on rfl rfl rfl); (go_simp; with_reducible rfl))
    refine (HO.out wz hA9).mono ?_
    rintro e w7 ⟨m, A, c, ok, rfl, hb7, hpt7, hA7, hln7, hcs7⟩
    have hS7 : Below w.heap.size w w7 := hA9.trans (hb7.mono hA9.size)
    refine ⟨_, rfl, hS7, ?_⟩
    simp only [Act.put, List.setIfInBounds_toArray, List.set_cons_zero, List.set_cons_succ]
    iterate 3 (with_reducible (refine tr_take (v := ?_) rfl ?_ ?_ ?_); rotate_left; (first | exact wanted_none rfl | exact wanted_on rfl rfl rfl); (rintro w' _;  go_simp; with_reducible rfl); simp only [Act.put, List.setIfInBounds_toArray, List.set_cons_zero, List.set_cons_succ])
    have By := Bz.kept hb7
    have h1c : (mcells m A m.path.length c).all (·.oneCell') = true := by rw [← Array.all_toList]; rfl
    refine tr_store_blk rfl rfl 38 (.tmp 4) (.tmp 22) rfl (off := 0) rfl By rfl (by simp [mcells]) (by kernel_rfl) h1c ?_
    intro w9 B9q z9 gr9
    have hS9 : Below w.heap.size w w9 := hS7.grown gr9 hS7.size (fun k hk => by cases hk; exact hgm0)
    refine ⟨hS9, ?_⟩
    simp only [Act.put, List.setIfInBounds_toArray, List.set_cons_zero, List.set_cons_succ]
    (with_reducible (refine tr_take (v := ?_) rfl ?_ ?_ ?_); rotate_left; (first | exact wanted_none rfl | exact wanted_on rfl rfl rfl); (rintro w' _;  go_simp; with_reducible rfl); simp only [Act.put, List.setIfInBounds_toArray, List.set_cons_zero, List.set_cons_succ])
    have B9 : Blk w9 gm 38 (mcells m A m.path.length c) := by simpa [putAll, mcells] using B9q
    have hpt9 : Path w9 [] A m.path := by
      have h7 : Path w7 [gm] A m.path := fun h0 => by
        obtain ⟨ad, e1, h2, h3, h4⟩ := hpt7 h0
        exact ⟨ad, e1, h2, fun hm => by have := hA7 ad e1; simp at hm; omega, h4⟩
      exact (h7.fr (Fr.gr (S := [gm]) gr9 (by simp)) (by simp)).less (by simp)
    have hA10 : ∀ ad, A = some ad → w.heap.size ≤ ad.block := fun ad h => Nat.le_trans hA9.size (hA7 ad h)
    refine tr_nil ?_
    all_goals
      intro a' H
      refine HK a' _ gm m A c ok H.size H.defers ((H.got rfl rfl).trans e0.symm) (H.out 1 rfl) ((H.got rfl rfl).trans e2.symm) (H.out 4 rfl) ((H.got rfl rfl).trans e6.symm) ((H.got rfl rfl).trans e7.symm) (H.out 11 rfl) (H.out 12 rfl) (H.out 13 rfl) ?_ ?_ ?_ ?_ ?_ ?_ ?_ ?_
      · exact H.got rfl rfl
      · exact H.got rfl rfl
      · exact hS9
      · exact B9
      · exact hpt9
      · exact hA10
      · exact hln7
      · exact hcs7
  intro a' w8 gm m A c ok g_s g_d g0 g1 g2 g4 g6 g7 g11 g12 g13 f8 f9 hS8 BM PT HA HLN HCS
  replace hs := g_s.trans hs; replace hd := g_d; replace e0 := g0.trans e0; replace e1 := g1.trans e1; replace e2 := g2.trans e2; replace e4 := g4.trans e4; replace e6 := g6.trans e6; replace e7 := g7.trans e7; replace e11 := g11.trans e11; replace e12 := g12.trans e12; replace e13 := g13.trans e13; clear g_s g_d g0 g1 g2 g4 g6 g7 g11 g12 g13
  have e8 := f8
  clear f8
  have e9 := f9
  clear f9; clear a
  obtain ⟨a, rfl⟩ : ∃ a, a = a' := ⟨_, rfl⟩
  refine hKq1 _ _ ?_; clear hKq1 Kq1; refine wp_seq_k fun Kq2 hKq2 => ?_
  have HT8 := Lib.hid (HT.out.kept hS8)
  have HR8 := Lib.hid (HR.out.fr (Fr.be hS8))
  have HB68 := Lib.hid (HB6.out.kept hS8)
  have HFR := Lib.hid (Fr.be (S := turns Bs) hS8)
  clear HPX HO HT HR HB6 hpx
  refine sm_list [9] 39 1 hs hd (by kernel_rfl) (agC e9 agN) rfl ?_
  simp only [seval]
  go_wp2_with fail
  intro a H; replace hs := H.s hs; replace hd := H.d rfl; replace e9 := H.g 9 rfl rfl; replace e0 := H.k e0 rfl; replace e1 := H.k e1 rfl; replace e2 := H.k e2 rfl; replace e4 := H.k e4 rfl; replace e6 := H.k e6 rfl; replace e7 := H.k e7 rfl; replace e11 := H.k e11 rfl; replace e12 := H.k e12 rfl; replace e13 := H.k e13 rfl; replace e8 := H.k e8 rfl; have e39 := H.g 39 rfl rfl; clear H; refine hKq2 _ _ ?_
  clear hKq2 Kq2
  obtain ⟨ht, hu, hba, hbb, hpa, hpb⟩ := HF.out
  obtain ⟨hxa, hxp, hya, hyp⟩ := HX.out
  rw [hxp] at HCS HSO
  have hcs2 : (ok = false ∧ roleAt t.own (t.top (now : Int)) (t.hs (now : Int)) x.1.2 ≠ 1) ∨ (ok = true ∧ roleAt t.own (t.top (now : Int)) (t.hs (now : Int)) x.1.2 = 1 ∧ m = t.outM x.1.2 s (now : Int)) := HCS.symm
  clear HCS
  rcases hcs2 with ⟨rfl, hrl⟩ | ⟨rfl, hrl, hm⟩
  · have hsd : sends L x.1 x.2 s (now : Int) = L := sends_no ht hu hrl
    have HSD := Lib.hid hsd
    clear hsd hxa hxp hya hyp ht hu hba hbb hpa hpb hrl
    refine wp_cond_false (slotE e39) ?_
    clear e39; refine wp_skip ?_
    exact HEND.out a _ _ hs hd e0 e1 e2 e4 e6 e7 e11 e12 e13 (by rw [HSD.out]; exact HT8.out) HR8.out HB68.out HFR.out
  · have hsd : sends L x.1 x.2 s (now : Int) = L.set x.2.1 (u.in_ x.2.2 m (now : Int)) := by rw [hm]; exact sends_yes ht hu hrl
    have hso : u.inE yp m = 0 ∨ u.inE yp m = 31 := by rw [hm]; exact HSO.out
    rw [← hya, ← hyp] at hsd
    have HSD := Lib.hid hsd
    have HSO2 := Lib.hid hso
    obtain ⟨psb, hpsb⟩ : ∃ q, q = pb := ⟨_, rfl⟩
    have HQ := Lib.hid (And.intro (show L[ya]? = some u by rw [hya]; exact hu) (And.intro (show Bs[ya]? = some bb by rw [hya]; exact hbb) (show PS[ya]? = some pb by rw [hya]; exact hpb)))
    clear hsd hso hm hrl hxa hxp hya hyp ht hu hba hbb hpa hpb HX HF HSO psb hpsb
    refine wp_cond_true (slotE e39) ?_
    clear e39; refine wp_seq_k fun Kq3 hKq3 => ?_
    have hy0 : w8.cell? ⟨g6, 2, none⟩ = some (.int .i64 (ya : Int)) := by rw [(bcell hS8).1 _ _ l6]; exact hy0
    have hy1 : w8.cell? ⟨g6, 3, none⟩ = some (.int .i64 (yp : Int)) := by rw [(bcell hS8).1 _ _ l6]; exact hy1
    have hc8 := HR8.out.box8.cellOf (v := .slice (some A8) Bs.length c8) 0 rfl; have l8 := HR8.out.box8.lt; have l6 := HB68.out.lt
    have lm := BM.lt
    have hpy2 : ∀ w', Below w8.heap.size w8 w' → w'.cell? (A8.add ya) = some (.pointer (some ⟨bb.g, 0, none⟩)) := fun w' hw => hpy w' (hS8.trans (hw.mono hS8.size))
    clear hpy
    have hOLD : Hid (∀ (i : Nat) (b : Bks), Bs[i]? = some b → ∀ g ∈ b.all, g < w.heap.size) := HOLD
    refine sm_any [0, 2, 6, 7, 8, 10] 40 16 (by kernel_rfl) hs hd (by kernel_rfl) (agC e0 (agC e2 (agC e6 (agC e7 (agC e8 (agU agN)))))) rfl (any_tail 15 (fun w' => Below w8.heap.size w8 w') (by kernel_rfl) ((Below.refl _ _).drew) ?_)
    simp only [seval]
    iterate 7 (first | (with_reducible (refine wpQuiet_skip ?_ ?_); (first | exact wanted_off rfl rfl rfl rfl | exact wanted_off2 rfl rfl rfl); simp only [Act.put, List.setIfInBounds_toArray, List.set_cons_zero, List.set_cons_succ]) | (with_reducible (refine wpQuiet_val (v := ?_) ?_ ?_ ?_); rotate_left; (first | exact wanted_none rfl | exact wanted_on rfl rfl rfl); (intro w' hw'; obtain ⟨hc, hf⟩ := bcell hw'; go_simp; with_reducible rfl); simp only [Act.put, List.setIfInBounds_toArray, List.set_cons_zero, List.set_cons_succ]))
    (with_reducible (refine wpQuiet_val (v := ?_) ?_ ?_ ?_); rotate_left; (first | exact wanted_none rfl | exact wanted_on rfl rfl rfl); (intro w' hw'; have hq := hpy2 w' hw'; obtain ⟨hc, hf⟩ := bcell hw'; go_simp; with_reducible rfl); simp only [Act.put, List.setIfInBounds_toArray, List.set_cons_zero, List.set_cons_succ])
    iterate 5 (first | (with_reducible (refine wpQuiet_skip ?_ ?_); (first | exact wanted_off rfl rfl rfl rfl | exact wanted_off2 rfl rfl rfl); simp only [Act.put, List.setIfInBounds_toArray, List.set_cons_zero, List.set_cons_succ]) | (with_reducible (refine wpQuiet_val (v := ?_) ?_ ?_ ?_); rotate_left; (first | exact wanted_none rfl | exact wanted_on rfl rfl rfl); (intro w' hw'; obtain ⟨hc, hf⟩ := bcell hw'; go_simp; with_reducible rfl); simp only [Act.put, List.setIfInBounds_toArray, List.set_cons_zero, List.set_cons_succ]))
    (refine wpQuiet_val (v := .agg (mcells m A m.path.length c)) ?_ (fun w' hw' => run_load_whole_d 38 (.tmp 4) rfl rfl (BM.kept hw') Try.underlying38 rfl (by kernel_rfl)) ?_; (first | exact wanted_none rfl | exact wanted_on rfl rfl rfl); simp only [Act.put, List.setIfInBounds_toArray, List.set_cons_zero, List.set_cons_succ])
    (first | (with_reducible (refine wpQuiet_skip ?_ ?_); (first | exact wanted_off rfl rfl rfl rfl | exact wanted_off2 rfl rfl rfl); simp only [Act.put, List.setIfInBounds_toArray, List.set_cons_zero, List.set_cons_succ]) | (with_reducible (refine wpQuiet_val (v := ?_) ?_ ?_ ?_); rotate_left; (first | exact wanted_none rfl | exact wanted_on rfl rfl rfl); (intro w' hw'; obtain ⟨hc, hf⟩ := bcell hw'; go_simp; with_reducible rfl); simp only [Act.put, List.setIfInBounds_toArray, List.set_cons_zero, List.set_cons_succ]))
    refine wpQuiet_nil ?_
    intro w9 hw9
    have T9 := HT8.out.kept hw9
    obtain ⟨hu9, hb9, hp9⟩ := HQ.out
    have Tb9 := T9.tat _ _ _ _ hb9 hu9 hp9
    have pt9 : Path w9 [] A m.path := PT.fr (Fr.be (S := []) hw9) (by simp)
    have hMI : MsgIn w9 w9.heap.size m A m.path.length := ⟨pt9.reads, rfl, by unfold maxLen; omega⟩
    have ptb : Path w9 bb.all A m.path := fun h0 => by
      obtain ⟨ad, e1, h2, h3, h4⟩ := pt9 h0
      exact ⟨ad, e1, h2, fun hm => by have h5 := HA ad e1; have h6 := hOLD.out ya bb hb9 _ hm; omega, h4⟩
    have HI9 := Lib.hid (in_anyN bb u pb (yp : Int) (now : Int) m A m.path.length c w9 Tb9 hMI ptb)
    have HR9 := Lib.hid (HR8.out.fr (Fr.be hw9))
    have HB9 := Lib.hid (HB68.out.kept hw9)
    have HT9 := Lib.hid T9
    have HL9 := Lib.hid (hS8.trans (hw9.mono hS8.size))
    clear Tb9 hMI ptb pt9 T9 hu9 hb9 hp9 hw9
    go_wp2_with fail
    refine HI9.out.mono ?_
    rintro e w10 ⟨rfl, ⟨pb2, T10, N10⟩, F10⟩
    have HX10 := Lib.hid (And.intro T10 (And.intro N10 F10))
    clear T10 N10 F10
    go_wp2_with fail
    intro a H; replace hs := H.s hs; replace hd := H.d rfl; replace e0 := H.g 0 rfl rfl; replace e2 := H.g 2 rfl rfl; replace e6 := H.g 6 rfl rfl; replace e7 := H.g 7 rfl rfl; replace e8 := H.g 8 rfl rfl; replace e1 := H.k e1 rfl; replace e4 := H.k e4 rfl; replace e11 := H.k e11 rfl; replace e12 := H.k e12 rfl; replace e13 := H.k e13 rfl; replace e9 := H.k e9 rfl; have e10 := H.g 10 rfl rfl; clear H
    refine hKq3 _ _ ?_; clear hKq3 Kq3; refine wp_seq_k fun Kq4 hKq4 => ?_; clear hy0 hy1 hc8 l8 l6 lm hpy2 hS8 HT8 HR8 HB68 BM PT HA
    obtain ⟨ER, hER⟩ : ∃ E, E = u.inE yp m := ⟨_, rfl⟩
    rw [← hER] at e10
    have hE2 : ER = 0 ∨ ER = 31 := by rw [hER]; exact HSO2.out
    clear HSO2 hER; clear e8; clear e9
    suffices HK : ∀ (a' : Act), a'.tmps.size = a.tmps.size → a'.defers = [] → a'.tmps[0]? = a.tmps[0]? → a'.tmps[1]? = a.tmps[1]? → a'.tmps[2]? = a.tmps[2]? → a'.tmps[4]? = a.tmps[4]? → a'.tmps[6]? = a.tmps[6]? → a'.tmps[7]? = a.tmps[7]? → a'.tmps[11]? = a.tmps[11]? → a'.tmps[12]? = a.tmps[12]? → a'.tmps[13]? = a.tmps[13]? → a'.tmps[10]? = a.tmps[10]? → a'.tmps[61]? = some (.bool false) → Kq4 a' w10 by
      rcases hE2 with rfl | rfl
      all_goals
        refine sm_list [10] 56 6 hs hd (by kernel_rfl) (agC e10 agN) rfl ?_
        simp only [seval]
        go_wp2_with fail
        all_goals
          intro a' H
          refine HK a' H.size H.defers (H.out 0 rfl) (H.out 1 rfl) (H.out 2 rfl) (H.out 4 rfl) (H.out 6 rfl) (H.out 7 rfl) (H.out 11 rfl) (H.out 12 rfl) (H.out 13 rfl) ((H.got rfl rfl).trans e10.symm) ?_
          · exact H.got rfl rfl
    intro a' g_s g_d g0 g1 g2 g4 g6 g7 g11 g12 g13 g10 f61
    replace hs := g_s.trans hs; replace hd := g_d; replace e0 := g0.trans e0; replace e1 := g1.trans e1; replace e2 := g2.trans e2; replace e4 := g4.trans e4; replace e6 := g6.trans e6; replace e7 := g7.trans e7; replace e11 := g11.trans e11; replace e12 := g12.trans e12; replace e13 := g13.trans e13; replace e10 := g10.trans e10; clear g_s g_d g0 g1 g2 g4 g6 g7 g11 g12 g13 g10
    have e61 := f61
    clear f61; clear a
    obtain ⟨a, rfl⟩ : ∃ a, a = a' := ⟨_, rfl⟩
    refine hKq4 _ _ ?_; clear hKq4 Kq4; clear hE2
    refine wp_cond_false (slotE e61) ?_
    clear e61; refine wp_skip ?_
    obtain ⟨T10, N10, F10⟩ := HX10.out
    obtain ⟨hu9, hb9, hp9⟩ := HQ.out
    have FT : Fr (turns Bs) w9 w10 := F10.more (mem_turns hb9)
    have T11 := HT9.out.set hb9 hu9 hp9 T10 N10 F10
    rw [← HSD.out] at T11
    exact HEND.out a _ _ hs hd e0 e1 e2 e4 e6 e7 e11 e12 e13 T11 (HR9.out.fr FT) (FT.blk HB9.out (fun hm => by have := H6.out g6 hm; omega)) ((Fr.be (S := turns Bs) HL9.out).trans FT)
set_option maxRecDepth 100000 in
set_option maxHeartbeats 4000000 in
theorem tf_send1 {P : Nat → Pr} {n : Nat} {F : List Nat} {Bs : List Bks} {L : List Tre} {PS : List (List Value)} {W : List Wire} {g8 g14 : Nat} {A8 A14 : Addr} {c8 c14 : Nat} {now : Nat} {w : World}
    (hP : Who P n) (hN : Net n W) (hI : Inv P n W (now : Int) L) (hT : Nt w F Bs L PS) (hR : Wr w Bs W g8 g14 A8 A14 c8 c14) (hnow : now ≤ 1000) {g6 j : Nat} {x : Wire} (hx : W[j]? = some x) (B6 : Blk w g6 66 (wcs4 x).toArray) (h6 : ∀ k ∈ turns Bs, k < g6) (a : Act) (Q : Exit → Act → World → Prop)
    (hs : a.tmps.size = 63) (hd : a.defers = []) (e0 : a.tmps[0]? = some (.int .i64 (now : Int))) (e1 : a.tmps[1]? = some (.pointer (some ⟨g14, 0, none⟩))) (e2 : a.tmps[2]? = some (.pointer (some ⟨g8, 0, none⟩))) (e4 : a.tmps[4]? = some (.bool false)) (e6 : a.tmps[6]? = some (.pointer (some ⟨g6, 0, none⟩))) (e7 : a.tmps[7]? = some (.int .i64 1)) (e11 : a.tmps[11]? = some (.slice (some A14) W.length c14)) (e12 : a.tmps[12]? = some (.int .i64 (W.length : Int))) (e13 : a.tmps[13]? = some (.int .i64 (j : Int)))
    (hend : ∀ (a : Act) (w' : World) (PS' : List (List Value)), a.tmps.size = 63 → a.defers = [] → a.tmps[0]? = some (.int .i64 (now : Int)) → a.tmps[1]? = some (.pointer (some ⟨g14, 0, none⟩)) → a.tmps[2]? = some (.pointer (some ⟨g8, 0, none⟩)) → a.tmps[4]? = some (.bool false) → a.tmps[6]? = some (.pointer (some ⟨g6, 0, none⟩)) → a.tmps[7]? = some (.int .i64 1) → a.tmps[11]? = some (.slice (some A14) W.length c14) → a.tmps[12]? = some (.int .i64 (W.length : Int)) → a.tmps[13]? = some (.int .i64 (j : Int)) → Nt w' F Bs (sends L x.2 x.1 ((now % 256 : Nat) : Int) (now : Int)) PS' → Wr w' Bs W g8 g14 A8 A14 c8 c14 → Blk w' g6 66 (wcs4 x).toArray → Fr (turns Bs) w w' → Q .normal a w') :
    Code.wp Try.prog (sub [true, false, true, false, false, true, true, false, false, true, true, false, false, true, false] (bodyOf Try.f17)) Q a w := by
  conv => arg 2; whnf
  have HEND := Lib.hid hend
  clear hend
  have hl : Link W x.2 x.1 := ⟨x, List.mem_of_getElem? hx, .inr ⟨rfl, rfl⟩⟩
  have hlt := hN.lt hl
  obtain ⟨t, ht, tok⟩ := hI.sys.tre hlt.1
  obtain ⟨u, hu, uok⟩ := hI.sys.tre hlt.2.1
  obtain ⟨ba, pa, hba, hpa, Ta⟩ := hT.get ht
  obtain ⟨bb, pb, hbb, hpb, Tb⟩ := hT.get hu
  have hBl : Bs.length = n := by rw [hT.lenB]; exact hI.sys.len
  obtain ⟨s, hsd⟩ : ∃ s : Int, s = ((now % 256 : Nat) : Int) := ⟨_, rfl⟩
  have hs0 : 0 ≤ s ∧ s ≤ 65535 := by rw [hsd]; omega
  have hand : bits .and .i64 (now : Int) 255 = s := by rw [andI (now : Int) 8 (by omega) 255 rfl, hsd]; omega
  have HO := Lib.hid (out_net (p := x.2.2) (s := s) (now := (now : Int)) hP hlt.1 tok hlt.2.2.1 hs0 ⟨by omega, by omega⟩ Ta)
  have HSO := Lib.hid (sent_ok hP hN hI hs0 hl ht hu)
  rw [← hsd] at HEND
  have HOLD : Hid (∀ (i : Nat) (b : Bks), Bs[i]? = some b → ∀ g ∈ b.all, g < w.heap.size) := Lib.hid fun i b hb g hg => hT.old g (hT.sub b (List.mem_of_getElem? hb) g hg)
  have HF := Lib.hid (And.intro ht (And.intro hu (And.intro hba (And.intro hbb (And.intro hpa hpb)))))
  have hx0 := B6.cellOf (v := .int .i64 (x.2.1 : Int)) 2 rfl
  have hx1 := B6.cellOf (v := .int .i64 (x.2.2 : Int)) 3 rfl
  have hy0 := B6.cellOf (v := .int .i64 (x.1.1 : Int)) 0 rfl
  have hy1 := B6.cellOf (v := .int .i64 (x.1.2 : Int)) 1 rfl
  have hc8 := hR.box8.cellOf (v := .slice (some A8) Bs.length c8) 0 rfl
  have l8 := hR.box8.lt
  have l6 := B6.lt
  have hpx : ∀ w', Below w.heap.size w w' → w'.cell? (A8.add x.2.1) = some (.pointer (some ⟨ba.g, 0, none⟩)) := fun w' hw => by
      rw [hw.cell (by rw [block_of_add]; exact hR.lt8)]; exact hR.pts _ _ hba
  have hpy : ∀ w', Below w.heap.size w w' → w'.cell? (A8.add x.1.1) = some (.pointer (some ⟨bb.g, 0, none⟩)) := fun w' hw => by
      rw [hw.cell (by rw [block_of_add]; exact hR.lt8)]; exact hR.pts _ _ hbb
  obtain ⟨xa, hxa⟩ : ∃ xa, xa = x.2.1 := ⟨_, rfl⟩
  obtain ⟨xp, hxp⟩ : ∃ xp, xp = x.2.2 := ⟨_, rfl⟩
  obtain ⟨ya, hya⟩ : ∃ ya, ya = x.1.1 := ⟨_, rfl⟩
  obtain ⟨yp, hyp⟩ : ∃ yp, yp = x.1.2 := ⟨_, rfl⟩
  have HX := Lib.hid (And.intro hxa (And.intro hxp (And.intro hya hyp)))
  rw [← hxa] at hx0 hpx hlt
  rw [← hxp] at hx1 HO hlt
  rw [← hya] at hy0 hpy hlt
  rw [← hyp] at hy1 HSO hlt
  rw [← hxp] at HSO
  have a0 : (0 : Int) ≤ (xa : Int) := by omega
  have a1 : (xa : Int) < (Bs.length : Int) := by omega
  have b0 : (0 : Int) ≤ (ya : Int) := by omega
  have b1 : (ya : Int) < (Bs.length : Int) := by omega
  have d1 : (1 : Int) - 1 = 0 := by decide
  have d2 : IntKind.i64.wrap 0 = 0 := rfl
  have HPX := Lib.hid hpx
  have HB6 := Lib.hid B6
  have HT := Lib.hid hT
  have HR := Lib.hid hR
  have HIN := Lib.hid (And.intro hs0 (And.intro hnow (And.intro tok uok)))
  have H6 := Lib.hid h6
  clear hl ht hu hba hbb hpa hpb hx hs0 tok uok hsd hxa hxp hya hyp Ta Tb hT hR hI hP hN B6 hnow h6 hlt hBl; refine wp_block ?_; refine wp_seq_k fun Kq1 hKq1 => ?_
  suffices HK : ∀ (a' : Act) (w8 : World) (gm : Nat) (m : Mg) (A : Option Addr) (c : Nat) (ok : Bool), a'.tmps.size = a.tmps.size → a'.defers = [] → a'.tmps[0]? = a.tmps[0]? → a'.tmps[1]? = a.tmps[1]? → a'.tmps[2]? = a.tmps[2]? → a'.tmps[4]? = a.tmps[4]? → a'.tmps[6]? = a.tmps[6]? → a'.tmps[7]? = a.tmps[7]? → a'.tmps[11]? = a.tmps[11]? → a'.tmps[12]? = a.tmps[12]? → a'.tmps[13]? = a.tmps[13]? → a'.tmps[8]? = some (.pointer (some ⟨gm, 0, none⟩)) → a'.tmps[9]? = some (.bool ok) → Below w.heap.size w w8 → Blk w8 gm 38 (mcells m A m.path.length c) → Path w8 [] A m.path → (∀ ad, A = some ad → w.heap.size ≤ ad.block) → m.path.length ≤ 1000 → ((ok = true ∧ roleAt t.own (t.top (now : Int)) (t.hs (now : Int)) xp = 1 ∧ m = t.outM xp s (now : Int)) ∨ (ok = false ∧ roleAt t.own (t.top (now : Int)) (t.hs (now : Int)) xp ≠ 1)) → Kq1 a' w8 by
    refine sm_any [0, 2, 6, 7, 8, 9] 21 18 (by kernel_rfl) hs hd (by kernel_rfl) (agC e0 (agC e2 (agC e6 (agC e7 (agU (agU agN)))))) rfl (any_tree [] (.take 0 (.take 1 (.take 2 (.take 3 (.take 4 (.take 5 (.take 6 (.take 7 (.take 8 (.take 9 (.take 10 (.take 11 (.take 12 (.take 13 (.two 14 18 (.take 15 (.take 16 (.take 17 (.one 18 (.one 19 (.take 20 .nil)))))) (.one 14 (.take 15 (.take 16 (.take 17 (.one 19 (.take 20 .nil))))))))))))))))))))) (fun (w' : World) => Below w.heap.size w w') (by kernel_rfl) (fun _ _ _ _ _ h => h) ((Below.refl _ _).drew) ?_)
    simp only [seval]
    have hwd6 : Below w.heap.size w w.drew := (Below.refl _ _).drew
    obtain ⟨wd, hwd⟩ : ∃ wd, wd = w.drew := ⟨_, rfl⟩
    rw [← hwd] at hwd6 ⊢
    clear hwd
    (with_reducible (refine tr_take (v := ?_) rfl ?_ ?_ ?_); rotate_left; (first | exact wanted_none rfl | exact wanted_on rfl rfl rfl); (rintro w' hw'; obtain ⟨hc, hf⟩ := bcell hw'; go_simp; with_reducible rfl); simp only [Act.put, List.setIfInBounds_toArray, List.set_cons_zero, List.set_cons_succ])
    (with_reducible (refine tr_take (v := ?_) rfl ?_ ?_ ?_); rotate_left; (first | exact wanted_none rfl | exact wanted_on rfl rfl rfl); (rintro w' hw'; obtain ⟨hc, hf⟩ := bcell hw'; go_simp; with_reducible rfl); simp only [Act.put, List.setIfInBounds_toArray, List.set_cons_zero, List.set_cons_succ])
    (with_reducible (refine tr_take (v := ?_) rfl ?_ ?_ ?_); rotate_left; (first | exact wanted_none rfl | exact wanted_on rfl rfl rfl); (rintro w' hw'; obtain ⟨hc, hf⟩ := bcell hw'; go_simp; with_reducible rfl); simp only [Act.put, List.setIfInBounds_toArray, List.set_cons_zero, List.set_cons_succ])
    (with_reducible (refine tr_take (v := ?_) rfl ?_ ?_ ?_); rotate_left; (first | exact wanted_none rfl | exact wanted_on rfl rfl rfl); (rintro w' hw'; obtain ⟨hc, hf⟩ := bcell hw'; go_simp; with_reducible rfl); simp only [Act.put, List.setIfInBounds_toArray, List.set_cons_zero, List.set_cons_succ])
    (with_reducible (refine tr_take (v := ?_) rfl ?_ ?_ ?_); rotate_left; (first | exact wanted_none rfl | exact wanted_on rfl rfl rfl); (rintro w' hw'; obtain ⟨hc, hf⟩ := bcell hw'; go_simp; with_reducible rfl); simp only [Act.put, List.setIfInBounds_toArray, List.set_cons_zero, List.set_cons_succ])
    (with_reducible (refine tr_take (v := ?_) rfl ?_ ?_ ?_); rotate_left; (first | exact wanted_none rfl | exact wanted_on rfl rfl rfl); (rintro w' hw'; obtain ⟨hc, hf⟩ := bcell hw'; go_simp; with_reducible rfl); simp only [Act.put, List.setIfInBounds_toArray, List.set_cons_zero, List.set_cons_succ])
    (with_reducible (refine tr_take (v := ?_) rfl ?_ ?_ ?_); rotate_left; (first | exact wanted_none rfl | exact wanted_on rfl rfl rfl); (rintro w' hw'; have hq := hpx w' hw'; obtain ⟨hc, hf⟩ := bcell hw'; go_simp; with_reducible rfl); simp only [Act.put, List.setIfInBounds_toArray, List.set_cons_zero, List.set_cons_succ])
    (with_reducible (refine tr_take (v := ?_) rfl ?_ ?_ ?_); rotate_left; (first | exact wanted_none rfl | exact wanted_on rfl rfl rfl); (rintro w' hw'; obtain ⟨hc, hf⟩ := bcell hw'; go_simp; with_reducible rfl); simp only [Act.put, List.setIfInBounds_toArray, List.set_cons_zero, List.set_cons_succ])
    (with_reducible (refine tr_take (v := ?_) rfl ?_ ?_ ?_); rotate_left; (first | exact wanted_none rfl | exact wanted_on rfl rfl rfl); (rintro w' hw'; obtain ⟨hc, hf⟩ := bcell hw'; go_simp; with_reducible rfl); simp only [Act.put, List.setIfInBounds_toArray, List.set_cons_zero, List.set_cons_succ])
    (with_reducible (refine tr_take (v := ?_) rfl ?_ ?_ ?_); rotate_left; (first | exact wanted_none rfl | exact wanted_on rfl rfl rfl); (rintro w' hw'; obtain ⟨hc, hf⟩ := bcell hw'; go_simp; with_reducible rfl); simp only [Act.put, List.setIfInBounds_toArray, List.set_cons_zero, List.set_cons_succ])
    (with_reducible (refine tr_take (v := ?_) rfl ?_ ?_ ?_); rotate_left; (first | exact wanted_none rfl | exact wanted_on rfl rfl rfl); (rintro w' hw'; obtain ⟨hc, hf⟩ := bcell hw'; go_simp; with_reducible rfl); simp only [Act.put, List.setIfInBounds_toArray, List.set_cons_zero, List.set_cons_succ])
    (with_reducible (refine tr_take (v := ?_) rfl ?_ ?_ ?_); rotate_left; (first | exact wanted_none rfl | exact wanted_on rfl rfl rfl); (rintro w' hw'; obtain ⟨hc, hf⟩ := bcell hw'; go_simp; with_reducible rfl); simp only [Act.put, List.setIfInBounds_toArray, List.set_cons_zero, List.set_cons_succ])
    (with_reducible (refine tr_take (v := ?_) rfl ?_ ?_ ?_); rotate_left; (first | exact wanted_none rfl | exact wanted_on rfl rfl rfl); (rintro w' hw'; obtain ⟨hc, hf⟩ := bcell hw'; go_simp; with_reducible rfl); simp only [Act.put, List.setIfInBounds_toArray, List.set_cons_zero, List.set_cons_succ])
    (with_reducible (refine tr_take (v := ?_) rfl ?_ ?_ ?_); rotate_left; (first | exact wanted_none rfl | exact wanted_on rfl rfl rfl); (rintro w' hw'; obtain ⟨hc, hf⟩ := bcell hw'; go_simp; with_reducible rfl); simp only [Act.put, List.setIfInBounds_toArray, List.set_cons_zero, List.set_cons_succ])
    refine tr_two ?_ ?_
    (with_reducible (refine tr_call 10 ?_ rfl ?_ ?_ ?_); rotate_left; (first | exact wanted_none rfl | exact wanted_on rfl rfl rfl); (go_simp; with_reducible rfl))
    refine (HO.out wd hwd6).mono ?_
    rintro e w7 ⟨m, A, c, ok, rfl, hb7, hpt7, hA7, hln7, hcs7⟩
    have hS7 : Below w.heap.size w w7 := hwd6.trans (hb7.mono hwd6.size)
    refine ⟨_, rfl, hS7, ?_⟩
    simp only [Act.put, List.setIfInBounds_toArray, List.set_cons_zero, List.set_cons_succ]
    iterate 3 (with_reducible (refine tr_take (v := ?_) rfl ?_ ?_ ?_); rotate_left; (first | exact wanted_none rfl | exact wanted_on rfl rfl rfl); (rintro w' _;  go_simp; with_reducible rfl); simp only [Act.put, List.setIfInBounds_toArray, List.set_cons_zero, List.set_cons_succ])
    have hA8 : ∀ cs : Array Value, Below w.heap.size w (w7.alloc (.cells cs 38)) := fun cs => hS7.alloc hS7.size _
    have hA9 := hA8 (#[.int .i64 0, .int .i64 0, .int .i64 0, .int .i64 0, .int .i64 0, .int .i64 0, .int .i64 0, .int .i64 0, .int .i64 0, .int .i64 0, .int .i64 0, .int .i64 0, .int .i64 0, .int .i64 0, .int .i64 0, .slice none 0 0])
    (with_reducible (refine tr_run (v := ?_) (w' := ?_) rfl ?_ ?_ ?_ ?_); rotate_left 2; (first | exact wanted_none rfl | exact wanted_on rfl rfl rfl); (go_simp; refine ⟨?_, ?_⟩ <;> with_reducible rfl); (exact hA9); simp only [Act.put, List.setIfInBounds_toArray, List.set_cons_zero, List.set_cons_succ])
    have h1c : (mcells m A m.path.length c).all (·.oneCell') = true := by rw [← Array.all_toList]; rfl
    refine tr_store_new rfl rfl 38 (.tmp 4) (.tmp 22) rfl rfl rfl rfl rfl (by kernel_rfl) h1c ⟨hA8 _, ?_⟩
    simp only [Act.put, List.setIfInBounds_toArray, List.set_cons_zero, List.set_cons_succ]
    (with_reducible (refine tr_take (v := ?_) rfl ?_ ?_ ?_); rotate_left; (first | exact wanted_none rfl | exact wanted_on rfl rfl rfl); (rintro w' _;  go_simp; with_reducible rfl); simp only [Act.put, List.setIfInBounds_toArray, List.set_cons_zero, List.set_cons_succ])
    obtain ⟨gm, hgm⟩ : ∃ g, g = w7.heap.size := ⟨_, rfl⟩
    have B9 : Blk (w7.alloc (.cells (mcells m A m.path.length c) 38)) gm 38 (mcells m A m.path.length c) := Blk.at_new _ _ _ hgm
    have L8 : Below w7.heap.size w7 (w7.alloc (.cells (mcells m A m.path.length c) 38)) := (Below.refl _ _).alloc (Nat.le_refl _) _
    have hpt9 : Path (w7.alloc (.cells (mcells m A m.path.length c) 38)) [] A m.path := hpt7.fr (Fr.be (S := []) L8) (by simp)
    have hgm0 : w.heap.size ≤ gm := by rw [hgm]; exact hS7.size
    have hA10 : ∀ ad, A = some ad → w.heap.size ≤ ad.block := fun ad h => Nat.le_trans hwd6.size (hA7 ad h)
    have hS9 := hA8 (mcells m A m.path.length c)
    rw [← hgm]
    refine tr_nil ?_
    rotate_left
    have hA9 : Below w.heap.size w (wd.alloc (.cells (#[.int .i64 0, .int .i64 0, .int .i64 0, .int .i64 0, .int .i64 0, .int .i64 0, .int .i64 0, .int .i64 0, .int .i64 0, .int .i64 0, .int .i64 0, .int .i64 0, .int .i64 0, .int .i64 0, .int .i64 0, .slice none 0 0]) 38)) := hwd6.alloc hwd6.size _
    (with_reducible (refine tr_run (v := ?_) (w' := ?_) rfl ?_ ?_ ?_ ?_); rotate_left 2; (first | exact wanted_none rfl | exact wanted_on rfl rfl rfl); (go_simp; refine ⟨?_, ?_⟩ <;> with_reducible rfl); (exact hA9); simp only [Act.put, List.setIfInBounds_toArray, List.set_cons_zero, List.set_cons_succ])
    obtain ⟨gm, hgm⟩ : ∃ g, g = wd.heap.size := ⟨_, rfl⟩
    have Bz : Blk (wd.alloc (.cells (#[.int .i64 0, .int .i64 0, .int .i64 0, .int .i64 0, .int .i64 0, .int .i64 0, .int .i64 0, .int .i64 0, .int .i64 0, .int .i64 0, .int .i64 0, .int .i64 0, .int .i64 0, .int .i64 0, .int .i64 0, .slice none 0 0]) 38)) gm 38 (#[.int .i64 0, .int .i64 0, .int .i64 0, .int .i64 0, .int .i64 0, .int .i64 0, .int .i64 0, .int .i64 0, .int .i64 0, .int .i64 0, .int .i64 0, .int .i64 0, .int .i64 0, .int .i64 0, .int .i64 0, .slice none 0 0]) := Blk.at_new _ _ _ hgm
    rw [← hgm]
    have hgm0 : w.heap.size ≤ gm := by rw [hgm]; exact hwd6.size
    have hzz : gm < (wd.alloc (.cells (#[.int .i64 0, .int .i64 0, .int .i64 0, .int .i64 0, .int .i64 0, .int .i64 0, .int .i64 0, .int .i64 0, .int .i64 0, .int .i64 0, .int .i64 0, .int .i64 0, .int .i64 0, .int .i64 0, .int .i64 0, .slice none 0 0]) 38)).heap.size := Bz.lt
    clear hgm
    generalize (wd.alloc (.cells (#[.int .i64 0, .int .i64 0, .int .i64 0, .int .i64 0, .int .i64 0, .int .i64 0, .int .i64 0, .int .i64 0, .int .i64 0, .int .i64 0, .int .i64 0, .int .i64 0, .int .i64 0, .int .i64 0, .int .i64 0, .slice none 0 0]) 38)) = wz at *
    (with_reducible (refine tr_call 10 ?_ rfl ?_ ?_ ?_); rotate_left; (first | exact wanted_none rfl | exact wanted_on rfl rfl rfl); (go_simp; with_reducible rfl))
    refine (HO.out wz hA9).mono ?_
    rintro e w7 ⟨m, A, c, ok, rfl, hb7, hpt7, hA7, hln7, hcs7⟩
    have hS7 : Below w.heap.size w w7 := hA9.trans (hb7.mono hA9.size)
    refine ⟨_, rfl, hS7, ?_⟩
    simp only [Act.put, List.setIfInBounds_toArray, List.set_cons_zero, List.set_cons_succ]
    iterate 3 (with_reducible (refine tr_take (v := ?_) rfl ?_ ?_ ?_); rotate_left; (first | exact wanted_none rfl | exact wanted_on rfl rfl rfl); (rintro w' _;  go_simp; with_reducible rfl); simp only [Act.put, List.setIfInBounds_toArray, List.set_cons_zero, List.set_cons_succ])
    have By := Bz.kept hb7
    have h1c : (mcells m A m.path.length c).all (·.oneCell') = true := by rw [← Array.all_toList]; rfl
    refine tr_store_blk rfl rfl 38 (.tmp 4) (.tmp 22) rfl (off := 0) rfl By rfl (by simp [mcells]) (by kernel_rfl) h1c ?_
    intro w9 B9q z9 gr9
    have hS9 : Below w.heap.size w w9 := hS7.grown gr9 hS7.size (fun k hk => by cases hk; exact hgm0)
    refine ⟨hS9, ?_⟩
    simp only [Act.put, List.setIfInBounds_toArray, List.set_cons_zero, List.set_cons_succ]
    (with_reducible (refine tr_take (v := ?_) rfl ?_ ?_ ?_); rotate_left; (first | exact wanted_none rfl | exact wanted_on rfl rfl rfl); (rintro w' _;  go_simp; with_reducible rfl); simp only [Act.put, List.setIfInBounds_toArray, List.set_cons_zero, List.set_cons_succ])
    have B9 : Blk w9 gm 38 (mcells m A m.path.length c) := by simpa [putAll, mcells] using B9q
    have hpt9 : Path w9 [] A m.path := by
      have h7 : Path w7 [gm] A m.path := fun h0 => by
        obtain ⟨ad, e1, h2, h3, h4⟩ := hpt7 h0
        exact ⟨ad, e1, h2, fun hm => by have := hA7 ad e1; simp at hm; omega, h4⟩
      exact (h7.fr (Fr.gr (S := [gm]) gr9 (by simp)) (by simp)).less (by simp)
    have hA10 : ∀ ad, A = some ad → w.heap.size ≤ ad.block := fun ad h => Nat.le_trans hA9.size (hA7 ad h)
    refine tr_nil ?_
    all_goals
      intro a' H
      refine HK a' _ gm m A c ok H.size H.defers ((H.got rfl rfl).trans e0.symm) (H.out 1 rfl) ((H.got rfl rfl).trans e2.symm) (H.out 4 rfl) ((H.got rfl rfl).trans e6.symm) ((H.got rfl rfl).trans e7.symm) (H.out 11 rfl) (H.out 12 rfl) (H.out 13 rfl) ?_ ?_ ?_ ?_ ?_ ?_ ?_ ?_
      · exact H.got rfl rfl
      · exact H.got rfl rfl
      · exact hS9
      · exact B9
      · exact hpt9
      · exact hA10
      · exact hln7
      · exact hcs7
  intro a' w8 gm m A c ok g_s g_d g0 g1 g2 g4 g6 g7 g11 g12 g13 f8 f9 hS8 BM PT HA HLN HCS
  replace hs := g_s.trans hs; replace hd := g_d; replace e0 := g0.trans e0; replace e1 := g1.trans e1; replace e2 := g2.trans e2; replace e4 := g4.trans e4; replace e6 := g6.trans e6; replace e7 := g7.trans e7; replace e11 := g11.trans e11; replace e12 := g12.trans e12; replace e13 := g13.trans e13; clear g_s g_d g0 g1 g2 g4 g6 g7 g11 g12 g13
  have e8 := f8
  clear f8
  have e9 := f9
  clear f9; clear a
  obtain ⟨a, rfl⟩ : ∃ a, a = a' := ⟨_, rfl⟩
  refine hKq1 _ _ ?_; clear hKq1 Kq1; refine wp_seq_k fun Kq2 hKq2 => ?_
  have HT8 := Lib.hid (HT.out.kept hS8)
  have HR8 := Lib.hid (HR.out.fr (Fr.be hS8))
  have HB68 := Lib.hid (HB6.out.kept hS8)
  have HFR := Lib.hid (Fr.be (S := turns Bs) hS8)
  clear HPX HO HT HR HB6 hpx
  refine sm_list [9] 39 1 hs hd (by kernel_rfl) (agC e9 agN) rfl ?_
  simp only [seval]
  go_wp2_with fail
  intro a H; replace hs := H.s hs; replace hd := H.d rfl; replace e9 := H.g 9 rfl rfl; replace e0 := H.k e0 rfl; replace e1 := H.k e1 rfl; replace e2 := H.k e2 rfl; replace e4 := H.k e4 rfl; replace e6 := H.k e6 rfl; replace e7 := H.k e7 rfl; replace e11 := H.k e11 rfl; replace e12 := H.k e12 rfl; replace e13 := H.k e13 rfl; replace e8 := H.k e8 rfl; have e39 := H.g 39 rfl rfl; clear H; refine hKq2 _ _ ?_
  clear hKq2 Kq2
  obtain ⟨ht, hu, hba, hbb, hpa, hpb⟩ := HF.out
  obtain ⟨hxa, hxp, hya, hyp⟩ := HX.out
  rw [hxp] at HCS HSO
  have hcs2 : (ok = false ∧ roleAt t.own (t.top (now : Int)) (t.hs (now : Int)) x.2.2 ≠ 1) ∨ (ok = true ∧ roleAt t.own (t.top (now : Int)) (t.hs (now : Int)) x.2.2 = 1 ∧ m = t.outM x.2.2 s (now : Int)) := HCS.symm
  clear HCS
  rcases hcs2 with ⟨rfl, hrl⟩ | ⟨rfl, hrl, hm⟩
  · have hsd : sends L x.2 x.1 s (now : Int) = L := sends_no ht hu hrl
    have HSD := Lib.hid hsd
    clear hsd hxa hxp hya hyp ht hu hba hbb hpa hpb hrl
    refine wp_cond_false (slotE e39) ?_
    clear e39; refine wp_skip ?_
    exact HEND.out a _ _ hs hd e0 e1 e2 e4 e6 e7 e11 e12 e13 (by rw [HSD.out]; exact HT8.out) HR8.out HB68.out HFR.out
  · have hsd : sends L x.2 x.1 s (now : Int) = L.set x.1.1 (u.in_ x.1.2 m (now : Int)) := by rw [hm]; exact sends_yes ht hu hrl
    have hso : u.inE yp m = 0 ∨ u.inE yp m = 31 := by rw [hm]; exact HSO.out
    rw [← hya, ← hyp] at hsd
    have HSD := Lib.hid hsd
    have HSO2 := Lib.hid hso
    obtain ⟨psb, hpsb⟩ : ∃ q, q = pb := ⟨_, rfl⟩
    have HQ := Lib.hid (And.intro (show L[ya]? = some u by rw [hya]; exact hu) (And.intro (show Bs[ya]? = some bb by rw [hya]; exact hbb) (show PS[ya]? = some pb by rw [hya]; exact hpb)))
    clear hsd hso hm hrl hxa hxp hya hyp ht hu hba hbb hpa hpb HX HF HSO psb hpsb
    refine wp_cond_true (slotE e39) ?_
    clear e39; refine wp_seq_k fun Kq3 hKq3 => ?_
    have hy0 : w8.cell? ⟨g6, 0, none⟩ = some (.int .i64 (ya : Int)) := by rw [(bcell hS8).1 _ _ l6]; exact hy0
    have hy1 : w8.cell? ⟨g6, 1, none⟩ = some (.int .i64 (yp : Int)) := by rw [(bcell hS8).1 _ _ l6]; exact hy1
    have hc8 := HR8.out.box8.cellOf (v := .slice (some A8) Bs.length c8) 0 rfl; have l8 := HR8.out.box8.lt; have l6 := HB68.out.lt
    have lm := BM.lt
    have hpy2 : ∀ w', Below w8.heap.size w8 w' → w'.cell? (A8.add ya) = some (.pointer (some ⟨bb.g, 0, none⟩)) := fun w' hw => hpy w' (hS8.trans (hw.mono hS8.size))
    clear hpy
    have hOLD : Hid (∀ (i : Nat) (b : Bks), Bs[i]? = some b → ∀ g ∈ b.all, g < w.heap.size) := HOLD
    refine sm_any [0, 2, 6, 7, 8, 10] 40 16 (by kernel_rfl) hs hd (by kernel_rfl) (agC e0 (agC e2 (agC e6 (agC e7 (agC e8 (agU agN)))))) rfl (any_tail 15 (fun w' => Below w8.heap.size w8 w') (by kernel_rfl) ((Below.refl _ _).drew) ?_)
    simp only [seval]
    iterate 7 (first | (with_reducible (refine wpQuiet_skip ?_ ?_); (first | exact wanted_off rfl rfl rfl rfl | exact wanted_off2 rfl rfl rfl); simp only [Act.put, List.setIfInBounds_toArray, List.set_cons_zero, List.set_cons_succ]) | (with_reducible (refine wpQuiet_val (v := ?_) ?_ ?_ ?_); rotate_left; (first | exact wanted_none rfl | exact wanted_on rfl rfl rfl); (intro w' hw'; obtain ⟨hc, hf⟩ := bcell hw'; go_simp; with_reducible rfl); simp only [Act.put, List.setIfInBounds_toArray, List.set_cons_zero, List.set_cons_succ]))
    (with_reducible (refine wpQuiet_val (v := ?_) ?_ ?_ ?_); rotate_left; (first | exact wanted_none rfl | exact wanted_on rfl rfl rfl); (intro w' hw'; have hq := hpy2 w' hw'; obtain ⟨hc, hf⟩ := bcell hw'; go_simp; with_reducible rfl); simp only [Act.put, List.setIfInBounds_toArray, List.set_cons_zero, List.set_cons_succ])
    iterate 5 (first | (with_reducible (refine wpQuiet_skip ?_ ?_); (first | exact wanted_off rfl rfl rfl rfl | exact wanted_off2 rfl rfl rfl); simp only [Act.put, List.setIfInBounds_toArray, List.set_cons_zero, List.set_cons_succ]) | (with_reducible (refine wpQuiet_val (v := ?_) ?_ ?_ ?_); rotate_left; (first | exact wanted_none rfl | exact wanted_on rfl rfl rfl); (intro w' hw'; obtain ⟨hc, hf⟩ := bcell hw'; go_simp; with_reducible rfl); simp only [Act.put, List.setIfInBounds_toArray, List.set_cons_zero, List.set_cons_succ]))
    (refine wpQuiet_val (v := .agg (mcells m A m.path.length c)) ?_ (fun w' hw' => run_load_whole_d 38 (.tmp 4) rfl rfl (BM.kept hw') Try.underlying38 rfl (by kernel_rfl)) ?_; (first | exact wanted_none rfl | exact wanted_on rfl rfl rfl); simp only [Act.put, List.setIfInBounds_toArray, List.set_cons_zero, List.set_cons_succ])
    (first | (with_reducible (refine wpQuiet_skip ?_ ?_); (first | exact wanted_off rfl rfl rfl rfl | exact wanted_off2 rfl rfl rfl); simp only [Act.put, List.setIfInBounds_toArray, List.set_cons_zero, List.set_cons_succ]) | (with_reducible (refine wpQuiet_val (v := ?_) ?_ ?_ ?_); rotate_left; (first | exact wanted_none rfl | exact wanted_on rfl rfl rfl); (intro w' hw'; obtain ⟨hc, hf⟩ := bcell hw'; go_simp; with_reducible rfl); simp only [Act.put, List.setIfInBounds_toArray, List.set_cons_zero, List.set_cons_succ]))
    refine wpQuiet_nil ?_
    intro w9 hw9
    have T9 := HT8.out.kept hw9
    obtain ⟨hu9, hb9, hp9⟩ := HQ.out
    have Tb9 := T9.tat _ _ _ _ hb9 hu9 hp9
    have pt9 : Path w9 [] A m.path := PT.fr (Fr.be (S := []) hw9) (by simp)
    have hMI : MsgIn w9 w9.heap.size m A m.path.length := ⟨pt9.reads, rfl, by unfold maxLen; omega⟩
    have ptb : Path w9 bb.all A m.path := fun h0 => by
      obtain ⟨ad, e1, h2, h3, h4⟩ := pt9 h0
      exact ⟨ad, e1, h2, fun hm => by have h5 := HA ad e1; have h6 := hOLD.out ya bb hb9 _ hm; omega, h4⟩
    have HI9 := Lib.hid (in_anyN bb u pb (yp : Int) (now : Int) m A m.path.length c w9 Tb9 hMI ptb)
    have HR9 := Lib.hid (HR8.out.fr (Fr.be hw9))
    have HB9 := Lib.hid (HB68.out.kept hw9)
    have HT9 := Lib.hid T9
    have HL9 := Lib.hid (hS8.trans (hw9.mono hS8.size))
    clear Tb9 hMI ptb pt9 T9 hu9 hb9 hp9 hw9
    go_wp2_with fail
    refine HI9.out.mono ?_
    rintro e w10 ⟨rfl, ⟨pb2, T10, N10⟩, F10⟩
    have HX10 := Lib.hid (And.intro T10 (And.intro N10 F10))
    clear T10 N10 F10
    go_wp2_with fail
    intro a H; replace hs := H.s hs; replace hd := H.d rfl; replace e0 := H.g 0 rfl rfl; replace e2 := H.g 2 rfl rfl; replace e6 := H.g 6 rfl rfl; replace e7 := H.g 7 rfl rfl; replace e8 := H.g 8 rfl rfl; replace e1 := H.k e1 rfl; replace e4 := H.k e4 rfl; replace e11 := H.k e11 rfl; replace e12 := H.k e12 rfl; replace e13 := H.k e13 rfl; replace e9 := H.k e9 rfl; have e10 := H.g 10 rfl rfl; clear H
    refine hKq3 _ _ ?_; clear hKq3 Kq3; refine wp_seq_k fun Kq4 hKq4 => ?_; clear hy0 hy1 hc8 l8 l6 lm hpy2 hS8 HT8 HR8 HB68 BM PT HA
    obtain ⟨ER, hER⟩ : ∃ E, E = u.inE yp m := ⟨_, rfl⟩
    rw [← hER] at e10
    have hE2 : ER = 0 ∨ ER = 31 := by rw [hER]; exact HSO2.out
    clear HSO2 hER; clear e8; clear e9
    suffices HK : ∀ (a' : Act), a'.tmps.size = a.tmps.size → a'.defers = [] → a'.tmps[0]? = a.tmps[0]? → a'.tmps[1]? = a.tmps[1]? → a'.tmps[2]? = a.tmps[2]? → a'.tmps[4]? = a.tmps[4]? → a'.tmps[6]? = a.tmps[6]? → a'.tmps[7]? = a.tmps[7]? → a'.tmps[11]? = a.tmps[11]? → a'.tmps[12]? = a.tmps[12]? → a'.tmps[13]? = a.tmps[13]? → a'.tmps[10]? = a.tmps[10]? → a'.tmps[61]? = some (.bool false) → Kq4 a' w10 by
      rcases hE2 with rfl | rfl
      all_goals
        refine sm_list [10] 56 6 hs hd (by kernel_rfl) (agC e10 agN) rfl ?_
        simp only [seval]
        go_wp2_with fail
        all_goals
          intro a' H
          refine HK a' H.size H.defers (H.out 0 rfl) (H.out 1 rfl) (H.out 2 rfl) (H.out 4 rfl) (H.out 6 rfl) (H.out 7 rfl) (H.out 11 rfl) (H.out 12 rfl) (H.out 13 rfl) ((H.got rfl rfl).trans e10.symm) ?_
          · exact H.got rfl rfl
    intro a' g_s g_d g0 g1 g2 g4 g6 g7 g11 g12 g13 g10 f61
    replace hs := g_s.trans hs; replace hd := g_d; replace e0 := g0.trans e0; replace e1 := g1.trans e1; replace e2 := g2.trans e2; replace e4 := g4.trans e4; replace e6 := g6.trans e6; replace e7 := g7.trans e7; replace e11 := g11.trans e11; replace e12 := g12.trans e12; replace e13 := g13.trans e13; replace e10 := g10.trans e10; clear g_s g_d g0 g1 g2 g4 g6 g7 g11 g12 g13 g10
    have e61 := f61
    clear f61; clear a
    obtain ⟨a, rfl⟩ : ∃ a, a = a' := ⟨_, rfl⟩
    refine hKq4 _ _ ?_; clear hKq4 Kq4; clear hE2
    refine wp_cond_false (slotE e61) ?_
    clear e61; refine wp_skip ?_
    obtain ⟨T10, N10, F10⟩ := HX10.out
    obtain ⟨hu9, hb9, hp9⟩ := HQ.out
    have FT : Fr (turns Bs) w9 w10 := F10.more (mem_turns hb9)
    have T11 := HT9.out.set hb9 hu9 hp9 T10 N10 F10
    rw [← HSD.out] at T11
    exact HEND.out a _ _ hs hd e0 e1 e2 e4 e6 e7 e11 e12 e13 T11 (HR9.out.fr FT) (FT.blk HB9.out (fun hm => by have := H6.out g6 hm; omega)) ((Fr.be (S := turns Bs) HL9.out).trans FT)
end Go.Proofs.Ytcdgofndfajekaa
