/-
  The hops of a way: their spans.
-/
import Derived.Test.YtaegngcbiefckaaPlnRow
namespace Go.Proofs.Ytaegngcbiefckaa
set_option linter.unusedSimpArgs false
set_option linter.unusedVariables false
open Go.RowKit Go.WideShapes Go.ChangeShapes
attribute [local go_sem ↓] Go.wp_at_zero Go.wp_at_succ

theorem sty_span : SliceTy Try.prog 94 93 2 16 := sliceTy_mk (z := .agg #[.int .i64 0, .int .i64 0]) Try.underlying94 (by kernel_rfl) rfl
section
variable {P : Program}
theorem wpList_pushAt {ops : Array Oper} {rest : List Oper} {o : Oper} {a : Act} {Q : Exit → Act → World → Prop} (q : Nat) (hgd : o.guard = none) (s x : Operand) (t : TypeId)
    (ho : o.op = .call { callee := .builtin .append, args := #[s, x], argTypes := #[t, t] })
    {e e2 : TypeId} {size bytes : Nat} (hty : SliceTy P t e size bytes) {w : World} {cs : Array Value} {g : Nat} (B : Blk w g e2 cs) (hcs : cs.size = q * size) (h1 : ∀ u ∈ cs.toList, u.oneCell' = true)
    {base : Nat} {v : Value} {n : Nat} {xs : List Value} (hs : a.eval s = v) (hown : w.ownsRow base e size v n xs) (hx : a.eval x = .slice (some ⟨g, 0, none⟩) q q)
    (hbytes : (n + q) * bytes ≤ 140737488355328) (hbase : base ≤ w.heap.size)
    (h : ∀ v' w', w'.ownsRow base e size v' (n + q) (xs ++ cs.toList) → w.grownBy w' v.ownBlock → (v'.ownBlock = v.ownBlock ∨ v'.ownBlock = some w.heap.size) → wpList P ops Q rest (a.put o.dst v') w') : wpList P ops Q (o :: rest) a w := by
  obtain ⟨ht, i, z, hi, hz, hsz, hby, hzs, hp, hq⟩ := hty
  have hbn : n + q ≤ 140737488355328 := Nat.le_trans (Nat.le_mul_of_pos_right _ hq) hbytes
  exact wpList_append_own_at _ hgd s x t ho base e i z size bytes ht hi hz hsz hby hzs hp v n xs hs hown ⟨g, 0, none⟩ q q cs.toList hx (by simpa using hcs) (fun j u hu => blk_cells B j u hu) h1
    (by simp only [maxLen]; omega) hbytes hbase (fun v' w' ho' hg _ hm => h v' w' ho' hg hm)
theorem run_load_cells_d {o : Oper} {a : Act} (ty : TypeId) (x : Operand) (ho : o.op = .load ty x) (ad : Addr) (hx : a.eval x = .pointer (some ad)) (M : Array Value) {d : TypeDesc} {w : World} (hc : ∀ j v, M.toList[j]? = some v → w.cell? (ad.add j) = some v)
    (hu : P.underlying ty = some d) (hd : d.isRow = true) (hi : (P.info? ty).map (·.size) = some M.size) : (execOp a.eval o).run P w = .ok (.value (.agg M)) w := by
  unfold execOp
  simp only [ho, hx, Instr.loadAt, Instr.sureAddr, Sem.run_bind, Sem.run_pure, Result.andThen_ok, run_load_any_d w ad ty M.toList d hc hu hd (by simpa using hi)]
variable {lo : List Oper} {S : World → Prop} {Q : Exit → Act → World → Prop} {E : Act → World → Prop}
theorem script_store_new {i : Nat} {l : List (Nat × Bool)} {a : Act} {o : Oper} (ho0 : lo[i]? = some o) (hgd : o.guard = none) (ty : TypeId) (x y : Operand) (ho : o.op = .store ty x y)
    {wr : World} {te : TypeId} {old cs : Array Value} {g : Nat} (hx : a.eval x = .pointer (some ⟨g, 0, none⟩)) (hg : g = wr.heap.size) (hy : a.eval y = .agg cs) (hsz : old.size = cs.size) (hi : (P.info? ty).map (·.size) = some cs.size) (h1 : cs.all (·.oneCell') = true)
    (h : S (wr.alloc (.cells cs te)) ∧ wpScript P lo.toArray S Q E l (a.put o.dst undef) (wr.alloc (.cells cs te))) : wpScript P lo.toArray S Q E ((i, false) :: l) a (wr.alloc (.cells old te)) := by
  subst hg
  have B := Blk.new wr te old
  refine script_wp ho0 (by simp [Region.wanted, hgd]) (wp_store_mid ty x y ho wr.heap.size 0 cs hx hy (fun j hj => ?_) hi h1 ?_)
  · rw [Nat.zero_add, B.cell, B.frozen]
    exact ⟨by rw [Array.getElem?_eq_getElem (by omega)]; rfl, rfl⟩
  · have := setCells_alloc wr te cs.toList [] old.toList (by simpa using hsz)
    simp only [List.nil_append, List.length_nil, Array.toArray_toList] at this
    rw [this]
    exact h
end
theorem add_blk (a : Addr) (k : Nat) : (a.add k).block = a.block := by
  unfold Addr.add
  split <;> rfl
def HopInv (C : Cf) (off : Int) (f : Fw) (n : Nat) (S : List Sp) (es : List (Int × Int)) (ks : List Int) (k : Nat) (S' : List Sp) (low high : Int) : Prop :=
  hopsGo C off f n 0 S es ks 0 0 = hopsGo C off f n k S' (es.drop k) (ks.drop k) low high
section
variable {C : Cf} {off low high i : Int} {f : Fw} {n k : Nat} {S S' : List Sp} {es : List (Int × Int)} {ks : List Int} {e : Int × Int} {l : Lk}
theorem HopInv.start : HopInv C off f n S es ks 0 S 0 0 := rfl
theorem HopInv.bad (h : HopInv C off f n S es ks k S' low high) (he : es[k]? = some e) (hi : ks[k]? = some i) (hb : f.start + low - 2 * off < 0 ∨ C.cycle < f.start + f.len + high + 8 * f.size + 2 * off) :
    hopsGo C off f n 0 S es ks 0 0 = .error 61 := by
  unfold HopInv at h
  rw [h, drop_get he, drop_get hi, hopsGo]
  exact if_pos hb
theorem HopInv.step (h : HopInv C off f n S es ks k S' low high) (he : es[k]? = some e) (hi : ks[k]? = some i) (hb : ¬ (f.start + low - 2 * off < 0 ∨ C.cycle < f.start + f.len + high + 8 * f.size + 2 * off)) (hl : C.links[i.toNat]? = some l) (low' high' : Int)
    (h1 : low' = low + (8 * f.size + l.lo) + if k + 1 < n then C.proc else 0) (h2 : high' = high + (8 * f.size + l.hi) + if k + 1 < n then C.proc else 0) :
    HopInv C off f n S es ks (k + 1) (S' ++ [(e, (f.start + low - 2 * off, f.start + f.len + high + 8 * f.size + 2 * off))]) low' high' := by
  unfold HopInv at h ⊢
  rw [h, drop_get he, drop_get hi, hopsGo]
  rw [if_neg hb, hl, h1, h2]
theorem HopInv.done (h : HopInv C off f n S es ks k S' low high) (hk : es.length ≤ k) : hopsGo C off f n 0 S es ks 0 0 = .ok (S', low, high) := by
  unfold HopInv at h
  rw [h, List.drop_eq_nil_of_le hk]
  unfold hopsGo
  rfl
end
set_option maxRecDepth 100000 in
set_option maxHeartbeats 4000000 in
theorem mk_hops (C : Cf) (Y : Lay) (f : Fw) (sl : Sl × Sl) (off : Int) (q n c c2 L g1 g2 g9 gm B0 m : Nat) (A A2 : Option Addr) (es : List (Int × Int)) (ks : List Int) (S : List Sp) (fm : Int × Int → Option Value) (v6 v14 v42 v43 v44 v162 v163 v164 : Value) (a : Act) (w : World) (Q : Exit → Act → World → Prop)
    (hs : a.tmps.size = 317) (hd : a.defers = []) (e1 : a.tmps[1]? = some (.pointer (some ⟨g1, 0, none⟩))) (e2 : a.tmps[2]? = some (.pointer (some ⟨g2, 0, none⟩))) (e5 : a.tmps[5]? = some (.int .i64 off)) (e6 : a.tmps[6]? = some (v6)) (e7 : a.tmps[7]? = some (.map (some gm))) (e9 : a.tmps[9]? = some (.pointer (some ⟨g9, 0, none⟩))) (e14 : a.tmps[14]? = some (v14)) (e15 : a.tmps[15]? = some (.int .i64 (q : Int))) (e16 : a.tmps[16]? = some (.slice A n c)) (e17 : a.tmps[17]? = some (.int .i64 0)) (e18 : a.tmps[18]? = some (.int .i64 0)) (e42 : a.tmps[42]? = some (v42)) (e43 : a.tmps[43]? = some (v43)) (e44 : a.tmps[44]? = some (v44)) (e162 : a.tmps[162]? = some (v162)) (e163 : a.tmps[163]? = some (v163)) (e164 : a.tmps[164]? = some (v164))
    (hC : CfAt w L C Y) (BC : Blk w g1 26 (cfc C Y)) (BF : Blk w g9 74 (fwc f sl).toArray) (B2 : Blk w g2 32 #[.int .i64 0, .slice none 0 0, .map none]) (hord : L ≤ g1 ∧ L ≤ g2 ∧ g1 < gm ∧ g2 < gm ∧ gm < g9)
    (SM : SpM w B0 gm m fm S) (hq : q < 2) (hcell : (fwc f sl).toArray[2 + q]? = some (.slice A2 ks.length c2)) (hk : Reads w L 1 A2 ks.length (ks.map (Value.int .i64)))
    (hO : w.ownsRow (gm + 1) 61 2 (.slice A n c) n (es.flatMap ecc)) (hes : ∀ e ∈ es, okE e) (hn : n ≤ 16) (hkn : ks.length = n) (hkr : ∀ k ∈ ks, 0 ≤ k ∧ k < (C.links.length : Int))
    (hW : Well C) (hoff : 0 ≤ off ∧ off ≤ 1000000000000000) (hf : (0 ≤ f.start ∧ f.start ≤ 1073741824) ∧ (0 ≤ f.len ∧ f.len ≤ 1073741824) ∧ (64 ≤ f.size ∧ f.size ≤ 1600)) (hS : S.length ≤ 2000)
    (hend : ∀ (a : Act) (w' : World) (m' : Nat) (fm' : Int × Int → Option Value) (S' : List Sp) (low high : Int), a.tmps.size = 317 → a.defers = [] → a.tmps[1]? = some (.pointer (some ⟨g1, 0, none⟩)) → a.tmps[2]? = some (.pointer (some ⟨g2, 0, none⟩)) → a.tmps[5]? = some (.int .i64 off) → a.tmps[6]? = some (v6) → a.tmps[7]? = some (.map (some gm)) → a.tmps[9]? = some (.pointer (some ⟨g9, 0, none⟩)) → a.tmps[14]? = some (v14) → a.tmps[42]? = some (v42) → a.tmps[43]? = some (v43) → a.tmps[44]? = some (v44) → a.tmps[162]? = some (v162) → a.tmps[163]? = some (v163) → a.tmps[164]? = some (v164) → a.tmps[17]? = some (.int .i64 low) → a.tmps[18]? = some (.int .i64 high) → FrH gm [] w w' → SpM w' B0 gm m' fm' S' →
      S'.length = S.length + n → (0 ≤ low ∧ low ≤ 64000000) → (0 ≤ high ∧ high ≤ 64000000) → hopsGo C off f n 0 S es ks 0 0 = .ok (S', low, high) → Q .normal a w')
    (hret : ∀ (a : Act) (w' : World), a.tmps.size = 317 → a.defers = [] → a.tmps[2]? = some (.pointer (some ⟨g2, 0, none⟩)) → a.tmps[3]? = some (.int .i64 61) → Below L w w' → Blk w' g2 32 #[.int .i64 0, .slice none 0 0, .map none] → hopsGo C off f n 0 S es ks 0 0 = .error 61 → Q .ret a w') :
    Code.wp Try.prog (sub [true, true, true, true, true, false, true, false, false, true, true, false, false, true, true, true, true, true, true, true, false, true, false, false, true, true, false, false, true, true, false] (bodyOf Try.f11)) Q a w := by
  conv => arg 2; whnf
  have HEND := Lib.hid (And.intro hend hret)
  have HCELL := Lib.hid hcell
  have HES := Lib.hid hes
  have HKR := Lib.hid hkr
  have HW := Lib.hid hW
  clear hend hret hcell hes hkr hW
  obtain ⟨ho1, ho2, ho3, ho4, ho5⟩ := hord
  obtain ⟨⟨hf1, hf2⟩, ⟨hf3, hf4⟩, hf5, hf6⟩ := hf
  obtain ⟨hoff1, hoff2⟩ := hoff
  have hel : es.length = n := by have := hO.1; rw [flatMap_length ecc_len] at this; omega
  have HEL := Lib.hid hel
  clear hel
  have HOK : Hid (∀ k, (Value.slice A n c).ownBlock = some k → k ≠ gm ∧ k ∉ ([] : List Nat)) := Lib.hid fun k hk => ⟨by have := (ownsRow_lt hO k hk).1; omega, by simp⟩
  have HQ1 := HW.out.q1; have HQ2 := HW.out.q2; refine wp_seq_k fun Kq1 hKq1 => ?_
  refine sm_list [16] 169 3 hs hd (by kernel_rfl) (agC e16 agN) rfl ?_
  simp only [seval]
  go_wp2_with fail
  intro a H; replace hs := H.s hs; replace hd := H.d rfl; replace e16 := H.g 16 rfl rfl; replace e1 := H.k e1 rfl; replace e2 := H.k e2 rfl; replace e5 := H.k e5 rfl; replace e6 := H.k e6 rfl; replace e7 := H.k e7 rfl; replace e9 := H.k e9 rfl; replace e14 := H.k e14 rfl; replace e15 := H.k e15 rfl; replace e17 := H.k e17 rfl; replace e18 := H.k e18 rfl; replace e42 := H.k e42 rfl; replace e43 := H.k e43 rfl; replace e44 := H.k e44 rfl; replace e162 := H.k e162 rfl; replace e163 := H.k e163 rfl; replace e164 := H.k e164 rfl
  have e169 := H.g 169 rfl rfl; have e170 := H.g 170 rfl rfl; have e171 := H.g 171 rfl rfl; clear H; refine hKq1 _ _ ?_; clear hKq1 Kq1; refine wp_block ?_
  refine wp_loop (fun a w' => ∃ (k : Nat) (low high : Int) (m' : Nat) (fm' : Int × Int → Option Value) (S' : List Sp), k ≤ n ∧ S'.length = S.length + k ∧ (0 ≤ low ∧ low ≤ 4000000 * (k : Int)) ∧ (0 ≤ high ∧ high ≤ 4000000 * (k : Int)) ∧ a.tmps.size = 317 ∧ a.defers = [] ∧ a.tmps[1]? = some (.pointer (some ⟨g1, 0, none⟩)) ∧ a.tmps[2]? = some (.pointer (some ⟨g2, 0, none⟩)) ∧ a.tmps[5]? = some (.int .i64 off) ∧ a.tmps[6]? = some (v6) ∧ a.tmps[7]? = some (.map (some gm)) ∧ a.tmps[9]? = some (.pointer (some ⟨g9, 0, none⟩)) ∧ a.tmps[14]? = some (v14) ∧ a.tmps[15]? = some (.int .i64 (q : Int)) ∧ a.tmps[16]? = some (.slice A n c) ∧ a.tmps[42]? = some (v42) ∧ a.tmps[43]? = some (v43) ∧ a.tmps[44]? = some (v44) ∧ a.tmps[162]? = some (v162) ∧ a.tmps[163]? = some (v163) ∧ a.tmps[164]? = some (v164) ∧ a.tmps[169]? = some (.slice A n c) ∧ a.tmps[170]? = some (.int .i64 (n : Int)) ∧ a.tmps[171]? = some (.int .i64 (k : Int)) ∧ a.tmps[17]? = some (.int .i64 low) ∧ a.tmps[18]? = some (.int .i64 high) ∧ FrH gm [] w w' ∧ SpM w' B0 gm m' fm' S' ∧ HopInv C off f n S es ks k S' low high) (fun a _ => n - (intOf (a.tmps.getD 171 undef)).toNat) ?_ ?_
  · exact ⟨0, 0, 0, m, fm, S, Nat.zero_le _, rfl, by omega, by omega, hs, hd, e1, e2, e5, e6, e7, e9, e14, e15, e16, e42, e43, e44, e162, e163, e164, e169, e170, e171, e17, e18, FrH.refl, SM, HopInv.start⟩
  have HSZ := Lib.hid (Nat.le_trans (Nat.le_of_lt SM.lt) SM.hz)
  clear hs hd e171 e17 e18 e1 e2 e5 e6 e7 e9 e14 e15 e16 e42 e43 e44 e162 e163 e164 e169 e170 a SM
  rintro a w3 ⟨k, low, high, m', fm', S', hk1, hsl, ⟨hl1, hl2⟩, ⟨hh1, hh2⟩, hs, hd, e1, e2, e5, e6, e7, e9, e14, e15, e16, e42, e43, e44, e162, e163, e164, e169, e170, e171, e17, e18, hfr, SM, hG⟩
  have HG := Lib.hid hG
  clear hG
  have hm := slot e171
  refine wp_seq_k fun Kq2 hKq2 => ?_
  by_cases hlt : k < n
  ·
    have dj : decide ((k : Int) < (n : Int)) = true := decide_eq_true (by omega)
    obtain ⟨⟨x, y⟩, hx⟩ : ∃ e, es[k]? = some e := ⟨_, List.getElem?_eq_getElem (by rw [HEL.out]; exact hlt)⟩
    have hxy := HES.out _ (List.mem_of_getElem? hx)
    obtain ⟨i, hi⟩ : ∃ i, ks[k]? = some i := ⟨_, List.getElem?_eq_getElem (by omega)⟩
    have hir := HKR.out _ (List.mem_of_getElem? hi)
    obtain ⟨i, rfl⟩ : ∃ j : Nat, i = (j : Int) := ⟨i.toNat, by omega⟩
    have hiN : i < C.links.length := by omega
    obtain ⟨l, hl⟩ : ∃ l, C.links[i]? = some l := ⟨_, List.getElem?_eq_getElem hiN⟩
    have hlo := (HW.out.links l (List.mem_of_getElem? hl)).lo
    have hlh := (HW.out.links l (List.mem_of_getElem? hl)).hi
    have hlm := (HW.out.links l (List.mem_of_getElem? hl)).most
    have hO3 := hfr.own hO (by decide) HOK.out
    obtain ⟨A3, c3, he3, _, hr3⟩ := ownsRow_reads hO3
    cases he3
    obtain ⟨ad, hA, hadb, hcl⟩ := reads_at ecc_len hr3 hx hlt
    have HX := Lib.hid (And.intro hx (And.intro hi (And.intro hl hxy)))
    have HCL := Lib.hid hcl
    have HA := Lib.hid hA
    clear hx hi hl hxy hcl hA hO3 hr3
    rw [HA.out] at e169
    refine sm_list [170, 171] 172 1 hs hd (by kernel_rfl) (agC e170 (agC e171 agN)) rfl ?_
    simp only [seval]
    go_wp2_with fail
    intro a H; replace hs := H.s hs; replace hd := H.d rfl; replace e170 := H.g 170 rfl rfl; replace e171 := H.g 171 rfl rfl; replace e1 := H.k e1 rfl; replace e2 := H.k e2 rfl; replace e5 := H.k e5 rfl; replace e6 := H.k e6 rfl; replace e7 := H.k e7 rfl; replace e9 := H.k e9 rfl; replace e14 := H.k e14 rfl; replace e15 := H.k e15 rfl; replace e16 := H.k e16 rfl; replace e42 := H.k e42 rfl; replace e43 := H.k e43 rfl; replace e44 := H.k e44 rfl; replace e162 := H.k e162 rfl; replace e163 := H.k e163 rfl; replace e164 := H.k e164 rfl; replace e169 := H.k e169 rfl; replace e17 := H.k e17 rfl; replace e18 := H.k e18 rfl
    have e172 := H.g 172 rfl rfl; clear H; refine hKq2 _ _ ?_; clear hKq2 Kq2; refine wp_seq_k fun Kq3 hKq3 => ?_
    refine wp_cond_true (slotE e172) ?_
    clear e172; refine wp_skip ?_; refine hKq3 _ _ ?_; clear hKq3 Kq3; refine wp_seq_k fun Kq4 hKq4 => ?_; refine wp_block ?_; refine wp_seq_k fun Kq5 hKq5 => ?_
    have B20 := Blk.new w3 61 #[.int .i64 x, .int .i64 y]
    have L5 : Below w3.heap.size w3 (w3.alloc (.cells #[.int .i64 x, .int .i64 y] 61)) := (Below.refl _ _).alloc (Nat.le_refl _) _
    have SM5 := SM.keep L5
    have hfr5 := hfr.trans (FrH.be (gm := gm) (X := []) L5)
    refine sm_list [19, 20, 169, 171] 173 3 hs hd (by kernel_rfl) (agU (agU (agC e169 (agC e171 agN)))) rfl ?_
    simp only [seval]
    go_wp2_with (first | (refine wpList_load_any_d rfl 61 (.tmp 5) rfl (ad.add (k * 2)) rfl (#[.int .i64 x, .int .i64 y]) _ (fun j u hu => HCL.out j u hu) Try.underlying61 rfl (by kernel_rfl) ?_) | (refine wpList_store_new rfl 61 (.tmp 1) (.tmp 6) rfl rfl rfl rfl rfl (by kernel_rfl) (by rw [← Array.all_toList]; rfl) ?_) | fail)
    intro a H; replace hs := H.s hs; replace hd := H.d rfl; replace e169 := H.g 169 rfl rfl; replace e171 := H.g 171 rfl rfl; replace e1 := H.k e1 rfl; replace e2 := H.k e2 rfl; replace e5 := H.k e5 rfl; replace e6 := H.k e6 rfl; replace e7 := H.k e7 rfl; replace e9 := H.k e9 rfl; replace e14 := H.k e14 rfl; replace e15 := H.k e15 rfl; replace e16 := H.k e16 rfl; replace e42 := H.k e42 rfl; replace e43 := H.k e43 rfl; replace e44 := H.k e44 rfl; replace e162 := H.k e162 rfl; replace e163 := H.k e163 rfl; replace e164 := H.k e164 rfl; replace e170 := H.k e170 rfl; replace e17 := H.k e17 rfl; replace e18 := H.k e18 rfl
    have e19 := H.g 19 rfl rfl; have e20 := H.g 20 rfl rfl; clear H; refine hKq5 _ _ ?_; clear hKq5 Kq5; refine wp_seq_k fun Kq6 hKq6 => ?_
    rw [← HA.out] at e169
    obtain ⟨g20, hg20⟩ : ∃ g, g = w3.heap.size := ⟨_, rfl⟩
    rw [← hg20] at B20 e20
    generalize (w3.alloc (.cells #[.int .i64 x, .int .i64 y] 61)) = w5 at *
    clear hg20 SM hfr L5
    obtain ⟨p, hp⟩ : ∃ p, p = f.start + low - 2 * off := ⟨_, rfl⟩
    obtain ⟨r, hr⟩ : ∃ r, r = f.start + f.len + high + 8 * f.size + 2 * off := ⟨_, rfl⟩
    have hpr := And.intro hp hr
    have BF5 : Blk w5 g9 74 (fwc f sl).toArray := hfr5.blk BF (by decide) (by omega) (by simp)
    have y3 := BF5.cellOf (v := .int .i64 f.start) 4 rfl
    have y4 := BF5.cellOf (v := .int .i64 f.len) 5 rfl
    have y5 := BF5.cellOf (v := .int .i64 f.size) 6 rfl
    have HPR := Lib.hid hpr
    clear hpr hp hr
    suffices HK : ∀ (a' : Act) (w6 : World), a'.tmps.size = a.tmps.size → a'.defers = [] → a'.tmps[1]? = a.tmps[1]? → a'.tmps[2]? = a.tmps[2]? → a'.tmps[5]? = a.tmps[5]? → a'.tmps[6]? = a.tmps[6]? → a'.tmps[7]? = a.tmps[7]? → a'.tmps[9]? = a.tmps[9]? → a'.tmps[14]? = a.tmps[14]? → a'.tmps[15]? = a.tmps[15]? → a'.tmps[16]? = a.tmps[16]? → a'.tmps[42]? = a.tmps[42]? → a'.tmps[43]? = a.tmps[43]? → a'.tmps[44]? = a.tmps[44]? → a'.tmps[162]? = a.tmps[162]? → a'.tmps[163]? = a.tmps[163]? → a'.tmps[164]? = a.tmps[164]? → a'.tmps[169]? = a.tmps[169]? → a'.tmps[170]? = a.tmps[170]? → a'.tmps[171]? = a.tmps[171]? → a'.tmps[17]? = a.tmps[17]? → a'.tmps[18]? = a.tmps[18]? → a'.tmps[19]? = a.tmps[19]? → a'.tmps[20]? = a.tmps[20]? → a'.tmps[21]? = some (.pointer (some ⟨w5.heap.size, 0, none⟩)) → Blk w6 w5.heap.size 93 #[.int .i64 p, .int .i64 r] → Below w5.heap.size w5 w6 → Kq6 a' w6 by
      refine sm_list [5, 9, 17, 18, 21] 176 22 hs hd (by kernel_rfl) (agC e5 (agC e9 (agC e17 (agC e18 (agU agN))))) rfl ?_
      simp only [seval]
      go_wp2_with (first | (refine wpList_store_new rfl 93 (.tmp 4) (.tmp 26) rfl rfl rfl rfl rfl (by kernel_rfl) (by rw [← Array.all_toList]; rfl) ?_) | fail)
      all_goals
        intro a' H
        refine HK a' _ H.size H.defers (H.out 1 rfl) (H.out 2 rfl) ((H.got rfl rfl).trans e5.symm) (H.out 6 rfl) (H.out 7 rfl) ((H.got rfl rfl).trans e9.symm) (H.out 14 rfl) (H.out 15 rfl) (H.out 16 rfl) (H.out 42 rfl) (H.out 43 rfl) (H.out 44 rfl) (H.out 162 rfl) (H.out 163 rfl) (H.out 164 rfl) (H.out 169 rfl) (H.out 170 rfl) (H.out 171 rfl) ((H.got rfl rfl).trans e17.symm) ((H.got rfl rfl).trans e18.symm) (H.out 19 rfl) (H.out 20 rfl) ?_ ?_ ?_
        · exact H.got rfl rfl
        · rw [HPR.out.1, HPR.out.2]; exact Blk.new w5 _ _
        · exact (Below.refl _ _).alloc (Nat.le_refl _) _
    intro a' w6 g_s g_d g1 g2 g5 g6 g7 g9 g14 g15 g16 g42 g43 g44 g162 g163 g164 g169 g170 g171 g17 g18 g19 g20 f21 B21 b6
    replace hs := g_s.trans hs; replace hd := g_d; replace e1 := g1.trans e1; replace e2 := g2.trans e2; replace e5 := g5.trans e5; replace e6 := g6.trans e6; replace e7 := g7.trans e7; replace e9 := g9.trans e9; replace e14 := g14.trans e14; replace e15 := g15.trans e15; replace e16 := g16.trans e16; replace e42 := g42.trans e42; replace e43 := g43.trans e43; replace e44 := g44.trans e44; replace e162 := g162.trans e162
    replace e163 := g163.trans e163; replace e164 := g164.trans e164; replace e169 := g169.trans e169; replace e170 := g170.trans e170; replace e171 := g171.trans e171; replace e17 := g17.trans e17; replace e18 := g18.trans e18; replace e19 := g19.trans e19; replace e20 := g20.trans e20; clear g_s g_d g1 g2 g5 g6 g7 g9 g14 g15 g16 g42 g43 g44 g162 g163 g164 g169 g170 g171 g17 g18 g19 g20
    have e21 := f21
    clear f21; clear a
    obtain ⟨a, rfl⟩ : ∃ a, a = a' := ⟨_, rfl⟩
    refine hKq6 _ _ ?_; clear hKq6 Kq6; refine wp_seq_k fun Kq7 hKq7 => ?_; refine wp_seq_k fun Kq8 hKq8 => ?_
    have SM6 := SM5.keep b6
    have hfr6 := hfr5.trans (FrH.be (gm := gm) (X := []) b6)
    have B20x := B20.kept b6
    obtain ⟨g21, hg21⟩ : ∃ g, g = w5.heap.size := ⟨_, rfl⟩
    rw [← hg21] at B21 e21
    clear hg21 SM5 hfr5 b6 B20 BF5 y3 y4 y5
    have B20 := B20x
    clear B20x; have hlowc := HSZ.out
    have BC6 : Blk w6 g1 26 (cfc C Y) := hfr6.low BC ho3
    have z3 := BC6.cellOf (v := .int .i64 C.cycle) 3 rfl
    have x0 := B21.cellOf (v := .int .i64 p) 0 rfl
    have x1 := B21.cellOf (v := .int .i64 r) 1 rfl
    clear hlowc
    suffices HK : ∀ (a' : Act), a'.tmps.size = a.tmps.size → a'.defers = [] → a'.tmps[1]? = a.tmps[1]? → a'.tmps[2]? = a.tmps[2]? → a'.tmps[5]? = a.tmps[5]? → a'.tmps[6]? = a.tmps[6]? → a'.tmps[7]? = a.tmps[7]? → a'.tmps[9]? = a.tmps[9]? → a'.tmps[14]? = a.tmps[14]? → a'.tmps[15]? = a.tmps[15]? → a'.tmps[16]? = a.tmps[16]? → a'.tmps[42]? = a.tmps[42]? → a'.tmps[43]? = a.tmps[43]? → a'.tmps[44]? = a.tmps[44]? → a'.tmps[162]? = a.tmps[162]? → a'.tmps[163]? = a.tmps[163]? → a'.tmps[164]? = a.tmps[164]? → a'.tmps[169]? = a.tmps[169]? → a'.tmps[170]? = a.tmps[170]? → a'.tmps[171]? = a.tmps[171]? → a'.tmps[17]? = a.tmps[17]? → a'.tmps[18]? = a.tmps[18]? → a'.tmps[19]? = a.tmps[19]? → a'.tmps[20]? = a.tmps[20]? → a'.tmps[21]? = a.tmps[21]? → a'.tmps[207]? = some (.bool (decide (p < 0 ∨ C.cycle < r))) → Kq8 a' w6 by
      refine sm_list [1, 21] 198 10 hs hd (by kernel_rfl) (agC e1 (agC e21 agN)) rfl ?_
      simp only [seval]
      go_wp2_with fail
      all_goals
        intro a' H
        refine HK a' H.size H.defers ((H.got rfl rfl).trans e1.symm) (H.out 2 rfl) (H.out 5 rfl) (H.out 6 rfl) (H.out 7 rfl) (H.out 9 rfl) (H.out 14 rfl) (H.out 15 rfl) (H.out 16 rfl) (H.out 42 rfl) (H.out 43 rfl) (H.out 44 rfl) (H.out 162 rfl) (H.out 163 rfl) (H.out 164 rfl) (H.out 169 rfl) (H.out 170 rfl) (H.out 171 rfl) (H.out 17 rfl) (H.out 18 rfl) (H.out 19 rfl) (H.out 20 rfl) ((H.got rfl rfl).trans e21.symm) ?_
        · (refine (H.got (t := 207) rfl rfl).trans (congrArg some ?_); refine congrArg Value.bool ?_; first | exact (decide_eq_true (by omega)).symm | exact decide_eq_decide.2 (by omega) | (rw [Bool.eq_iff_iff]; simp only [Bool.or_eq_true, decide_eq_true_eq] <;> omega))
    intro a' g_s g_d g1 g2 g5 g6 g7 g9 g14 g15 g16 g42 g43 g44 g162 g163 g164 g169 g170 g171 g17 g18 g19 g20 g21 f207
    replace hs := g_s.trans hs; replace hd := g_d; replace e1 := g1.trans e1; replace e2 := g2.trans e2; replace e5 := g5.trans e5; replace e6 := g6.trans e6; replace e7 := g7.trans e7; replace e9 := g9.trans e9; replace e14 := g14.trans e14; replace e15 := g15.trans e15; replace e16 := g16.trans e16; replace e42 := g42.trans e42; replace e43 := g43.trans e43; replace e44 := g44.trans e44; replace e162 := g162.trans e162
    replace e163 := g163.trans e163; replace e164 := g164.trans e164; replace e169 := g169.trans e169; replace e170 := g170.trans e170; replace e171 := g171.trans e171; replace e17 := g17.trans e17; replace e18 := g18.trans e18; replace e19 := g19.trans e19; replace e20 := g20.trans e20; replace e21 := g21.trans e21; clear g_s g_d g1 g2 g5 g6 g7 g9 g14 g15 g16 g42 g43 g44 g162 g163 g164 g169 g170 g171 g17 g18 g19 g20 g21
    have e207 := f207
    clear f207; clear a
    obtain ⟨a, rfl⟩ : ∃ a, a = a' := ⟨_, rfl⟩
    refine hKq8 _ _ ?_; clear hKq8 Kq8; clear z3 x0 x1
    by_cases hbad : p < 0 ∨ C.cycle < r
    · rw [decide_eq_true hbad] at e207
      have HV := Lib.hid (HG.out.bad HX.out.1 HX.out.2.1 (by rw [← HPR.out.1, ← HPR.out.2]; exact hbad))
      clear hbad
      have B2x : Blk w6 g2 32 #[.int .i64 0, .slice none 0 0, .map none] := hfr6.low B2 ho4
      have HB2 := Lib.hid B2x
      have hlw := (hfr6.below HSZ.out).mono (Nat.le_of_lt (Nat.lt_of_le_of_lt ho2 ho4))
      clear B2x
      refine wp_cond_true (slotE e207) ?_
      clear e207; refine wp_seq_k fun Kq9 hKq9 => ?_
      refine sm_list [2, 3] 208 1 hs hd (by kernel_rfl) (agC e2 (agU agN)) rfl ?_
      simp only [seval]
      go_wp2_with (first | (refine wpList_store_part rfl 32 (.tmp 0) (.tmp 2) rfl (off := 0) rfl HB2.out rfl (by simp) (by kernel_rfl) (by rw [← Array.all_toList]; rfl) ?_; intro w7 B7 z7 gr7) | fail)
      intro a H; replace hs := H.s hs; replace hd := H.d rfl; replace e2 := H.g 2 rfl rfl; replace e1 := H.k e1 rfl; replace e5 := H.k e5 rfl; replace e6 := H.k e6 rfl; replace e7 := H.k e7 rfl; replace e9 := H.k e9 rfl; replace e14 := H.k e14 rfl; replace e15 := H.k e15 rfl; replace e16 := H.k e16 rfl; replace e42 := H.k e42 rfl; replace e43 := H.k e43 rfl; replace e44 := H.k e44 rfl; replace e162 := H.k e162 rfl; replace e163 := H.k e163 rfl; replace e164 := H.k e164 rfl; replace e169 := H.k e169 rfl; replace e170 := H.k e170 rfl; replace e171 := H.k e171 rfl; replace e17 := H.k e17 rfl; replace e18 := H.k e18 rfl; replace e19 := H.k e19 rfl; replace e20 := H.k e20 rfl; replace e21 := H.k e21 rfl
      have e3 := H.g 3 rfl rfl; clear H; refine hKq9 _ _ ?_; clear hKq9 Kq9; refine wp_ret ?_; refine exit_then rfl ?_; refine ret_block ?_; refine exit_then rfl ?_; refine exit_then rfl ?_; refine ret_block ?_
      have B7' : Blk w7 g2 32 #[.int .i64 0, .slice none 0 0, .map none] := by simpa [putAll] using B7
      have hlsz : L ≤ w6.heap.size := Nat.le_trans ho2 (Nat.le_of_lt HB2.out.lt)
      exact HEND.out.2 a w7 hs hd e2 e3 (hlw.grown gr7 hlsz (fun k hk => by cases hk; exact ho2)) B7' HV.out
    · rw [decide_eq_false hbad] at e207
      refine wp_cond_false (slotE e207) ?_
      clear e207; refine wp_skip ?_; refine hKq7 _ _ ?_; clear hKq7 Kq7; refine wp_seq_k fun Kq9 hKq9 => ?_
      have HBAD := Lib.hid hbad
      clear hbad
      have SMa : SpM (w6.alloc (.cells #[.int .i64 p, .int .i64 r] 93)) B0 gm m' fm' S' := SM6.keep ((Below.refl _ _).alloc (Nat.le_refl _) _)
      have BT : Blk (w6.alloc (.cells #[.int .i64 p, .int .i64 r] 93)) w6.heap.size 93 #[.int .i64 p, .int .i64 r] := Blk.new w6 _ _
      have hfra := hfr6.trans (FrH.be (gm := gm) (X := []) ((Below.refl _ _).alloc (Nat.le_refl _) (.cells #[.int .i64 p, .int .i64 r] 93)))
      have hgT : gm < w6.heap.size := Nat.lt_of_lt_of_le SM6.lt SM6.hz
      have HSMA := Lib.hid SMa
      have HBT := Lib.hid BT
      have HB20 := Lib.hid B20
      have HB21 := Lib.hid B21
      have hml := SMa.ml
      clear SMa BT B20 B21 SM6 BC6
      refine sm_list [7, 20, 21] 209 8 hs hd (by kernel_rfl) (agC e7 (agC e20 (agC e21 agN))) rfl ?_
      simp only [seval]
      go_wp2_with (first | (refine wpList_load_any_d rfl 61 (.tmp 1) rfl ⟨g20, 0, none⟩ rfl (#[.int .i64 x, .int .i64 y]) _ (blk_cells HB20.out) Try.underlying61 rfl (by kernel_rfl) ?_) | (refine wpList_load_any_d rfl 93 (.tmp 2) rfl ⟨g21, 0, none⟩ rfl (#[.int .i64 p, .int .i64 r]) _ (blk_cells HB21.out) Try.underlying93 rfl (by kernel_rfl) ?_) | (refine wpList_mapEntry_E rfl (.tmp 3) (.tmp 4) 86 rfl rfl HSMA.out.E endKey Try.underlying86 zero_spans (by unfold maxLen; omega) (x, y) rfl HX.out.2.2.2 ?_; intro st wb grb mid; obtain ⟨ss, hpm, own1⟩ := HSMA.out.entry grb (x, y); have hssl : ss.length ≤ 2016 := Nat.le_trans (Nat.le_of_eq hpm.length_eq) (Nat.le_trans (atEnd_len _ _) (by omega)); have HOW := Lib.hid own1; have HPM := Lib.hid hpm; have HMID := Lib.hid mid; have HGB := Lib.hid grb; have BTb := HBT.out.grown grb (by simp; omega); have HBTb := Lib.hid BTb; have hzb : B0 ≤ wb.heap.size := Nat.le_trans HSMA.out.hz grb.size; obtain ⟨v0, hv0⟩ : ∃ v0, v0 = (fm' (x, y)).getD (.slice none 0 0) := ⟨_, rfl⟩; rw [← hv0] at HOW; rw [← hv0]; have HV0 := Lib.hid hv0; clear hv0 own1 hpm mid grb BTb) | (at_builtin; refine wpList_pushAt 1 rfl (.tmp 5) (.tmp 7) 94 rfl sty_span HBTb.out rfl (by intro u hu; simp at hu; rcases hu with rfl | rfl <;> rfl) (v := v0) rfl HOW.out rfl (by omega) hzb ?_; intro v2 wc own2 gr2 mv2; have hgc : wc.heap[gm]? = wb.heap[gm]? := gr2.block gm (Nat.lt_of_lt_of_le HSMA.out.lt hzb) (fun e => by have := (ownsRow_lt HOW.out gm e.symm).1; have := HSMA.out.lt; omega); have HGC := Lib.hid hgc; have HO2 := Lib.hid own2; have HG2 := Lib.hid gr2; have HMV := Lib.hid mv2; clear hgc own2 gr2 mv2) | (refine wpList_entryStore_E rfl (.tmp 3) (.tmp 10) (.tmp 9) 86 rfl rfl HMID.out HGC.out rfl v2 rfl ?_; intro wd hE3 gr3; have HE3 := Lib.hid hE3; have HG3 := Lib.hid gr3; clear hE3 gr3) | fail)
      intro a H; replace hs := H.s hs; replace hd := H.d rfl; replace e7 := H.g 7 rfl rfl; replace e20 := H.g 20 rfl rfl; replace e21 := H.g 21 rfl rfl; replace e1 := H.k e1 rfl; replace e2 := H.k e2 rfl; replace e5 := H.k e5 rfl; replace e6 := H.k e6 rfl; replace e9 := H.k e9 rfl; replace e14 := H.k e14 rfl; replace e15 := H.k e15 rfl; replace e16 := H.k e16 rfl; replace e42 := H.k e42 rfl; replace e43 := H.k e43 rfl; replace e44 := H.k e44 rfl; replace e162 := H.k e162 rfl; replace e163 := H.k e163 rfl; replace e164 := H.k e164 rfl; replace e169 := H.k e169 rfl; replace e170 := H.k e170 rfl; replace e171 := H.k e171 rfl; replace e17 := H.k e17 rfl; replace e18 := H.k e18 rfl; replace e19 := H.k e19 rfl
      clear H; refine hKq9 _ _ ?_; clear hKq9 Kq9; refine wp_seq_k fun Kq10 hKq10 => ?_
      obtain ⟨SM7, hf7⟩ := HSMA.out.push (p := (x, y)) (e := (p, r)) (m' := if (fm' (x, y)).isSome then m' else m' + 1) HGB.out HPM.out (by rw [← HV0.out]; exact HOW.out) HO2.out (by rw [← HV0.out]; exact HG2.out) (by rw [← HV0.out]; exact HMV.out) HE3.out (by split <;> omega) HG3.out
      have hfr7 := hfra.trans hf7
      have hml7 := SM7.ml
      generalize (if (fm' (x, y)).isSome then m' else m' + 1) = m7 at *
      generalize upd fm' (x, y) v2 = fm7 at *
      clear hf7 hfra HSMA HGB HPM HOW HO2 HG2 HMV HE3 HG3 HMID HBTb HBT HB20 HB21 HGC HV0 hzb hgT hml hssl; clear e20; clear e21
      have BF7 : Blk wd g9 74 (fwc f sl).toArray := hfr7.blk BF (by decide) (by omega) (by simp)
      have BC7 : Blk wd g1 26 (cfc C Y) := hfr7.low BC ho3
      have hlw7 := hfr7.below HSZ.out
      obtain ⟨bd, hD, hbdb, hcd⟩ := reads_at lkc_len (hC.links.below (hlw7.mono (Nat.le_of_lt (Nat.lt_of_le_of_lt ho1 ho3)))) HX.out.2.2.1 hiN
      obtain ⟨ad2, u, hA2, hadb2, hu, hc2⟩ := (hk.below (hlw7.mono (Nat.le_of_lt (Nat.lt_of_le_of_lt ho1 ho3)))).at_ (k := k) (by omega)
      obtain ⟨kk, hkk, rfl⟩ := getElem?_map_some hu
      have hkk2 : kk = (i : Int) := by have h1 := HX.out.2.1; rw [hkk] at h1; exact Option.some.inj h1
      subst hkk2
      clear hkk hu
      have zg9 : g9 < wd.heap.size := BF7.lt
      have zg1 : g1 < wd.heap.size := BC7.lt
      have hLz : L ≤ wd.heap.size := by omega
      have hlink : ∀ w', Below wd.heap.size wd w' → ∀ j v, (lkc l).toArray.toList[j]? = some v → w'.cell? ((bd.add (i * 6)).add j) = some v := fun w' hw' j v hv => (hw'.cell (p := (bd.add (i * 6)).add j) (by rw [add_blk, add_blk]; omega)).trans (hcd j v (by simpa using hv))
      have hway : ∀ w', Below wd.heap.size wd w' → w'.cell? (ad2.add k) = some (.int .i64 (i : Int)) := fun w' hw' => (hw'.cell (p := ad2.add k) (by rw [add_blk]; omega)).trans hc2
      have hw0 : ∀ w', Below wd.heap.size wd w' → w'.cell? ⟨g1, 1, none⟩ = some (.slice (some bd) C.links.length Y.L.c) := fun w' hw' => by rw [← hD]; exact (BC7.below hw' zg1).cellOf 1 rfl
      have hw2 : ∀ w', Below wd.heap.size wd w' → w'.cell? ⟨g9, 2 + q, none⟩ = some (.slice (some ad2) ks.length c2) := fun w' hw' => by rw [← hA2]; exact (BF7.below hw' zg9).cellOf (2 + q) HCELL.out
      have HALL := Lib.hid (And.intro hlink (And.intro hway (And.intro hw0 hw2)))
      have hik : (k : Int) < (ks.length : Int) := by omega
      have hk0 : (0 : Int) ≤ (k : Int) := by omega
      have hi0 : (0 : Int) ≤ (i : Int) := by omega
      have hiM : (i : Int) < (C.links.length : Int) := by omega
      have hq0 : (0 : Int) ≤ (q : Int) := by omega
      have hq1 : (q : Int) < 2 := by omega
      clear hlink hway hw0 hw2 hcd hc2 hA2 hD
      suffices HK : ∀ (a' : Act) (w8 : World), a'.tmps.size = a.tmps.size → a'.defers = [] → a'.tmps[1]? = a.tmps[1]? → a'.tmps[2]? = a.tmps[2]? → a'.tmps[5]? = a.tmps[5]? → a'.tmps[6]? = a.tmps[6]? → a'.tmps[7]? = a.tmps[7]? → a'.tmps[9]? = a.tmps[9]? → a'.tmps[14]? = a.tmps[14]? → a'.tmps[15]? = a.tmps[15]? → a'.tmps[16]? = a.tmps[16]? → a'.tmps[42]? = a.tmps[42]? → a'.tmps[43]? = a.tmps[43]? → a'.tmps[44]? = a.tmps[44]? → a'.tmps[162]? = a.tmps[162]? → a'.tmps[163]? = a.tmps[163]? → a'.tmps[164]? = a.tmps[164]? → a'.tmps[169]? = a.tmps[169]? → a'.tmps[170]? = a.tmps[170]? → a'.tmps[171]? = a.tmps[171]? → a'.tmps[17]? = a.tmps[17]? → a'.tmps[18]? = a.tmps[18]? → a'.tmps[19]? = a.tmps[19]? → a'.tmps[22]? = some (.pointer (some ⟨wd.heap.size, 0, none⟩)) → Blk w8 wd.heap.size 80 (lkc l).toArray → Below wd.heap.size wd w8 → Kq10 a' w8 by
        refine sm_any [1, 9, 15, 19, 22] 217 11 (by kernel_rfl) hs hd (by kernel_rfl) (agC e1 (agC e9 (agC e15 (agC e19 (agU agN))))) rfl (any_script [(0, true), (1, true), (2, true), (3, true), (4, true), (5, true), (6, true), (7, true), (8, true), (9, true), (10, true), (11, false), (12, false)] (fun w' => Below wd.heap.size wd w') (by kernel_rfl) (fun _ _ _ _ _ h => h) ((Below.refl _ _).drew) ?_)
        simp only [seval]
        have LA : ∀ j : Nat, True := fun _ => trivial
        clear LA
        obtain ⟨we, hwe⟩ : ∃ we, we = wd.drew := ⟨_, rfl⟩
        have hLe : Below wd.heap.size wd we := by rw [hwe]; exact (Below.refl _ _).drew
        have hze : we.heap.size = wd.heap.size := by rw [hwe]; rfl
        rw [← hwe]
        have HWE := Lib.hid hwe
        clear hwe
        repeat (first | (refine script_take (v := .agg ((lkc l).toArray)) rfl ?_ (fun w' hw' => run_load_cells_d 80 (.tmp 14) rfl (bd.add (i * 6)) rfl ((lkc l).toArray) (HALL.out.1 w' hw') Try.underlying80 rfl (by kernel_rfl)) ?_; (first | exact wanted_none rfl | exact wanted_on rfl rfl rfl); simp only [Act.put, List.setIfInBounds_toArray, List.set_cons_zero, List.set_cons_succ]) | (with_reducible (refine script_take (v := ?_) rfl ?_ ?_ ?_); rotate_left; (first | exact wanted_none rfl | exact wanted_on rfl rfl rfl); (rintro w' hw'; have q1 := HALL.out.2.1 w' hw'; have q2 := HALL.out.2.2.1 w' hw'; have q3 := HALL.out.2.2.2 w' hw'; go_simp; with_reducible rfl); simp only [Act.put, List.setIfInBounds_toArray, List.set_cons_zero, List.set_cons_succ]))
        have hLf : Below wd.heap.size wd (we.alloc (.cells (lkc l).toArray 80)) := hLe.alloc (Nat.le_of_eq hze.symm) _
        have hLz0 : Below wd.heap.size wd (we.alloc (.cells #[.int .i64 0, .int .i64 0, .int .i64 0, .int .i64 0, .int .i64 0, .int .i64 0] 80)) := hLe.alloc (Nat.le_of_eq hze.symm) _
        (refine script_run (v := ?_) (w' := ?_) rfl ?_ ?_ ?_ ?_; rotate_left 2; (first | rfl | (go_simp; done)); (go_simp; refine ⟨?_, ?_⟩ <;> with_reducible rfl); (exact hLz0); simp only [Act.put, List.setIfInBounds_toArray, List.set_cons_zero, List.set_cons_succ])
        refine script_store_new rfl rfl 80 (.tmp 4) (.tmp 15) rfl rfl hze.symm rfl rfl (by kernel_rfl) (by rw [← Array.all_toList]; rfl) ⟨hLf, ?_⟩
        simp only [Act.put, List.setIfInBounds_toArray, List.set_cons_zero, List.set_cons_succ]
        refine script_nil ?_
        all_goals
          intro a' H
          refine HK a' _ H.size H.defers ((H.got rfl rfl).trans e1.symm) (H.out 2 rfl) (H.out 5 rfl) (H.out 6 rfl) (H.out 7 rfl) ((H.got rfl rfl).trans e9.symm) (H.out 14 rfl) ((H.got rfl rfl).trans e15.symm) (H.out 16 rfl) (H.out 42 rfl) (H.out 43 rfl) (H.out 44 rfl) (H.out 162 rfl) (H.out 163 rfl) (H.out 164 rfl) (H.out 169 rfl) (H.out 170 rfl) (H.out 171 rfl) (H.out 17 rfl) (H.out 18 rfl) ((H.got rfl rfl).trans e19.symm) ?_ ?_ ?_
          · (refine (H.got (t := 22) rfl rfl).trans (congrArg some ?_); simp [hze])
          · exact Blk.at_new _ _ _ hze.symm
          · exact hLf
      intro a' w8 g_s g_d g1 g2 g5 g6 g7 g9 g14 g15 g16 g42 g43 g44 g162 g163 g164 g169 g170 g171 g17 g18 g19 f22 B22 b8
      replace hs := g_s.trans hs; replace hd := g_d; replace e1 := g1.trans e1; replace e2 := g2.trans e2; replace e5 := g5.trans e5; replace e6 := g6.trans e6; replace e7 := g7.trans e7; replace e9 := g9.trans e9; replace e14 := g14.trans e14; replace e15 := g15.trans e15; replace e16 := g16.trans e16; replace e42 := g42.trans e42; replace e43 := g43.trans e43; replace e44 := g44.trans e44; replace e162 := g162.trans e162
      replace e163 := g163.trans e163; replace e164 := g164.trans e164; replace e169 := g169.trans e169; replace e170 := g170.trans e170; replace e171 := g171.trans e171; replace e17 := g17.trans e17; replace e18 := g18.trans e18; replace e19 := g19.trans e19; clear g_s g_d g1 g2 g5 g6 g7 g9 g14 g15 g16 g42 g43 g44 g162 g163 g164 g169 g170 g171 g17 g18 g19
      have e22 := f22
      clear f22; clear a
      obtain ⟨a, rfl⟩ : ∃ a, a = a' := ⟨_, rfl⟩
      refine hKq10 _ _ ?_; clear hKq10 Kq10; refine wp_seq_k fun Kq11 hKq11 => ?_
      have SM8 := SM7.keep b8
      have hfr8 := hfr7.trans (FrH.be (gm := gm) (X := []) b8)
      have BF8 := BF7.kept b8
      have BC8 := BC7.kept b8
      obtain ⟨g22, hg22⟩ : ∃ g, g = wd.heap.size := ⟨_, rfl⟩
      rw [← hg22] at B22 e22
      clear hg22 b8 SM7 hfr7 BF7 BC7 HALL hlw7 zg9 zg1
      have y5 := BF8.cellOf (v := .int .i64 f.size) 6 rfl
      have x1 := B22.cellOf (v := .int .i64 l.lo) 4 rfl
      have x2 := B22.cellOf (v := .int .i64 l.hi) 5 rfl
      have z7 := BC8.cellOf (v := .int .i64 C.proc) 7 rfl
      refine sm_list [9, 17, 22] 228 8 hs hd (by kernel_rfl) (agC e9 (agC e17 (agC e22 agN))) rfl ?_
      simp only [seval]
      go_wp2_with fail
      intro a H; replace hs := H.s hs; replace hd := H.d rfl; replace e9 := H.g 9 rfl rfl; replace e22 := H.g 22 rfl rfl; replace e1 := H.k e1 rfl; replace e2 := H.k e2 rfl; replace e5 := H.k e5 rfl; replace e6 := H.k e6 rfl; replace e7 := H.k e7 rfl; replace e14 := H.k e14 rfl; replace e15 := H.k e15 rfl; replace e16 := H.k e16 rfl; replace e42 := H.k e42 rfl; replace e43 := H.k e43 rfl; replace e44 := H.k e44 rfl; replace e162 := H.k e162 rfl; replace e163 := H.k e163 rfl; replace e164 := H.k e164 rfl; replace e169 := H.k e169 rfl; replace e170 := H.k e170 rfl; replace e171 := H.k e171 rfl; replace e18 := H.k e18 rfl; replace e19 := H.k e19 rfl
      replace e17 := H.g 17 rfl rfl; clear H; refine hKq11 _ _ ?_; clear hKq11 Kq11; refine wp_seq_k fun Kq12 hKq12 => ?_
      obtain ⟨lo1, hlo1⟩ : ∃ z, z = low + (8 * f.size + l.lo) := ⟨_, rfl⟩
      rw [← hlo1] at e17
      have hlo2 : 0 ≤ lo1 ∧ lo1 ≤ 4000000 * (k : Int) + 2000000 := by omega
      have HL1 := Lib.hid hlo1
      clear hlo1
      refine sm_list [9, 18, 22] 236 8 hs hd (by kernel_rfl) (agC e9 (agC e18 (agC e22 agN))) rfl ?_
      simp only [seval]
      go_wp2_with fail
      intro a H; replace hs := H.s hs; replace hd := H.d rfl; replace e9 := H.g 9 rfl rfl; replace e22 := H.g 22 rfl rfl; replace e1 := H.k e1 rfl; replace e2 := H.k e2 rfl; replace e5 := H.k e5 rfl; replace e6 := H.k e6 rfl; replace e7 := H.k e7 rfl; replace e14 := H.k e14 rfl; replace e15 := H.k e15 rfl; replace e16 := H.k e16 rfl; replace e42 := H.k e42 rfl; replace e43 := H.k e43 rfl; replace e44 := H.k e44 rfl; replace e162 := H.k e162 rfl; replace e163 := H.k e163 rfl; replace e164 := H.k e164 rfl; replace e169 := H.k e169 rfl; replace e170 := H.k e170 rfl; replace e171 := H.k e171 rfl; replace e19 := H.k e19 rfl; replace e17 := H.k e17 rfl
      replace e18 := H.g 18 rfl rfl; clear H; refine hKq12 _ _ ?_; clear hKq12 Kq12; refine wp_seq_k fun Kq13 hKq13 => ?_
      obtain ⟨hi1, hhi1⟩ : ∃ z, z = high + (8 * f.size + l.hi) := ⟨_, rfl⟩
      rw [← hhi1] at e18
      have hhi2 : 0 ≤ hi1 ∧ hi1 ≤ 4000000 * (k : Int) + 2000000 := by omega
      have HI1 := Lib.hid hhi1
      clear hhi1 x1 x2 y5; clear e22
      by_cases hkn1 : k + 1 < n
      · have dk : decide ((k : Int) < (n : Int) - 1) = true := decide_eq_true (by omega)
        refine sm_list [16, 19] 244 5 hs hd (by kernel_rfl) (agC e16 (agC e19 agN)) rfl ?_
        simp only [seval]
        go_wp2_with fail
        intro a H; replace hs := H.s hs; replace hd := H.d rfl; replace e16 := H.g 16 rfl rfl; replace e19 := H.g 19 rfl rfl; replace e1 := H.k e1 rfl; replace e2 := H.k e2 rfl; replace e5 := H.k e5 rfl; replace e6 := H.k e6 rfl; replace e7 := H.k e7 rfl; replace e9 := H.k e9 rfl; replace e14 := H.k e14 rfl; replace e15 := H.k e15 rfl; replace e42 := H.k e42 rfl; replace e43 := H.k e43 rfl; replace e44 := H.k e44 rfl; replace e162 := H.k e162 rfl; replace e163 := H.k e163 rfl; replace e164 := H.k e164 rfl; replace e169 := H.k e169 rfl; replace e170 := H.k e170 rfl; replace e171 := H.k e171 rfl; replace e17 := H.k e17 rfl; replace e18 := H.k e18 rfl
        have e248 := H.g 248 rfl rfl; clear H; refine hKq13 _ _ ?_; clear hKq13 Kq13
        refine wp_cond_true (slotE e248) ?_
        clear e248; refine wp_seq_k fun Kq14 hKq14 => ?_
        refine sm_list [1, 17] 249 4 hs hd (by kernel_rfl) (agC e1 (agC e17 agN)) rfl ?_
        simp only [seval]
        go_wp2_with fail
        intro a H; replace hs := H.s hs; replace hd := H.d rfl; replace e1 := H.g 1 rfl rfl; replace e2 := H.k e2 rfl; replace e5 := H.k e5 rfl; replace e6 := H.k e6 rfl; replace e7 := H.k e7 rfl; replace e9 := H.k e9 rfl; replace e14 := H.k e14 rfl; replace e15 := H.k e15 rfl; replace e16 := H.k e16 rfl; replace e42 := H.k e42 rfl; replace e43 := H.k e43 rfl; replace e44 := H.k e44 rfl; replace e162 := H.k e162 rfl; replace e163 := H.k e163 rfl; replace e164 := H.k e164 rfl; replace e169 := H.k e169 rfl; replace e170 := H.k e170 rfl; replace e171 := H.k e171 rfl; replace e19 := H.k e19 rfl; replace e18 := H.k e18 rfl
        replace e17 := H.g 17 rfl rfl; clear H; refine hKq14 _ _ ?_; clear hKq14 Kq14
        refine sm_list [1, 18] 253 4 hs hd (by kernel_rfl) (agC e1 (agC e18 agN)) rfl ?_
        simp only [seval]
        go_wp2_with fail
        intro a H; replace hs := H.s hs; replace hd := H.d rfl; replace e1 := H.g 1 rfl rfl; replace e2 := H.k e2 rfl; replace e5 := H.k e5 rfl; replace e6 := H.k e6 rfl; replace e7 := H.k e7 rfl; replace e9 := H.k e9 rfl; replace e14 := H.k e14 rfl; replace e15 := H.k e15 rfl; replace e16 := H.k e16 rfl; replace e42 := H.k e42 rfl; replace e43 := H.k e43 rfl; replace e44 := H.k e44 rfl; replace e162 := H.k e162 rfl; replace e163 := H.k e163 rfl; replace e164 := H.k e164 rfl; replace e169 := H.k e169 rfl; replace e170 := H.k e170 rfl; replace e171 := H.k e171 rfl; replace e19 := H.k e19 rfl; replace e17 := H.k e17 rfl
        replace e18 := H.g 18 rfl rfl; clear H; refine hKq4 _ _ ?_; clear hKq4 Kq4
        refine sm_list [171] 257 1 hs hd (by kernel_rfl) (agC e171 agN) rfl ?_
        simp only [seval]
        go_wp2_with fail
        intro a H; replace hs := H.s hs; replace hd := H.d rfl; replace e1 := H.k e1 rfl; replace e2 := H.k e2 rfl; replace e5 := H.k e5 rfl; replace e6 := H.k e6 rfl; replace e7 := H.k e7 rfl; replace e9 := H.k e9 rfl; replace e14 := H.k e14 rfl; replace e15 := H.k e15 rfl; replace e16 := H.k e16 rfl; replace e42 := H.k e42 rfl; replace e43 := H.k e43 rfl; replace e44 := H.k e44 rfl; replace e162 := H.k e162 rfl; replace e163 := H.k e163 rfl; replace e164 := H.k e164 rfl; replace e169 := H.k e169 rfl; replace e170 := H.k e170 rfl; replace e19 := H.k e19 rfl; replace e17 := H.k e17 rfl; replace e18 := H.k e18 rfl
        replace e171 := H.g 171 rfl rfl; clear H
        have hst := HG.out.step HX.out.1 HX.out.2.1 (by rw [← HPR.out.1, ← HPR.out.2]; exact HBAD.out) (by rw [Int.toNat_natCast]; exact HX.out.2.2.1) (lo1 + C.proc) (hi1 + C.proc) (by rw [HL1.out, if_pos hkn1]) (by rw [HI1.out, if_pos hkn1])
        rw [← HPR.out.1, ← HPR.out.2] at hst
        exact ⟨⟨k + 1, _, _, m7, fm7, _, by omega, by simp; omega, by omega, by omega, hs, hd, e1, e2, e5, e6, e7, e9, e14, e15, e16, e42, e43, e44, e162, e163, e164, e169, e170, e171, e17, e18, hfr8, SM8, hst⟩, by first | (simp only [hm, slot e171, intOf]; omega) | (simp [e171, intOf]; omega)⟩
      · have dk : decide ((k : Int) < (n : Int) - 1) = false := decide_eq_false (by omega)
        refine sm_list [16, 19] 244 5 hs hd (by kernel_rfl) (agC e16 (agC e19 agN)) rfl ?_
        simp only [seval]
        go_wp2_with fail
        intro a H; replace hs := H.s hs; replace hd := H.d rfl; replace e16 := H.g 16 rfl rfl; replace e19 := H.g 19 rfl rfl; replace e1 := H.k e1 rfl; replace e2 := H.k e2 rfl; replace e5 := H.k e5 rfl; replace e6 := H.k e6 rfl; replace e7 := H.k e7 rfl; replace e9 := H.k e9 rfl; replace e14 := H.k e14 rfl; replace e15 := H.k e15 rfl; replace e42 := H.k e42 rfl; replace e43 := H.k e43 rfl; replace e44 := H.k e44 rfl; replace e162 := H.k e162 rfl; replace e163 := H.k e163 rfl; replace e164 := H.k e164 rfl; replace e169 := H.k e169 rfl; replace e170 := H.k e170 rfl; replace e171 := H.k e171 rfl; replace e17 := H.k e17 rfl; replace e18 := H.k e18 rfl
        have e248 := H.g 248 rfl rfl; clear H; refine hKq13 _ _ ?_; clear hKq13 Kq13
        refine wp_cond_false (slotE e248) ?_
        clear e248; refine wp_skip ?_; refine hKq4 _ _ ?_; clear hKq4 Kq4
        refine sm_list [171] 257 1 hs hd (by kernel_rfl) (agC e171 agN) rfl ?_
        simp only [seval]
        go_wp2_with fail
        intro a H; replace hs := H.s hs; replace hd := H.d rfl; replace e1 := H.k e1 rfl; replace e2 := H.k e2 rfl; replace e5 := H.k e5 rfl; replace e6 := H.k e6 rfl; replace e7 := H.k e7 rfl; replace e9 := H.k e9 rfl; replace e14 := H.k e14 rfl; replace e15 := H.k e15 rfl; replace e16 := H.k e16 rfl; replace e42 := H.k e42 rfl; replace e43 := H.k e43 rfl; replace e44 := H.k e44 rfl; replace e162 := H.k e162 rfl; replace e163 := H.k e163 rfl; replace e164 := H.k e164 rfl; replace e169 := H.k e169 rfl; replace e170 := H.k e170 rfl; replace e19 := H.k e19 rfl; replace e17 := H.k e17 rfl; replace e18 := H.k e18 rfl
        replace e171 := H.g 171 rfl rfl; clear H
        have hst := HG.out.step HX.out.1 HX.out.2.1 (by rw [← HPR.out.1, ← HPR.out.2]; exact HBAD.out) (by rw [Int.toNat_natCast]; exact HX.out.2.2.1) lo1 hi1 (by rw [HL1.out, if_neg hkn1, Int.add_zero]) (by rw [HI1.out, if_neg hkn1, Int.add_zero])
        rw [← HPR.out.1, ← HPR.out.2] at hst
        exact ⟨⟨k + 1, _, _, m7, fm7, _, by omega, by simp; omega, by omega, by omega, hs, hd, e1, e2, e5, e6, e7, e9, e14, e15, e16, e42, e43, e44, e162, e163, e164, e169, e170, e171, e17, e18, hfr8, SM8, hst⟩, by first | (simp only [hm, slot e171, intOf]; omega) | (simp [e171, intOf]; omega)⟩
  · obtain rfl : k = n := by omega
    have dj : decide ((k : Int) < (k : Int)) = false := decide_eq_false (by omega)
    clear hlt hm
    have HV := Lib.hid (HG.out.done (Nat.le_of_eq HEL.out))
    refine sm_list [170, 171] 172 1 hs hd (by kernel_rfl) (agC e170 (agC e171 agN)) rfl ?_
    simp only [seval]
    go_wp2_with fail
    intro a H; replace hs := H.s hs; replace hd := H.d rfl; replace e170 := H.g 170 rfl rfl; replace e171 := H.g 171 rfl rfl; replace e1 := H.k e1 rfl; replace e2 := H.k e2 rfl; replace e5 := H.k e5 rfl; replace e6 := H.k e6 rfl; replace e7 := H.k e7 rfl; replace e9 := H.k e9 rfl; replace e14 := H.k e14 rfl; replace e15 := H.k e15 rfl; replace e16 := H.k e16 rfl; replace e42 := H.k e42 rfl; replace e43 := H.k e43 rfl; replace e44 := H.k e44 rfl; replace e162 := H.k e162 rfl; replace e163 := H.k e163 rfl; replace e164 := H.k e164 rfl; replace e169 := H.k e169 rfl; replace e17 := H.k e17 rfl; replace e18 := H.k e18 rfl
    have e172 := H.g 172 rfl rfl; clear H; refine hKq2 _ _ ?_; clear hKq2 Kq2; refine wp_seq_k fun Kq3 hKq3 => ?_
    refine wp_cond_false (slotE e172) ?_
    clear e172; refine wp_exit ?_; refine exit_then rfl ?_; clear hKq3 Kq3; refine exit_then rfl ?_; refine exit_hit ?_
    exact HEND.out.1 a w3 m' fm' S' low high hs hd e1 e2 e5 e6 e7 e9 e14 e42 e43 e44 e162 e163 e164 e17 e18 hfr SM hsl (by omega) (by omega) HV.out
end Go.Proofs.Ytaegngcbiefckaa
