/-
  Layer 7: turns copied, and put to nought behind the clock's back.
-/
import Derived.Test.YtfpbahihndgabaaOscU
namespace Go.Proofs.Ytfpbahihndgabaa
set_option linter.unusedSimpArgs false
set_option linter.unusedVariables false
open Go.RowKit Go.WideShapes Go.ChangeShapes

section
variable {P : Program}
theorem run_append_none (w : World) (t ty e : TypeId) (i : TypeInfo) (ht : P.underlying t = some (.slice e)) (hi : P.info? e = some i) (base : Option Addr) (sLen sCap : Nat) (hle : sLen ≤ sCap) (p : Option Addr) (c : Nat) :
    (Builtin.append_ #[t, t] ty #[.slice base sLen sCap, .slice p 0 c]).run P w = .ok (.slice base sLen sCap) w := by
  cases base <;> cases p <;> simp [Builtin.append_, run_underlying ht, sizeOf, typeInfo, hi, Builtin.lenOf, Builtin.firstCells, loadCells, loadCellsFrom, storeCells, hle]
/-- An append of all elements of a slice, wherever they lie. -/
theorem wpList_pushR {ops : Array Oper} {rest : List Oper} {o : Oper} {a : Act} {Q : Exit → Act → World → Prop} (hgd : o.guard = none) (s x : Operand) (t : TypeId)
    (ho : o.op = .call { callee := .builtin .append, args := #[s, x], argTypes := #[t, t] })
    {e : TypeId} {size bytes : Nat} (hty : SliceTy P t e size bytes) {w : World} {A : Option Addr} {q c B : Nat} {news : List Value} (hx : a.eval x = .slice A q c) (hr : Reads w B size A q news) (h1 : ∀ u ∈ news, u.oneCell' = true)
    {base : Nat} {v : Value} {n : Nat} {xs : List Value} (hs : a.eval s = v) (hown : w.ownsRow base e size v n xs)
    (hbytes : (n + q) * bytes ≤ 140737488355328) (hbase : base ≤ w.heap.size)
    (h : ∀ v' w', w'.ownsRow base e size v' (n + q) (xs ++ news) → w.grownBy w' v.ownBlock → wpList P ops Q rest (a.put o.dst v') w') : wpList P ops Q (o :: rest) a w := by
  obtain ⟨ht, j, z, hi, hz, hsz, hby, hzs, hp, hq⟩ := hty
  have hbn : n + q ≤ 140737488355328 := Nat.le_trans (Nat.le_mul_of_pos_right _ hq) hbytes
  rcases Nat.eq_zero_or_pos q with h0 | h0
  · subst h0
    have hn : news = [] := List.eq_nil_of_length_eq_zero (by rw [hr.1, Nat.zero_mul])
    subst hn
    have hrun : ∀ ty, (Builtin.append_ #[t, t] ty #[v, .slice A 0 c]).run P w = .ok v w := fun ty => by
      rcases hown.2 with ⟨rfl, rfl⟩ | ⟨g, cap, cur, rfl, _, _, hle, _⟩
      · exact run_append_none w t ty e j ht hi none 0 0 (Nat.le_refl _) A c
      · exact run_append_none w t ty e j ht hi _ n cap hle A c
    refine wpList_plain hgd fun K hK => ?_
    unfold Oper.wp execOp
    simp only [ho, resolve, invoke, builtin, Sem.run_bind, Sem.run_pure, Result.andThen_ok, List.map_toArray, List.map_cons, List.map_nil, hs, hx, hrun]
    exact hK _ _ (h v w (by simpa using hown) (grownBy_refl w _))
  · obtain ⟨ad, rfl, _, hc⟩ := hr.2 h0
    obtain ⟨v', w', hrun, h2, h3, _, _⟩ := run_append_own_at (P := P) w base t o.type e j z size bytes ht hi hz hsz hby hzs hp v n xs hown ad q c news hr.1 hc h1 (by simp only [maxLen]; omega) hbytes hbase
    refine wpList_plain hgd fun K hK => ?_
    unfold Oper.wp execOp
    simp only [ho, resolve, invoke, builtin, Sem.run_bind, Sem.run_pure, Result.andThen_ok, List.map_toArray, List.map_cons, List.map_nil, hs, hx, hrun]
    exact hK _ _ (h v' w' h2 h3)
end
theorem xs1_len (tA tR : Nat → Int) : ∀ n, (xs1 tA tR n).length = n * 2
  | 0 => rfl
  | n + 1 => by rw [xs1_succ, List.length_append, xs1_len tA tR n]; simp; omega
theorem xs1_at (tA tR : Nat → Int) {n k : Nat} (hk : k < n) {j : Nat} (hj : j < 2) : (xs1 tA tR n)[k * 2 + j]? = (tcv tA tR k)[j]? :=
  flatMap_get (f := tcv tA tR) (size := 2) (fun _ => rfl) (show (List.range n)[k]? = some k by rw [List.getElem?_range hk]) j hj
theorem tin_reads {w : World} {A : Option Addr} {n : Nat} {tA tR : Nat → Int} (h : TIn w A n tA tR) : Reads w w.heap.size 2 A n (xs1 tA tR n) := by
  refine ⟨xs1_len tA tR n, fun h0 => ?_⟩
  obtain ⟨ad, e, hb, hc⟩ := h h0
  refine ⟨ad, e, hb, fun i u hu => ?_⟩
  have hi : i < n * 2 := by
    have := (List.getElem?_eq_some_iff.1 hu).1
    rw [xs1_len] at this; exact this
  obtain ⟨k, j, hj, rfl⟩ : ∃ k j, j < 2 ∧ i = k * 2 + j := ⟨i / 2, i % 2, by omega, by omega⟩
  rw [xs1_at tA tR (by omega) hj] at hu
  have := hc k (by omega) j u hu
  rw [add_of_add] at this
  exact this
theorem reads_tin {w : World} {B : Nat} {A : Option Addr} {n : Nat} {tA tR : Nat → Int} (h : Reads w B 2 A n (xs1 tA tR n)) (hB : B ≤ w.heap.size) : TIn w A n tA tR := fun h0 => by
  obtain ⟨ad, e, hb, hc⟩ := h.2 h0
  refine ⟨ad, e, by omega, fun k hk j v hv => ?_⟩
  have hj : j < 2 := by
    have := (List.getElem?_eq_some_iff.1 hv).1
    simpa [tcv] using this
  rw [add_of_add]
  exact hc _ _ (by rw [xs1_at tA tR hk hj]; exact hv)
theorem xs1_one (tA tR : Nat → Int) (n : Nat) : ∀ u ∈ xs1 tA tR n, u.oneCell' = true := by
  intro u hu
  unfold xs1 at hu
  obtain ⟨k, _, hk⟩ := List.mem_flatMap.1 hu
  simp [tcv] at hk
  rcases hk with rfl | rfl <;> rfl
theorem blk_cells {w : World} {g : Nat} {t : TypeId} {cs : Array Value} (h : Blk w g t cs) (j : Nat) (v : Value) (hv : cs.toList[j]? = some v) : w.cell? ((⟨g, 0, none⟩ : Addr).add j) = some v := by
  rw [show (⟨g, 0, none⟩ : Addr).add j = ⟨g, j, none⟩ from by by_cases hj : j = 0 <;> simp [Addr.add, hj], h.cell]
  simpa using hv
/-- A clock whose rows lie in blocks of its own, and a block apart. -/
theorem ClkB.kept {w w' : World} {B g n r : Nat} {tA tR bs : Nat → Int} {gr : Int} (h : ClkB B w g n tA tR bs gr) (hr : r < B) (hg : g ≠ r) (hk : w.grownBy w' (some r)) : Clk w' g n tA tR bs gr := by
  obtain ⟨g1, c1, g2, c2, k1, k2, C⟩ := h
  have cell : ∀ b o, B ≤ b → b < w.heap.size → w'.cell? ⟨b, o, none⟩ = w.cell? ⟨b, o, none⟩ := fun b o hb hlt => by
    have := hk.block b hlt (by simp; omega)
    simp [World.cell?, this]
  exact ⟨g1, c1, g2, c2, C.box.grown hk (by simpa using hg), C.h1, C.h2, Nat.lt_of_lt_of_le C.l1 hk.size, Nat.lt_of_lt_of_le C.l2 hk.size,
    fun k hk' => (cell _ _ k1 C.l1).trans (C.a0 k hk'), fun k hk' => (cell _ _ k1 C.l1).trans (C.a1 k hk'), fun k hk' => (cell _ _ k2 C.l2).trans (C.b0 k hk')⟩
set_option maxRecDepth 100000 in
set_option maxHeartbeats 4000000 in
theorem oscTells_calls (S gr : Int) (A : Option Addr) (n c : Nat) (tA tR : Nat → Int) (A4 : Option Addr) (m c4 : Nat) (ts : List Value) (f : Nat → Int) (w : World) (hT : TIn w A n tA tR) (hnc : n ≤ c) (hr : Reads w w.heap.size 1 A4 m ts) (hf : ∀ i, i < m → ts[i]? = some (.int .i64 (f i))) :
    Calls Try.prog 7 #[.int .i64 S, .int .i64 gr, .slice A n c, .slice A4 m c4] w fun e w' => e = .returned (.bool true) ∧ Below w.heap.size w w' := by
  have HT := Lib.hid hT
  have HF := Lib.hid (And.intro hr hf)
  clear hT hr hf
  by_cases hn : 100 < n
  · have dn : (100 : Int) < (n : Int) := by omega
    clear hn
    go_enter Try.func7, Try.ntmps7
    go_wp2_with fail
    refine (head_any _).mono ?_
    rintro e w1 ⟨rfl, b1⟩
    go_wp2_with fail
    go_ret
    exact ⟨rfl, b1⟩
  have dn : decide ((100 : Int) < (n : Int)) = false := by simp; omega
  by_cases hm : 40 < m
  · have dm : (40 : Int) < (m : Int) := by omega
    clear hn hm
    go_enter Try.func7, Try.ntmps7
    go_wp2_with fail
    refine (head_any _).mono ?_
    rintro e w1 ⟨rfl, b1⟩
    go_wp2_with fail
    go_ret
    exact ⟨rfl, b1⟩
  have dm : decide ((40 : Int) < (m : Int)) = false := by simp; omega
  have HNM : Hid (n ≤ 100 ∧ m ≤ 40) := Lib.hid ⟨by omega, by omega⟩
  clear hn hm
  go_enter Try.func7, Try.ntmps7
  go_wp2_with fail
  refine (head_any _).mono ?_
  rintro e w1 ⟨rfl, b1⟩
  have HT1 := Lib.hid (HT.out.below b1)
  have HW1 := Lib.hid b1
  clear HT b1
  have O0 := ownsRow_new (e := 38) (size := 2) (n := 0) (cs := #[]) w1 (base := w1.heap.size) (Nat.le_refl _) rfl (Nat.zero_le _)
  have L0 := (Below.refl w1.heap.size w1).alloc (Nat.le_refl _) (.cells #[] 38)
  have R0 := tin_reads (HT1.out.below L0)
  have HO0 := Lib.hid (And.intro O0 (And.intro L0 R0))
  have hn100 := HNM.out.1
  clear O0 L0 R0
  go_wp2_with (at_builtin; refine wpList_pushR rfl (.tmp 37) (.tmp 38) 23 rfl styT rfl HO0.out.2.2 (xs1_one tA tR n) rfl HO0.out.1 (by omega) (by simp) ?_; intro v9 w2 own9 gr9; obtain ⟨A9, c9, rfl, k9, rd9⟩ := ownsRow_reads own9; rw [Nat.zero_add] at own9 k9 rd9 ⊢; have HM := Lib.hid (And.intro own9 (And.intro gr9 rd9)); clear own9 gr9 rd9)
  have own9 : w2.ownsRow w1.heap.size 38 2 (.slice A9 n c9) n (xs1 tA tR n) := by simpa using HM.out.1
  have b12 : Below w1.heap.size w1 w2 := HO0.out.2.1.trans (below_of_grown HM.out.2.1 HO0.out.1 (by simp))
  have HOWN := Lib.hid own9
  have HB2 := Lib.hid b12
  have HT9 := Lib.hid (reads_tin (by simpa using HM.out.2.2 : Reads w2 w2.heap.size 2 A9 n (xs1 tA tR n)) (Nat.le_refl _))
  clear own9 b12 HM HO0
  have hok := fun h : newE S gr n tA tR = 0 => new_ok h
  have HN1 := Lib.hid (new_anyB S gr A9 n c9 tA tR w2 HT9.out)
  have HPL := Lib.hid (fun W (h : TIn W A n tA tR) => plain_any S gr A n c tA tR W h hn100 hnc)
  have HCK := Lib.hid (fun A1 A2 c1 c2 W (h : CIn W A1 A2 n c1 c2 tA tR) => refCheck_any S gr A1 A2 n c1 c2 tA tR W h)
  have HOK := Lib.hid hok
  generalize newE S gr n tA tR = E at *
  clear hok
  refine HN1.out.mono ?_
  rintro e w3 ⟨h3, b3⟩
  obtain ⟨q, rfl, hq⟩ : ∃ q : Option Addr, e = .returned (.tuple #[.pointer q, .int .i64 E]) ∧ (E ≠ 0 ∧ q = none ∨ E = 0 ∧ ∃ g, q = some ⟨g, 0, none⟩ ∧ w2.heap.size ≤ g ∧ ClkB (w2.heap.size + 1) w3 g n tA tR (baseV S tA tR) gr) := by
    rcases h3 with ⟨h, he⟩ | ⟨h, g, he, hg, hC⟩
    · exact ⟨none, he, .inl ⟨h, rfl⟩⟩
    · exact ⟨some ⟨g, 0, none⟩, by rw [he, h], .inr ⟨h, g, rfl, hg, hC⟩⟩
  have HQ := Lib.hid hq
  have HB3 := Lib.hid b3
  clear h3 hq b3 HN1
  go_wp2_with fail
  have hmine : 0 < n → ∃ g cs, A9 = some ⟨g, 0, none⟩ ∧ w1.heap.size ≤ g ∧ g < w2.heap.size ∧ w3.grownBy w3 (some g) ∧ Blk w3 g 38 cs ∧ n * 2 ≤ cs.size := fun h0 => by
    rcases HOWN.out.2 with ⟨_, h2⟩ | ⟨g, cap, cur, hv, hg, hh, hle, _, hsz, _⟩
    · omega
    · injection hv with e1 _ _
      have hb : Blk w2 g 38 cur := hh
      exact ⟨g, cur, e1, hg, hb.lt, grownBy_refl _ _, hb.below HB3.out hb.lt, by rw [hsz]; exact Nat.mul_le_mul_right 2 hle⟩
  have HMI := Lib.hid hmine
  have HB13 := Lib.hid (HB2.out.trans (HB3.out.mono HB2.out.size))
  clear hmine
  go_loopw [49] (fun i wr => ∃ k : Nat, i = .int .i64 (k : Nat) ∧ k ≤ n ∧ Below w1.heap.size w1 wr ∧ Hid (n = 0 → wr = w3) ∧ Hid (0 < n → ∃ g cs, A9 = some ⟨g, 0, none⟩ ∧ w1.heap.size ≤ g ∧ g < w2.heap.size ∧ w3.grownBy wr (some g) ∧ Blk wr g 38 cs ∧ n * 2 ≤ cs.size)) (fun i _ => n - (intOf i).toNat)
  case atStart => exact ⟨0, rfl, Nat.zero_le _, HB13.out, Lib.hid fun _ => rfl, HMI⟩
  case round =>
    obtain ⟨k, rfl, hk, hb, hz, hmi⟩ := hrel
    by_cases hlt : k < n
    · obtain ⟨g, cs, rfl, hg1, hg2, hgr, B, hsz⟩ := hmi.out (by omega)
      obtain ⟨u, hu⟩ : ∃ u, cs[k * 2 + 1]? = some u := ⟨_, Array.getElem?_eq_getElem (by omega)⟩
      have x0 := B.cellOf _ hu
      have fz := B.frozen
      have hgw := B.lt
      have B' := B.set_ (k * 2 + 1) (.int .i64 0)
      have hb' := hb.setCell (p := ⟨g, k * 2 + 1, none⟩) hg1 (.int .i64 0)
      have hgr' := gr_set hgr (k * 2 + 1) (.int .i64 0)
      have HS := Lib.hid (And.intro hb' (And.intro hgr' (And.intro B' (And.intro hg1 (And.intro hg2 hsz)))))
      have hc9 : n ≤ c9 := k9
      clear B B' hb hb' hgr hgr' hu hg1 hg2 hsz hz hmi
      go_wp2_with fail
      go_roundw
      case rel => exact ⟨k + 1, by first | rfl | (refine congrArg (Value.int IntKind.i64) ?_; rw [IntWalk.wrap64_in _ ⟨by omega, by omega⟩]; rfl), by omega, HS.out.1, Lib.hid fun h => by omega, Lib.hid fun _ => ⟨g, _, rfl, HS.out.2.2.2.1, HS.out.2.2.2.2.1, HS.out.2.1, HS.out.2.2.1, by simpa using HS.out.2.2.2.2.2⟩⟩
      case measure => simp [intOf]; omega
    · obtain rfl : k = n := by omega
      have dn : decide (k < k) = false := by simp
      have HTr := Lib.hid (HT1.out.below hb)
      have hq2 : E ≠ 0 ∧ q = none ∨ E = 0 ∧ ∃ g, q = some ⟨g, 0, none⟩ ∧ Clk wr g k tA tR (baseV S tA tR) gr := by
        rcases HQ.out with h | ⟨h, g, hg, h1, h2⟩
        · exact .inl h
        · obtain ⟨gm, cs, _, _, hg2, hgr, _, _⟩ := hmi.out (HOK.out h).1.pos
          exact .inr ⟨h, g, hg, h2.kept (r := gm) (by omega) (by omega) hgr⟩
      have HQ2 := Lib.hid hq2
      have HBr := Lib.hid hb
      clear hlt hk hz hmi hq2 hb HQ HMI HB13 HT9 HOWN k9
      go_wp2_with fail
      refine (HPL.out wr HTr.out).mono ?_
      rintro e w4 ⟨A1, A2, c1, c2, rfl, hC4, b4⟩
      have HC4 := Lib.hid hC4
      have HB4 := Lib.hid (HBr.out.trans (b4.mono HBr.out.size))
      have HQ4 := HQ2
      have HBB := Lib.hid b4
      clear hC4 b4 HPL HTr
      go_wp2_with fail
      have L4 := (Below.refl w4.heap.size w4).alloc (Nat.le_refl _) (.cells #[.int .i64 S, .int .i64 gr, .slice A1 k c1, .slice A2 k c2] 43)
      have B4 := Blk.new w4 43 #[.int .i64 S, .int .i64 gr, .slice A1 k c1, .slice A2 k c2]
      have HCa := Lib.hid (HC4.out.below L4)
      have HL4 := Lib.hid L4
      have HB4a := Lib.hid B4
      clear L4 B4 HC4
      refine (HCK.out A1 A2 c1 c2 _ HCa.out).mono ?_
      rintro e w5 ⟨rfl, b5⟩
      have HC5 := Lib.hid (HCa.out.below b5)
      have HP5 := Lib.hid (HB4a.out.below b5 HB4a.out.lt)
      have b45 := HL4.out.trans (b5.mono HL4.out.size)
      have HQ5 : Hid (E ≠ 0 ∧ q = none ∨ E = 0 ∧ ∃ g, q = some ⟨g, 0, none⟩ ∧ Clk w5 g k tA tR (baseV S tA tR) gr) := Lib.hid (by
        rcases HQ4.out with h | ⟨h, g, hg, hC⟩
        · exact .inl h
        · exact .inr ⟨h, g, hg, (hC.below HBB.out).below b45⟩)
      have HB5 := Lib.hid (HB4.out.trans (b45.mono HB4.out.size))
      clear b5 b45 HCa HL4 HB4a HQ4 HBB HB4 HCK
      by_cases hE : E = 0
      · have ho := HOK.out hE
        obtain ⟨g, rfl, hC⟩ : ∃ g, q = some ⟨g, 0, none⟩ ∧ Clk w5 g k tA tR (baseV S tA tR) gr := by
          rcases HQ5.out with ⟨h, _⟩ | ⟨_, g, hg, hC⟩
          · exact absurd hE h
          · exact ⟨g, hg, hC⟩
        subst hE
        have HO := Lib.hid ho
        have HC := Lib.hid hC
        clear ho hC HQ5 HQ2 HOK
        go_wp2_with fail
        have HR5 := Lib.hid (Below.refl w5.heap.size w5)
        go_loopw [90] (fun i wr => ∃ j : Nat, i = .int .i64 (j : Nat) ∧ j ≤ m ∧ Below w5.heap.size w5 wr) (fun i _ => m - (intOf i).toNat)
        case atStart => exact ⟨0, rfl, Nat.zero_le _, HR5.out⟩
        case round =>
          obtain ⟨j, rfl, hj, hb⟩ := hrel
          obtain ⟨w6, rfl⟩ : ∃ w6 : World, w6 = wr := ⟨_, rfl⟩
          by_cases hlt : j < m
          · obtain ⟨ga, gb, rfl, rfl, I1, I2, q1, q2⟩ := HC5.out HO.out.1.pos
            have hww := HW1.out.trans (HB5.out.mono HW1.out.size)
            have hw6 := hww.trans (hb.mono hww.size)
            obtain ⟨ad, u, rfl, had, hu, hc⟩ := HF.out.1.at_ hlt
            rw [HF.out.2 j hlt] at hu
            injection hu with hu
            subst hu
            have x0 : w6.cell? (ad.add j) = some (.int .i64 (f j)) := by rw [hw6.cell (by rw [block_of_add]; exact had)]; exact hc
            obtain ⟨t, ht⟩ : ∃ t, t = f j := ⟨_, rfl⟩
            rw [← ht] at x0
            have HCx := Lib.hid (HC.out.below hb)
            have HPx := Lib.hid (HP5.out.below hb HP5.out.lt)
            have HIx := Lib.hid (And.intro (I1.below hb) (I2.below hb))
            have HWx := Lib.hid hb
            have HQQ := Lib.hid (And.intro q1 q2)
            have hjm := HNM.out.2
            clear hww hw6 hc had ht hb I1 I2 q1 q2 HC HP5
            by_cases hbad : t < 0 ∨ 1099511627776 < t
            · have HBAD := Lib.hid hbad
              have hpick : (t < 0) ∨ (¬ t < 0 ∧ 1099511627776 < t) := by omega
              clear hbad
              rcases hpick with h1 | ⟨h1, h2⟩
              · skip
                go_wp2_with fail
                refine (at_bad (some ⟨g, 0, none⟩) t (.inr HBAD.out) _).mono ?_
                rintro e wa ⟨rfl, rfl⟩
                go_wp2_with fail
                refine (mark_bad ⟨g, 0, none⟩ t HBAD.out _).mono ?_
                rintro e wb ⟨rfl, rfl⟩
                go_wp2_with fail
                refine (rate_bad ⟨g, 0, none⟩ t HBAD.out _).mono ?_
                rintro e wc ⟨rfl, rfl⟩
                go_wp2_with fail
                go_roundw
                case rel => exact ⟨j + 1, by first | rfl | (refine congrArg (Value.int IntKind.i64) ?_; rw [IntWalk.wrap64_in _ ⟨by omega, by omega⟩]; rfl), by omega, HWx.out⟩
                case measure => simp [intOf]; omega
              · have d1 : decide (t < 0) = false := decide_eq_false h1
                clear h1
                go_wp2_with fail
                refine (at_bad (some ⟨g, 0, none⟩) t (.inr HBAD.out) _).mono ?_
                rintro e wa ⟨rfl, rfl⟩
                go_wp2_with fail
                refine (mark_bad ⟨g, 0, none⟩ t HBAD.out _).mono ?_
                rintro e wb ⟨rfl, rfl⟩
                go_wp2_with fail
                refine (rate_bad ⟨g, 0, none⟩ t HBAD.out _).mono ?_
                rintro e wc ⟨rfl, rfl⟩
                go_wp2_with fail
                go_roundw
                case rel => exact ⟨j + 1, by first | rfl | (refine congrArg (Value.int IntKind.i64) ?_; rw [IntWalk.wrap64_in _ ⟨by omega, by omega⟩]; rfl), by omega, HWx.out⟩
                case measure => simp [intOf]; omega
            · have d1 : decide (t < 0) = false := decide_eq_false (by omega)
              have d2 : decide (1099511627776 < t) = false := decide_eq_false (by omega)
              have HRG : Hid (0 ≤ t ∧ t ≤ 1099511627776) := Lib.hid ⟨by omega, by omega⟩
              have CA := fun W (h : Clk W g k tA tR (baseV S tA tR) gr) => at_any g t S k tA tR (baseV S tA tR) gr W h HO.out.1 HO.out.2.1 HRG.out.1 HRG.out.2
              have CM := fun W (h : Clk W g k tA tR (baseV S tA tR) gr) => mark_any g t S k tA tR (baseV S tA tR) gr W h HO.out.1 HO.out.2.1 HRG.out.1 HRG.out.2 HO.out.2.2.1 HO.out.2.2.2
              have CR := fun W (h : Clk W g k tA tR (baseV S tA tR) gr) => rate_any g t k tA tR (baseV S tA tR) gr W h HO.out.1 HRG.out.1 HRG.out.2
              have DA := fun W (i1 : Ints W ga k tA) (i2 : Ints W gb k tR) => refTell_any S gr t ga gb k c1 c2 tA tR (baseV S tA tR) W i1 i2 HQQ.out.1 HQQ.out.2 HO.out.1 HO.out.2.1 HRG.out.1 HRG.out.2
              have DM := fun W (i1 : Ints W ga k tA) (i2 : Ints W gb k tR) => refMark_any S gr t ga gb k c1 c2 tA tR (baseV S tA tR) W i1 i2 HQQ.out.1 HQQ.out.2 HO.out.1 HO.out.2.1 HRG.out.1 HRG.out.2 HO.out.2.2.1 HO.out.2.2.2
              have DR := fun W (i1 : Ints W ga k tA) (i2 : Ints W gb k tR) => refRate_any S gr t ga gb k c1 c2 tA tR W i1 i2 HQQ.out.1 HQQ.out.2 HO.out.1 HRG.out.1
              unfold ccv at DA DM DR
              generalize tellV k tA tR (baseV S tA tR) t = V1 at CA DA
              generalize markV k tA tR (baseV S tA tR) gr t = V2 at CM DM
              generalize tR (pcV tA t k) = V3 at CR DR
              have HCA := Lib.hid CA
              have HCM := Lib.hid CM
              have HCR := Lib.hid CR
              have HDA := Lib.hid DA
              have HDM := Lib.hid DM
              have HDR := Lib.hid DR
              clear CA CM CR DA DM DR hbad
              go_wp2_with fail
              refine (HCA.out _ HCx.out).mono ?_
              rintro e wa ⟨rfl, ba⟩
              have HCy := Lib.hid (HCx.out.below ba)
              have HPy := Lib.hid (HPx.out.below ba HPx.out.lt)
              have HIy := Lib.hid (And.intro (HIx.out.1.below ba) (HIx.out.2.below ba))
              have HWy := Lib.hid (HWx.out.trans (ba.mono HWx.out.size))
              clear HCx HPx HIx HWx ba
              have HCx := HCy
              have HPx := HPy
              have HIx := HIy
              have HWx := HWy
              clear HCy HPy HIy HWy
              go_wp2_with fail
              refine (HCM.out _ HCx.out).mono ?_
              rintro e wb ⟨rfl, bb⟩
              have HCy := Lib.hid (HCx.out.below bb)
              have HPy := Lib.hid (HPx.out.below bb HPx.out.lt)
              have HIy := Lib.hid (And.intro (HIx.out.1.below bb) (HIx.out.2.below bb))
              have HWy := Lib.hid (HWx.out.trans (bb.mono HWx.out.size))
              clear HCx HPx HIx HWx bb
              have HCx := HCy
              have HPx := HPy
              have HIx := HIy
              have HWx := HWy
              clear HCy HPy HIy HWy
              go_wp2_with fail
              refine (HCR.out _ HCx.out).mono ?_
              rintro e wc ⟨rfl, bc⟩
              have HCy := Lib.hid (HCx.out.below bc)
              have HPy := Lib.hid (HPx.out.below bc HPx.out.lt)
              have HIy := Lib.hid (And.intro (HIx.out.1.below bc) (HIx.out.2.below bc))
              have HWy := Lib.hid (HWx.out.trans (bc.mono HWx.out.size))
              clear HCx HPx HIx HWx bc
              have HCx := HCy
              have HPx := HPy
              have HIx := HIy
              have HWx := HWy
              clear HCy HPy HIy HWy
              have z0 := HPx.out.cellOf (v := .int .i64 S) 0 rfl
              have z1 := HPx.out.cellOf (v := .int .i64 gr) 1 rfl
              have z2 := HPx.out.cellOf (v := .slice (some ⟨ga, 0, none⟩) k c1) 2 rfl
              have z3 := HPx.out.cellOf (v := .slice (some ⟨gb, 0, none⟩) k c2) 3 rfl
              go_wp2_with fail
              clear z0 z1 z2 z3
              refine (HDA.out _ HIx.out.1 HIx.out.2).mono ?_
              rintro e wd ⟨rfl, bd⟩
              have HPy := Lib.hid (HPx.out.below bd HPx.out.lt)
              have HIy := Lib.hid (And.intro (HIx.out.1.below bd) (HIx.out.2.below bd))
              have HWy := Lib.hid (HWx.out.trans (bd.mono HWx.out.size))
              clear HPx HIx HWx bd
              have HPx := HPy
              have HIx := HIy
              have HWx := HWy
              clear HPy HIy HWy
              have z0 := HPx.out.cellOf (v := .int .i64 S) 0 rfl
              have z1 := HPx.out.cellOf (v := .int .i64 gr) 1 rfl
              have z2 := HPx.out.cellOf (v := .slice (some ⟨ga, 0, none⟩) k c1) 2 rfl
              have z3 := HPx.out.cellOf (v := .slice (some ⟨gb, 0, none⟩) k c2) 3 rfl
              go_wp2_with fail
              clear z0 z1 z2 z3
              refine (HDM.out _ HIx.out.1 HIx.out.2).mono ?_
              rintro e we ⟨rfl, be⟩
              have HPy := Lib.hid (HPx.out.below be HPx.out.lt)
              have HIy := Lib.hid (And.intro (HIx.out.1.below be) (HIx.out.2.below be))
              have HWy := Lib.hid (HWx.out.trans (be.mono HWx.out.size))
              clear HPx HIx HWx be
              have HPx := HPy
              have HIx := HIy
              have HWx := HWy
              clear HPy HIy HWy
              have z0 := HPx.out.cellOf (v := .int .i64 S) 0 rfl
              have z1 := HPx.out.cellOf (v := .int .i64 gr) 1 rfl
              have z2 := HPx.out.cellOf (v := .slice (some ⟨ga, 0, none⟩) k c1) 2 rfl
              have z3 := HPx.out.cellOf (v := .slice (some ⟨gb, 0, none⟩) k c2) 3 rfl
              go_wp2_with fail
              clear z0 z1 z2 z3
              refine (HDR.out _ HIx.out.1 HIx.out.2).mono ?_
              rintro e wf ⟨rfl, bf⟩
              have HPy := Lib.hid (HPx.out.below bf HPx.out.lt)
              have HIy := Lib.hid (And.intro (HIx.out.1.below bf) (HIx.out.2.below bf))
              have HWy := Lib.hid (HWx.out.trans (bf.mono HWx.out.size))
              clear HPx HIx HWx bf
              have HPx := HPy
              have HIx := HIy
              have HWx := HWy
              clear HPy HIy HWy
              go_wp2_with fail
              go_roundw
              case rel => exact ⟨j + 1, by first | rfl | (refine congrArg (Value.int IntKind.i64) ?_; rw [IntWalk.wrap64_in _ ⟨by omega, by omega⟩]; rfl), by omega, HWx.out⟩
              case measure => simp [intOf]; omega
          · obtain rfl : j = m := by omega
            have dj : decide (j < j) = false := by simp
            have hw := HW1.out.trans ((HB5.out.trans (hb.mono HB5.out.size)).mono HW1.out.size)
            clear hlt hj hb
            go_wp2_with fail
            go_ret
            exact ⟨rfl, hw⟩
      · have d1 : (E != 0) = true := bne_iff_ne.2 hE
        have d2 : (E == 0) = false := beq_eq_false_iff_ne.2 hE
        obtain rfl : q = none := by
          rcases HQ5.out with ⟨_, h⟩ | ⟨h, _⟩
          · exact h
          · exact absurd h hE
        clear HQ5 HQ2 HOK hE
        go_wp2_with fail
        refine (at_bad none 0 (.inl rfl) _).mono ?_
        rintro e w6 ⟨rfl, rfl⟩
        go_wp2_with fail
        refine (when_nil 0 _).mono ?_
        rintro e w7 ⟨rfl, b7⟩
        have hw := HW1.out.trans ((HB5.out.trans (b7.mono HB5.out.size)).mono HW1.out.size)
        clear b7
        go_wp2_with fail
        go_ret
        exact ⟨rfl, hw⟩
/-! ### The arguments -/
theorem open_times {H : Type} {enc : TypeId × Value → H} {W : World} {v : Value} {d : DataW H} {p : List MemPlace} {b0 : Nat} (hv : Value.okWide Try.prog W .any b0 41 v)
    (h : DataW.Trod enc Try.prog W 0 (fun _ => true) true 41 v d p) (hlt : ∀ x ∈ p, x.block < W.heap.size) :
    ∃ (A : Option Addr) (n c : Nat) (xs : List Value) (f : Nat → Int), v = .slice A n c ∧ n ≤ maxLen ∧ Reads W W.heap.size 1 A n xs ∧ ∀ i, i < n → xs[i]? = some (.int .i64 (f i)) := by
  obtain ⟨A, n, c, xs, rfl, h1, h2, _, hr, hall⟩ := open_slice_arg (n := 5) (ls := [3]) Try.underlying41 (by kernel_rfl) (by kernel_rfl) rfl hv h hlt
  have key : ∀ i, ∃ x : Int, i < n → xs[i]? = some (.int .i64 x) := fun i => by
    by_cases hi : i < n
    · have ha := hall i hi
      have hl : i < xs.length := by have := hr.1; simp only [List.length_singleton] at this; omega
      simp only [List.length_singleton, Nat.mul_one] at ha
      rw [List.drop_eq_getElem_cons hl] at ha
      obtain ⟨l0, _⟩ := ha
      obtain ⟨n0, h0, _⟩ := l0.i64 Try.underlying3
      exact ⟨n0, fun _ => by rw [List.getElem?_eq_getElem hl, h0]⟩
    · exact ⟨0, fun h => absurd h hi⟩
  exact ⟨A, n, c, xs, fun i => Classical.choose (key i), rfl, by omega, hr, fun i hi => Classical.choose_spec (key i) hi⟩

/-! ### The row's step -/
set_option maxRecDepth 100000 in
theorem oscTells_lifted (os : Os) (started : os.Started) (H : Type) (enc : TypeId × Value → H) :
    ReturnsInHanded {} Try.checked os 7 .any (Rows.oscTellsSpec.pre6 enc Try.prog Try.f7 Rows.oscTellsRow.domain false) (Rows.oscTellsSpec.post enc Try.prog Try.f7 false true false false) := by
  refine returnsInHanded_of_change (C := Try.checked) own started (by kernel_rfl) Try.func7
    (ChangeSpec.witness6 (enc := enc) (C := Try.checked) false ⟨#[], #[.int .i64 0, .int .i64 0, .slice none 0 0, .slice none 0 0], []⟩ 8 (by kernel_rfl) (by kernel_rfl) (by kernel_rfl) (by kernel_rfl)) ?_
  intro W base args ds gs before hval0 hW _ _
  have hval : ∀ (j : Nat) t v, Try.f7.params[j]? = some t → args[j]? = some v → Value.okWide Try.prog W .any base t v := hval0
  have hW' := hW
  obtain ⟨p, q, hA0, hV, rfl, hfz, hnd⟩ := hW
  have hA : DataW.TrodAll enc Try.prog W 0 (fun _ => true) true Try.f7.params.toList args.toList ds p := hA0
  rw [Try.params7] at hA hval
  obtain ⟨v0, v1, v2, v3, d0, d1, d2, d3, p0, p1, p2, p3, rfl, rfl, rfl, h0, h1, h2, h3⟩ := trodAll_four hA
  obtain ⟨a, rfl⟩ := okWide_int Try.underlying22 (hval 0 22 v0 rfl rfl)
  obtain ⟨b, rfl⟩ := okWide_int Try.underlying3 (hval 1 3 v1 rfl rfl)
  obtain ⟨A, n, c, tA, tR, rfl, hnc, hT, _⟩ := open_turns (hval 2 23 v2 rfl rfl) h2 (fun x hx => hW'.lt x (by simp [hx]))
  obtain ⟨A4, m, c4, ts, f, rfl, _, hr, hf⟩ := open_times (hval 3 41 v3 rfl rfl) h3 (fun x hx => hW'.lt x (by simp [hx]))
  exact law_post laidOut (by kernel_rfl) rfl (by kernel_rfl) Try.underlying4 rfl hW' (oscTells_calls a b A n c tA tR A4 m c4 ts f W hT hnc hr hf)

theorem oscTells_holds : Rows.OscTellsSaid :=
  OpenClaim.holds_of_wide 7 Try.f7 rfl rfl rfl rfl rfl rfl rfl ⟨rfl, rfl, rfl, rfl, rfl⟩ rfl rfl rfl rfl rfl (by kernel_rfl) Try.func7 (by kernel_rfl)
    (of_decide_eq_true (by kernel_rfl)) (by unfold Func.isWrapper; first | (rw [if_pos (by decide +kernel)]; kernel_rfl) | (rw [if_neg (by decide +kernel)]; exact ⟨rfl, rfl⟩))
    (fun os started H enc _ => oscTells_lifted os started H enc)

#print axioms oscTells_holds
end Go.Proofs.Ytfpbahihndgabaa
