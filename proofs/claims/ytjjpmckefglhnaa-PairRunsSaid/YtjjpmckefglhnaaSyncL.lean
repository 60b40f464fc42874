/-
  Layer 18 in plain Lean: what a clock comes to when it is told a time, tells one, becomes its own; no program in sight.
-/
import Derived.Test.YtjjpmckefglhnaaSyncD
import Derived.Test.YtjjpmckefglhnaaSyncC
namespace Go.Proofs.Ytjjpmckefglhnaa

theorem by_one {s : Int} (hs : I64 s) : mulDivV s 2199023255552 2199023255552 2 = (s, 0) := by
  unfold mulDivV
  rw [if_neg (by omega)]
  have hq : mdQ s 2199023255552 2199023255552 2 = s.natAbs := by
    unfold mdQ
    rw [show ((2199023255552 : Int).natAbs) = 2199023255552 from rfl, Nat.mul_div_cancel _ (by omega), Nat.mul_mod_left]
    have : mdMore (mdMinus s 2199023255552 2199023255552) 2 0 2199023255552 s.natAbs = false := by unfold mdMore; rw [if_pos rfl]
    rw [this]
    rfl
  have hm : mdMinus s 2199023255552 2199023255552 = decide (s < 0) := by
    unfold mdMinus
    rw [show decide ((2199023255552 : Int) < 0) = false from by decide]
    cases decide (s < 0) <;> rfl
  rw [hq, hm]
  unfold mdEnd I64 at *
  by_cases h : s < 0
  · rw [decide_eq_true h, if_neg (by simp only [Bool.toNat_true]; omega), if_pos rfl]
    congr 1
    omega
  · rw [decide_eq_false h, if_neg (by simp only [Bool.toNat_false]; omega), if_neg (by simp)]
    congr 1
    omega
theorem by_zero {r : Int} (hr : 0 ≤ r) : mulDivV 0 r 2199023255552 2 = (0, 0) := by
  obtain ⟨N, h1, h2, h3, h4⟩ := md_near (a := 0) (b := r) (c := 2199023255552) (by omega) hr (by omega) (by omega)
  rw [h1]
  have : N = 0 := by omega
  rw [this]
theorem by_small {d r : Int} (h0 : 0 ≤ d) (h1 : d ≤ 17179869184) (hr : Rg r) : ∃ N, mulDivV d r 2199023255552 2 = (N, 0) ∧ 0 ≤ N ∧ N ≤ 34359738368 := by
  obtain ⟨r1, r2⟩ := hr
  have p1 := mul_ge h0 r2
  have p2 := Int.mul_le_mul_of_nonneg_right h1 (show (0 : Int) ≤ 2216203124736 by omega)
  obtain ⟨N, e, n0, n1, n2⟩ := md_near (a := d) (b := r) (c := 2199023255552) h0 (by omega) (by omega) (by omega)
  exact ⟨N, e, n0, by omega⟩

theorem sync_right {d seq src port : Int} (hd : 0 ≤ d ∧ d ≤ 127) (hs : 0 ≤ seq ∧ seq ≤ 65535) (hc : 0 ≤ src ∧ src ≤ 281474976710655) (hp : 0 ≤ port ∧ port ≤ 65535) : (⟨0, d, seq, src, port, 0, 0, 0, 0, 0, 0, 0, 0, 0, 0, []⟩ : Mg).Right where
  known := .inl rfl
  range := by
    unfold Mg.inRange okN ids
    simp
    omega
  apt := ⟨fun _ _ => ⟨rfl, rfl, fun _ => rfl⟩, fun _ => rfl⟩
  bare := fun _ => ⟨rfl, rfl, rfl, rfl, rfl, rfl⟩
  few := by simp
  ids := rfl
theorem foll_right {d seq src port corr time rate : Int} (hd : 0 ≤ d ∧ d ≤ 127) (hs : 0 ≤ seq ∧ seq ≤ 65535) (hc : 0 ≤ src ∧ src ≤ 281474976710655) (hp : 0 ≤ port ∧ port ≤ 65535) : (⟨8, d, seq, src, port, corr, time, 0, 0, rate, 0, 0, 0, 0, 0, []⟩ : Mg).Right where
  known := .inr (.inr (.inr (.inl rfl)))
  range := by
    unfold Mg.inRange okN ids
    simp
    omega
  apt := ⟨fun _ _ => ⟨rfl, rfl, fun h => absurd rfl h⟩, fun h => absurd rfl h⟩
  bare := fun _ => ⟨rfl, rfl, rfl, rfl, rfl, rfl⟩
  few := by simp
  ids := rfl
theorem sync_ok {c : Ck} {m : Mg} {at_ : Int} (hk : m.kind = 0) (hm : m.Right) (hd : m.domain = c.domain) (ho : c.own = false) : syncV c m at_ = (0, syncC c m at_) := by
  have : syncOk c m = true := by
    unfold syncOk
    rw [hk, check_zero.2 hm, hd, ho]
    simp
  exact if_pos this
theorem sync_own {c : Ck} {m : Mg} {at_ : Int} (ho : c.own = true) : syncV c m at_ = (31, c) := by
  have : syncOk c m = false := by
    unfold syncOk
    rw [ho]
    simp
  exact if_neg (by rw [this]; simp)
theorem foll_ok {c : Ck} {m : Mg} {delay ratio r d t : Int} (hk : m.kind = 8) (hm : m.Right) (hd : m.domain = c.domain) (ho : c.own = false) (hp : c.opn = true) (hs : m.seq = c.seq) (hc : m.src = c.src)
    (hr : mulDivV m.rate ratio 2199023255552 2 = (r, 0)) (hrg : Rg r) (ht : I64 (m.time + m.corr)) (hdl : mulDivV delay r 2199023255552 2 = (d, 0)) (hts : I64 t) (he : t = m.time + m.corr + d) : follV c m delay ratio = (0, follC c t r) := by
  have hok : follOk c m = true := by
    unfold follOk
    rw [hk, check_zero.2 hm, hd, ho, hp, hs, hc]
    simp
  have h1 : addV m.time m.corr = (m.time + m.corr, 0) := if_pos ht
  have h2 : addV (m.time + m.corr) d = (t, 0) := by rw [he] at hts; rw [he]; exact if_pos hts
  unfold follV
  rw [hr, h1, if_neg (by rw [hok]; simp), if_neg (by simp), if_neg (not_not_intro hrg), if_neg (by simp)]
  simp only
  rw [hdl, if_neg (by simp)]
  simp only
  rw [h2, if_neg (by simp)]
theorem at_known {c : Ck} {now x t : Int} (hk : c.known = true) (h1 : I64 (now - c.here)) (hx : mulDivV (now - c.here) (nowV c) 2199023255552 2 = (x, 0)) (h2 : I64 t) (he : t = c.there + x) : atV c now = (t, true) := by
  have e1 : subV now c.here = (now - c.here, 0) := if_pos h1
  have e2 : addV c.there x = (t, 0) := by rw [he] at h2; rw [he]; exact if_pos h2
  unfold atV
  rw [if_neg (by rw [hk]; simp), e1]
  simp only
  rw [hx, if_neg (by simp), if_neg (by simp)]
  simp only
  rw [e2]
  rfl
theorem tell_not {c : Ck} {seq src port now t : Int} (ho : c.own = false) (ha : atV c now = (t, true)) (hd : 0 ≤ c.domain ∧ c.domain ≤ 127) (hs : 0 ≤ seq ∧ seq ≤ 65535) (hc : 0 ≤ src ∧ src ≤ 281474976710655) (hp : 0 ≤ port ∧ port ≤ 65535) :
    tellV c seq src port now = (⟨8, c.domain, seq, src, port, t - c.there, c.there, 0, 0, c.rate, 0, 0, 0, 0, 0, []⟩, true) := by
  unfold tellV tellM nowV
  rw [ha, ho, if_pos rfl, if_neg (by simp), if_neg (by simp), check_zero.2 (foll_right hd hs hc hp)]
  rfl
theorem tell_own {c : Ck} {seq src port now t : Int} (ho : c.own = true) (ha : atV c now = (t, true)) (hd : 0 ≤ c.domain ∧ c.domain ≤ 127) (hs : 0 ≤ seq ∧ seq ≤ 65535) (hc : 0 ≤ src ∧ src ≤ 281474976710655) (hp : 0 ≤ port ∧ port ≤ 65535) :
    tellV c seq src port now = (⟨8, c.domain, seq, src, port, 0, t, 0, 0, 2199023255552, 0, 0, 0, 0, 0, []⟩, true) := by
  unfold tellV tellM nowV
  rw [ha, ho, if_pos rfl, if_pos rfl, if_pos rfl, check_zero.2 (foll_right hd hs hc hp)]
  rfl
theorem foll_wf {c : Ck} {t r : Int} (ha : I64 c.at_) (ht : I64 t) (hr : I64 r) : (follC c t r).Wf := ⟨ha, ht, hr, ha, ha⟩
theorem rg_i64 {r : Int} (h : Rg r) : I64 r := by unfold Rg at h; unfold I64; omega

/-- What one clock tells another one. -/
theorem tells_plain {a T C W r : Int} (ha : 0 ≤ a ∧ a < 4294967296) (hT : 0 ≤ T ∧ T < 1099511627776) (hC : 0 ≤ C ∧ C < 4294967296) (hW : a ≤ W ∧ W < a + 4294967296) (hr : Rg r) :
    ∃ (c1 c2 d1 d2 : Ck) (m : Mg) (x : Int), syncV (ckNew 2) ⟨0, 2, 1, 9, 0, 0, 0, 0, 0, 0, 0, 0, 0, 0, 0, []⟩ a = (0, c1) ∧ follV c1 ⟨8, 2, 1, 9, 0, C, T, 0, 0, r, 0, 0, 0, 0, 0, []⟩ 0 2199023255552 = (0, c2) ∧ c2.Wf ∧ tellV c2 7 8 1 W = (m, true) ∧ m.Wf ∧ m.path = [] ∧ m.time = T + C ∧
      syncV (ckNew 2) ⟨0, 2, 7, 8, 0, 0, 0, 0, 0, 0, 0, 0, 0, 0, 0, []⟩ W = (0, d1) ∧ follV d1 m 0 2199023255552 = (0, d2) ∧ d2.Wf ∧ atV c2 W = (x, true) ∧ atV d2 W = (x, true) ∧ nowV d2 = nowV c2 := by
  obtain ⟨N, hN, n0, n1⟩ := by_small (d := W - a) (r := r) (by omega) (by omega) hr
  have hi : ∀ y : Int, 0 ≤ y → y < 9223372036854775808 → I64 y := fun y h1 h2 => by unfold I64; omega
  have hr0 : 0 ≤ r := by unfold Rg at hr; omega
  have h1 : syncV (ckNew 2) ⟨0, 2, 1, 9, 0, 0, 0, 0, 0, 0, 0, 0, 0, 0, 0, []⟩ a = (0, syncC (ckNew 2) ⟨0, 2, 1, 9, 0, 0, 0, 0, 0, 0, 0, 0, 0, 0, 0, []⟩ a) := sync_ok rfl (sync_right (by omega) (by omega) (by omega) (by omega)) rfl rfl
  have h2 : follV (syncC (ckNew 2) ⟨0, 2, 1, 9, 0, 0, 0, 0, 0, 0, 0, 0, 0, 0, 0, []⟩ a) ⟨8, 2, 1, 9, 0, C, T, 0, 0, r, 0, 0, 0, 0, 0, []⟩ 0 2199023255552 = (0, follC _ (T + C) r) :=
    foll_ok (d := 0) rfl (foll_right (by omega) (by omega) (by omega) (by omega)) rfl rfl rfl rfl rfl (by_one (rg_i64 hr)) hr (hi _ (by simp only; omega) (by simp only; omega)) (by_zero hr0) (hi _ (by omega) (by omega)) (by simp)
  have h3 : atV (follC (syncC (ckNew 2) ⟨0, 2, 1, 9, 0, 0, 0, 0, 0, 0, 0, 0, 0, 0, 0, []⟩ a) (T + C) r) W = (T + C + N, true) := at_known rfl (hi _ (by show 0 ≤ W - a; omega) (by show W - a < _; omega)) hN (hi _ (by omega) (by omega)) rfl
  have h4 := tell_not (seq := 7) (src := 8) (port := 1) rfl h3 (by show 0 ≤ (2 : Int) ∧ (2 : Int) ≤ 127; omega) (by omega) (by omega) (by omega)
  have h5 : syncV (ckNew 2) ⟨0, 2, 7, 8, 0, 0, 0, 0, 0, 0, 0, 0, 0, 0, 0, []⟩ W = (0, syncC (ckNew 2) ⟨0, 2, 7, 8, 0, 0, 0, 0, 0, 0, 0, 0, 0, 0, 0, []⟩ W) := sync_ok rfl (sync_right (by omega) (by omega) (by omega) (by omega)) rfl rfl
  have h6 : follV (syncC (ckNew 2) ⟨0, 2, 7, 8, 0, 0, 0, 0, 0, 0, 0, 0, 0, 0, 0, []⟩ W) ⟨8, 2, 7, 8, 1, T + C + N - (T + C), T + C, 0, 0, r, 0, 0, 0, 0, 0, []⟩ 0 2199023255552 = (0, follC _ (T + C + N) r) :=
    foll_ok (d := 0) rfl (foll_right (by omega) (by omega) (by omega) (by omega)) rfl rfl rfl rfl rfl (by_one (rg_i64 hr)) hr (hi _ (by simp only; omega) (by simp only; omega)) (by_zero hr0) (hi _ (by omega) (by omega)) (by simp only; omega)
  have h7 : atV (follC (syncC (ckNew 2) ⟨0, 2, 7, 8, 0, 0, 0, 0, 0, 0, 0, 0, 0, 0, 0, []⟩ W) (T + C + N) r) W = (T + C + N, true) := at_known (x := 0) rfl (by show I64 (W - W); rw [Int.sub_self]; exact i64_zero) (by show mulDivV (W - W) r 2199023255552 2 = _; rw [Int.sub_self]; exact by_zero hr0) (hi _ (by omega) (by omega)) (by show T + C + N = T + C + N + 0; omega)
  exact ⟨_, _, _, _, _, _, h1, h2, foll_wf (hi a (by omega) (by omega)) (hi _ (by omega) (by omega)) (rg_i64 hr), h4, ⟨hi _ (by show 0 ≤ T + C + N - (T + C); omega) (by show T + C + N - (T + C) < _; omega), hi _ (by show 0 ≤ T + C; omega) (by show T + C < _; omega), rg_i64 hr⟩, rfl, rfl, h5, h6, foll_wf (hi W (by omega) (by omega)) (hi _ (by omega) (by omega)) (rg_i64 hr), h3, h7, rfl⟩
/-- Who becomes its domain's best clock. -/
theorem own_plain {a T L r : Int} (ha : 0 ≤ a ∧ a < 4294967296) (hT : 0 ≤ T ∧ T < 1099511627776) (hL : 0 ≤ L ∧ L < 4294967296) (hr : Rg r) :
    ∃ (c1 c2 c3 : Ck) (m : Mg) (x : Int), syncV (ckNew 0) ⟨0, 0, 1, 9, 0, 0, 0, 0, 0, 0, 0, 0, 0, 0, 0, []⟩ a = (0, c1) ∧ follV c1 ⟨8, 0, 1, 9, 0, 0, T, 0, 0, r, 0, 0, 0, 0, 0, []⟩ 0 2199023255552 = (0, c2) ∧ c2.Wf ∧ nowV c2 = r ∧ atV c2 (a + 1073741824) = (x, true) ∧ 0 ≤ x ∧ x ≤ 2199023255552 ∧
      ownV c2 true (a + 1073741824) = c3 ∧ c3.Wf ∧ atV c3 (a + 1073741824 + L) = (x + L, true) ∧ tellV c3 3 4 5 (a + 1073741824 + L) = (m, true) ∧ m.time = x + L ∧ m.corr = 0 ∧ m.rate = 2199023255552 ∧ nowV c3 = 2199023255552 ∧ freshV c3 (a + 1073741824 + 1125899906842624) 0 = true ∧
      syncV c3 ⟨0, 0, 2, 9, 0, 0, 0, 0, 0, 0, 0, 0, 0, 0, 0, []⟩ (a + 1073741824) = (31, c3) := by
  obtain ⟨N, hN, n0, n1⟩ := by_small (d := 1073741824) (r := r) (by omega) (by omega) hr
  have hi : ∀ y : Int, 0 ≤ y → y < 9223372036854775808 → I64 y := fun y h1 h2 => by unfold I64; omega
  have hr0 : 0 ≤ r := by unfold Rg at hr; omega
  have h1 : syncV (ckNew 0) ⟨0, 0, 1, 9, 0, 0, 0, 0, 0, 0, 0, 0, 0, 0, 0, []⟩ a = (0, syncC (ckNew 0) ⟨0, 0, 1, 9, 0, 0, 0, 0, 0, 0, 0, 0, 0, 0, 0, []⟩ a) := sync_ok rfl (sync_right (by omega) (by omega) (by omega) (by omega)) rfl rfl
  have h2 : follV (syncC (ckNew 0) ⟨0, 0, 1, 9, 0, 0, 0, 0, 0, 0, 0, 0, 0, 0, 0, []⟩ a) ⟨8, 0, 1, 9, 0, 0, T, 0, 0, r, 0, 0, 0, 0, 0, []⟩ 0 2199023255552 = (0, follC _ T r) :=
    foll_ok (d := 0) rfl (foll_right (by omega) (by omega) (by omega) (by omega)) rfl rfl rfl rfl rfl (by_one (rg_i64 hr)) hr (hi _ (by simp only; omega) (by simp only; omega)) (by_zero hr0) (hi _ (by omega) (by omega)) (by simp)
  have h3 : atV (follC (syncC (ckNew 0) ⟨0, 0, 1, 9, 0, 0, 0, 0, 0, 0, 0, 0, 0, 0, 0, []⟩ a) T r) (a + 1073741824) = (T + N, true) :=
    at_known rfl (hi _ (by show 0 ≤ a + 1073741824 - a; omega) (by show a + 1073741824 - a < _; omega)) (by show mulDivV (a + 1073741824 - a) r 2199023255552 2 = _; rw [show a + 1073741824 - a = 1073741824 by omega]; exact hN) (hi _ (by omega) (by omega)) rfl
  obtain ⟨c3, hc3⟩ : ∃ c3 : Ck, c3 = { follC (syncC (ckNew 0) ⟨0, 0, 1, 9, 0, 0, 0, 0, 0, 0, 0, 0, 0, 0, 0, []⟩ a) T r with known := true, here := a + 1073741824, there := T + N, last := a + 1073741824, rate := r, own := true, opn := false } := ⟨_, rfl⟩
  have h4 : ownV (follC (syncC (ckNew 0) ⟨0, 0, 1, 9, 0, 0, 0, 0, 0, 0, 0, 0, 0, 0, 0, []⟩ a) T r) true (a + 1073741824) = c3 := by
    unfold ownV
    rw [h3, if_neg (by simp [follC, syncC, ckNew]), if_pos rfl, hc3]
    rfl
  have h5 : atV c3 (a + 1073741824 + L) = (T + N + L, true) := by
    subst hc3
    exact at_known (x := L) rfl (hi _ (by show 0 ≤ a + 1073741824 + L - (a + 1073741824); omega) (by show a + 1073741824 + L - (a + 1073741824) < _; omega)) (by show mulDivV (a + 1073741824 + L - (a + 1073741824)) 2199023255552 2199023255552 2 = _; rw [show a + 1073741824 + L - (a + 1073741824) = L by omega]; exact by_one (hi _ (by omega) (by omega))) (hi _ (by omega) (by omega)) rfl
  have ho : c3.own = true := by rw [hc3]
  have hd : c3.domain = 0 := by rw [hc3]; rfl
  have h6 := tell_own (seq := 3) (src := 4) (port := 5) ho h5 (by rw [hd]; omega) (by omega) (by omega) (by omega)
  refine ⟨_, _, c3, _, T + N, h1, h2, foll_wf (hi a (by omega) (by omega)) (hi _ (by omega) (by omega)) (rg_i64 hr), rfl, h3, by omega, by omega, h4, ?_, h5, h6, rfl, rfl, rfl, by unfold nowV; rw [if_pos ho], by unfold freshV; rw [if_pos ho], sync_own ho⟩
  rw [hc3]
  exact ⟨hi _ (by show 0 ≤ a + 1073741824; omega) (by show a + 1073741824 < _; omega), hi _ (by show 0 ≤ T + N; omega) (by show T + N < _; omega), rg_i64 hr, hi _ (by show 0 ≤ a + 1073741824; omega) (by show a + 1073741824 < _; omega), hi a (by omega) (by omega)⟩
/-- The document's example. -/
theorem head_plain : ∃ (c1 c2 : Ck), syncV (ckNew 1) ⟨0, 1, 4, 9, 0, 0, 0, 0, 0, 0, 0, 0, 0, 0, 0, []⟩ 65536000 = (0, c1) ∧ follV c1 ⟨8, 1, 4, 9, 0, 0, 458752000, 0, 0, 2199023255552, 0, 0, 0, 0, 0, []⟩ 3276800 2199023255552 = (0, c2) ∧ c2.Wf ∧ atV c2 98304000 = (494796800, true) := by
  have hi : ∀ y : Int, 0 ≤ y → y < 9223372036854775808 → I64 y := fun y h1 h2 => by unfold I64; omega
  have hr : Rg 2199023255552 := by unfold Rg; omega
  have h1 : syncV (ckNew 1) ⟨0, 1, 4, 9, 0, 0, 0, 0, 0, 0, 0, 0, 0, 0, 0, []⟩ 65536000 = (0, syncC (ckNew 1) ⟨0, 1, 4, 9, 0, 0, 0, 0, 0, 0, 0, 0, 0, 0, 0, []⟩ 65536000) := sync_ok rfl (sync_right (by omega) (by omega) (by omega) (by omega)) rfl rfl
  have h2 : follV (syncC (ckNew 1) ⟨0, 1, 4, 9, 0, 0, 0, 0, 0, 0, 0, 0, 0, 0, 0, []⟩ 65536000) ⟨8, 1, 4, 9, 0, 0, 458752000, 0, 0, 2199023255552, 0, 0, 0, 0, 0, []⟩ 3276800 2199023255552 = (0, follC _ 462028800 2199023255552) :=
    foll_ok (d := 3276800) rfl (foll_right (by omega) (by omega) (by omega) (by omega)) rfl rfl rfl rfl rfl (by_one (rg_i64 hr)) hr (hi _ (by simp only; omega) (by simp only; omega)) (by_one (hi _ (by omega) (by omega))) (hi _ (by omega) (by omega)) (by simp)
  exact ⟨_, _, h1, h2, foll_wf (hi _ (by show (0 : Int) ≤ 65536000; omega) (by show (65536000 : Int) < _; omega)) (hi _ (by omega) (by omega)) (rg_i64 hr), at_known (x := 32768000) rfl (hi _ (by show (0 : Int) ≤ 98304000 - 65536000; omega) (by show (98304000 : Int) - 65536000 < _; omega)) (by show mulDivV (98304000 - 65536000) 2199023255552 2199023255552 2 = _; exact by_one (hi _ (by omega) (by omega))) (hi _ (by omega) (by omega)) rfl⟩
end Go.Proofs.Ytjjpmckefglhnaa
