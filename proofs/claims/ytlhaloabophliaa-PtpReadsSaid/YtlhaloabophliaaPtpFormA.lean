/-
  Bytes copied, and one more put behind them: what sandglassref04.Copy gives.
-/
import Derived.Test.YtlhaloabophliaaPtpLaws
import Derived.Test.YtlhaloabophliaaPtpDec
namespace Go.Proofs.Ytlhaloabophliaa
open Go.RowKit Go.WideShapes Go.ChangeShapes
attribute [local go_sem ↓] Go.wp_at_zero Go.wp_at_succ

section
variable {P : Program}
theorem run_append_none (w : World) (t ty e : TypeId) (i : TypeInfo) (ht : P.underlying t = some (.slice e)) (hi : P.info? e = some i) (base : Option Addr) (sLen sCap : Nat) (hle : sLen ≤ sCap) (p : Option Addr) (c : Nat) :
    (Builtin.append_ #[t, t] ty #[.slice base sLen sCap, .slice p 0 c]).run P w = .ok (.slice base sLen sCap) w := by
  cases base <;> cases p <;> simp [Builtin.append_, run_underlying ht, sizeOf, typeInfo, hi, Builtin.lenOf, Builtin.firstCells, loadCells, loadCellsFrom, storeCells, hle]
/-- append of all elements of a slice, wherever they lie. -/
theorem wpList_pushR {ops : Array Oper} {rest : List Oper} {o : Oper} {a : Act} {Q : Exit → Act → World → Prop} (hgd : o.guard = none) (s x : Operand) (t : TypeId)
    (ho : o.op = .call { callee := .builtin .append, args := #[s, x], argTypes := #[t, t] })
    {e : TypeId} {size bytes : Nat} (hty : SliceTy P t e size bytes) {w : World} {A : Option Addr} {q c B : Nat} {news : List Value} (hx : a.eval x = .slice A q c) (hr : Reads w B size A q news) (h1 : ∀ u ∈ news, u.oneCell' = true)
    {base : Nat} {v : Value} {n : Nat} {xs : List Value} (hs : a.eval s = v) (hown : w.ownsRow base e size v n xs)
    (hbytes : (n + q) * bytes ≤ 140737488355328) (hbase : base ≤ w.heap.size)
    (h : ∀ v' w', w'.ownsRow base e size v' (n + q) (xs ++ news) → w.grownBy w' v.ownBlock → wpList P ops Q rest (a.put o.dst v') w') : wpList P ops Q (o :: rest) a w := by
  obtain ⟨ht, i, z, hi, hz, hsz, hby, hzs, hp, hq⟩ := hty
  have hbn : n + q ≤ 140737488355328 := Nat.le_trans (Nat.le_mul_of_pos_right _ hq) hbytes
  rcases Nat.eq_zero_or_pos q with h0 | h0
  · subst h0
    have hn : news = [] := List.eq_nil_of_length_eq_zero (by rw [hr.1, Nat.zero_mul])
    subst hn
    refine wpList_plain hgd fun K hK => ?_
    have hrun : ∀ ty, (Builtin.append_ #[t, t] ty #[v, .slice A 0 c]).run P w = .ok v w := fun ty => by
      rcases hown.2 with ⟨rfl, rfl⟩ | ⟨g, cap, cur, rfl, _, _, hle, _⟩
      · exact run_append_none w t ty e i ht hi none 0 0 (Nat.le_refl _) A c
      · exact run_append_none w t ty e i ht hi _ n cap hle A c
    unfold Oper.wp execOp
    simp only [ho, resolve, invoke, builtin, Sem.run_bind, Sem.run_pure, Result.andThen_ok, List.map_toArray, List.map_cons, List.map_nil, hs, hx, hrun]
    exact hK _ _ (h v w (by simpa using hown) (grownBy_refl w _))
  · obtain ⟨ad, rfl, _, hc⟩ := hr.2 h0
    exact wpList_append_own_at _ hgd s x t ho base e i z size bytes ht hi hz hsz hby hzs hp v n xs hs hown ad q c news hx hr.1 hc h1 (by simp only [maxLen]; omega) hbytes hbase (fun v' w' ho' hg _ _ => h v' w' ho' hg)
end
theorem us_one (b : List Int) : ∀ u ∈ us b, u.oneCell' = true := by
  intro u hu
  obtain ⟨x, _, rfl⟩ := List.mem_map.1 hu
  rfl
theorem copy_any (A : Option Addr) (n c : Nat) (b : List Int) (w : World) (hr : Reads w w.heap.size 1 A n (us b)) (hn : n ≤ 100000) :
    Calls Try.prog 16 #[.slice A n c] w fun e w' => ∃ v, e = .returned v ∧ w'.ownsRow w.heap.size 5 1 v n (us b) ∧ Below w.heap.size w w' := by
  go_enter Try.func16, Try.ntmps16
  go_wp2_with (at_builtin; refine wpList_pushR rfl (.tmp 3) (.tmp 4) 32 rfl styB rfl (hr.alloc (Nat.le_refl _) _) (us_one b) rfl (ownsRow_new w (cs := #[]) (n := 0) (Nat.le_refl _) (by rfl) (by simp [maxLen])) (by omega) (by simp) ?_; intro v' w' hown hg)
  rw [Nat.zero_add] at hown
  have hb : Below w.heap.size w w' := (Below.refl _ _).grown (grownBy_of_alloc hg) (Nat.le_refl _) (fun k hk => by have hk' : some w.heap.size = some k := hk; injection hk' with hk'; omega)
  simp only [List.nil_append] at hown
  go_ret
  exact ⟨_, rfl, hown, hb⟩

theorem Reads.take_ {w : World} {B n k : Nat} {A : Option Addr} {xs : List Value} (h : Reads w B 1 A n xs) (hk : k ≤ n) : Reads w B 1 A k (xs.take k) :=
  ⟨by rw [List.length_take, h.1]; omega, fun hn => by
    obtain ⟨ad, e, hb, hc⟩ := h.2 (by omega)
    refine ⟨ad, e, hb, fun j u hu => hc j u ?_⟩
    rw [List.getElem?_take] at hu
    split at hu
    · exact hu
    · cases hu⟩
theorem own_reads {w : World} {base : Nat} {e : TypeId} {size n : Nat} {v : Value} {xs : List Value} (h : w.ownsRow base e size v n xs) : ∃ A c, v = .slice A n c ∧ n ≤ c ∧ c ≤ maxLen ∧ Reads w w.heap.size size A n xs := by
  have h0 := h
  rcases h.2 with ⟨rfl, rfl⟩ | ⟨g, cap, cur, rfl, hg, hh, hn, hc, _⟩
  · exact ⟨none, 0, rfl, Nat.le_refl _, by simp, Reads.of_own h0⟩
  · exact ⟨_, _, rfl, hn, hc, Reads.of_own h0⟩
theorem open_bytes {H : Type} {enc : TypeId × Value → H} {W : World} {v : Value} {d : DataW H} {p : List MemPlace} {b0 : Nat} (hv : Value.okWide Try.prog W .any b0 32 v)
    (h : DataW.Trod enc Try.prog W 0 (fun _ => true) true 32 v d p) (hlt : ∀ x ∈ p, x.block < W.heap.size) :
    ∃ (A : Option Addr) (n c : Nat) (b : List Int), v = .slice A n c ∧ n ≤ c ∧ c ≤ maxLen ∧ b.length = n ∧ Reads W W.heap.size 1 A n (us b) ∧ Bytes b := by
  obtain ⟨A, n, c, xs, rfl, h1, h2, _, hr, hall⟩ := open_slice_arg (n := 5) (ls := [5]) Try.underlying32 (by kernel_rfl) (by kernel_rfl) rfl hv h hlt
  simp only [List.length_cons, List.length_nil, Nat.zero_add, Nat.mul_one] at hall hr
  have key : ∀ l, l ≤ n → ∃ zs : List Int, zs.length = l ∧ xs.take l = us zs ∧ Bytes zs := by
    intro l
    induction l with
    | zero => exact fun _ => ⟨[], rfl, by simp [us], by intro z hz; cases hz⟩
    | succ l ih =>
      intro hl
      obtain ⟨zs, e1, e2, e4⟩ := ih (by omega)
      have ha := hall l (by omega)
      generalize hc : (xs.drop l).take 1 = cs at *
      match cs, ha with
      | [c0], ⟨h0, _⟩ =>
        obtain ⟨n0, rfl, hwf⟩ := h0.u8 Try.underlying5
        refine ⟨zs ++ [n0], by simp [e1], ?_, ?_⟩
        · rw [List.take_add, e2, hc]; simp [us]
        · intro z hz
          rcases List.mem_append.1 hz with hz | hz
          · exact e4 z hz
          · simp at hz; subst hz; omega
  obtain ⟨zs, e1, e2, e4⟩ := key n (Nat.le_refl _)
  have e3 : xs.length = n := by simpa using hr.1
  rw [List.take_of_length_le (by omega)] at e2
  exact ⟨A, n, c, zs, rfl, h1, h2, e1, by rw [← e2]; exact hr, e4⟩
theorem open_u8 {H : Type} {enc : TypeId × Value → H} {W : World} {v : Value} {d : DataW H} {p : List MemPlace} {b0 : Nat} (hv : Value.okWide Try.prog W .any b0 5 v)
    (h : DataW.Trod enc Try.prog W 0 (fun _ => true) true 5 v d p) (hlt : ∀ x ∈ p, x.block < W.heap.size) : ∃ x : Int, v = .int .u8 x ∧ 0 ≤ x ∧ x < 256 := by
  obtain ⟨x, rfl⟩ := okWide_int Try.underlying5 hv
  obtain ⟨fuel, hf⟩ := h
  have ha := trod_flat (Q := fun p => p.block < W.heap.size) 5 5 [5] (by kernel_rfl) fuel _ _ (by simpa [Value.cells] using hf) hlt
  obtain ⟨y, he, h1, h2⟩ := ha.1.u8 Try.underlying5
  injection he with _ he
  subst he
  exact ⟨x, rfl, h1, by omega⟩
theorem us_app (b : List Int) (x : Int) : us b ++ [.int .u8 x] = us (b ++ [x]) := by simp [us]
end Go.Proofs.Ytlhaloabophliaa
