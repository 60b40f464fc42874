/-
  TreeForms: the law's memory while the wires are laid, and what holds of it whatever turns of the clocks' own types.
-/
import Derived.Test.YtcdgofndfajekaaFmM
namespace Go.Proofs.Ytcdgofndfajekaa
set_option linter.unusedSimpArgs false
set_option linter.unusedVariables false
open Go.RowKit Go.WideShapes Go.ChangeShapes

def wtypes : List TypeId := ctypes ++ [62, 66]
/-- Only blocks of these types turn; the heap grows. -/
structure FT (w w' : World) : Prop where
  os : w'.os = w.os
  tape : w'.tape = w.tape
  output : w'.output = w.output
  size : w.heap.size ≤ w'.heap.size
  block : ∀ (k : Nat) (t : TypeId) (cs : Array Value), Blk w k t cs → t ∉ wtypes → w'.heap[k]? = w.heap[k]?
section
variable {w w' w'' : World}
theorem FT.refl (w : World) : FT w w := ⟨rfl, rfl, rfl, Nat.le_refl _, fun _ _ _ _ _ => rfl⟩
theorem FT.blk (h : FT w w') {k : Nat} {t : TypeId} {cs : Array Value} (B : Blk w k t cs) (ht : t ∉ wtypes) : Blk w' k t cs := (h.block k t cs B ht).trans B
theorem FT.trans (h : FT w w') (h' : FT w' w'') : FT w w'' :=
  ⟨h'.os.trans h.os, h'.tape.trans h.tape, h'.output.trans h.output, Nat.le_trans h.size h'.size, fun k t cs B ht => (h'.block k t cs (h.blk B ht) ht).trans (h.block k t cs B ht)⟩
theorem FT.be (h : Below w.heap.size w w') : FT w w' := ⟨h.os, h.tape, h.output, h.size, fun k t cs B _ => h.block k B.lt⟩
theorem FT.gr {g : Nat} {t : TypeId} {cs : Array Value} (B : Blk w g t cs) (ht : t ∈ wtypes) (gr : w.grownBy w' (some g)) : FT w w' :=
  ⟨gr.os, gr.tape, gr.output, gr.size, fun k t' cs' B' ht' => gr.block k B'.lt (fun e => by
    injection e with e
    exact Blk.ne_ B' B (fun hh => ht' (by rw [hh]; exact ht)) e)⟩
theorem FT.row {B0 size n : Nat} {e : TypeId} {v : Value} {xs : List Value} (own : w.ownsRow B0 e size v n xs) (he : e ∈ wtypes) (gr : w.grownBy w' v.ownBlock) : FT w w' := by
  refine ⟨gr.os, gr.tape, gr.output, gr.size, fun k t' cs' B' ht' => gr.block k B'.lt fun hk => ?_⟩
  exact own_blk_ne own B' (fun hh => ht' (by rw [← hh]; exact he)) hk.symm
theorem FT.fr {S : List Nat} (hf : Fr S w w') (hS : ∀ k ∈ S, ∃ (t : TypeId) (cs : Array Value), Blk w k t cs ∧ t ∈ wtypes) : FT w w' :=
  ⟨hf.os, hf.tape, hf.output, hf.size, fun k t cs B ht => hf.block k B.lt fun hk => by
    obtain ⟨t', cs', B', h'⟩ := hS k hk
    exact Blk.ne_ B B' (fun hh => ht (by rw [hh]; exact h')) rfl⟩
theorem TAt.types {b : Bks} {t : Tre} {ps : List Value} (h : TAt w b t ps) : ∀ k ∈ b.turn, ∃ (t : TypeId) (cs : Array Value), Blk w k t cs ∧ t ∈ wtypes := fun k hk => by
  simp only [Bks.turn, List.mem_cons, List.not_mem_nil, or_false] at hk
  rcases hk with rfl | rfl | rfl | rfl
  · exact ⟨_, _, h.ups, by decide⟩
  · exact ⟨_, _, h.hds, by decide⟩
  · exact ⟨_, _, h.pat, by decide⟩
  · exact ⟨_, _, h.whn, by decide⟩
theorem Nt.types {F : List Nat} {Bs : List Bks} {L : List Tre} {PS : List (List Value)} (h : Nt w F Bs L PS) : ∀ k ∈ turns Bs, ∃ (t : TypeId) (cs : Array Value), Blk w k t cs ∧ t ∈ wtypes := fun k hk => by
  obtain ⟨b, hb, hk2⟩ := List.mem_flatMap.1 hk
  obtain ⟨t, ps, T⟩ := h.all_at hb
  exact T.types k hk2
end
/-- What stays as it is from the clocks on. -/
structure St (w : World) (g0 g8 n h8 c8 : Nat) (P : Nat → Pr) (Bs : List Bks) : Prop where
  pr : PrR w g0 n P
  box : Blk w g8 61 #[.slice (some ⟨h8, 0, none⟩) n c8]
  row : ∃ cur : Array Value, Blk w h8 26 cur ∧ ∀ (i : Nat) (b : Bks), Bs[i]? = some b → cur[i]? = some (.pointer (some ⟨b.g, 0, none⟩))
section
variable {w w' : World} {g0 g8 n h8 c8 : Nat} {P : Nat → Pr} {Bs : List Bks}
theorem St.ft (h : St w g0 g8 n h8 c8 P Bs) (hf : FT w w') : St w' g0 g8 n h8 c8 P Bs := by
  obtain ⟨⟨cur, B, h1, h2⟩, hb, ⟨cur2, B2, h3⟩⟩ := h
  exact ⟨⟨cur, hf.blk B (by decide), h1, h2⟩, hf.blk hb (by decide), ⟨cur2, hf.blk B2 (by decide), h3⟩⟩
theorem St.pt (h : St w g0 g8 n h8 c8 P Bs) {i : Nat} {b : Bks} (hb : Bs[i]? = some b) : w.cell? ⟨h8, i, none⟩ = some (.pointer (some ⟨b.g, 0, none⟩)) := by
  obtain ⟨cur2, B2, h3⟩ := h.row
  exact B2.cellOf _ (h3 i b hb)
theorem St.lt8 (h : St w g0 g8 n h8 c8 P Bs) : h8 < w.heap.size := by
  obtain ⟨cur2, B2, h3⟩ := h.row
  exact B2.lt
theorem Sa.st {w0 : World} {v8 : Value} {R : Nat → Pr} {F : List Nat} {L : List Tre} {PS : List (List Value)} (h : Sa w0 w g0 g8 n n v8 R F Bs L PS) (hn : 0 < n) : ∃ h8 c8, v8 = .slice (some ⟨h8, 0, none⟩) n c8 ∧ St w g0 g8 n h8 c8 (fun k => maskP (R k) k) Bs := by
  rcases h.row.2 with ⟨_, h2⟩ | ⟨g, cap, cur, hv, hg, hh, hle, _, hsz, ht⟩
  · omega
  · subst hv
    refine ⟨g, cap, rfl, ⟨?_, h.box, ⟨cur, hh, fun i b hb => ?_⟩⟩⟩
    · obtain ⟨c, B, h1, h2⟩ := h.pr
      exact ⟨c, B, h1, fun k hk r v hv => h2 k hk r v (by simp only [if_pos hk]; exact hv)⟩
    · have h1 : (ptrs Bs)[i]? = some (.pointer (some ⟨b.g, 0, none⟩)) := by unfold ptrs; rw [List.getElem?_map, hb]; rfl
      rw [← ht, List.getElem?_take] at h1
      split at h1
      · simpa using h1
      · cases h1
end
def frc (fr : List Nat) : Array Value := (fr.map fun (x : Nat) => Value.int .i64 (x : Int)).toArray
theorem frc_at {fr : List Nat} {i : Nat} (hi : i < fr.length) : (frc fr)[i]? = some (.int .i64 ((frAt fr i : Nat) : Int)) := by
  unfold frc frAt
  rw [List.getElem?_toArray, List.getElem?_map, List.getElem?_eq_getElem hi, List.getD_eq_getElem?_getD, List.getElem?_eq_getElem hi]
  rfl
theorem frc_set (fr : List Nat) (i x : Nat) : (frc fr).setIfInBounds i (.int .i64 (x : Int)) = frc (fr.set i x) := by
  unfold frc
  rw [List.setIfInBounds_toArray, List.map_set]
theorem made_frc (n : Nat) : rowF n (fun _ => Value.int .i64 0) = frc (List.replicate n 0) := by
  rw [row_rep]
  unfold frc
  rw [List.map_replicate]
  rfl
/-- While the wires are laid. -/
structure Sb (w0 w : World) (g0 g8 g13 g14 n h8 c8 h14 c14 : Nat) (P : Nat → Pr) (fr : List Nat) (W : List Wire) (F : List Nat) (Bs : List Bks) (L : List Tre) (PS : List (List Value)) : Prop where
  low : Below w0.heap.size w0 w
  st : St w g0 g8 n h8 c8 P Bs
  b13 : w0.heap.size ≤ g13
  b14 : w0.heap.size ≤ g14
  f13 : ∀ b ∈ Bs, g13 ∉ b.all
  free : Blk w g13 3 (frc fr)
  box14 : Blk w g14 62 #[.slice (some ⟨h14, 0, none⟩) W.length c14]
  row14 : w.ownsRow w0.heap.size 66 4 (.slice (some ⟨h14, 0, none⟩) W.length c14) W.length (W.flatMap wcs4)
  blk14 : ∃ cur : Array Value, Blk w h14 66 cur
  nt : Nt w F Bs L PS
  fl : ∀ g ∈ F, w0.heap.size ≤ g
  paths : ∀ t ∈ L, ∀ e ∈ t.es, e.path = []
section
variable {w0 w w' : World} {g0 g8 g13 g14 n h8 c8 h14 c14 : Nat} {P : Nat → Pr} {fr : List Nat} {W : List Wire} {F : List Nat} {Bs : List Bks} {L : List Tre} {PS : List (List Value)}
theorem Sb.kept (h : Sb w0 w g0 g8 g13 g14 n h8 c8 h14 c14 P fr W F Bs L PS) (hb : Below w.heap.size w w') : Sb w0 w' g0 g8 g13 g14 n h8 c8 h14 c14 P fr W F Bs L PS := by
  obtain ⟨cur, hc⟩ := h.blk14
  exact ⟨h.low.trans (hb.mono h.low.size), h.st.ft (.be hb), h.b13, h.b14, h.f13, h.free.kept hb, h.box14.kept hb, ownsRow_keep h.row14 hb, ⟨cur, hc.kept hb⟩, h.nt.kept hb, h.fl, h.paths⟩
/-- A wire more in the row, and the row told in its box. -/
theorem Sb.push (h : Sb w0 w g0 g8 g13 g14 n h8 c8 h14 c14 P fr W F Bs L PS) {x : Wire} {v : Value} {w2 : World} (own : w2.ownsRow w0.heap.size 66 4 v (W.length + 1) (W.flatMap wcs4 ++ wcs4 x)) (gr : w.grownBy w2 (Value.slice (some ⟨h14, 0, none⟩) W.length c14).ownBlock) :
    ∃ h14' c14', v = .slice (some ⟨h14', 0, none⟩) (W.length + 1) c14' ∧ Sb w0 (w2.setCell ⟨g14, 0, none⟩ v) g0 g8 g13 g14 n h8 c8 h14' c14' P fr (W ++ [x]) F Bs L PS := by
  rcases own.2 with ⟨_, h2⟩ | ⟨g, cap, cur, hv, hg, hh, hle, hmx, hsz, ht⟩
  · omega
  · subst hv
    refine ⟨g, cap, rfl, ?_⟩
    have ne1 := fun {g' : Nat} {ty : TypeId} {cs : Array Value} (B : Blk w g' ty cs) (hne : ty ≠ 66) => own_blk_ne h.row14 B (Ne.symm hne)
    have bx2 := h.box14.grown gr (ne1 h.box14 (by decide)).symm
    have gs : w2.grownBy (w2.setCell ⟨g14, 0, none⟩ (.slice (some ⟨g, 0, none⟩) (W.length + 1) cap)) (some g14) := gr_set (grownBy_refl _ _) _ _
    have bx3 := bx2.set_ 0 (.slice (some ⟨g, 0, none⟩) (W.length + 1) cap)
    have lo2 := h.low.trans (below_of_grown gr h.row14 h.low.size)
    have ft2 := FT.row h.row14 (by decide) gr
    have ft3 := FT.gr bx2 (by decide) gs
    have hh2 : Blk w2 g 66 cur := hh
    have nt2 := h.nt.row0 h.paths h.row14 (by decide) gr
    have nt3 := nt2.blk0 h.paths bx2 (by decide) gs
    have hh3 := hh2.grown gs (by intro e; injection e with e; exact Blk.ne_ hh2 bx2 (by decide) e)
    have fr2 := h.free.grown gr (ne1 h.free (by decide)).symm
    exact ⟨lo2.grown gs lo2.size (fun k hk => by cases hk; exact h.b14), h.st.ft (ft2.trans ft3), h.b13, h.b14, h.f13, fr2.grown gs (by intro e; injection e with e; exact Blk.ne_ fr2 bx2 (by decide) e),
      by simpa using bx3, by
        have := own_kept own gs (fun k hk e => by injection e with e; subst e; exact own_blk_ne own bx2 (by decide) hk)
        simpa using this, ⟨cur, hh3⟩, nt3, h.fl, h.paths⟩
theorem Sb.up (h : Sb w0 w g0 g8 g13 g14 n h8 c8 h14 c14 P fr W F Bs L PS) {i : Nat} {b : Bks} {t : Tre} {ps ps' : List Value} (at_ : Int) (hb : Bs[i]? = some b) (ht : L[i]? = some t) (hps : PS[i]? = some ps)
    (T : TAt w' b (t.upI at_ true) ps') (N : PNew w ps ps') (hf : Fr b.turn w w') : Sb w0 w' g0 g8 g13 g14 n h8 c8 h14 c14 P fr W F Bs (L.set i (t.upI at_ true)) (PS.set i ps') := by
  have T0 := h.nt.tat i b t ps hb ht hps
  have ft := FT.fr hf T0.types
  have hne : ∀ {g : Nat} {ty : TypeId} {cs : Array Value}, Blk w g ty cs → ty ∉ ctypes → g ∉ b.turn := fun B hty hm => T0.ne B hty (turn_all hm)
  obtain ⟨cur, hc⟩ := h.blk14
  have hge : ∀ k ∈ b.turn, w0.heap.size ≤ k := fun k hk => h.fl k (h.nt.sub b (List.mem_of_getElem? hb) k (turn_all hk))
  refine ⟨h.low.trans (hf.below h.low.size hge), h.st.ft ft, h.b13, h.b14, h.f13, hf.blk h.free (fun hm => h.f13 b (List.mem_of_getElem? hb) (turn_all hm)), hf.blk h.box14 (hne h.box14 (by decide)), ?_, ⟨cur, hf.blk hc (hne hc (by decide))⟩, h.nt.set hb ht hps T N hf, h.fl, fun u hu e he => ?_⟩
  · have hlt := ownsRow_lt h.row14
    obtain ⟨h1, h2⟩ := h.row14
    refine ⟨h1, h2.imp id fun ⟨q, cap, cu, hv, hg, hh, r⟩ => ⟨q, cap, cu, hv, hg, ?_, r⟩⟩
    have hq : (Value.slice (some ⟨h14, 0, none⟩) W.length c14).ownBlock = some q := by rw [hv]; rfl
    rw [hf.block q (hlt q hq).2 (hne (show Blk w q _ cu from hh) (by decide))]
    exact hh
  · rcases List.mem_or_eq_of_mem_set hu with h1 | h1
    · exact h.paths u h1 e he
    · subst h1
      have hp := h.paths t (List.mem_of_getElem? ht)
      unfold Tre.upI at he
      split at he
      · exact hp e he
      · exact Tre.up_path hp e he
theorem Sb.fre (h : Sb w0 w g0 g8 g13 g14 n h8 c8 h14 c14 P fr W F Bs L PS) (i x : Nat) : Sb w0 (w.setCell ⟨g13, i, none⟩ (.int .i64 (x : Int))) g0 g8 g13 g14 n h8 c8 h14 c14 P (fr.set i x) W F Bs L PS := by
  have gs : w.grownBy (w.setCell ⟨g13, i, none⟩ (.int .i64 (x : Int))) (some g13) := gr_set (grownBy_refl _ _) _ _
  have fr2 := h.free.set_ i (.int .i64 (x : Int))
  rw [frc_set] at fr2
  obtain ⟨cur, hc⟩ := h.blk14
  have hne : ∀ {g : Nat} {ty : TypeId} {cs : Array Value}, Blk w g ty cs → ty ≠ 3 → some g ≠ some g13 := fun B hty e => by injection e with e; exact Blk.ne_ B h.free hty e
  exact ⟨h.low.grown gs h.low.size (fun k hk => by cases hk; exact h.b13), h.st.ft (FT.gr h.free (by decide) gs), h.b13, h.b14, h.f13, fr2, h.box14.grown gs (hne h.box14 (by decide)),
    own_kept h.row14 gs (fun k hk e => by injection e with e; subst e; exact own_blk_ne h.row14 h.free (by decide) hk), ⟨cur, hc.grown gs (hne hc (by decide))⟩, h.nt.gr0 h.paths gs (fun g hg b hb => by injection hg with hg; subst hg; exact h.f13 b hb), h.fl, h.paths⟩
end
end Go.Proofs.Ytcdgofndfajekaa
