/- Parts of the proof, glued by a program of this session (wip/tools/claimfit.py). -/
import Derived.Test.YtpbhkdamkbopkaaMPXD
namespace Go.Proofs.Ytpbhkdamkbopkaa.Rn
set_option linter.unusedSimpArgs false
set_option linter.unusedVariables false
open Go.RowKit Go.Proofs.Ytpbhkdamkbopkaa.GRuns Go.Proofs.YtpbhkdamkbopkaaW.PrintWords Go.Proofs.YtpbhkdamkbopkaaW.PrintLast Go.Proofs.YtpbhkdamkbopkaaW.PrintMore
theorem pl_last (s : ByteArray) (i : Nat) : ∀ n, pl s i 0 n = [] ∨ ∃ Q p, pl s i 0 n = Q ++ [((p : Nat) : Int)] ∧ p < n := by
  intro n
  induction n with
  | zero => exact .inl rfl
  | succ n ih =>
    simp only [pl]
    split
    · exact .inr ⟨_, 0 + n, rfl, by omega⟩
    · rcases ih with h | ⟨Q, p, h, hp⟩
      · exact .inl h
      · exact .inr ⟨Q, p, h, by omega⟩
/-- The loop over all the places, from the nearest on. -/
theorem best_full (s : ByteArray) (hs : s.size ≤ 140737488351232) (i : Nat) (hi : i + 3 ≤ s.size) (L : List Int) (hL : L.length < 17592186044416) : ∀ n D, n + D = i → D ≤ 32768 → (∃ Q, L = pl s i 0 n ++ Q) →
    ∀ k, 2 * n + 262 ≤ k → deflate_best.l0 k s (i : Int) L (((fin (best s i D)).1 : Nat) : Int) (((fin (best s i D)).2 : Nat) : Int) (((pl s i 0 n).length : Int) - 1) = some (ip (run s i)) := by
  intro n
  induction n with
  | zero =>
    intro D hD hD2 _ k hk
    obtain ⟨k, rfl⟩ := Nat.exists_eq_add_of_le' (show 2 ≤ k by omega)
    have hr : run s i = fin (best s i D) := by unfold run; rw [show min i 32768 = D by omega]
    rw [show k + 2 = (k + 1) + 1 from rfl, deflate_best.l0]
    rw [if_neg (by simp [pl]), deflate_best.j1, if_neg (by simp), hr]
    exact fin_int _
  | succ n ih =>
    intro D hD hD2 hQ k hk
    obtain ⟨Q, hQ⟩ := hQ
    rcases Nat.lt_or_ge D 32768 with hlt | hge
    · have hp : i - (D + 1) = 0 + n := by omega
      by_cases c : tri s i (0 + n)
      · have hm := (tri_iff hi).1 c
        simp only [pl, if_pos c] at hQ ⊢
        obtain ⟨k, rfl⟩ := Nat.exists_eq_add_of_le' (show 2 ≤ k by omega)
        have hrd : rd L ((pl s i 0 n).length : Int) = ((0 + n : Nat) : Int) := by rw [hQ]; exact rd_mid _ _ _
        have hlen : (pl s i 0 n).length < L.length := by rw [hQ]; simp
        have hl1 : (((pl s i 0 n ++ [((0 + n : Nat) : Int)]).length : Int) - 1) = ((pl s i 0 n).length : Int) := by simp
        have ih' := ih (D + 1) (by omega) (by omega) ⟨[((0 + n : Nat) : Int)] ++ Q, by rw [hQ, List.append_assoc]⟩ k (by omega)
        have stay := stay_of (s := s) (i := i) (D := D + 1) (n := min i 32768 - (D + 1)) hi (by omega)
        obtain ⟨u0, u1, _, _⟩ := mlen_spec (s := s) (i := i) (j := 0 + n) (by omega)
        have v : (fin (best s i D)).1 ≤ mlen s i (0 + n) ∨ (fin (best s i D)).1 ≤ 258 ∧ i + (fin (best s i D)).1 ≤ s.size := by
          rcases (best_spec s i D).2 with h | ⟨_, _, h, _⟩
          · left; unfold fin; split <;> (try simp only) <;> omega
          · right
            obtain ⟨v0, v1, _, _⟩ := mlen_spec (s := s) (i := i) (j := i - (best s i D).2) (by omega)
            rw [h] at v0 v1
            unfold fin
            split <;> (try simp only) <;> omega
        have hb := best_more (s := s) (i := i) (D := D) (by rw [hp]; exact hm)
        rw [hb, hp] at stay ih'
        have ed : wrap64 ((i : Int) - ((0 + n : Nat) : Int)) = ((D + 1 : Nat) : Int) := by rw [w64 (by omega) (by omega)]; omega
        have el : wrap64 (((pl s i 0 n).length : Int) - 1) = ((pl s i 0 n).length : Int) - 1 := w64 (by omega) (by omega)
        have hk1 : 259 ≤ k := by omega
        have hd : ((D + 1 : Nat) : Int) ≤ 32768 := by omega
        have hn0 : (0 : Int) ≤ ((pl s i 0 n).length : Int) := Int.natCast_nonneg _
        have hn1 : ((pl s i 0 n).length : Int) < (L.length : Int) := Int.ofNat_lt.mpr hlen
        have hal := alike_f s hs i (0 + n) (by omega) (by omega) k hk1
        rw [hl1, show k + 2 = (k + 1) + 1 from rfl, deflate_best.l0, hrd]
        rw [if_pos hn0, if_pos hn0, if_pos hn1, ed, decide_eq_true hd, deflate_best.j1, if_pos rfl, if_pos hn0, if_pos hn1, hrd, ed, el, hal]
        simp only [Option.bind_some]
        generalize mlen s i (0 + n) = m at *
        generalize fin (best s i D) = p at *
        obtain ⟨m', f'⟩ := p
        exact turn_all i m (D + 1) m' f' s.size (run s i) _ _ u0 u1 v hs stay (fun g => by rw [if_pos g] at ih'; exact ih') (fun g => by rw [if_neg g] at ih'; exact ih')
      · have hm : mlen s i (i - (D + 1)) < 3 := by
          rw [hp]
          rcases Nat.lt_or_ge (mlen s i (0 + n)) 3 with h | h
          · exact h
          · exact absurd ((tri_iff hi).2 h) c
        simp only [pl, if_neg c] at hQ ⊢
        have ih' := ih (D + 1) (by omega) (by omega) ⟨Q, hQ⟩ k (by omega)
        rw [fin_stay s i D hm] at ih'
        exact ih'
    · obtain ⟨k, rfl⟩ := Nat.exists_eq_add_of_le' (show 2 ≤ k by omega)
      have hr : run s i = fin (best s i D) := by unfold run; rw [show min i 32768 = D by omega]
      have hj : deflate_best.j1 (k + 1) s (i : Int) L (((fin (best s i D)).1 : Nat) : Int) (((fin (best s i D)).2 : Nat) : Int) (((pl s i 0 (n + 1)).length : Int) - 1) false = some (ip (run s i)) := by
        rw [deflate_best.j1, if_neg (by simp), hr]
        exact fin_int _
      rw [show k + 2 = (k + 1) + 1 from rfl, deflate_best.l0]
      rcases pl_last s i (n + 1) with h | ⟨Q', p, h, hp⟩
      · rw [if_neg (by rw [h]; simp)]
        exact hj
      · have hl : (((pl s i 0 (n + 1)).length : Int) - 1) = (Q'.length : Int) := by rw [h]; simp
        have hlen : Q'.length < L.length := by rw [hQ, h]; simp
        have hrd : rd L (Q'.length : Int) = ((p : Nat) : Int) := by rw [hQ, h]; exact rd_mid _ _ _
        have ed : wrap64 ((i : Int) - ((p : Nat) : Int)) = ((i - p : Nat) : Int) := by rw [w64 (by omega) (by omega)]; omega
        rw [hl] at hj ⊢
        have hd : ¬ ((i - p : Nat) : Int) ≤ 32768 := by omega
        rw [if_pos (Int.natCast_nonneg _), if_pos (Int.natCast_nonneg _), if_pos (Int.ofNat_lt.mpr hlen), hrd, ed, decide_eq_false hd]
        exact hj
/-- Over all the places of the same three bytes, best answers the run. -/
theorem best_f (s : ByteArray) (hs : s.size ≤ 140737488351232) (i : Nat) (hi : i + 3 ≤ s.size) (hi2 : i < 17592186044416) (k : Nat) (hk : 2 * i + 262 ≤ k) : deflate_best.f k s (i : Int) (pl s i 0 i) = some (ip (run s i)) := by
  have hl := pl_len s i 0 i
  have el : wrap64 (((pl s i 0 i).length : Int) - 1) = ((pl s i 0 i).length : Int) - 1 := w64 (by omega) (by omega)
  unfold deflate_best.f
  rw [el]
  exact best_full s hs i hi _ (by omega) i 0 (by omega) (by omega) ⟨[], by rw [List.append_nil]⟩ k hk
end Go.Proofs.Ytpbhkdamkbopkaa.Rn
namespace Go.Proofs.Ytpbhkdamkbopkaa.Wr
set_option linter.unusedSimpArgs false
set_option linter.unusedVariables false
open Go.WideElems (rd_val)
open Go.RowKit Go.Maps Go.MapKept Go.ChangeShapes Go.Proofs.YtpbhkdamkbopkaaW.PrintWords Go.Proofs.YtpbhkdamkbopkaaW.PrintLast Go.Proofs.YtpbhkdamkbopkaaW.PrintMore
open Go.Proofs.Ytpbhkdamkbopkaa.Rn (run pl tri)
/-- The places below n where these three bytes begin. -/
def pos (s : ByteArray) (a b c : Int) : Nat → List Int
  | 0 => []
  | n + 1 => if n + 3 ≤ s.size ∧ bt s (n : Int) = a ∧ bt s ((n + 1 : Nat) : Int) = b ∧ bt s ((n + 2 : Nat) : Int) = c then pos s a b c n ++ [(n : Int)] else pos s a b c n
theorem pos_pl (s : ByteArray) (i : Nat) (hi : i + 3 ≤ s.size) : ∀ n, n ≤ i → pos s (bt s (i : Int)) (bt s ((i + 1 : Nat) : Int)) (bt s ((i + 2 : Nat) : Int)) n = pl s i 0 n := by
  intro n
  induction n with
  | zero => intro _; rfl
  | succ n ih =>
    intro hn
    simp only [pos, pl, Nat.zero_add]
    rw [ih (by omega)]
    by_cases c : tri s i n
    · rw [if_pos c, if_pos ⟨by omega, c.1.symm, c.2.1.symm, c.2.2.symm⟩]
    · rw [if_neg c, if_neg (fun h => c ⟨h.2.1.symm, h.2.2.1.symm, h.2.2.2.symm⟩)]
/-- A datum reads as these numbers. -/
def Dat (d : DataW Unit) (zs : List Int) : Prop := (d = .nil ∧ zs = []) ∨ d = .slice (lits .i64 zs) []
theorem lits_inj {zs ys : List Int} (h : lits (H := Unit) .i64 zs = lits .i64 ys) : zs = ys := by
  unfold lits at h
  exact (List.map_inj_right (fun a b hab => by cases hab; rfl)).1 h
theorem Dat.unique {d : DataW Unit} {zs ys : List Int} (h : Dat d zs) (k : Dat d ys) : zs = ys := by
  rcases h with ⟨h1, h2⟩ | h1 <;> rcases k with ⟨k1, k2⟩ | k1
  · rw [h2, k2]
  · rw [h1] at k1; cases k1
  · rw [k1] at h1; cases h1
  · rw [h1] at k1
    simp at k1
    exact lits_inj k1
theorem rows_lt {H : Type} {P : Program} {k : TypeId} {w : World} {base : Nat} {e : TypeId} {q : IntKind} {b n : Nat} {D : DataW H} (h : w.ownsGroups P k base e q b n D) : ∀ es clock, w.heap[b]? = some (.map es clock) → ∀ x ∈ es.toList, ∀ g, x.val.ownBlock = some g → base ≤ g ∧ g < w.heap.size := by
  intro es clock hb x hx g hg
  obtain ⟨es', clock', hb', F, _⟩ := h
  obtain ⟨rfl, rfl⟩ : es' = es ∧ clock' = clock := by rw [hb'] at hb; simpa using hb
  obtain ⟨y, hy⟩ := F.reads x hx
  obtain ⟨z, hz, _⟩ := rd_val hy
  obtain ⟨zs, hoi, _⟩ := rowElem_inv hz
  exact hoi.1.lt g hg
theorem WSt.same {w0 : World} {g : Nat} {v : Value} {o : List Int} {f : Int} {w w' : World} (h : WSt w0 g v o f w) (hg : w'.heap[g]? = w.heap[g]?) (hv : ∀ k, v.ownBlock = some k → w'.heap[k]? = w.heap[k]?) (hb : Below w0.heap.size w0 w') : WSt w0 g v o f w' :=
  ⟨hg.trans h.blk, Kd.R_reok rfl (Kd.R_step (Kd.R_tight rfl h.row) (fun k hk _ => hv k hk.symm)) h.row.1, h.hg, hb⟩
/-- The writer and the places. -/
structure RSt (W0 : World) (s : ByteArray) (g m : Nat) (v : Value) (B : List Int) (i : Nat) (w : World) : Prop where
  wr : WSt W0 g v (pk B) (fr B.length) w
  bits : Bits B
  gm : g < m
  mw : m < w.heap.size
  vm : v.ownBlock ≠ some m
  grp : ∃ (D : DataW Unit) (n : Nat), n ≤ i ∧ w.ownsGroups Try.prog 97 (m + 1) 3 .i64 m n D ∧ Maps.IsMap D ∧ ∀ a b c, (0 ≤ a ∧ a ≤ 255) → (0 ≤ b ∧ b ≤ 255) → (0 ≤ c ∧ c ≤ 255) → Dat (D.atKey (tl a b c) .nil) (pos s a b c i)
  shun : w.Shuns m (fun k => k = g ∨ v.ownBlock = some k)
variable {W0 : World} {s : ByteArray} {g m : Nat} {v : Value} {B : List Int} {i : Nat} {w w' : World}
theorem RSt.below (h : RSt W0 s g m v B i w) (hb : Below w.heap.size w w') : RSt W0 s g m v B i w' := by
  obtain ⟨D, n, h1, h2, h3, h4⟩ := h.grp
  have hm := hb.block m h.mw
  exact ⟨h.wr.below hb, h.bits, h.gm, Nat.lt_of_lt_of_le h.mw hb.size, h.vm, ⟨D, n, h1, owns_same h2 hm (fun es clock he x hx g' hg' => hb.block g' (rows_lt h2 es clock he x hx g' hg').2), h3, h4⟩, shuns_same h.shun hm⟩
theorem RSt.wrote {v' : Value} {C : List Int} (h : RSt W0 s g m v B i w) (hC : Bits C) (hw : WSt W0 g v' (pk (B ++ C)) (fr (B ++ C).length) w') (hf : Fro w g v w' v') : RSt W0 s g m v' (B ++ C) i w' := by
  obtain ⟨D, n, h1, h2, h3, h4⟩ := h.grp
  have hm : w'.heap[m]? = w.heap[m]? := hf.keep.2 m h.mw (by have := h.gm; omega) (fun e => h.vm e.symm)
  have hs : ∀ es clock, w.heap[m]? = some (.map es clock) → ∀ x ∈ es.toList, ∀ g', x.val.ownBlock = some g' → w'.heap[g']? = w.heap[g']? := fun es clock he x hx g' hg' =>
    hf.keep.2 g' (rows_lt h2 es clock he x hx g' hg').2 (fun e => h.shun es clock he x hx g' hg' (.inl e)) (fun e => h.shun es clock he x hx g' hg' (.inr e.symm))
  have hsh : w.Shuns m (fun k => k = g ∨ v'.ownBlock = some k) := h.shun.reno h2 (fun k hk => by
    rcases hk with hk | hk
    · exact .inl (.inl hk)
    · rcases hf.own with e | ⟨b, e, hb⟩
      · exact .inl (.inr (e ▸ hk))
      · rw [e] at hk
        cases hk
        exact .inr hb)
  refine ⟨hw, h.bits.append hC, h.gm, Nat.lt_of_lt_of_le h.mw hf.keep.1, fun e => ?_, ⟨D, n, h1, owns_same h2 hm hs, h3, h4⟩, shuns_same hsh hm⟩
  rcases hf.own with e1 | ⟨b, e1, hb⟩
  · exact h.vm (e1 ▸ e)
  · rw [e1] at e
    cases e
    have := h.mw
    omega
/-- A place without three bytes. -/
theorem RSt.skip (h : RSt W0 s g m v B i w) (hi : s.size < i + 3) : RSt W0 s g m v B (i + 1) w := by
  obtain ⟨D, n, h1, h2, h3, h4⟩ := h.grp
  refine ⟨h.wr, h.bits, h.gm, h.mw, h.vm, ⟨D, n, by omega, h2, h3, fun a b c ha hb hc => ?_⟩, h.shun⟩
  have e : pos s a b c (i + 1) = pos s a b c i := by
    simp only [pos]
    rw [if_neg (fun h => by omega)]
  rw [e]
  exact h4 a b c ha hb hc
/-- The places of three bytes, looked up. -/
theorem RSt.look (h : RSt W0 s g m v B i w) (hi : i ≤ 1000000000) {a b c : Int} (ha : 0 ≤ a ∧ a ≤ 255) (hb : 0 ≤ b ∧ b ≤ 255) (hc : 0 ≤ c ∧ c ≤ 255) :
    ∃ A cap, (Instr.lookup 105 (.map (some m)) (tk a b c) false).run Try.prog w = .ok (.slice A (pos s a b c i).length cap) w ∧ (pos s a b c i).length ≤ cap ∧ Kd.C (Kd.int .i64) w A (pos s a b c i).length (pos s a b c i) := by
  obtain ⟨D, n, h1, h2, h3, h4⟩ := h.grp
  obtain ⟨u, zs, hrun, hat, hoi, _, _⟩ := h2.at keyed97 Try.underlying105 (zero22 w) (by unfold maxLen; omega) (tl_key ha hb hc)
  have hz : zs = pos s a b c i := Dat.unique (d := rowDatum .i64 u zs) hoi.datum (hat ▸ h4 a b c ha hb hc)
  have hR : Kd.R (Kd.int .i64) 3 w (m + 1) (fun _ => True) u zs := Kd.R_of_own hoi.1 (fun _ _ => trivial)
  obtain ⟨A, cap, e, hle, hC⟩ := Kd.R_reads hR
  rw [← hz]
  exact ⟨A, cap, by rw [hrun, e], hle, hC⟩
/-- An entry that is appended to: the places hold one more. -/
theorem RSt.entry (h : RSt W0 s g m v B i w) (hs : s.size ≤ 1000000000) (hi : i + 3 ≤ s.size) :
    ∃ (u : Value) (st : Int) (zs : List Int) (w1 : World), (Instr.mapEntry 105 (.map (some m)) (tk (bt s (i : Int)) (bt s ((i + 1 : Nat) : Int)) (bt s ((i + 2 : Nat) : Int)))).run Try.prog w = .ok (.tuple #[u, goInt st]) w1 ∧ w.grownBy w1 (some m) ∧
      w1.ownsRow (m + 1) 3 1 u zs.length (zs.map (Value.int .i64)) ∧ zs.length ≤ i ∧ m + 1 ≤ w1.heap.size ∧
      ∀ (w2 : World) (u' : Value), w1.grownBy w2 u.ownBlock → w2.ownsRow (m + 1) 3 1 u' (zs.length + 1) (zs.map (Value.int .i64) ++ [.int .i64 (i : Int)]) → (u'.ownBlock = u.ownBlock ∨ u'.ownBlock = some w1.heap.size) →
        ∃ w3, (Instr.entryStore 105 (.map (some m)) (goInt st) u').run Try.prog w2 = .ok () w3 ∧ RSt W0 s g m v B (i + 1) w3 := by
  obtain ⟨D, n, h1, h2, h3, h4⟩ := h.grp
  have ra := bt_range s (i : Int)
  have rb := bt_range s ((i + 1 : Nat) : Int)
  have rc := bt_range s ((i + 2 : Nat) : Int)
  obtain ⟨u, st, zs, w1, hrun, hg1, hat, hoi, hzl, hsh, hback⟩ := groups_entry law97 Try.underlying105 zero22 h2 (by unfold maxLen; omega) (tl_key ra rb rc)
  have hz : zs = pos s (bt s (i : Int)) (bt s ((i + 1 : Nat) : Int)) (bt s ((i + 2 : Nat) : Int)) i := Dat.unique (d := rowDatum .i64 u zs) hoi.datum (hat ▸ h4 _ _ _ ra rb rc)
  refine ⟨u, st, zs, w1, hrun, hg1, hoi.1, by omega, Nat.lt_of_lt_of_le h.mw hg1.size, ?_⟩
  intro w2 u' hg2 hown hloc
  have hwf : (Lit.int .i64 (i : Int)).wf = true := by
    simp [Lit.wf, IntKind.min, IntKind.max, IntKind.signed, IntKind.bits]
    omega
  have hoi' : w2.ownsInts (m + 1) 3 .i64 u' (zs ++ [(i : Int)]) := hoi.appended hown hwf
  have hloc' : u'.ownBlock = u.ownBlock ∨ ∃ g, u'.ownBlock = some g ∧ w.heap.size ≤ g := hloc.imp id (fun h => ⟨_, h, hg1.size⟩)
  obtain ⟨w3, hrun3, hown3, hg3, hsh3⟩ := hback w2 u' (zs ++ [(i : Int)]) hg2 hoi' (by simp; omega) hloc'
  refine ⟨w3, hrun3, ?_⟩
  -- what is not the map's nor its row's stays
  have hgs : g < w.heap.size := blk_lt h.wr.blk
  have stay : ∀ k, k < w.heap.size → k ≠ m → u.ownBlock ≠ some k → w3.heap[k]? = w.heap[k]? := fun k hk hm hu =>
    ((hg3.block k (Nat.lt_of_lt_of_le hk (Nat.le_trans hg1.size hg2.size)) (fun e => hm (by cases e; rfl))).trans (hg2.block k (Nat.lt_of_lt_of_le hk hg1.size) (fun e => hu e.symm))).trans (hg1.block k hk (fun e => hm (by cases e; rfl)))
  have husn := hsh _ h.shun
  have hbel : Below W0.heap.size W0 w3 := by
    have hWm : W0.heap.size ≤ m := Nat.le_trans h.wr.hg (Nat.le_of_lt h.gm)
    have b1 := h.wr.bl.grown hg1 h.wr.bl.size (fun j hj => by cases hj; exact hWm)
    have b2 := b1.grown hg2 b1.size (fun j hj => by have := (hoi.1.lt j hj).1; omega)
    exact b2.grown hg3 b2.size (fun j hj => by cases hj; exact hWm)
  have hvlt : ∀ k, v.ownBlock = some k → k < w.heap.size := fun k hk => by
    obtain ⟨inner, ho⟩ := Kd.R_own h.wr.row
    exact (ho.lt k hk).2
  refine ⟨h.wr.same (stay g hgs (by have := h.gm; omega) (fun e => husn g e (.inl rfl))) (fun k hk => stay k (hvlt k hk) (fun e => h.vm (e ▸ hk)) (fun e => husn k e (.inr hk))) hbel, h.bits, h.gm, Nat.lt_of_lt_of_le h.mw (Nat.le_trans hg1.size (Nat.le_trans hg2.size hg3.size)), h.vm, ⟨_, n + 1, by omega, hown3, h3.put _ _, fun a b c ha hb hc => ?_⟩, hsh3 _ h.shun ?_⟩
  · by_cases e : a = bt s (i : Int) ∧ b = bt s ((i + 1 : Nat) : Int) ∧ c = bt s ((i + 2 : Nat) : Int)
    · rw [e.1, e.2.1, e.2.2, put_here h3 ra rb rc]
      simp only [pos]
      rw [if_pos ⟨hi, trivial, trivial, trivial⟩, ← hz]
      exact hoi'.datum
    · rw [put_there ha hb hc ra rb rc _ e]
      simp only [pos]
      rw [if_neg (fun e1 => e ⟨e1.2.1.symm, e1.2.2.1.symm, e1.2.2.2.symm⟩)]
      exact h4 a b c ha hb hc
  · intro k hk hno
    rcases hloc with e | e
    · exact husn k (e ▸ hk) hno
    · rw [e] at hk
      cases hk
      rcases hno with e1 | e1
      · have := hg1.size; omega
      · have := hvlt _ e1; have := hg1.size; omega
section
variable {P : Program} {ops : Array Oper} {rest : List Oper} {o : Oper} {a : Act} {Q : Exit → Act → World → Prop} {w w1 : World}
theorem wpList_mapEntry_run (hg : o.guard = none) (mo x : Operand) (t : TypeId) (hop : o.op = Op.mapEntry t mo x) (mv key r : Value) (hm : a.eval mo = mv) (hx : a.eval x = key) (hrun : (Instr.mapEntry t mv key).run P w = .ok r w1) (hK : wpList P ops Q rest (a.put o.dst r) w1) : wpList P ops Q (o :: rest) a w := by
  refine wpList_plain hg fun K' hK' => ?_
  unfold Oper.wp
  simp [execOp, hop, hm, hx, hrun, Result.andThen]
  exact hK' _ _ hK
theorem wpList_entryStore_run (hg : o.guard = none) (mo st x : Operand) (t : TypeId) (hop : o.op = Op.entryStore t mo st x) (mv sv key : Value) (hm : a.eval mo = mv) (hst : a.eval st = sv) (hx : a.eval x = key) (hrun : (Instr.entryStore t mv sv key).run P w = .ok () w1) (hK : wpList P ops Q rest (a.put o.dst undef) w1) : wpList P ops Q (o :: rest) a w := by
  refine wpList_plain hg fun K' hK' => ?_
  unfold Oper.wp
  simp [execOp, hop, hm, hst, hx, hrun, Result.andThen]
  exact hK' _ _ hK
theorem wpList_lookup_run (hg : o.guard = none) (mo x : Operand) (t : TypeId) (hop : o.op = Op.lookup t mo x false) (mv key r : Value) (hm : a.eval mo = mv) (hx : a.eval x = key) (hrun : (Instr.lookup t mv key false).run P w = .ok r w) (hK : wpList P ops Q rest (a.put o.dst r) w) : wpList P ops Q (o :: rest) a w := by
  refine wpList_plain hg fun K' hK' => ?_
  unfold Oper.wp
  simp [execOp, hop, hm, hx, hrun, Result.andThen]
  exact hK' _ _ hK
end
end Go.Proofs.Ytpbhkdamkbopkaa.Wr
namespace Go.Proofs.Ytpbhkdamkbopkaa.Wr
set_option linter.unusedSimpArgs false
set_option linter.unusedVariables false
open Go.RowKit Go.Maps Go.MapKept Go.Proofs.YtpbhkdamkbopkaaW.PrintWords Go.Proofs.YtpbhkdamkbopkaaW.PrintLast Go.Proofs.YtpbhkdamkbopkaaW.PrintMore
open Go.Proofs.Ytpbhkdamkbopkaa.Rn (run ip at_ok at_no best_f)
open Go.Proofs.Ytpbhkdamkbopkaa.GRuns (deflate_at.f deflate_at.calls deflate_best.f deflate_best.calls)
/-- The bits of the bytes from i on. -/
def rbits (s : ByteArray) : Nat → Nat → List Int
  | 0, _ => []
  | k + 1, i => if i < s.size then (if (run s i).1 = 0 then sc (bt s (i : Int)) ++ rbits s k (i + 1) else rc ((run s i).1 : Nat) ((run s i).2 : Nat) ++ rbits s k (i + (run s i).1)) else []
/-- The bits of a whole. -/
def RB (s : ByteArray) : List Int := (([] ++ [1]) ++ nb 1 2 ++ rbits s s.size 0) ++ sc 256
theorem RSt.start {W0 : World} {s : ByteArray} {g : Nat} {v : Value} {B : List Int} {w : World} (h : WSt W0 g v (pk B) (fr B.length) w) (hB : Bits B) : RSt W0 s g w.heap.size v B 0 (w.alloc (.map #[] 0)) := by
  refine ⟨h.below (below_alloc (Below.refl _ _) _), hB, blk_lt h.blk, by simp, fun e => ?_, ⟨.map [], 0, Nat.le_refl _, World.ownsGroups_made w Try.prog 97 3 .i64, Maps.isMap_empty, fun a b c _ _ _ => .inl ⟨rfl, rfl⟩⟩, World.Shuns_made w _⟩
  obtain ⟨inner, ho⟩ := Kd.R_own h.row
  have := (ho.lt _ e).2
  omega
theorem add_block (b : Nat) (t : Nat) : ((⟨b, 0, none⟩ : Addr).add t).block = b := by
  simp [Addr.add]
  split <;> rfl
theorem cell_keep {w8 wm : World} {m : Nat} {y : Int} (hgm : (w8.alloc (.cells #[.int .i64 y] 3)).grownBy wm (some m)) (hm : m < w8.heap.size) : ∀ t u, [Value.int .i64 y][t]? = some u → wm.cell? ((⟨w8.heap.size, 0, none⟩ : Addr).add t) = some u := by
  intro t u htu
  have hb : wm.heap[((⟨w8.heap.size, 0, none⟩ : Addr).add t).block]? = (w8.alloc (.cells #[.int .i64 y] 3)).heap[((⟨w8.heap.size, 0, none⟩ : Addr).add t).block]? := by
    rw [add_block]
    exact hgm.block w8.heap.size (by simp) (fun e1 => by have := Option.some.inj e1; omega)
  exact (World.cell?_of_block hb).trans (cell_one_new w8 _ 3 t u htu)
theorem info3w : (Try.prog.info? 3).map (fun i => (i.zero, i.size, i.bytes)) = some (some (.int .i64 0), 1, 8) := by kernel_rfl
theorem run_rng (s : ByteArray) (i : Nat) (hi : i ≤ s.size) : (run s i).1 = 0 ∧ (run s i).2 = 0 ∨ 3 ≤ (run s i).1 ∧ (run s i).1 ≤ 258 ∧ 1 ≤ (run s i).2 ∧ (run s i).2 ≤ i ∧ (run s i).2 ≤ 32768 ∧ i + (run s i).1 ≤ s.size := by
  obtain ⟨b0, b1⟩ := Rn.best_spec s i (min i 32768)
  unfold run
  generalize Rn.best s i (min i 32768) = p at *
  unfold Rn.fin
  by_cases c : p.1 < 3
  · rw [if_pos c]; exact .inl ⟨rfl, rfl⟩
  · rw [if_neg c]
    rcases b1 with b1 | ⟨a0, a1, a2, a3, a4⟩
    · omega
    · obtain ⟨v0, v1, v2, _⟩ := Rn.mlen_spec (s := s) (i := i) (j := i - p.2) hi
      rw [a2] at v0 v1 v2
      exact .inr ⟨by omega, v0, a0, by omega, by omega, v1⟩
theorem rc_len (n far : Int) (hn : 3 ≤ n) (hf : 1 ≤ far) : (rc n far).length ≤ 32 := by
  have h1 := sc_len (lsym n).1
  have h2 := (lsym_rng hn).2.2.2.2.2
  have h3 := (df_rng hf 30 (Nat.le_refl _)).2.2.2.2.2
  unfold rc
  rw [List.length_append, List.length_append, List.length_append, nb_len, nb_len, cb_len]
  have h4 : (dsym far).2.2 ≤ 13 := h3
  omega
set_option maxRecDepth 100000 in
set_option maxHeartbeats 4000000 in
theorem raw_calls (s : ByteArray) (hs : s.size ≤ 262144) (w : World) : Calls Try.prog 39 #[.string s] w fun e w' => e = .returned (.tuple #[.string (strOfNums (pk (RB s))), .int .i64 0]) ∧ Below w.heap.size w w' := by
  have hu97 := Try.underlying97
  have E0 : Aside0 (Bits []) := ⟨fun b hb => absurd hb (by simp)⟩
  have E1 : Aside0 (Bits ([] ++ [1])) := ⟨fun b hb => by simp at hb; omega⟩
  have E2 : Aside0 ((0 : Int) ≤ 1 ∧ (1 : Int) ≤ 1) := ⟨by decide⟩
  have E3 : Aside0 (([] : List Int).length ≤ 1000000000) := ⟨by decide⟩
  have E4 : Aside0 ((0 : Int) ≤ 1) := ⟨by decide⟩
  have E5 : Aside0 ((1 : Int) ≤ 1000000) := ⟨by decide⟩
  have E6 : Aside0 ((([] : List Int) ++ [1]).length ≤ 1000000000) := ⟨by decide⟩
  have hmm := @run_makeMap Try.prog
  obtain ⟨i0, hi, hz0, hz1, hz2⟩ := info_parts info3w
  have hbig : decide ((s.size : Int) > 262144) = false := decide_eq_false (by omega)
  go_enter Try.func39, Try.ntmps39
  go_upto_region 8 with (first
    | ((with_reducible refine gate_dst (N := 17) rfl ?_); refine box_event ?hg (N := 17) ?hd (cs := #[.slice none 0 0, .int .i64 0]) (t := 103) ?hr ?_; (case hd => rfl); (case hg => rfl); (case hr => first | (go_simp; done) | (go_simp; rfl)); intro g hg w1 hx hb; have H0 : Aside0 (WSt w g (.slice none 0 0) (pk []) (fr ([] : List Int).length) w1) := ⟨⟨hx, Kd.R_nil _ _ _ _ _, Nat.le_of_eq hg.symm, hb⟩⟩; clear hx hb hg)
    | (go_at_call 63; (with_reducible refine (bits_one w g _ [] 1 _ H0.out E0.out E2.out E3.out).mono ?_); rintro e w' ⟨v2, rfl, hw2, hf2⟩; have H1 := Aside0.mk hw2; clear hw2 hf2)
    | (go_at_call 63; (with_reducible refine (bits_two w g _ ([] ++ [1]) 1 _ H1.out E1.out E4.out E5.out E6.out).mono ?_); rintro e w' ⟨v3, rfl, hw2, hf2⟩; have H2 := Aside0.mk hw2; clear hw2 hf2))
  obtain ⟨B0, hB0⟩ : ∃ B0, B0 = ([] ++ [1]) ++ nb 1 2 := ⟨_, rfl⟩
  have EB : Aside0 (Bits B0 ∧ B0.length = 3 ∧ RB s = (B0 ++ rbits s s.size 0) ++ sc 256) := ⟨by rw [hB0]; exact ⟨E1.out.append (nb_bits _ _), rfl, rfl⟩⟩
  have H3 : Aside0 (RSt w s g w'.heap.size v3 B0 0 (w'.alloc (.map #[] 0))) := ⟨by rw [hB0]; exact RSt.start H2.out (E1.out.append (nb_bits _ _))⟩
  clear hB0 H0 H1 H2 E0 E1 E2 E3 E4 E5 E6
  generalize World.alloc _ (.map #[] 0) = w4 at H3 ⊢
  generalize w'.heap.size = m at H3 ⊢
  go_wp2
  go_loopw [6] (fun v6 w' => ∃ (x : Int) (i k : Nat) (v1 : Value) (B : List Int), v6 = .int .i64 x ∧ Aside0 (x = (i : Int)) ∧ Aside0 (i ≤ s.size ∧ s.size ≤ i + k) ∧ Aside0 (RSt w s g m v1 B i w') ∧ Aside0 (B ++ rbits s k i = B0 ++ rbits s s.size 0) ∧ Aside0 (B.length ≤ 3 + 11 * i)) (fun v6 _ => s.size - (intOf v6).toNat)
  case atStart => exact ⟨0, 0, s.size, v3, B0, rfl, ⟨rfl⟩, ⟨⟨Nat.zero_le _, by omega⟩⟩, H3, ⟨rfl⟩, ⟨by rw [EB.out.2.1]; omega⟩⟩
  case round =>
    clear H3
    obtain ⟨x, i, k, v1, B, rfl, hxi, hik, HR, HE, HL⟩ := hrel
    by_cases hlt : i < s.size
    · have hx0 : 0 ≤ x := by rw [hxi.out]; exact Int.natCast_nonneg _
      have hx1 : x < (s.size : Int) := by rw [hxi.out]; exact Int.ofNat_lt.mpr hlt
      have hdec : decide (x < (s.size : Int)) = true := decide_eq_true hx1
      by_cases h3 : i + 3 ≤ s.size
      focus
        obtain ⟨t1, ht1⟩ : ∃ t1, t1 = bt s (i : Int) := ⟨_, rfl⟩
        obtain ⟨t2, ht2⟩ : ∃ t2, t2 = bt s ((i + 1 : Nat) : Int) := ⟨_, rfl⟩
        obtain ⟨t3, ht3⟩ : ∃ t3, t3 = bt s ((i + 2 : Nat) : Int) := ⟨_, rfl⟩
        have Hat : Aside0 (deflate_at.f s x = some (t1, t2, t3, true)) := ⟨by rw [hxi.out, ht1, ht2, ht3]; exact at_ok s (by omega) i h3⟩
        have HT := Aside0.mk (And.intro ht1 (And.intro ht2 ht3))
        clear ht1 ht2 ht3
        go_upto_region 10 with (first
          | (go_at_call 61; (with_reducible refine (deflate_at.calls s x t1 t2 t3 true _ Hat.out).mono ?_); rintro e w' ⟨rfl, hb⟩; have HB1 := Aside0.mk hb; clear hb)
          | ((with_reducible refine gate_dst (N := 7) rfl ?_); refine box_event ?hg (N := 7) ?hd (cs := #[.int .u8 0, .int .u8 0, .int .u8 0]) (t := 97) ?hr ?_; (case hd => rfl); (case hg => rfl); (case hr => first | (go_simp; done) | (go_simp; rfl)); intro gb hg w7 hbox hb; have HB2 := Aside0.mk (below_step HB1.out hb); have BK := Aside0.mk hbox; have GE := Aside0.mk (by rw [hg]; exact HB1.out.size : wr.heap.size ≤ gb); clear hb hbox hg HB1; have hcz8_0 : w7.cell? ⟨gb, 0, none⟩ = some (.int .u8 0) := (blk_cell BK.out 0).trans rfl; have hcz8_1 : w7.cell? ⟨gb, 1, none⟩ = some (.int .u8 0) := (blk_cell BK.out 1).trans rfl; have hcz8_2 : w7.cell? ⟨gb, 2, none⟩ = some (.int .u8 0) := (blk_cell BK.out 2).trans rfl; have hfz8_0 := blk_frozen BK.out 0; have hfz8_1 := blk_frozen BK.out 1; have hfz8_2 := blk_frozen BK.out 2))
        obtain ⟨w8, hw8⟩ : ∃ w8, w8 = (((w7.setCell ⟨gb, 0, none⟩ (.int .u8 t1)).setCell ⟨gb, 1, none⟩ (.int .u8 t2)).setCell ⟨gb, 2, none⟩ (.int .u8 t3)) := ⟨_, rfl⟩
        have BK8 : Aside0 (w8.heap[gb]? = some (.cells #[.int .u8 t1, .int .u8 t2, .int .u8 t3] 97 (0, 0))) := ⟨by rw [hw8]; exact blk_put (cs := #[.int .u8 t1, .int .u8 t2, .int .u8 0]) (blk_put (cs := #[.int .u8 t1, .int .u8 0, .int .u8 0]) (blk_put (cs := #[.int .u8 0, .int .u8 0, .int .u8 0]) BK.out 0 _ rfl) 1 _ rfl) 2 _ rfl⟩
        have HB8 : Aside0 (Below wr.heap.size wr w8) := ⟨by rw [hw8]; exact below_set (below_set (below_set HB2.out GE.out) GE.out) GE.out⟩
        rw [← hw8]
        clear hw8 hcz8_0 hcz8_1 hcz8_2 hfz8_0 hfz8_1 hfz8_2 BK HB2 GE
        have HR8 : Aside0 (RSt w s g m v1 B i w8) := ⟨HR.out.below HB8.out⟩
        have r1 : 0 ≤ t1 ∧ t1 ≤ 255 := by rw [HT.out.1]; exact bt_range _ _
        have r2 : 0 ≤ t2 ∧ t2 ≤ 255 := by rw [HT.out.2.1]; exact bt_range _ _
        have r3 : 0 ≤ t3 ∧ t3 ≤ 255 := by rw [HT.out.2.2]; exact bt_range _ _
        obtain ⟨A, cap, hlook, hcap, hC⟩ := HR8.out.look (by omega) r1 r2 r3
        obtain ⟨L, hL⟩ : ∃ L, L = pos s t1 t2 t3 i := ⟨_, rfl⟩
        rw [← hL] at hlook hcap hC
        have HLK := Aside0.mk hlook
        have HCP := Aside0.mk hcap
        have HCC := Aside0.mk hC
        obtain ⟨N, F, hNF⟩ : ∃ N F, run s i = (N, F) := ⟨_, _, rfl⟩
        have Hbest : Aside0 (deflate_best.f (2 * i + 262) s x L = some ((N : Int), (F : Int))) := ⟨by
          rw [hL, HT.out.1, HT.out.2.1, HT.out.2.2, pos_pl s i h3 i (Nat.le_refl _), hxi.out, best_f s (by omega) i h3 (by omega) _ (Nat.le_refl _), hNF]
          rfl⟩
        clear hL hlook hcap hC r1 r2 r3 HB8 HR Hat HT
        have hc0 : w8.cell? ⟨gb, 0, none⟩ = some (.int .u8 t1) := (blk_cell BK8.out 0).trans rfl
        have hc1 : w8.cell? ⟨gb, 1, none⟩ = some (.int .u8 t2) := (blk_cell BK8.out 1).trans rfl
        have hc2 : w8.cell? ⟨gb, 2, none⟩ = some (.int .u8 t3) := (blk_cell BK8.out 2).trans rfl
        have HNF := Aside0.mk hNF
        clear hNF
        go_upto_region 13 with (first
          | ((with_reducible refine gate_dst (N := 39) rfl ?_); refine wpList_lookup_run rfl (.tmp 37) (.tmp 38) 105 rfl _ _ _ rfl rfl HLK.out ?_)
          | (go_at_call 62; (with_reducible refine (deflate_best.calls (2 * i + 262) s x A cap L (N : Int) (F : Int) _ HCC.out HCP.out Hbest.out).mono ?_); rintro e w' ⟨rfl, hd⟩; have HR9 : Aside0 (RSt w s g m v1 B i w') := ⟨HR8.out.below hd.below⟩; clear hd))
        by_cases c : N = 0
        focus
          subst c
          have hc : (((0 : Nat) : Int) == 0) = true := rfl

          have hxb := bt_at s x
          have p0 := eq_true hx0
          have q0 := eq_true hx1
          obtain ⟨z, hz⟩ : ∃ z, z = bt s x := ⟨_, rfl⟩
          rw [← hz] at hxb
          have hz0 : 0 ≤ z ∧ z ≤ 255 := by rw [hz]; exact bt_range s x
          have HZ : Aside0 (z = bt s (i : Int)) := ⟨by rw [hz, hxi.out]⟩
          clear hz
          obtain ⟨hz0, hz1⟩ := hz0
          have N0 : Aside0 (0 ≤ z) := ⟨hz0⟩
          have N1 : Aside0 (z ≤ 300) := ⟨by omega⟩
          have N2 : Aside0 (B.length ≤ 1000000000 - 16) := ⟨by have := HL.out; omega⟩
          go_wp2_with (go_at_call 64; (with_reducible refine (symbol_calls w g v1 B z _ HR9.out.wr HR9.out.bits N0.out N1.out N2.out).mono ?_); rintro e w10 ⟨v2, rfl, hw2, hf2⟩; have HR10 : Aside0 (RSt w s g m v2 (B ++ sc z) i w10) := ⟨HR9.out.wrote (sc_bits z) hw2 hf2⟩; clear hw2 hf2)
          obtain ⟨k1, hk1⟩ : ∃ k1, k = k1 + 1 := ⟨k - 1, by have := hik.out; omega⟩
          have HE2 : Aside0 ((B ++ sc z) ++ rbits s k1 (i + 1) = B0 ++ rbits s s.size 0) := ⟨by
            rw [← HE.out, hk1, List.append_assoc]
            congr 1
            rw [rbits, if_pos hlt, HNF.out, if_pos rfl, HZ.out]⟩
          have HL2 : Aside0 ((B ++ sc z).length ≤ 3 + 11 * (i + 1)) := ⟨by have h1 := HL.out; have h2 := sc_len z; rw [List.length_append]; omega⟩
          obtain ⟨e, he⟩ : ∃ e, e = i + 1 := ⟨_, rfl⟩
          have Hie : Aside0 (i + 1 ≤ e ∧ e ≤ s.size ∧ s.size ≤ e + k1 ∧ (1 : Int) = (e : Int) - (i : Int)) := ⟨by have := hik.out; omega⟩
          rw [← he] at HE2 HL2
          obtain ⟨B2, hB2⟩ : ∃ B2, B2 = B ++ sc z := ⟨_, rfl⟩
          rw [← hB2] at HR10 HE2 HL2
          clear hB2 he hk1 N0 N1 N2 HZ hz0 hz1 hxb p0 q0 HNF HR9 HE HL; (try clear HR)
        rotate_left
        focus
          have hc : (((N : Nat) : Int) == 0) = false := beq_eq_false_iff_ne.2 (by omega)
          have hrr : 3 ≤ N ∧ N ≤ 258 ∧ 1 ≤ F ∧ F ≤ 32768 ∧ i + N ≤ s.size := by
            have := run_rng s i (by omega)
            rw [HNF.out] at this
            simp only at this
            omega
          have N0 : Aside0 ((3 : Int) ≤ (N : Int)) := ⟨by omega⟩
          have N1 : Aside0 ((N : Int) ≤ 258) := ⟨by omega⟩
          have N2 : Aside0 (B.length ≤ 1000000000 - 100) := ⟨by have := HL.out; omega⟩
          have N3 : Aside0 ((1 : Int) ≤ (F : Int)) := ⟨by omega⟩
          have N4 : Aside0 ((F : Int) ≤ 32768) := ⟨by omega⟩
          go_wp2_with (go_at_call 65; (with_reducible refine (run_calls w g v1 B (N : Int) (F : Int) _ HR9.out.wr HR9.out.bits N0.out N1.out N3.out N4.out N2.out).mono ?_); rintro e w10 ⟨v2, rfl, hw2, hf2⟩; have HR10 : Aside0 (RSt w s g m v2 (B ++ rc (N : Int) (F : Int)) i w10) := ⟨HR9.out.wrote (rc_bits _ _) hw2 hf2⟩; clear hw2 hf2)
          obtain ⟨k1, hk1⟩ : ∃ k1, k = k1 + 1 := ⟨k - 1, by have := hik.out; omega⟩
          have HE2 : Aside0 ((B ++ rc (N : Int) (F : Int)) ++ rbits s k1 (i + N) = B0 ++ rbits s s.size 0) := ⟨by
            rw [← HE.out, hk1, List.append_assoc]
            congr 1
            rw [rbits, if_pos hlt, HNF.out, if_neg c]⟩
          have HL2 : Aside0 ((B ++ rc (N : Int) (F : Int)).length ≤ 3 + 11 * (i + N)) := ⟨by have h1 := HL.out; have h2 := rc_len (N : Int) (F : Int) (by omega) (by omega); rw [List.length_append]; omega⟩
          obtain ⟨e, he⟩ : ∃ e, e = i + N := ⟨_, rfl⟩
          have Hie : Aside0 (i + 1 ≤ e ∧ e ≤ s.size ∧ s.size ≤ e + k1 ∧ (N : Int) = (e : Int) - (i : Int)) := ⟨by have := hik.out; omega⟩
          rw [← he] at HE2 HL2
          obtain ⟨B2, hB2⟩ : ∃ B2, B2 = B ++ rc (N : Int) (F : Int) := ⟨_, rfl⟩
          rw [← hB2] at HR10 HE2 HL2
          clear hB2 he hk1 N0 N1 N2 N3 N4 hrr hc c HNF HR9 HE HL; (try clear HR)
      rotate_right
      focus
        have Hat : Aside0 (deflate_at.f s x = some (0, 0, 0, false)) := ⟨at_no s (by omega) x (.inr (by rw [hxi.out]; omega))⟩
        have HNF : Aside0 (run s i = (0, 0)) := ⟨Rn.run_none (fun d _ _ => by
          have := (Rn.mlen_spec (s := s) (i := i) (j := i - d) (by omega)).2.1
          omega)⟩
        go_upto_region 10 with (first
          | (go_at_call 61; (with_reducible refine (deflate_at.calls s x 0 0 0 false _ Hat.out).mono ?_); rintro e w' ⟨rfl, hb⟩; have HB1 := Aside0.mk hb; clear hb)
          | ((with_reducible refine gate_dst (N := 7) rfl ?_); refine box_event ?hg (N := 7) ?hd (cs := #[.int .u8 0, .int .u8 0, .int .u8 0]) (t := 97) ?hr ?_; (case hd => rfl); (case hg => rfl); (case hr => first | (go_simp; done) | (go_simp; rfl)); intro gb hg w7 hbox hb; have HB2 := Aside0.mk (below_step HB1.out hb); have BK := Aside0.mk hbox; have GE := Aside0.mk (by rw [hg]; exact HB1.out.size : wr.heap.size ≤ gb); clear hb hbox hg HB1; have hcz8_0 : w7.cell? ⟨gb, 0, none⟩ = some (.int .u8 0) := (blk_cell BK.out 0).trans rfl; have hcz8_1 : w7.cell? ⟨gb, 1, none⟩ = some (.int .u8 0) := (blk_cell BK.out 1).trans rfl; have hcz8_2 : w7.cell? ⟨gb, 2, none⟩ = some (.int .u8 0) := (blk_cell BK.out 2).trans rfl; have hfz8_0 := blk_frozen BK.out 0; have hfz8_1 := blk_frozen BK.out 1; have hfz8_2 := blk_frozen BK.out 2))
        obtain ⟨w8, hw8⟩ : ∃ w8, w8 = (((w7.setCell ⟨gb, 0, none⟩ (.int .u8 0)).setCell ⟨gb, 1, none⟩ (.int .u8 0)).setCell ⟨gb, 2, none⟩ (.int .u8 0)) := ⟨_, rfl⟩
        have HB8 : Aside0 (Below wr.heap.size wr w8) := ⟨by rw [hw8]; exact below_set (below_set (below_set HB2.out GE.out) GE.out) GE.out⟩
        rw [← hw8]
        clear hw8 hcz8_0 hcz8_1 hcz8_2 hfz8_0 hfz8_1 hfz8_2 BK HB2 GE
        have HR9 : Aside0 (RSt w s g m v1 B i w8) := ⟨HR.out.below HB8.out⟩
        clear HB8 Hat
        have hxb := bt_at s x
        have p0 := eq_true hx0
        have q0 := eq_true hx1
        obtain ⟨z, hz⟩ : ∃ z, z = bt s x := ⟨_, rfl⟩
        rw [← hz] at hxb
        have hz0 : 0 ≤ z ∧ z ≤ 255 := by rw [hz]; exact bt_range s x
        have HZ : Aside0 (z = bt s (i : Int)) := ⟨by rw [hz, hxi.out]⟩
        clear hz
        obtain ⟨hz0, hz1⟩ := hz0
        have N0 : Aside0 (0 ≤ z) := ⟨hz0⟩
        have N1 : Aside0 (z ≤ 300) := ⟨by omega⟩
        have N2 : Aside0 (B.length ≤ 1000000000 - 16) := ⟨by have := HL.out; omega⟩
        go_wp2_with (go_at_call 64; (with_reducible refine (symbol_calls w g v1 B z _ HR9.out.wr HR9.out.bits N0.out N1.out N2.out).mono ?_); rintro e w10 ⟨v2, rfl, hw2, hf2⟩; have HR10 : Aside0 (RSt w s g m v2 (B ++ sc z) i w10) := ⟨HR9.out.wrote (sc_bits z) hw2 hf2⟩; clear hw2 hf2)
        obtain ⟨k1, hk1⟩ : ∃ k1, k = k1 + 1 := ⟨k - 1, by have := hik.out; omega⟩
        have HE2 : Aside0 ((B ++ sc z) ++ rbits s k1 (i + 1) = B0 ++ rbits s s.size 0) := ⟨by
          rw [← HE.out, hk1, List.append_assoc]
          congr 1
          rw [rbits, if_pos hlt, HNF.out, if_pos rfl, HZ.out]⟩
        have HL2 : Aside0 ((B ++ sc z).length ≤ 3 + 11 * (i + 1)) := ⟨by have h1 := HL.out; have h2 := sc_len z; rw [List.length_append]; omega⟩
        obtain ⟨e, he⟩ : ∃ e, e = i + 1 := ⟨_, rfl⟩
        have Hie : Aside0 (i + 1 ≤ e ∧ e ≤ s.size ∧ s.size ≤ e + k1 ∧ (1 : Int) = (e : Int) - (i : Int)) := ⟨by have := hik.out; omega⟩
        rw [← he] at HE2 HL2
        obtain ⟨B2, hB2⟩ : ∃ B2, B2 = B ++ sc z := ⟨_, rfl⟩
        rw [← hB2] at HR10 HE2 HL2
        clear hB2 he hk1 N0 N1 N2 HZ hz0 hz1 hxb p0 q0 HNF HR9 HE HL; (try clear HR)
      all_goals
        (try clear HR8 HLK HCP HCC Hbest BK8 hc0 hc1 hc2 hlook)
        go_loopw [6, 9] (fun v6 v9 w' => ∃ (y r : Int) (j : Nat), v6 = .int .i64 y ∧ v9 = .int .i64 r ∧ Aside0 (y = (j : Int) ∧ r = (e : Int) - (j : Int) ∧ i ≤ j ∧ j ≤ e) ∧ Aside0 (RSt w s g m v2 B2 j w')) (fun v6 _ _ => e - (intOf v6).toNat)
        case atStart => exact ⟨x, _, i, rfl, rfl, ⟨⟨hxi.out, Hie.out.2.2.2, Nat.le_refl _, by have := Hie.out.1; omega⟩⟩, HR10⟩
        case round =>
          clear HR10
          obtain ⟨y, r, j, rfl, rfl, hy, HRj⟩ := hrel
          have hyb : 0 ≤ y ∧ y ≤ 262144 ∧ 0 ≤ r ∧ r ≤ 262144 := by have h1 := hy.out; have h2 := Hie.out; omega
          obtain ⟨hy0, hy1, hr0, hr1⟩ := hyb
          by_cases hjr : j < e
          · have hdr : decide (r > 0) = true := decide_eq_true (by have := hy.out; omega)
            by_cases h3j : j + 3 ≤ s.size
            · obtain ⟨t1, ht1⟩ : ∃ t1, t1 = bt s (j : Int) := ⟨_, rfl⟩
              obtain ⟨t2, ht2⟩ : ∃ t2, t2 = bt s ((j + 1 : Nat) : Int) := ⟨_, rfl⟩
              obtain ⟨t3, ht3⟩ : ∃ t3, t3 = bt s ((j + 2 : Nat) : Int) := ⟨_, rfl⟩
              have Hat : Aside0 (deflate_at.f s y = some (t1, t2, t3, true)) := ⟨by rw [hy.out.1, ht1, ht2, ht3]; exact at_ok s (by omega) j h3j⟩
              have HT := Aside0.mk (And.intro ht1 (And.intro ht2 ht3))
              clear ht1 ht2 ht3
              go_upto_region 20 with (first
                | (go_at_call 61; (with_reducible refine (deflate_at.calls s y t1 t2 t3 true _ Hat.out).mono ?_); rintro e w' ⟨rfl, hb⟩; have HB1 := Aside0.mk hb; clear hb)
                | ((with_reducible refine gate_dst (N := 11) rfl ?_); refine box_event ?hg (N := 11) ?hd (cs := #[.int .u8 0, .int .u8 0, .int .u8 0]) (t := 97) ?hr ?_; (case hd => rfl); (case hg => rfl); (case hr => first | (go_simp; done) | (go_simp; rfl)); intro gb hg w7 hbox hb; have HB2 := Aside0.mk (below_step HB1.out hb); have BK := Aside0.mk hbox; have GE := Aside0.mk (by rw [hg]; exact HB1.out.size : wr.heap.size ≤ gb); clear hb hbox hg HB1; have hcz8_0 : w7.cell? ⟨gb, 0, none⟩ = some (.int .u8 0) := (blk_cell BK.out 0).trans rfl; have hcz8_1 : w7.cell? ⟨gb, 1, none⟩ = some (.int .u8 0) := (blk_cell BK.out 1).trans rfl; have hcz8_2 : w7.cell? ⟨gb, 2, none⟩ = some (.int .u8 0) := (blk_cell BK.out 2).trans rfl; have hfz8_0 := blk_frozen BK.out 0; have hfz8_1 := blk_frozen BK.out 1; have hfz8_2 := blk_frozen BK.out 2))
              obtain ⟨w8, hw8⟩ : ∃ w8, w8 = (((w7.setCell ⟨gb, 0, none⟩ (.int .u8 t1)).setCell ⟨gb, 1, none⟩ (.int .u8 t2)).setCell ⟨gb, 2, none⟩ (.int .u8 t3)) := ⟨_, rfl⟩
              have BK8 : Aside0 (w8.heap[gb]? = some (.cells #[.int .u8 t1, .int .u8 t2, .int .u8 t3] 97 (0, 0))) := ⟨by rw [hw8]; exact blk_put (cs := #[.int .u8 t1, .int .u8 t2, .int .u8 0]) (blk_put (cs := #[.int .u8 t1, .int .u8 0, .int .u8 0]) (blk_put (cs := #[.int .u8 0, .int .u8 0, .int .u8 0]) BK.out 0 _ rfl) 1 _ rfl) 2 _ rfl⟩
              have HB8 : Aside0 (Below wr.heap.size wr w8) := ⟨by rw [hw8]; exact below_set (below_set (below_set HB2.out GE.out) GE.out) GE.out⟩
              rw [← hw8]
              clear hw8 hcz8_0 hcz8_1 hcz8_2 hfz8_0 hfz8_1 hfz8_2 BK HB2 GE
              have hc0 : w8.cell? ⟨gb, 0, none⟩ = some (.int .u8 t1) := (blk_cell BK8.out 0).trans rfl
              have hc1 : w8.cell? ⟨gb, 1, none⟩ = some (.int .u8 t2) := (blk_cell BK8.out 1).trans rfl
              have hc2 : w8.cell? ⟨gb, 2, none⟩ = some (.int .u8 t3) := (blk_cell BK8.out 2).trans rfl
              have HR8 : Aside0 (RSt w s g m v2 B2 j w8) := ⟨HRj.out.below HB8.out⟩
              have HRb : Aside0 (RSt w s g m v2 B2 j (w8.alloc (.cells #[.int .i64 y] 3))) := ⟨HR8.out.below (below_alloc (Below.refl _ _) _)⟩
              obtain ⟨u, st, zs, wm, hme, hgm, hown, hzl, hms, hback⟩ := HRb.out.entry (by omega) h3j
              rw [← HT.out.1, ← HT.out.2.1, ← HT.out.2.2] at hme
              rw [← hy.out.1] at hback
              have hmw := HR8.out.mw
              have hcell := Aside0.mk (cell_keep hgm hmw)
              have HME := Aside0.mk hme
              have HOW := Aside0.mk hown
              have HBK := Aside0.mk hback
              have HZL : Aside0 (zs.length ≤ 262144 ∧ m + 1 ≤ wm.heap.size) := ⟨⟨by have := hy.out; have := Hie.out; omega, hms⟩⟩
              clear hme hown hback hgm hzl hms hmw HR8 HRb HRj HB8 HT Hat
              go_wp2_with (first
                | (refine wpList_mapEntry_run rfl (.tmp 66) (.tmp 67) 105 rfl _ _ _ rfl rfl HME.out ?_)
                | ((with_reducible refine gate_builtin (b := .append) (xs := #[.tmp 68, .tmp 70]) rfl ?_); at_builtin; refine wpList_append_own_at _ rfl _ _ 22 rfl (m + 1) 3 i0 (.int .i64 0) 1 8 Try.underlying22 hi hz0 hz1 hz2 rfl (by decide) _ _ _ rfl HOW.out ⟨w8.heap.size, 0, none⟩ 1 1 [.int .i64 y] rfl rfl hcell.out (ints_oneCell .i64 [y]) (by have := HZL.out; unfold maxLen; omega) (by have := HZL.out; omega) HZL.out.2 ?_; intro v' w5 hown' hgrow hnil hloc; obtain ⟨w6, hst, hr6⟩ := HBK.out w5 v' hgrow hown' hloc; have HST := Aside0.mk hst; have HR6 := Aside0.mk hr6; clear hst hr6 hown' hgrow hnil hloc)
                | (refine wpList_entryStore_run rfl (.tmp 66) (.tmp 73) (.tmp 72) 105 rfl _ _ _ rfl rfl rfl HST.out ?_))
              go_roundw
              case rel => exact ⟨_, _, j + 1, rfl, rfl, ⟨by have := hy.out; omega⟩, HR6⟩
              case measure => have := hy.out; simp [intOf]; omega
            · have Hat : Aside0 (deflate_at.f s y = some (0, 0, 0, false)) := ⟨at_no s (by omega) y (.inr (by rw [hy.out.1]; omega))⟩
              go_upto_region 20 with (first
                | (go_at_call 61; (with_reducible refine (deflate_at.calls s y 0 0 0 false _ Hat.out).mono ?_); rintro e w' ⟨rfl, hb⟩; have HB1 := Aside0.mk hb; clear hb)
                | ((with_reducible refine gate_dst (N := 11) rfl ?_); refine box_event ?hg (N := 11) ?hd (cs := #[.int .u8 0, .int .u8 0, .int .u8 0]) (t := 97) ?hr ?_; (case hd => rfl); (case hg => rfl); (case hr => first | (go_simp; done) | (go_simp; rfl)); intro gb hg w7 hbox hb; have HB2 := Aside0.mk (below_step HB1.out hb); have BK := Aside0.mk hbox; have GE := Aside0.mk (by rw [hg]; exact HB1.out.size : wr.heap.size ≤ gb); clear hb hbox hg HB1; have hcz8_0 : w7.cell? ⟨gb, 0, none⟩ = some (.int .u8 0) := (blk_cell BK.out 0).trans rfl; have hcz8_1 : w7.cell? ⟨gb, 1, none⟩ = some (.int .u8 0) := (blk_cell BK.out 1).trans rfl; have hcz8_2 : w7.cell? ⟨gb, 2, none⟩ = some (.int .u8 0) := (blk_cell BK.out 2).trans rfl; have hfz8_0 := blk_frozen BK.out 0; have hfz8_1 := blk_frozen BK.out 1; have hfz8_2 := blk_frozen BK.out 2))
              obtain ⟨w8, hw8⟩ : ∃ w8, w8 = (((w7.setCell ⟨gb, 0, none⟩ (.int .u8 0)).setCell ⟨gb, 1, none⟩ (.int .u8 0)).setCell ⟨gb, 2, none⟩ (.int .u8 0)) := ⟨_, rfl⟩
              have HB8 : Aside0 (Below wr.heap.size wr w8) := ⟨by rw [hw8]; exact below_set (below_set (below_set HB2.out GE.out) GE.out) GE.out⟩
              rw [← hw8]
              clear hw8 hcz8_0 hcz8_1 hcz8_2 hfz8_0 hfz8_1 hfz8_2 BK HB2 GE
              have HR6 : Aside0 (RSt w s g m v2 B2 (j + 1) w8) := ⟨(HRj.out.below HB8.out).skip (by omega)⟩
              clear HB8 Hat HRj
              go_wp2
              go_roundw
              case rel => exact ⟨_, _, j + 1, rfl, rfl, ⟨by have := hy.out; omega⟩, HR6⟩
              case measure => have := hy.out; simp [intOf]; omega
          · have hje : j = e := by have := hy.out; omega
            have hdr : decide (r > 0) = false := decide_eq_false (by have := hy.out; omega)
            go_wp2
            go_roundw
            case rel => exact ⟨y, e, k1, v2, B2, rfl, ⟨by rw [hy.out.1, hje]⟩, ⟨⟨Hie.out.2.1, Hie.out.2.2.1⟩⟩, ⟨hje ▸ HRj.out⟩, HE2, HL2⟩
            case measure => have h1 := hy.out; have h2 := Hie.out; have h3 := hxi.out; simp [intOf]; omega
    · have hie : i = s.size := by have := hik.out; omega
      have hdec : decide (x < (s.size : Int)) = false := decide_eq_false (by have := hxi.out; omega)
      have HF : Aside0 (RB s = B ++ sc 256) := ⟨by
        rw [EB.out.2.2, ← HE.out]
        have e0 : rbits s k i = [] := by
          cases k with
          | zero => rfl
          | succ k => rw [rbits, if_neg (by omega)]
        rw [e0, List.append_nil]⟩
      have N0 : Aside0 ((0 : Int) ≤ 256) := ⟨by decide⟩
      have N1 : Aside0 ((256 : Int) ≤ 300) := ⟨by decide⟩
      have N2 : Aside0 (B.length ≤ 1000000000 - 16) := ⟨by have := HL.out; omega⟩
      go_wp2_with (go_at_call 64; (with_reducible refine (symbol_calls w g v1 B 256 _ HR.out.wr HR.out.bits N0.out N1.out N2.out).mono ?_); rintro e w' ⟨v5, rfl, hw2, hf2⟩; rw [← HF.out] at hw2; have H5 := Aside0.mk hw2; clear hw2 hf2; obtain ⟨A5, c5, e5⟩ := Kd.R_slice H5.out.row; subst e5; have hc5 : w'.cell? ⟨g, 0, none⟩ = some (.slice A5 (pk (RB s)).length c5) := (blk_cell H5.out.blk 0).trans rfl; have hcv := Kd.C_string (P := Try.prog) (A := A5) (n := (pk (RB s)).length) (c := c5) (xs := pk (RB s)) Try.underlying40 Try.underlying5 Try.underlying9 (Kd.R_reads' H5.out.row).2.2)
      go_ret2
      exact ⟨rfl, H5.out.bl⟩
end Go.Proofs.Ytpbhkdamkbopkaa.Wr
namespace Go.Proofs.Ytpbhkdamkbopkaa.Wr1
open Go.RowKit Go.Proofs.Ytpbhkdamkbopkaa.Wr Go.Proofs.YtpbhkdamkbopkaaW.PrintWords Go.Proofs.YtpbhkdamkbopkaaW.PrintLast Go.Proofs.YtpbhkdamkbopkaaW.PrintMore
set_option maxRecDepth 100000 in
theorem raw_long (s : ByteArray) (hs : 262144 < s.size) (w : World) : Calls Try.prog 39 #[.string s] w fun e w' => e = .returned (.tuple #[.string ⟨#[]⟩, .int .i64 7]) ∧ Below w.heap.size w w' := by
  have hbig : decide ((s.size : Int) > 262144) = true := decide_eq_true (by omega)
  have HB := Below.refl w.heap.size w
  go_enter Try.func39, Try.ntmps39
  go_wp2
  go_ret2
  exact ⟨rfl, HB⟩
def deflate_Raw.f (a0 : ByteArray) : Option (ByteArray × Int) := if a0.size ≤ 262144 then some (strOfNums (pk (RB a0)), 0) else some (⟨#[]⟩, 7)
theorem deflate_Raw.calls (a0 : ByteArray) (r1 : ByteArray) (r2 : Int) (w : World) (h : deflate_Raw.f a0 = some (r1, r2)) :
    Calls Try.prog 39 #[.string a0] w fun e w' => e = .returned (.tuple #[.string r1, .int .i64 r2]) ∧ Below w.heap.size w w' := by
  unfold deflate_Raw.f at h
  by_cases h0 : a0.size ≤ 262144
  · rw [if_pos h0] at h
    simp only [Option.some.injEq, Prod.mk.injEq] at h
    obtain ⟨rfl, rfl⟩ := h
    exact raw_calls a0 h0 w
  · rw [if_neg h0] at h
    simp only [Option.some.injEq, Prod.mk.injEq] at h
    obtain ⟨rfl, rfl⟩ := h
    exact raw_long a0 (by omega) w
end Go.Proofs.Ytpbhkdamkbopkaa.Wr1
namespace Go.Proofs.Ytpbhkdamkbopkaa.GBack2
open Go.RowKit Go.Proofs.YtpbhkdamkbopkaaW.PrintWords Go.Proofs.YtpbhkdamkbopkaaW.PrintLast Go.Proofs.YtpbhkdamkbopkaaW.PrintMore Go.Proofs.Ytpbhkdamkbopkaa.Wr2 Go.Proofs.Ytpbhkdamkbopkaa.Wr1 Go.Proofs.Ytpbhkdamkbopkaa.GRuns
attribute [local go_sem] max2_int min2_int max_two min_two max_three min_three max_four min_four
set_option linter.unusedVariables false
set_option linter.unusedSimpArgs false
def errW : Option Int → Value
  | none => .nilIface
  | some c => .iface 0 (.int .i64 c)
theorem errW_none : errW none = .nilIface := rfl
theorem errW_some (c : Int) : errW (some c) = .iface 0 (.int .i64 c) := rfl
theorem info5 : (Try.prog.info? 5).map (fun i => (i.zero, i.size, i.bytes)) = some (some (.int .u8 0), 1, 1) := by kernel_rfl
end Go.Proofs.Ytpbhkdamkbopkaa.GBack2
namespace Go.Proofs.Ytpbhkdamkbopkaa.GBack2
open Go.Proofs.Ytpbhkdamkbopkaa.Sq
open Go.RowKit Go.Proofs.YtpbhkdamkbopkaaW.PrintWords Go.Proofs.YtpbhkdamkbopkaaW.PrintLast Go.Proofs.YtpbhkdamkbopkaaW.PrintMore Go.Proofs.Ytpbhkdamkbopkaa.Wr2 Go.Proofs.Ytpbhkdamkbopkaa.Wr1 Go.Proofs.Ytpbhkdamkbopkaa.GRuns
attribute [local go_sem] max2_int min2_int max_two min_two max_three min_three max_four min_four
set_option linter.unusedVariables false
set_option linter.unusedSimpArgs false
def adler_parts.f (a0 : Int) : Option (Int × Int) := some (Int.tmod (wrap64 (Go.bits .and .u32 ((a0) % 4294967296) 65535)) 65521, (((a0) % 4294967296) / 65536) % 65521)
set_option maxHeartbeats 8000000 in
set_option maxRecDepth 100000 in
theorem adler_parts.calls (a0 : Int) (r1 : Int) (r2 : Int) (w : World) (h : adler_parts.f a0 = some (r1, r2)) :
    Calls Try.prog 102 #[.int .i64 a0] w fun e w' => e = .returned (.tuple #[.int .i64 r1, .int .i64 r2]) ∧ Drawn0 w w' := by
  have H : (some (Int.tmod (wrap64 (Go.bits .and .u32 ((a0) % 4294967296) 65535)) 65521, (((a0) % 4294967296) / 65536) % 65521)) = some (r1, r2) := h
  clear h
  simp only [Option.some.injEq, Prod.mk.injEq] at H
  obtain ⟨rfl, rfl⟩ := H
  go_enter Try.func102, Try.ntmps102
  go_wp2
  go_ret2
  exact ⟨by first | rfl | (simp; done) | (simp [*]; done), by repeat (first | exact Drawn0.refl _ | apply Drawn0.step)⟩
def adler_More.l0 : Nat → ByteArray → Int → Int → Int → Int → Option (Int)
  | 0, _, _, _, _, _ => none
  | k + 1, x1, x5, x6, x14, x15 => if x15 < x14 then (if 0 ≤ x15 then (if x15 < (x1.size : Int) then (adler_More.l0 k x1 (Int.tmod (wrap64 (x5 + (wrap64 (bt x1 x15)))) 65521) (Int.tmod (wrap64 (x6 + (Int.tmod (wrap64 (x5 + (wrap64 (bt x1 x15)))) 65521))) 65521) x14 (wrap64 (x15 + 1))) else (none)) else (none)) else (some (Go.bits .or .i64 (wrap64 (x6 * 65536)) x5))
def adler_More.f (k : Nat) (a0 : Int) (a1 : ByteArray) : Option (Int) := (adler_parts.f a0).bind fun bt103 => (adler_More.l0 k a1 bt103.1 bt103.2 (a1.size : Int) 0)
theorem adler_More.mono_l : ∀ k, (∀ y0 y1 y2 y3 y4, LeO (adler_More.l0 k y0 y1 y2 y3 y4) (adler_More.l0 (k + 1) y0 y1 y2 y3 y4))
  | 0 => fun _ _ _ _ _ r h => by simp [adler_More.l0] at h
  | k + 1 => by
    have ih0 := adler_More.mono_l k
    · intro y0 y1 y2 y3 y4
      unfold adler_More.l0
      repeat' first
      | (with_reducible exact ih0 _ _ _ _ _)
      | (with_reducible exact LeO.refl _)
      | (with_reducible exact LeO.none _)
      | (with_reducible refine LeO.ite ?_ ?_)
      | (with_reducible refine LeO.bind ?_ (fun _ => ?_))
      | exact ih0 _ _ _ _ _
      | exact LeO.none _
      | refine LeO.ite ?_ ?_
      | refine LeO.bind ?_ (fun _ => ?_)
theorem adler_More.mono : ∀ a0 a1 k, LeO (adler_More.f k a0 a1) (adler_More.f (k + 1) a0 a1) := by
  intro a0 a1 k
  have ih0 := adler_More.mono_l k
  unfold adler_More.f
  repeat' first
      | (with_reducible exact ih0 _ _ _ _ _)
      | (with_reducible exact LeO.refl _)
      | (with_reducible exact LeO.none _)
      | (with_reducible refine LeO.ite ?_ ?_)
      | (with_reducible refine LeO.bind ?_ (fun _ => ?_))
      | exact ih0 _ _ _ _ _
      | exact LeO.none _
      | refine LeO.ite ?_ ?_
      | refine LeO.bind ?_ (fun _ => ?_)
set_option maxHeartbeats 8000000 in
set_option maxRecDepth 100000 in
theorem adler_More.calls (k : Nat) (a0 : Int) (a1 : ByteArray) (r : Int) (w : World) (h : adler_More.f k a0 a1 = some r) :
    Calls Try.prog 77 #[.int .i64 a0, .string a1] w fun e w' => e = .returned (.int .i64 r) ∧ Drawn0 w w' := by
  have H : ((adler_parts.f a0).bind fun bt103 => (adler_More.l0 k a1 bt103.1 bt103.2 (a1.size : Int) 0)) = some r := h
  clear h
  replace H := Option.bind_eq_some_iff.mp H
  obtain ⟨⟨t103, t104⟩, A30, H⟩ := H
  replace H : (adler_More.l0 k a1 t103 t104 (a1.size : Int) 0) = some r := H
  have A3 := Aside0.mk A30
  clear A30
  have H' := Aside0.mk H
  clear H
  go_enter Try.func77, Try.ntmps77
  go_wp2_with (first | ((with_reducible refine gate_callee (f := 102) rfl ?_); refine goesQ (some 10) Try.func102 #[.int .i64 a0] ?_; (with_reducible refine (adler_parts.calls a0 t103 t104 _ A3.out).mono ?_); rintro e w' ⟨rfl, ⟨nd, rfl⟩⟩; refine ⟨_, rfl, ?_⟩))
  go_loopg [5, 6, 15] k (fun kq v5 v6 v15 w' => ∃ (x5_1 : Int) (x6_1 : Int) (x15_1 : Int), v5 = .int .i64 x5_1 ∧ v6 = .int .i64 x6_1 ∧ v15 = .int .i64 x15_1 ∧ Aside0 (adler_More.l0 kq a1 x5_1 x6_1 (a1.size : Int) x15_1 = some r) ∧ Aside0 (kq ≤ k) ∧ Drawn0 w w')
  case atStart => exact ⟨(t103), (t104), (0), (by first | rfl | (simp; done) | (simp [*]; done)), (by first | rfl | (simp; done) | (simp [*]; done)), (by first | rfl | (simp; done) | (simp [*]; done)), H', ⟨Nat.le_refl _⟩, by repeat (first | exact Drawn0.refl _ | apply Drawn0.step)⟩
  case round =>
    clear H'
    try clear c1
    try clear p2
    obtain ⟨x5_1, x6_1, x15_1, rfl, rfl, rfl, HA, HK1, ⟨m1, rfl⟩⟩ := hrel
    cases gk with
    | zero => exact absurd HA.out (by simp [adler_More.l0])
    | succ k1 =>
      have H := HA.out
      clear HA
      simp only [adler_More.l0] at H
      by_cases c4 : x15_1 < (a1.size : Int)
      · rw [if_pos c4] at H
        have c4b0 : decide (x15_1 < (a1.size : Int)) = true := decide_eq_true c4
        clear c4
        by_cases c5 : 0 ≤ x15_1
        · rw [if_pos c5] at H
          have c5b0 : decide (0 ≤ x15_1) = true := decide_eq_true c5
          clear c5
          by_cases c6 : x15_1 < (a1.size : Int)
          · rw [if_pos c6] at H
            have c6b0 : decide (x15_1 < (a1.size : Int)) = true := decide_eq_true c6
            clear c6
            have H' := Aside0.mk H
            clear H
            have p7 : 0 ≤ (x15_1 : Int) := of_decide_eq_true (by first | (with_reducible assumption) | assumption)
            have q7 : x15_1 < (a1.size : Int) := of_decide_eq_true (by first | (with_reducible assumption) | assumption)
            have hx7 := bt_at a1 x15_1
            replace p7 := eq_true p7
            replace q7 := eq_true q7
            go_wp2
            go_roundg k1
            case measure => have := HK1.out; omega
            case rel => exact ⟨(Int.tmod (wrap64 (x5_1 + (wrap64 (bt a1 x15_1)))) 65521), (Int.tmod (wrap64 (x6_1 + (Int.tmod (wrap64 (x5_1 + (wrap64 (bt a1 x15_1)))) 65521))) 65521), (wrap64 (x15_1 + 1)), (by first | rfl | (simp; done) | (simp [*]; done)), (by first | rfl | (simp; done) | (simp [*]; done)), (by first | rfl | (simp; done) | (simp [*]; done)), H', ⟨by have := HK1.out; omega⟩, by repeat (first | exact Drawn0.refl _ | apply Drawn0.step)⟩
          · rw [if_neg c6] at H
            exact absurd H (by simp)
        · rw [if_neg c5] at H
          exact absurd H (by simp)
      · rw [if_neg c4] at H
        have c4b0 : decide (x15_1 < (a1.size : Int)) = false := decide_eq_false c4
        clear c4
        obtain rfl := Option.some.inj H
        go_wp2
        go_ret
        exact ⟨by first | rfl | (simp; done) | (simp [*]; done), by repeat (first | exact Drawn0.refl _ | apply Drawn0.step)⟩
def adler_Sum.f (k : Nat) (a0 : ByteArray) : Option (Int) := (adler_More.f k 1 a0).bind fun t105 => (some t105)
theorem adler_Sum.mono : ∀ a0 k, LeO (adler_Sum.f k a0) (adler_Sum.f (k + 1) a0) := by
  intro a0 k
  unfold adler_Sum.f
  repeat' first
      | (with_reducible exact adler_More.mono _ _ _)
      | (with_reducible exact LeO.refl _)
      | (with_reducible exact LeO.none _)
      | (with_reducible refine LeO.ite ?_ ?_)
      | (with_reducible refine LeO.bind ?_ (fun _ => ?_))
      | exact adler_More.mono _ _ _
      | exact LeO.none _
      | refine LeO.ite ?_ ?_
      | refine LeO.bind ?_ (fun _ => ?_)
set_option maxHeartbeats 8000000 in
set_option maxRecDepth 100000 in
theorem adler_Sum.calls (k : Nat) (a0 : ByteArray) (r : Int) (w : World) (h : adler_Sum.f k a0 = some r) :
    Calls Try.prog 48 #[.string a0] w fun e w' => e = .returned (.int .i64 r) ∧ Drawn0 w w' := by
  have H : ((adler_More.f k 1 a0).bind fun t105 => (some t105)) = some r := h
  clear h
  replace H := Option.bind_eq_some_iff.mp H
  obtain ⟨t105, A20, H⟩ := H
  replace H : (some t105) = some r := H
  have A2 := Aside0.mk A20
  clear A20
  obtain rfl := Option.some.inj H
  go_enter Try.func48, Try.ntmps48
  go_wp2_with (first | ((with_reducible refine gate_callee (f := 77) rfl ?_); refine goesQ (some 4) Try.func77 #[.int .i64 1, .string a0] ?_; (with_reducible refine (adler_More.calls k 1 a0 t105 _ A2.out).mono ?_); rintro e w' ⟨rfl, ⟨nd, rfl⟩⟩; refine ⟨_, rfl, ?_⟩))
  go_ret
  exact ⟨by first | rfl | (simp; done) | (simp [*]; done), by repeat (first | exact Drawn0.refl _ | apply Drawn0.step)⟩
def deflate_Close.f (k : Nat) (a0 : ByteArray) : Option (ByteArray × Int) := (deflate_Raw.f a0).bind fun bt106 => (if bt106.2 = 0 then ((adler_Sum.f k a0).bind fun t108 => (if 2 + bt106.1.size ≤ 9223372036854775807 then ((some (([(t108 / 16777216) % 256, (t108 / 65536) % 256, (t108 / 256) % 256, (t108) % 256] : List Int) : List Int)).bind fun y109 => (if ((⟨#[120, 156]⟩ : ByteArray) ++ bt106.1).size + (strOfNums y109).size ≤ 9223372036854775807 then (some (((⟨#[120, 156]⟩ : ByteArray) ++ bt106.1) ++ (strOfNums y109), 0)) else (none))) else (none))) else (some ((⟨#[]⟩ : ByteArray), bt106.2)))
theorem deflate_Close.mono : ∀ a0 k, LeO (deflate_Close.f k a0) (deflate_Close.f (k + 1) a0) := by
  intro a0 k
  unfold deflate_Close.f
  repeat' first
      | (with_reducible exact adler_Sum.mono _ _)
      | (with_reducible exact LeO.refl _)
      | (with_reducible exact LeO.none _)
      | (with_reducible refine LeO.ite ?_ ?_)
      | (with_reducible refine LeO.bind ?_ (fun _ => ?_))
      | exact adler_Sum.mono _ _
      | exact LeO.none _
      | refine LeO.ite ?_ ?_
      | refine LeO.bind ?_ (fun _ => ?_)
set_option maxHeartbeats 8000000 in
set_option maxRecDepth 100000 in
theorem deflate_Close.calls (k : Nat) (a0 : ByteArray) (r1 : ByteArray) (r2 : Int) (w : World) (h : deflate_Close.f k a0 = some (r1, r2)) :
    Calls Try.prog 40 #[.string a0] w fun e w' => e = .returned (.tuple #[.string r1, .int .i64 r2]) ∧ Below w.heap.size w w' := by
  have HB := Aside0.mk (Below.refl w.heap.size w)
  have H : ((deflate_Raw.f a0).bind fun bt106 => (if bt106.2 = 0 then ((adler_Sum.f k a0).bind fun t108 => (if 2 + bt106.1.size ≤ 9223372036854775807 then ((some (([(t108 / 16777216) % 256, (t108 / 65536) % 256, (t108 / 256) % 256, (t108) % 256] : List Int) : List Int)).bind fun y109 => (if ((⟨#[120, 156]⟩ : ByteArray) ++ bt106.1).size + (strOfNums y109).size ≤ 9223372036854775807 then (some (((⟨#[120, 156]⟩ : ByteArray) ++ bt106.1) ++ (strOfNums y109), 0)) else (none))) else (none))) else (some ((⟨#[]⟩ : ByteArray), bt106.2)))) = some (r1, r2) := h
  clear h
  replace H := Option.bind_eq_some_iff.mp H
  obtain ⟨⟨t106, t107⟩, A20, H⟩ := H
  replace H : (if t107 = 0 then ((adler_Sum.f k a0).bind fun t108 => (if 2 + t106.size ≤ 9223372036854775807 then ((some (([(t108 / 16777216) % 256, (t108 / 65536) % 256, (t108 / 256) % 256, (t108) % 256] : List Int) : List Int)).bind fun y109 => (if ((⟨#[120, 156]⟩ : ByteArray) ++ t106).size + (strOfNums y109).size ≤ 9223372036854775807 then (some (((⟨#[120, 156]⟩ : ByteArray) ++ t106) ++ (strOfNums y109), 0)) else (none))) else (none))) else (some ((⟨#[]⟩ : ByteArray), t107))) = some (r1, r2) := H
  have A2 := Aside0.mk A20
  clear A20
  by_cases c3 : t107 = 0
  · rw [if_pos c3] at H
    have c3b0 : (t107 == 0) = true := beq_iff_eq.mpr c3
    have c3b1 : (t107 != 0) = false := bne_eq_false_iff_eq.mpr c3
    clear c3
    replace H := Option.bind_eq_some_iff.mp H
    obtain ⟨t108, A40, H⟩ := H
    replace H : (if 2 + t106.size ≤ 9223372036854775807 then ((some (([(t108 / 16777216) % 256, (t108 / 65536) % 256, (t108 / 256) % 256, (t108) % 256] : List Int) : List Int)).bind fun y109 => (if ((⟨#[120, 156]⟩ : ByteArray) ++ t106).size + (strOfNums y109).size ≤ 9223372036854775807 then (some (((⟨#[120, 156]⟩ : ByteArray) ++ t106) ++ (strOfNums y109), 0)) else (none))) else (none)) = some (r1, r2) := H
    have A4 := Aside0.mk A40
    clear A40
    by_cases c5 : 2 + t106.size ≤ 9223372036854775807
    · rw [if_pos c5] at H
      have c5b0 := eq_true c5
      have c5b1 : decide (2 + t106.size ≤ 9223372036854775807) = true := decide_eq_true c5
      try have c5b2 : (9223372036854775807 < 2 + t106.size) = False := eq_false (Nat.not_lt.2 c5)
      obtain ⟨y109, hy109⟩ : ∃ y_ : List Int, y_ = (([(t108 / 16777216) % 256, (t108 / 65536) % 256, (t108 / 256) % 256, (t108) % 256] : List Int)) := ⟨_, rfl⟩
      replace H : (if ((⟨#[120, 156]⟩ : ByteArray) ++ t106).size + (strOfNums y109).size ≤ 9223372036854775807 then (some (((⟨#[120, 156]⟩ : ByteArray) ++ t106) ++ (strOfNums y109), 0)) else (none)) = some (r1, r2) := by first | (rw [hy109]; with_reducible exact H) | (have H2_ := (Option.bind_some _ _).symm.trans H; rw [hy109]; with_reducible exact H2_) | (have H2_ := (Option.bind_some _ _).symm.trans H; with_reducible exact H2_) | with_reducible exact H | (rw [hy109]; exact H) | exact H
      have Ny109 := Aside0.mk hy109
      clear hy109
      by_cases c6 : ((⟨#[120, 156]⟩ : ByteArray) ++ t106).size + (strOfNums y109).size ≤ 9223372036854775807
      · rw [if_pos c6] at H
        have c6b0 := eq_true c6
        have c6b1 : decide (((⟨#[120, 156]⟩ : ByteArray) ++ t106).size + (strOfNums y109).size ≤ 9223372036854775807) = true := decide_eq_true c6
        try have c6b2 : (9223372036854775807 < ((⟨#[120, 156]⟩ : ByteArray) ++ t106).size + (strOfNums y109).size) = False := eq_false (Nat.not_lt.2 c6)
        have c6b3 := c6b2
        simp only [ByteArray.size_append, show (⟨#[120, 156]⟩ : ByteArray).size = 2 from rfl] at c6b3
        simp only [Option.some.injEq, Prod.mk.injEq] at H
        obtain ⟨rfl, rfl⟩ := H
        go_enter Try.func40, Try.ntmps40
        go_wp2_with (first | ((with_reducible refine gate_callee (f := 39) rfl ?_); refine goesQ (some 9) Try.func39 #[.string a0] ?_; (with_reducible refine (deflate_Raw.calls a0 t106 t107 _ A2.out).mono ?_); rintro e w7 ⟨rfl, hb⟩; refine ⟨_, rfl, ?_⟩; have n0_ := hs HB hb; clear HB; have HB := n0_; clear n0_; (try clear hb)) | ((with_reducible refine gate_callee (f := 48) rfl ?_); refine goesQ (some 16) Try.func48 #[.string a0] ?_; (with_reducible refine (adler_Sum.calls k a0 t108 _ A4.out).mono ?_); rintro e w' ⟨rfl, ⟨nd, rfl⟩⟩; refine ⟨_, rfl, ?_⟩) | ((with_reducible refine gate_dst (N := 30) rfl ?_); refine Kd.R_lit (Kd.int .u8) _ 5 ?hg (N := 30) ?hd (xs := ([(t108 / 16777216) % 256, (t108 / 65536) % 256, (t108 / 256) % 256, (t108) % 256] : List Int)) (inner := [.int .u8 ((t108 / 16777216) % 256), .int .u8 ((t108 / 65536) % 256), .int .u8 ((t108 / 256) % 256), .int .u8 ((t108) % 256)]) (ok := fun _ => True) (okp := fun _ => True) ?hr ?hp (fun _ hk => hk) trivial (Below.refl _ _) (Nat.le_refl _) (by simp) ?_; (case hd => rfl); (case hg => rfl); (case hr => first | (go_simp; done) | (go_simp; rfl)); (case hp => exact (Reps.one (show Kd.M (Kd.int .u8) _ _ _ ((t108 / 16777216) % 256) [.int .u8 ((t108 / 16777216) % 256)] from rfl) (Reps.one (show Kd.M (Kd.int .u8) _ _ _ ((t108 / 65536) % 256) [.int .u8 ((t108 / 65536) % 256)] from rfl) (Reps.one (show Kd.M (Kd.int .u8) _ _ _ ((t108 / 256) % 256) [.int .u8 ((t108 / 256) % 256)] from rfl) (Reps.one (show Kd.M (Kd.int .u8) _ _ _ ((t108) % 256) [.int .u8 ((t108) % 256)] from rfl) (Reps.none _ _)))))); intro v110 w8 ho9 hb hg_ hnew_; clear hg_ hnew_; (first | rw [← Ny109.out] at ho9 | (simp only [Int.reduceToNat] at ho9; rw [← Ny109.out] at ho9)); have n0_ := Aside0.mk (Kd.R_lower ho9 (below_size (hn HB))); have n1_ := hs HB hb; clear HB; have HO111 := n0_; have HB := n1_; clear n0_ n1_; clear hb ho9; have hcv10 := own_string (P := Try.prog) Try.underlying40 Try.underlying5 Try.underlying9 (Kd.own_of_R HO111.out)))
        go_ret2
        exact ⟨by first | rfl | (simp [errW_none, errW_some] <;> rfl) | (simp [*, errW_none, errW_some] <;> rfl), hn HB⟩
      · rw [if_neg c6] at H
        exact absurd H (by simp)
    · rw [if_neg c5] at H
      exact absurd H (by simp)
  · rw [if_neg c3] at H
    have c3b0 : (t107 == 0) = false := beq_eq_false_iff_ne.mpr c3
    have c3b1 : (t107 != 0) = true := bne_iff_ne.mpr c3
    simp only [Option.some.injEq, Prod.mk.injEq] at H
    obtain ⟨rfl, rfl⟩ := H
    go_enter Try.func40, Try.ntmps40
    go_wp2_with (first | ((with_reducible refine gate_callee (f := 39) rfl ?_); refine goesQ (some 9) Try.func39 #[.string a0] ?_; (with_reducible refine (deflate_Raw.calls a0 t106 t107 _ A2.out).mono ?_); rintro e w11 ⟨rfl, hb⟩; refine ⟨_, rfl, ?_⟩; have n0_ := hs HB hb; clear HB; have HB := n0_; clear n0_; (try clear hb)))
    go_ret2
    exact ⟨by first | rfl | (simp [errW_none, errW_some] <;> rfl) | (simp [*, errW_none, errW_some] <;> rfl), hn HB⟩
def inflate_Open.j0 : Nat → ByteArray → Int → Bool → Option (ByteArray × Int)
  | 0, _, _, _ => none
  | k + 1, x0, x1, x11 => if x11 = true then (some ((⟨#[]⟩ : ByteArray), 1)) else (if (x0.size : Int) < 2 then (some ((⟨#[]⟩ : ByteArray), 2)) else (if 0 < (x0.size : Int) then (if (Go.bits .and .u8 (bt x0 0) 15) = 8 then (if ((bt x0 0) / 16) > 7 then (some ((⟨#[]⟩ : ByteArray), 3)) else (if 1 < (x0.size : Int) then (if (Int.tmod (Go.bits .or .i64 (wrap64 ((wrap64 (bt x0 0)) * 256)) (wrap64 (bt x0 1))) 31) = 0 then (if (Go.bits .and .u8 (bt x0 1) 32) = 0 then (if 2 ≤ (x0.size : Int) then ((inflate_Raw.f (x0.extract 2 x0.size) x1).bind fun bt212 => (if bt212.2.2 = 0 then (if 0 ≤ (wrap64 (2 + bt212.2.1)) then (if (wrap64 (2 + bt212.2.1)) ≤ (x0.size : Int) then (if ((x0.extract ((wrap64 (2 + bt212.2.1)) : Int).toNat x0.size).size : Int) < 4 then (some ((⟨#[]⟩ : ByteArray), 2)) else (if 0 < ((x0.extract ((wrap64 (2 + bt212.2.1)) : Int).toNat x0.size).size : Int) then (if 1 < ((x0.extract ((wrap64 (2 + bt212.2.1)) : Int).toNat x0.size).size : Int) then (if 2 < ((x0.extract ((wrap64 (2 + bt212.2.1)) : Int).toNat x0.size).size : Int) then (if 3 < ((x0.extract ((wrap64 (2 + bt212.2.1)) : Int).toNat x0.size).size : Int) then ((adler_Sum.f k bt212.1).bind fun t215 => (if (Go.bits .or .i64 (Go.bits .or .i64 (Go.bits .or .i64 (wrap64 ((wrap64 (bt (x0.extract ((wrap64 (2 + bt212.2.1)) : Int).toNat x0.size) 0)) * 16777216)) (wrap64 ((wrap64 (bt (x0.extract ((wrap64 (2 + bt212.2.1)) : Int).toNat x0.size) 1)) * 65536))) (wrap64 ((wrap64 (bt (x0.extract ((wrap64 (2 + bt212.2.1)) : Int).toNat x0.size) 2)) * 256))) (wrap64 (bt (x0.extract ((wrap64 (2 + bt212.2.1)) : Int).toNat x0.size) 3))) = t215 then (if ((x0.extract ((wrap64 (2 + bt212.2.1)) : Int).toNat x0.size).size : Int) > 4 then (some ((⟨#[]⟩ : ByteArray), 3)) else (some (bt212.1, 0))) else (some ((⟨#[]⟩ : ByteArray), 5)))) else (none)) else (none)) else (none)) else (none))) else (none)) else (none)) else (some ((⟨#[]⟩ : ByteArray), bt212.2.2)))) else (none)) else (some ((⟨#[]⟩ : ByteArray), 3))) else (some ((⟨#[]⟩ : ByteArray), 3))) else (none))) else (some ((⟨#[]⟩ : ByteArray), 3))) else (none)))
def inflate_Open.f (k : Nat) (a0 : ByteArray) (a1 : Int) : Option (ByteArray × Int) := if a1 < 0 then (inflate_Open.j0 k a0 a1 true) else (inflate_Open.j0 k a0 a1 (decide (a1 > 262144)))
theorem inflate_Open.mono_l : ∀ k, (∀ y0 y1 y2, LeO (inflate_Open.j0 k y0 y1 y2) (inflate_Open.j0 (k + 1) y0 y1 y2))
  | 0 => fun _ _ _ r h => by simp [inflate_Open.j0] at h
  | k + 1 => by
    have ih0 := inflate_Open.mono_l k
    · intro y0 y1 y2
      unfold inflate_Open.j0
      repeat' first
      | (with_reducible exact ih0 _ _ _)
      | (with_reducible exact adler_Sum.mono _ _)
      | (with_reducible exact LeO.refl _)
      | (with_reducible exact LeO.none _)
      | (with_reducible refine LeO.ite ?_ ?_)
      | (with_reducible refine LeO.bind ?_ (fun _ => ?_))
      | exact ih0 _ _ _
      | exact adler_Sum.mono _ _
      | exact LeO.none _
      | refine LeO.ite ?_ ?_
      | refine LeO.bind ?_ (fun _ => ?_)
theorem inflate_Open.mono : ∀ a0 a1 k, LeO (inflate_Open.f k a0 a1) (inflate_Open.f (k + 1) a0 a1) := by
  intro a0 a1 k
  have ih0 := inflate_Open.mono_l k
  unfold inflate_Open.f
  repeat' first
      | (with_reducible exact ih0 _ _ _)
      | (with_reducible exact adler_Sum.mono _ _)
      | (with_reducible exact LeO.refl _)
      | (with_reducible exact LeO.none _)
      | (with_reducible refine LeO.ite ?_ ?_)
      | (with_reducible refine LeO.bind ?_ (fun _ => ?_))
      | exact ih0 _ _ _
      | exact adler_Sum.mono _ _
      | exact LeO.none _
      | refine LeO.ite ?_ ?_
      | refine LeO.bind ?_ (fun _ => ?_)
set_option maxHeartbeats 8000000 in
set_option maxRecDepth 100000 in
theorem inflate_Open.calls (k : Nat) (a0 : ByteArray) (a1 : Int) (r1 : ByteArray) (r2 : Int) (w : World) (h : inflate_Open.f k a0 a1 = some (r1, r2)) :
    Calls Try.prog 46 #[.string a0, .int .i64 a1] w fun e w' => e = .returned (.tuple #[.string r1, .int .i64 r2]) ∧ Below w.heap.size w w' := by
  have HB := Aside0.mk (Below.refl w.heap.size w)
  have H : (if a1 < 0 then (inflate_Open.j0 k a0 a1 true) else (inflate_Open.j0 k a0 a1 (decide (a1 > 262144)))) = some (r1, r2) := h
  clear h
  have HC3 := Aside0.mk H
  clear H
  go_enter Try.func46, Try.ntmps46
  go_upto_region 1 with (fail)
  repeat (go_quiet (fail); go_upto_region 1 with (fail))
  go_cut [11] (fun v11 wc => ∃ (kq : Nat) (x11_2 : Bool), v11 = .bool x11_2 ∧ Aside0 (inflate_Open.j0 kq a0 a1 x11_2 = some (r1, r2)) ∧ Aside0 (kq ≤ k) ∧ Aside0 (Below w.heap.size w wc))
  case first =>
    have H := HC3.out
    clear HC3
    by_cases c4 : a1 < 0
    · rw [if_pos c4] at H
      have c4b0 : decide (a1 < 0) = true := decide_eq_true c4
      clear c4
      (first | rw [c4b0] | (simp only [i64_w, i32_w]; rw [c4b0]) | skip)
      have H' := Aside0.mk H
      clear H
      go_wp2
      repeat (go_quiet (fail); try go_wp2)
      go_meet
      case rel => exact ⟨_, (true), (by first | rfl | (simp; done) | (simp [*]; done)), H', ⟨by first | omega | exact Nat.le_refl _⟩, ⟨hn HB⟩⟩
    · rw [if_neg c4] at H
      have c4b0 : decide (a1 < 0) = false := decide_eq_false c4
      clear c4
      (first | rw [c4b0] | (simp only [i64_w, i32_w]; rw [c4b0]) | skip)
      have H' := Aside0.mk H
      clear H
      go_wp2
      repeat (go_quiet (fail); try go_wp2)
      go_meet
      case rel => exact ⟨_, (decide (a1 > 262144)), (by first | rfl | (simp; done) | (simp [*]; done)), H', ⟨by first | omega | exact Nat.le_refl _⟩, ⟨hn HB⟩⟩
  case rest =>
    clear HC3
    try clear p2
    try clear c4
    try clear c4b0
    obtain ⟨kq, x11_2, rfl, HA, HJ2, HB⟩ := hcut
    cases kq with
    | zero => exact absurd HA.out (by simp [inflate_Open.j0])
    | succ kj2 =>
      have H := HA.out
      clear HA
      simp only [inflate_Open.j0] at H
      by_cases c5 : x11_2 = true
      · subst c5
        have H1 : (some ((⟨#[]⟩ : ByteArray), 1)) = some (r1, r2) := by rw [if_pos rfl] at H; exact H
        clear H
        have H := H1
        clear H1
        simp only [Option.some.injEq, Prod.mk.injEq] at H
        obtain ⟨rfl, rfl⟩ := H
        go_wp2
        repeat (go_quiet (fail); try go_wp2)
        go_ret2
        exact ⟨by first | rfl | (simp [errW_none, errW_some] <;> rfl) | (simp [*, errW_none, errW_some] <;> rfl), hn HB⟩
      · replace c5 := Bool.eq_false_iff.mpr c5
        subst c5
        have H1 : (if (a0.size : Int) < 2 then (some ((⟨#[]⟩ : ByteArray), 2)) else (if 0 < (a0.size : Int) then (if (Go.bits .and .u8 (bt a0 0) 15) = 8 then (if ((bt a0 0) / 16) > 7 then (some ((⟨#[]⟩ : ByteArray), 3)) else (if 1 < (a0.size : Int) then (if (Int.tmod (Go.bits .or .i64 (wrap64 ((wrap64 (bt a0 0)) * 256)) (wrap64 (bt a0 1))) 31) = 0 then (if (Go.bits .and .u8 (bt a0 1) 32) = 0 then (if 2 ≤ (a0.size : Int) then ((inflate_Raw.f (a0.extract 2 a0.size) a1).bind fun bt212 => (if bt212.2.2 = 0 then (if 0 ≤ (wrap64 (2 + bt212.2.1)) then (if (wrap64 (2 + bt212.2.1)) ≤ (a0.size : Int) then (if ((a0.extract ((wrap64 (2 + bt212.2.1)) : Int).toNat a0.size).size : Int) < 4 then (some ((⟨#[]⟩ : ByteArray), 2)) else (if 0 < ((a0.extract ((wrap64 (2 + bt212.2.1)) : Int).toNat a0.size).size : Int) then (if 1 < ((a0.extract ((wrap64 (2 + bt212.2.1)) : Int).toNat a0.size).size : Int) then (if 2 < ((a0.extract ((wrap64 (2 + bt212.2.1)) : Int).toNat a0.size).size : Int) then (if 3 < ((a0.extract ((wrap64 (2 + bt212.2.1)) : Int).toNat a0.size).size : Int) then ((adler_Sum.f kj2 bt212.1).bind fun t215 => (if (Go.bits .or .i64 (Go.bits .or .i64 (Go.bits .or .i64 (wrap64 ((wrap64 (bt (a0.extract ((wrap64 (2 + bt212.2.1)) : Int).toNat a0.size) 0)) * 16777216)) (wrap64 ((wrap64 (bt (a0.extract ((wrap64 (2 + bt212.2.1)) : Int).toNat a0.size) 1)) * 65536))) (wrap64 ((wrap64 (bt (a0.extract ((wrap64 (2 + bt212.2.1)) : Int).toNat a0.size) 2)) * 256))) (wrap64 (bt (a0.extract ((wrap64 (2 + bt212.2.1)) : Int).toNat a0.size) 3))) = t215 then (if ((a0.extract ((wrap64 (2 + bt212.2.1)) : Int).toNat a0.size).size : Int) > 4 then (some ((⟨#[]⟩ : ByteArray), 3)) else (some (bt212.1, 0))) else (some ((⟨#[]⟩ : ByteArray), 5)))) else (none)) else (none)) else (none)) else (none))) else (none)) else (none)) else (some ((⟨#[]⟩ : ByteArray), bt212.2.2)))) else (none)) else (some ((⟨#[]⟩ : ByteArray), 3))) else (some ((⟨#[]⟩ : ByteArray), 3))) else (none))) else (some ((⟨#[]⟩ : ByteArray), 3))) else (none))) = some (r1, r2) := by rw [if_neg (show ¬ (false = true) by decide)] at H; exact H
        clear H
        have H := H1
        clear H1
        by_cases c6 : (a0.size : Int) < 2
        · rw [if_pos c6] at H
          have c6b0 : decide ((a0.size : Int) < 2) = true := decide_eq_true c6
          have c6b1 : decide (a0.size < 2) = true := decide_eq_true (by omega)
          clear c6
          simp only [Option.some.injEq, Prod.mk.injEq] at H
          obtain ⟨rfl, rfl⟩ := H
          go_wp2
          repeat (go_quiet (fail); try go_wp2)
          go_ret2
          exact ⟨by first | rfl | (simp [errW_none, errW_some] <;> rfl) | (simp [*, errW_none, errW_some] <;> rfl), hn HB⟩
        · rw [if_neg c6] at H
          have c6b0 : decide ((a0.size : Int) < 2) = false := decide_eq_false c6
          have c6b1 : decide (a0.size < 2) = false := decide_eq_false (by omega)
          clear c6
          by_cases c7 : 0 < (a0.size : Int)
          · rw [if_pos c7] at H
            have c7b0 : decide (0 < (a0.size : Int)) = true := decide_eq_true c7
            have c7b1 : decide (0 < a0.size) = true := decide_eq_true (by omega)
            clear c7
            by_cases c9 : (Go.bits .and .u8 (bt a0 0) 15) = 8
            · rw [if_pos c9] at H
              have c9b0 : ((Go.bits .and .u8 (bt a0 0) 15) == 8) = true := beq_iff_eq.mpr c9
              have c9b1 : ((Go.bits .and .u8 (bt a0 0) 15) != 8) = false := bne_eq_false_iff_eq.mpr c9
              clear c9
              by_cases c11 : ((bt a0 0) / 16) > 7
              · rw [if_pos c11] at H
                have c11b0 : decide (7 < ((bt a0 0) / 16)) = true := decide_eq_true c11
                clear c11
                simp only [Option.some.injEq, Prod.mk.injEq] at H
                obtain ⟨rfl, rfl⟩ := H
                have p8 : 0 ≤ (0 : Int) := (by omega)
                have q8 : 0 < a0.size := (by have : (0 : Int) < (a0.size : Int) := of_decide_eq_true (by first | (with_reducible assumption) | assumption); omega)
                have hx8 : ∀ h : 0 < a0.size, ((a0[0]'h).toNat : Int) = bt a0 0 := bt_at a0 0
                clear p8
                have qi8 : (0 < (a0.size : Int)) = True := eq_true (of_decide_eq_true (by first | (with_reducible assumption) | assumption))
                replace q8 := eq_true q8
                have p10 : 0 ≤ (0 : Int) := (by omega)
                have q10 : 0 < a0.size := (by have : (0 : Int) < (a0.size : Int) := of_decide_eq_true (by first | (with_reducible assumption) | assumption); omega)
                have hx10 : ∀ h : 0 < a0.size, ((a0[0]'h).toNat : Int) = bt a0 0 := bt_at a0 0
                clear p10
                have qi10 : (0 < (a0.size : Int)) = True := eq_true (of_decide_eq_true (by first | (with_reducible assumption) | assumption))
                replace q10 := eq_true q10
                go_wp2
                repeat (go_quiet (fail); try go_wp2)
                go_ret2
                exact ⟨by first | rfl | (simp [errW_none, errW_some] <;> rfl) | (simp [*, errW_none, errW_some] <;> rfl), hn HB⟩
              · rw [if_neg c11] at H
                have c11b0 : decide (7 < ((bt a0 0) / 16)) = false := decide_eq_false c11
                clear c11
                by_cases c13 : 1 < (a0.size : Int)
                · rw [if_pos c13] at H
                  have c13b0 : decide (1 < (a0.size : Int)) = true := decide_eq_true c13
                  have c13b1 : decide (1 < a0.size) = true := decide_eq_true (by omega)
                  clear c13
                  by_cases c15 : (Int.tmod (Go.bits .or .i64 (wrap64 ((wrap64 (bt a0 0)) * 256)) (wrap64 (bt a0 1))) 31) = 0
                  · rw [if_pos c15] at H
                    have c15b0 : ((Int.tmod (Go.bits .or .i64 (wrap64 ((wrap64 (bt a0 0)) * 256)) (wrap64 (bt a0 1))) 31) == 0) = true := beq_iff_eq.mpr c15
                    have c15b1 : ((Int.tmod (Go.bits .or .i64 (wrap64 ((wrap64 (bt a0 0)) * 256)) (wrap64 (bt a0 1))) 31) != 0) = false := bne_eq_false_iff_eq.mpr c15
                    clear c15
                    by_cases c17 : (Go.bits .and .u8 (bt a0 1) 32) = 0
                    · rw [if_pos c17] at H
                      have c17b0 : ((Go.bits .and .u8 (bt a0 1) 32) == 0) = true := beq_iff_eq.mpr c17
                      have c17b1 : ((Go.bits .and .u8 (bt a0 1) 32) != 0) = false := bne_eq_false_iff_eq.mpr c17
                      clear c17
                      by_cases c18 : 2 ≤ (a0.size : Int)
                      · rw [if_pos c18] at H
                        have c18b0 := eq_true c18
                        have c18b1 : decide (2 ≤ (a0.size : Int)) = true := decide_eq_true c18
                        clear c18
                        replace H := Option.bind_eq_some_iff.mp H
                        obtain ⟨⟨t212, t213, t214⟩, A190, H⟩ := H
                        replace H : (if t214 = 0 then (if 0 ≤ (wrap64 (2 + t213)) then (if (wrap64 (2 + t213)) ≤ (a0.size : Int) then (if ((a0.extract ((wrap64 (2 + t213)) : Int).toNat a0.size).size : Int) < 4 then (some ((⟨#[]⟩ : ByteArray), 2)) else (if 0 < ((a0.extract ((wrap64 (2 + t213)) : Int).toNat a0.size).size : Int) then (if 1 < ((a0.extract ((wrap64 (2 + t213)) : Int).toNat a0.size).size : Int) then (if 2 < ((a0.extract ((wrap64 (2 + t213)) : Int).toNat a0.size).size : Int) then (if 3 < ((a0.extract ((wrap64 (2 + t213)) : Int).toNat a0.size).size : Int) then ((adler_Sum.f kj2 t212).bind fun t215 => (if (Go.bits .or .i64 (Go.bits .or .i64 (Go.bits .or .i64 (wrap64 ((wrap64 (bt (a0.extract ((wrap64 (2 + t213)) : Int).toNat a0.size) 0)) * 16777216)) (wrap64 ((wrap64 (bt (a0.extract ((wrap64 (2 + t213)) : Int).toNat a0.size) 1)) * 65536))) (wrap64 ((wrap64 (bt (a0.extract ((wrap64 (2 + t213)) : Int).toNat a0.size) 2)) * 256))) (wrap64 (bt (a0.extract ((wrap64 (2 + t213)) : Int).toNat a0.size) 3))) = t215 then (if ((a0.extract ((wrap64 (2 + t213)) : Int).toNat a0.size).size : Int) > 4 then (some ((⟨#[]⟩ : ByteArray), 3)) else (some (t212, 0))) else (some ((⟨#[]⟩ : ByteArray), 5)))) else (none)) else (none)) else (none)) else (none))) else (none)) else (none)) else (some ((⟨#[]⟩ : ByteArray), t214))) = some (r1, r2) := H
                        have A19 := Aside0.mk A190
                        clear A190
                        by_cases c20 : t214 = 0
                        · rw [if_pos c20] at H
                          have c20b0 : (t214 == 0) = true := beq_iff_eq.mpr c20
                          have c20b1 : (t214 != 0) = false := bne_eq_false_iff_eq.mpr c20
                          clear c20
                          obtain ⟨ji21, hji21⟩ : ∃ j_ : Int, (wrap64 (2 + t213)) = j_ := ⟨_, rfl⟩
                          replace H : (if 0 ≤ (ji21) then (if (ji21) ≤ (a0.size : Int) then (if ((a0.extract ((ji21) : Int).toNat a0.size).size : Int) < 4 then (some ((⟨#[]⟩ : ByteArray), 2)) else (if 0 < ((a0.extract ((ji21) : Int).toNat a0.size).size : Int) then (if 1 < ((a0.extract ((ji21) : Int).toNat a0.size).size : Int) then (if 2 < ((a0.extract ((ji21) : Int).toNat a0.size).size : Int) then (if 3 < ((a0.extract ((ji21) : Int).toNat a0.size).size : Int) then ((adler_Sum.f kj2 t212).bind fun t215 => (if (Go.bits .or .i64 (Go.bits .or .i64 (Go.bits .or .i64 (wrap64 ((wrap64 (bt (a0.extract ((ji21) : Int).toNat a0.size) 0)) * 16777216)) (wrap64 ((wrap64 (bt (a0.extract ((ji21) : Int).toNat a0.size) 1)) * 65536))) (wrap64 ((wrap64 (bt (a0.extract ((ji21) : Int).toNat a0.size) 2)) * 256))) (wrap64 (bt (a0.extract ((ji21) : Int).toNat a0.size) 3))) = t215 then (if ((a0.extract ((ji21) : Int).toNat a0.size).size : Int) > 4 then (some ((⟨#[]⟩ : ByteArray), 3)) else (some (t212, 0))) else (some ((⟨#[]⟩ : ByteArray), 5)))) else (none)) else (none)) else (none)) else (none))) else (none)) else (none)) = some (r1, r2) := by first | (rw [hji21] at H; exact H) | (simp only [hji21] at H ⊢; exact H)
                          (try rw [hji21] at A19)
                          have hji21w : (IntKind.i64.wrap (2 + t213)) = ji21 := (i64_w _).trans hji21
                          by_cases c22 : 0 ≤ (ji21)
                          · rw [if_pos c22] at H
                            have c22b0 := eq_true c22
                            have c22b1 : decide (0 ≤ (ji21)) = true := decide_eq_true c22
                            clear c22
                            by_cases c23 : (ji21) ≤ (a0.size : Int)
                            · rw [if_pos c23] at H
                              have c23b0 := eq_true c23
                              have c23b1 : decide ((ji21) ≤ (a0.size : Int)) = true := decide_eq_true c23
                              clear c23
                              obtain ⟨rs_, hrs_⟩ : ∃ y : ByteArray, a0.extract ((ji21) : Int).toNat a0.size = y := ⟨_, rfl⟩
                              simp only [hrs_] at H
                              by_cases c24 : (rs_.size : Int) < 4
                              · rw [if_pos c24] at H
                                have c24b0 : decide ((rs_.size : Int) < 4) = true := decide_eq_true c24
                                have c24b1 : decide (rs_.size < 4) = true := decide_eq_true (by omega)
                                clear c24
                                simp only [Option.some.injEq, Prod.mk.injEq] at H
                                obtain ⟨rfl, rfl⟩ := H
                                have p8 : 0 ≤ (0 : Int) := (by omega)
                                have q8 : 0 < a0.size := (by have : (0 : Int) < (a0.size : Int) := of_decide_eq_true (by first | (with_reducible assumption) | assumption); omega)
                                have hx8 : ∀ h : 0 < a0.size, ((a0[0]'h).toNat : Int) = bt a0 0 := bt_at a0 0
                                clear p8
                                have qi8 : (0 < (a0.size : Int)) = True := eq_true (of_decide_eq_true (by first | (with_reducible assumption) | assumption))
                                replace q8 := eq_true q8
                                have p10 : 0 ≤ (0 : Int) := (by omega)
                                have q10 : 0 < a0.size := (by have : (0 : Int) < (a0.size : Int) := of_decide_eq_true (by first | (with_reducible assumption) | assumption); omega)
                                have hx10 : ∀ h : 0 < a0.size, ((a0[0]'h).toNat : Int) = bt a0 0 := bt_at a0 0
                                clear p10
                                have qi10 : (0 < (a0.size : Int)) = True := eq_true (of_decide_eq_true (by first | (with_reducible assumption) | assumption))
                                replace q10 := eq_true q10
                                have p12 : 0 ≤ (0 : Int) := (by omega)
                                have q12 : 0 < a0.size := (by have : (0 : Int) < (a0.size : Int) := of_decide_eq_true (by first | (with_reducible assumption) | assumption); omega)
                                have hx12 : ∀ h : 0 < a0.size, ((a0[0]'h).toNat : Int) = bt a0 0 := bt_at a0 0
                                clear p12
                                have qi12 : (0 < (a0.size : Int)) = True := eq_true (of_decide_eq_true (by first | (with_reducible assumption) | assumption))
                                replace q12 := eq_true q12
                                have p14 : 0 ≤ (1 : Int) := (by omega)
                                have q14 : 1 < a0.size := (by have : (1 : Int) < (a0.size : Int) := of_decide_eq_true (by first | (with_reducible assumption) | assumption); omega)
                                have hx14 : ∀ h : 1 < a0.size, ((a0[1]'h).toNat : Int) = bt a0 1 := bt_at a0 1
                                clear p14
                                have qi14 : (1 < (a0.size : Int)) = True := eq_true (of_decide_eq_true (by first | (with_reducible assumption) | assumption))
                                replace q14 := eq_true q14
                                have p16 : 0 ≤ (1 : Int) := (by omega)
                                have q16 : 1 < a0.size := (by have : (1 : Int) < (a0.size : Int) := of_decide_eq_true (by first | (with_reducible assumption) | assumption); omega)
                                have hx16 : ∀ h : 1 < a0.size, ((a0[1]'h).toNat : Int) = bt a0 1 := bt_at a0 1
                                clear p16
                                have qi16 : (1 < (a0.size : Int)) = True := eq_true (of_decide_eq_true (by first | (with_reducible assumption) | assumption))
                                replace q16 := eq_true q16
                                go_wp2_with (first | (go_at_call 44; (with_reducible refine (inflate_Raw.calls (a0.extract 2 a0.size) a1 t212 t213 t214 _ A19.out).mono ?_); rintro e w25 ⟨rfl, hb⟩; have n0_ := hs HB hb; clear HB; have HB := n0_; clear n0_; (try clear hb)))
                                repeat (go_quiet (first | (go_at_call 44; (with_reducible refine (inflate_Raw.calls (a0.extract 2 a0.size) a1 t212 t213 t214 _ A19.out).mono ?_); rintro e w25 ⟨rfl, hb⟩; have n0_ := hs HB hb; clear HB; have HB := n0_; clear n0_; (try clear hb))); try go_wp2_with (first | (go_at_call 44; (with_reducible refine (inflate_Raw.calls (a0.extract 2 a0.size) a1 t212 t213 t214 _ A19.out).mono ?_); rintro e w25 ⟨rfl, hb⟩; have n0_ := hs HB hb; clear HB; have HB := n0_; clear n0_; (try clear hb))))
                                go_ret2
                                exact ⟨by first | rfl | (simp [errW_none, errW_some] <;> rfl) | (simp only [← hji21]; first | rfl | (simp [errW_none, errW_some] <;> rfl)) | (simp [*, errW_none, errW_some] <;> rfl), hn HB⟩
                              · rw [if_neg c24] at H
                                have c24b0 : decide ((rs_.size : Int) < 4) = false := decide_eq_false c24
                                have c24b1 : decide (rs_.size < 4) = false := decide_eq_false (by omega)
                                clear c24
                                by_cases c26 : 0 < (rs_.size : Int)
                                · rw [if_pos c26] at H
                                  have c26b0 : decide (0 < (rs_.size : Int)) = true := decide_eq_true c26
                                  have c26b1 : decide (0 < rs_.size) = true := decide_eq_true (by omega)
                                  clear c26
                                  by_cases c28 : 1 < (rs_.size : Int)
                                  · rw [if_pos c28] at H
                                    have c28b0 : decide (1 < (rs_.size : Int)) = true := decide_eq_true c28
                                    have c28b1 : decide (1 < rs_.size) = true := decide_eq_true (by omega)
                                    clear c28
                                    by_cases c30 : 2 < (rs_.size : Int)
                                    · rw [if_pos c30] at H
                                      have c30b0 : decide (2 < (rs_.size : Int)) = true := decide_eq_true c30
                                      have c30b1 : decide (2 < rs_.size) = true := decide_eq_true (by omega)
                                      clear c30
                                      by_cases c32 : 3 < (rs_.size : Int)
                                      · rw [if_pos c32] at H
                                        have c32b0 : decide (3 < (rs_.size : Int)) = true := decide_eq_true c32
                                        have c32b1 : decide (3 < rs_.size) = true := decide_eq_true (by omega)
                                        clear c32
                                        replace H := Option.bind_eq_some_iff.mp H
                                        obtain ⟨t215, A340, H⟩ := H
                                        replace H : (if (Go.bits .or .i64 (Go.bits .or .i64 (Go.bits .or .i64 (wrap64 ((wrap64 (bt rs_ 0)) * 16777216)) (wrap64 ((wrap64 (bt rs_ 1)) * 65536))) (wrap64 ((wrap64 (bt rs_ 2)) * 256))) (wrap64 (bt rs_ 3))) = t215 then (if (rs_.size : Int) > 4 then (some ((⟨#[]⟩ : ByteArray), 3)) else (some (t212, 0))) else (some ((⟨#[]⟩ : ByteArray), 5))) = some (r1, r2) := H
                                        have A34 := Aside0.mk A340
                                        clear A340
                                        by_cases c35 : (Go.bits .or .i64 (Go.bits .or .i64 (Go.bits .or .i64 (wrap64 ((wrap64 (bt rs_ 0)) * 16777216)) (wrap64 ((wrap64 (bt rs_ 1)) * 65536))) (wrap64 ((wrap64 (bt rs_ 2)) * 256))) (wrap64 (bt rs_ 3))) = t215
                                        · rw [if_pos c35] at H
                                          have c35b0 : ((Go.bits .or .i64 (Go.bits .or .i64 (Go.bits .or .i64 (wrap64 ((wrap64 (bt rs_ 0)) * 16777216)) (wrap64 ((wrap64 (bt rs_ 1)) * 65536))) (wrap64 ((wrap64 (bt rs_ 2)) * 256))) (wrap64 (bt rs_ 3))) == t215) = true := beq_iff_eq.mpr c35
                                          have c35b1 : ((Go.bits .or .i64 (Go.bits .or .i64 (Go.bits .or .i64 (wrap64 ((wrap64 (bt rs_ 0)) * 16777216)) (wrap64 ((wrap64 (bt rs_ 1)) * 65536))) (wrap64 ((wrap64 (bt rs_ 2)) * 256))) (wrap64 (bt rs_ 3))) != t215) = false := bne_eq_false_iff_eq.mpr c35
                                          clear c35
                                          by_cases c36 : (rs_.size : Int) > 4
                                          · rw [if_pos c36] at H
                                            have c36b0 : decide (4 < (rs_.size : Int)) = true := decide_eq_true c36
                                            have c36b1 : decide (4 < rs_.size) = true := decide_eq_true (by omega)
                                            clear c36
                                            simp only [Option.some.injEq, Prod.mk.injEq] at H
                                            obtain ⟨rfl, rfl⟩ := H
                                            have p8 : 0 ≤ (0 : Int) := (by omega)
                                            have q8 : 0 < a0.size := (by have : (0 : Int) < (a0.size : Int) := of_decide_eq_true (by first | (with_reducible assumption) | assumption); omega)
                                            have hx8 : ∀ h : 0 < a0.size, ((a0[0]'h).toNat : Int) = bt a0 0 := bt_at a0 0
                                            clear p8
                                            have qi8 : (0 < (a0.size : Int)) = True := eq_true (of_decide_eq_true (by first | (with_reducible assumption) | assumption))
                                            replace q8 := eq_true q8
                                            have p10 : 0 ≤ (0 : Int) := (by omega)
                                            have q10 : 0 < a0.size := (by have : (0 : Int) < (a0.size : Int) := of_decide_eq_true (by first | (with_reducible assumption) | assumption); omega)
                                            have hx10 : ∀ h : 0 < a0.size, ((a0[0]'h).toNat : Int) = bt a0 0 := bt_at a0 0
                                            clear p10
                                            have qi10 : (0 < (a0.size : Int)) = True := eq_true (of_decide_eq_true (by first | (with_reducible assumption) | assumption))
                                            replace q10 := eq_true q10
                                            have p12 : 0 ≤ (0 : Int) := (by omega)
                                            have q12 : 0 < a0.size := (by have : (0 : Int) < (a0.size : Int) := of_decide_eq_true (by first | (with_reducible assumption) | assumption); omega)
                                            have hx12 : ∀ h : 0 < a0.size, ((a0[0]'h).toNat : Int) = bt a0 0 := bt_at a0 0
                                            clear p12
                                            have qi12 : (0 < (a0.size : Int)) = True := eq_true (of_decide_eq_true (by first | (with_reducible assumption) | assumption))
                                            replace q12 := eq_true q12
                                            have p14 : 0 ≤ (1 : Int) := (by omega)
                                            have q14 : 1 < a0.size := (by have : (1 : Int) < (a0.size : Int) := of_decide_eq_true (by first | (with_reducible assumption) | assumption); omega)
                                            have hx14 : ∀ h : 1 < a0.size, ((a0[1]'h).toNat : Int) = bt a0 1 := bt_at a0 1
                                            clear p14
                                            have qi14 : (1 < (a0.size : Int)) = True := eq_true (of_decide_eq_true (by first | (with_reducible assumption) | assumption))
                                            replace q14 := eq_true q14
                                            have p16 : 0 ≤ (1 : Int) := (by omega)
                                            have q16 : 1 < a0.size := (by have : (1 : Int) < (a0.size : Int) := of_decide_eq_true (by first | (with_reducible assumption) | assumption); omega)
                                            have hx16 : ∀ h : 1 < a0.size, ((a0[1]'h).toNat : Int) = bt a0 1 := bt_at a0 1
                                            clear p16
                                            have qi16 : (1 < (a0.size : Int)) = True := eq_true (of_decide_eq_true (by first | (with_reducible assumption) | assumption))
                                            replace q16 := eq_true q16
                                            go_wp2_with (first | (go_at_call 44; (with_reducible refine (inflate_Raw.calls (a0.extract 2 a0.size) a1 t212 t213 t214 _ A19.out).mono ?_); rintro e w37 ⟨rfl, hb⟩; have n0_ := hs HB hb; clear HB; have HB := n0_; clear n0_; (try clear hb); have p27 : 0 ≤ (0 : Int) := (by omega); have q27 : 0 < rs_.size := (by have : (0 : Int) < (rs_.size : Int) := of_decide_eq_true (by first | (with_reducible assumption) | assumption); omega); have hx27 : ∀ h : 0 < rs_.size, ((rs_[0]'h).toNat : Int) = bt rs_ 0 := bt_at rs_ 0; clear p27; have qi27 : (0 < (rs_.size : Int)) = True := eq_true (of_decide_eq_true (by first | (with_reducible assumption) | assumption)); replace q27 := eq_true q27; have p29 : 0 ≤ (1 : Int) := (by omega); have q29 : 1 < rs_.size := (by have : (1 : Int) < (rs_.size : Int) := of_decide_eq_true (by first | (with_reducible assumption) | assumption); omega); have hx29 : ∀ h : 1 < rs_.size, ((rs_[1]'h).toNat : Int) = bt rs_ 1 := bt_at rs_ 1; clear p29; have qi29 : (1 < (rs_.size : Int)) = True := eq_true (of_decide_eq_true (by first | (with_reducible assumption) | assumption)); replace q29 := eq_true q29; have p31 : 0 ≤ (2 : Int) := (by omega); have q31 : 2 < rs_.size := (by have : (2 : Int) < (rs_.size : Int) := of_decide_eq_true (by first | (with_reducible assumption) | assumption); omega); have hx31 : ∀ h : 2 < rs_.size, ((rs_[2]'h).toNat : Int) = bt rs_ 2 := bt_at rs_ 2; clear p31; have qi31 : (2 < (rs_.size : Int)) = True := eq_true (of_decide_eq_true (by first | (with_reducible assumption) | assumption)); replace q31 := eq_true q31; have p33 : 0 ≤ (3 : Int) := (by omega); have q33 : 3 < rs_.size := (by have : (3 : Int) < (rs_.size : Int) := of_decide_eq_true (by first | (with_reducible assumption) | assumption); omega); have hx33 : ∀ h : 3 < rs_.size, ((rs_[3]'h).toNat : Int) = bt rs_ 3 := bt_at rs_ 3; clear p33; have qi33 : (3 < (rs_.size : Int)) = True := eq_true (of_decide_eq_true (by first | (with_reducible assumption) | assumption)); replace q33 := eq_true q33) | (go_at_call 48; (with_reducible refine (adler_Sum.calls kj2 t212 t215 _ A34.out).mono ?_); rintro e w' ⟨rfl, ⟨nd, rfl⟩⟩; (try first | exact ⟨rfl, _, World.drewN_drewN _ _ _⟩ | exact ⟨rfl, _, Eq.trans (World.drewN_drewN _ _ _) (congrArg (World.drewN _) (Nat.add_assoc _ _ _))⟩)))
                                            repeat (go_quiet (first | (go_at_call 44; (with_reducible refine (inflate_Raw.calls (a0.extract 2 a0.size) a1 t212 t213 t214 _ A19.out).mono ?_); rintro e w37 ⟨rfl, hb⟩; have n0_ := hs HB hb; clear HB; have HB := n0_; clear n0_; (try clear hb); have p27 : 0 ≤ (0 : Int) := (by omega); have q27 : 0 < rs_.size := (by have : (0 : Int) < (rs_.size : Int) := of_decide_eq_true (by first | (with_reducible assumption) | assumption); omega); have hx27 : ∀ h : 0 < rs_.size, ((rs_[0]'h).toNat : Int) = bt rs_ 0 := bt_at rs_ 0; clear p27; have qi27 : (0 < (rs_.size : Int)) = True := eq_true (of_decide_eq_true (by first | (with_reducible assumption) | assumption)); replace q27 := eq_true q27; have p29 : 0 ≤ (1 : Int) := (by omega); have q29 : 1 < rs_.size := (by have : (1 : Int) < (rs_.size : Int) := of_decide_eq_true (by first | (with_reducible assumption) | assumption); omega); have hx29 : ∀ h : 1 < rs_.size, ((rs_[1]'h).toNat : Int) = bt rs_ 1 := bt_at rs_ 1; clear p29; have qi29 : (1 < (rs_.size : Int)) = True := eq_true (of_decide_eq_true (by first | (with_reducible assumption) | assumption)); replace q29 := eq_true q29; have p31 : 0 ≤ (2 : Int) := (by omega); have q31 : 2 < rs_.size := (by have : (2 : Int) < (rs_.size : Int) := of_decide_eq_true (by first | (with_reducible assumption) | assumption); omega); have hx31 : ∀ h : 2 < rs_.size, ((rs_[2]'h).toNat : Int) = bt rs_ 2 := bt_at rs_ 2; clear p31; have qi31 : (2 < (rs_.size : Int)) = True := eq_true (of_decide_eq_true (by first | (with_reducible assumption) | assumption)); replace q31 := eq_true q31; have p33 : 0 ≤ (3 : Int) := (by omega); have q33 : 3 < rs_.size := (by have : (3 : Int) < (rs_.size : Int) := of_decide_eq_true (by first | (with_reducible assumption) | assumption); omega); have hx33 : ∀ h : 3 < rs_.size, ((rs_[3]'h).toNat : Int) = bt rs_ 3 := bt_at rs_ 3; clear p33; have qi33 : (3 < (rs_.size : Int)) = True := eq_true (of_decide_eq_true (by first | (with_reducible assumption) | assumption)); replace q33 := eq_true q33) | (go_at_call 48; (with_reducible refine (adler_Sum.calls kj2 t212 t215 _ A34.out).mono ?_); rintro e w' ⟨rfl, ⟨nd, rfl⟩⟩; (try first | exact ⟨rfl, _, World.drewN_drewN _ _ _⟩ | exact ⟨rfl, _, Eq.trans (World.drewN_drewN _ _ _) (congrArg (World.drewN _) (Nat.add_assoc _ _ _))⟩))); try go_wp2_with (first | (go_at_call 44; (with_reducible refine (inflate_Raw.calls (a0.extract 2 a0.size) a1 t212 t213 t214 _ A19.out).mono ?_); rintro e w37 ⟨rfl, hb⟩; have n0_ := hs HB hb; clear HB; have HB := n0_; clear n0_; (try clear hb); have p27 : 0 ≤ (0 : Int) := (by omega); have q27 : 0 < rs_.size := (by have : (0 : Int) < (rs_.size : Int) := of_decide_eq_true (by first | (with_reducible assumption) | assumption); omega); have hx27 : ∀ h : 0 < rs_.size, ((rs_[0]'h).toNat : Int) = bt rs_ 0 := bt_at rs_ 0; clear p27; have qi27 : (0 < (rs_.size : Int)) = True := eq_true (of_decide_eq_true (by first | (with_reducible assumption) | assumption)); replace q27 := eq_true q27; have p29 : 0 ≤ (1 : Int) := (by omega); have q29 : 1 < rs_.size := (by have : (1 : Int) < (rs_.size : Int) := of_decide_eq_true (by first | (with_reducible assumption) | assumption); omega); have hx29 : ∀ h : 1 < rs_.size, ((rs_[1]'h).toNat : Int) = bt rs_ 1 := bt_at rs_ 1; clear p29; have qi29 : (1 < (rs_.size : Int)) = True := eq_true (of_decide_eq_true (by first | (with_reducible assumption) | assumption)); replace q29 := eq_true q29; have p31 : 0 ≤ (2 : Int) := (by omega); have q31 : 2 < rs_.size := (by have : (2 : Int) < (rs_.size : Int) := of_decide_eq_true (by first | (with_reducible assumption) | assumption); omega); have hx31 : ∀ h : 2 < rs_.size, ((rs_[2]'h).toNat : Int) = bt rs_ 2 := bt_at rs_ 2; clear p31; have qi31 : (2 < (rs_.size : Int)) = True := eq_true (of_decide_eq_true (by first | (with_reducible assumption) | assumption)); replace q31 := eq_true q31; have p33 : 0 ≤ (3 : Int) := (by omega); have q33 : 3 < rs_.size := (by have : (3 : Int) < (rs_.size : Int) := of_decide_eq_true (by first | (with_reducible assumption) | assumption); omega); have hx33 : ∀ h : 3 < rs_.size, ((rs_[3]'h).toNat : Int) = bt rs_ 3 := bt_at rs_ 3; clear p33; have qi33 : (3 < (rs_.size : Int)) = True := eq_true (of_decide_eq_true (by first | (with_reducible assumption) | assumption)); replace q33 := eq_true q33) | (go_at_call 48; (with_reducible refine (adler_Sum.calls kj2 t212 t215 _ A34.out).mono ?_); rintro e w' ⟨rfl, ⟨nd, rfl⟩⟩; (try first | exact ⟨rfl, _, World.drewN_drewN _ _ _⟩ | exact ⟨rfl, _, Eq.trans (World.drewN_drewN _ _ _) (congrArg (World.drewN _) (Nat.add_assoc _ _ _))⟩))))
                                            go_ret2
                                            exact ⟨by first | rfl | (simp [errW_none, errW_some] <;> rfl) | (simp only [← hji21]; first | rfl | (simp [errW_none, errW_some] <;> rfl)) | (simp [*, errW_none, errW_some] <;> rfl), hn HB⟩
                                          · rw [if_neg c36] at H
                                            have c36b0 : decide (4 < (rs_.size : Int)) = false := decide_eq_false c36
                                            have c36b1 : decide (4 < rs_.size) = false := decide_eq_false (by omega)
                                            clear c36
                                            simp only [Option.some.injEq, Prod.mk.injEq] at H
                                            obtain ⟨rfl, rfl⟩ := H
                                            have p8 : 0 ≤ (0 : Int) := (by omega)
                                            have q8 : 0 < a0.size := (by have : (0 : Int) < (a0.size : Int) := of_decide_eq_true (by first | (with_reducible assumption) | assumption); omega)
                                            have hx8 : ∀ h : 0 < a0.size, ((a0[0]'h).toNat : Int) = bt a0 0 := bt_at a0 0
                                            clear p8
                                            have qi8 : (0 < (a0.size : Int)) = True := eq_true (of_decide_eq_true (by first | (with_reducible assumption) | assumption))
                                            replace q8 := eq_true q8
                                            have p10 : 0 ≤ (0 : Int) := (by omega)
                                            have q10 : 0 < a0.size := (by have : (0 : Int) < (a0.size : Int) := of_decide_eq_true (by first | (with_reducible assumption) | assumption); omega)
                                            have hx10 : ∀ h : 0 < a0.size, ((a0[0]'h).toNat : Int) = bt a0 0 := bt_at a0 0
                                            clear p10
                                            have qi10 : (0 < (a0.size : Int)) = True := eq_true (of_decide_eq_true (by first | (with_reducible assumption) | assumption))
                                            replace q10 := eq_true q10
                                            have p12 : 0 ≤ (0 : Int) := (by omega)
                                            have q12 : 0 < a0.size := (by have : (0 : Int) < (a0.size : Int) := of_decide_eq_true (by first | (with_reducible assumption) | assumption); omega)
                                            have hx12 : ∀ h : 0 < a0.size, ((a0[0]'h).toNat : Int) = bt a0 0 := bt_at a0 0
                                            clear p12
                                            have qi12 : (0 < (a0.size : Int)) = True := eq_true (of_decide_eq_true (by first | (with_reducible assumption) | assumption))
                                            replace q12 := eq_true q12
                                            have p14 : 0 ≤ (1 : Int) := (by omega)
                                            have q14 : 1 < a0.size := (by have : (1 : Int) < (a0.size : Int) := of_decide_eq_true (by first | (with_reducible assumption) | assumption); omega)
                                            have hx14 : ∀ h : 1 < a0.size, ((a0[1]'h).toNat : Int) = bt a0 1 := bt_at a0 1
                                            clear p14
                                            have qi14 : (1 < (a0.size : Int)) = True := eq_true (of_decide_eq_true (by first | (with_reducible assumption) | assumption))
                                            replace q14 := eq_true q14
                                            have p16 : 0 ≤ (1 : Int) := (by omega)
                                            have q16 : 1 < a0.size := (by have : (1 : Int) < (a0.size : Int) := of_decide_eq_true (by first | (with_reducible assumption) | assumption); omega)
                                            have hx16 : ∀ h : 1 < a0.size, ((a0[1]'h).toNat : Int) = bt a0 1 := bt_at a0 1
                                            clear p16
                                            have qi16 : (1 < (a0.size : Int)) = True := eq_true (of_decide_eq_true (by first | (with_reducible assumption) | assumption))
                                            replace q16 := eq_true q16
                                            go_wp2_with (first | (go_at_call 44; (with_reducible refine (inflate_Raw.calls (a0.extract 2 a0.size) a1 t212 t213 t214 _ A19.out).mono ?_); rintro e w38 ⟨rfl, hb⟩; have n0_ := hs HB hb; clear HB; have HB := n0_; clear n0_; (try clear hb); have p27 : 0 ≤ (0 : Int) := (by omega); have q27 : 0 < rs_.size := (by have : (0 : Int) < (rs_.size : Int) := of_decide_eq_true (by first | (with_reducible assumption) | assumption); omega); have hx27 : ∀ h : 0 < rs_.size, ((rs_[0]'h).toNat : Int) = bt rs_ 0 := bt_at rs_ 0; clear p27; have qi27 : (0 < (rs_.size : Int)) = True := eq_true (of_decide_eq_true (by first | (with_reducible assumption) | assumption)); replace q27 := eq_true q27; have p29 : 0 ≤ (1 : Int) := (by omega); have q29 : 1 < rs_.size := (by have : (1 : Int) < (rs_.size : Int) := of_decide_eq_true (by first | (with_reducible assumption) | assumption); omega); have hx29 : ∀ h : 1 < rs_.size, ((rs_[1]'h).toNat : Int) = bt rs_ 1 := bt_at rs_ 1; clear p29; have qi29 : (1 < (rs_.size : Int)) = True := eq_true (of_decide_eq_true (by first | (with_reducible assumption) | assumption)); replace q29 := eq_true q29; have p31 : 0 ≤ (2 : Int) := (by omega); have q31 : 2 < rs_.size := (by have : (2 : Int) < (rs_.size : Int) := of_decide_eq_true (by first | (with_reducible assumption) | assumption); omega); have hx31 : ∀ h : 2 < rs_.size, ((rs_[2]'h).toNat : Int) = bt rs_ 2 := bt_at rs_ 2; clear p31; have qi31 : (2 < (rs_.size : Int)) = True := eq_true (of_decide_eq_true (by first | (with_reducible assumption) | assumption)); replace q31 := eq_true q31; have p33 : 0 ≤ (3 : Int) := (by omega); have q33 : 3 < rs_.size := (by have : (3 : Int) < (rs_.size : Int) := of_decide_eq_true (by first | (with_reducible assumption) | assumption); omega); have hx33 : ∀ h : 3 < rs_.size, ((rs_[3]'h).toNat : Int) = bt rs_ 3 := bt_at rs_ 3; clear p33; have qi33 : (3 < (rs_.size : Int)) = True := eq_true (of_decide_eq_true (by first | (with_reducible assumption) | assumption)); replace q33 := eq_true q33) | (go_at_call 48; (with_reducible refine (adler_Sum.calls kj2 t212 t215 _ A34.out).mono ?_); rintro e w' ⟨rfl, ⟨nd, rfl⟩⟩; (try first | exact ⟨rfl, _, World.drewN_drewN _ _ _⟩ | exact ⟨rfl, _, Eq.trans (World.drewN_drewN _ _ _) (congrArg (World.drewN _) (Nat.add_assoc _ _ _))⟩)))
                                            repeat (go_quiet (first | (go_at_call 44; (with_reducible refine (inflate_Raw.calls (a0.extract 2 a0.size) a1 t212 t213 t214 _ A19.out).mono ?_); rintro e w38 ⟨rfl, hb⟩; have n0_ := hs HB hb; clear HB; have HB := n0_; clear n0_; (try clear hb); have p27 : 0 ≤ (0 : Int) := (by omega); have q27 : 0 < rs_.size := (by have : (0 : Int) < (rs_.size : Int) := of_decide_eq_true (by first | (with_reducible assumption) | assumption); omega); have hx27 : ∀ h : 0 < rs_.size, ((rs_[0]'h).toNat : Int) = bt rs_ 0 := bt_at rs_ 0; clear p27; have qi27 : (0 < (rs_.size : Int)) = True := eq_true (of_decide_eq_true (by first | (with_reducible assumption) | assumption)); replace q27 := eq_true q27; have p29 : 0 ≤ (1 : Int) := (by omega); have q29 : 1 < rs_.size := (by have : (1 : Int) < (rs_.size : Int) := of_decide_eq_true (by first | (with_reducible assumption) | assumption); omega); have hx29 : ∀ h : 1 < rs_.size, ((rs_[1]'h).toNat : Int) = bt rs_ 1 := bt_at rs_ 1; clear p29; have qi29 : (1 < (rs_.size : Int)) = True := eq_true (of_decide_eq_true (by first | (with_reducible assumption) | assumption)); replace q29 := eq_true q29; have p31 : 0 ≤ (2 : Int) := (by omega); have q31 : 2 < rs_.size := (by have : (2 : Int) < (rs_.size : Int) := of_decide_eq_true (by first | (with_reducible assumption) | assumption); omega); have hx31 : ∀ h : 2 < rs_.size, ((rs_[2]'h).toNat : Int) = bt rs_ 2 := bt_at rs_ 2; clear p31; have qi31 : (2 < (rs_.size : Int)) = True := eq_true (of_decide_eq_true (by first | (with_reducible assumption) | assumption)); replace q31 := eq_true q31; have p33 : 0 ≤ (3 : Int) := (by omega); have q33 : 3 < rs_.size := (by have : (3 : Int) < (rs_.size : Int) := of_decide_eq_true (by first | (with_reducible assumption) | assumption); omega); have hx33 : ∀ h : 3 < rs_.size, ((rs_[3]'h).toNat : Int) = bt rs_ 3 := bt_at rs_ 3; clear p33; have qi33 : (3 < (rs_.size : Int)) = True := eq_true (of_decide_eq_true (by first | (with_reducible assumption) | assumption)); replace q33 := eq_true q33) | (go_at_call 48; (with_reducible refine (adler_Sum.calls kj2 t212 t215 _ A34.out).mono ?_); rintro e w' ⟨rfl, ⟨nd, rfl⟩⟩; (try first | exact ⟨rfl, _, World.drewN_drewN _ _ _⟩ | exact ⟨rfl, _, Eq.trans (World.drewN_drewN _ _ _) (congrArg (World.drewN _) (Nat.add_assoc _ _ _))⟩))); try go_wp2_with (first | (go_at_call 44; (with_reducible refine (inflate_Raw.calls (a0.extract 2 a0.size) a1 t212 t213 t214 _ A19.out).mono ?_); rintro e w38 ⟨rfl, hb⟩; have n0_ := hs HB hb; clear HB; have HB := n0_; clear n0_; (try clear hb); have p27 : 0 ≤ (0 : Int) := (by omega); have q27 : 0 < rs_.size := (by have : (0 : Int) < (rs_.size : Int) := of_decide_eq_true (by first | (with_reducible assumption) | assumption); omega); have hx27 : ∀ h : 0 < rs_.size, ((rs_[0]'h).toNat : Int) = bt rs_ 0 := bt_at rs_ 0; clear p27; have qi27 : (0 < (rs_.size : Int)) = True := eq_true (of_decide_eq_true (by first | (with_reducible assumption) | assumption)); replace q27 := eq_true q27; have p29 : 0 ≤ (1 : Int) := (by omega); have q29 : 1 < rs_.size := (by have : (1 : Int) < (rs_.size : Int) := of_decide_eq_true (by first | (with_reducible assumption) | assumption); omega); have hx29 : ∀ h : 1 < rs_.size, ((rs_[1]'h).toNat : Int) = bt rs_ 1 := bt_at rs_ 1; clear p29; have qi29 : (1 < (rs_.size : Int)) = True := eq_true (of_decide_eq_true (by first | (with_reducible assumption) | assumption)); replace q29 := eq_true q29; have p31 : 0 ≤ (2 : Int) := (by omega); have q31 : 2 < rs_.size := (by have : (2 : Int) < (rs_.size : Int) := of_decide_eq_true (by first | (with_reducible assumption) | assumption); omega); have hx31 : ∀ h : 2 < rs_.size, ((rs_[2]'h).toNat : Int) = bt rs_ 2 := bt_at rs_ 2; clear p31; have qi31 : (2 < (rs_.size : Int)) = True := eq_true (of_decide_eq_true (by first | (with_reducible assumption) | assumption)); replace q31 := eq_true q31; have p33 : 0 ≤ (3 : Int) := (by omega); have q33 : 3 < rs_.size := (by have : (3 : Int) < (rs_.size : Int) := of_decide_eq_true (by first | (with_reducible assumption) | assumption); omega); have hx33 : ∀ h : 3 < rs_.size, ((rs_[3]'h).toNat : Int) = bt rs_ 3 := bt_at rs_ 3; clear p33; have qi33 : (3 < (rs_.size : Int)) = True := eq_true (of_decide_eq_true (by first | (with_reducible assumption) | assumption)); replace q33 := eq_true q33) | (go_at_call 48; (with_reducible refine (adler_Sum.calls kj2 t212 t215 _ A34.out).mono ?_); rintro e w' ⟨rfl, ⟨nd, rfl⟩⟩; (try first | exact ⟨rfl, _, World.drewN_drewN _ _ _⟩ | exact ⟨rfl, _, Eq.trans (World.drewN_drewN _ _ _) (congrArg (World.drewN _) (Nat.add_assoc _ _ _))⟩))))
                                            go_ret2
                                            exact ⟨by first | rfl | (simp [errW_none, errW_some] <;> rfl) | (simp only [← hji21]; first | rfl | (simp [errW_none, errW_some] <;> rfl)) | (simp [*, errW_none, errW_some] <;> rfl), hn HB⟩
                                        · rw [if_neg c35] at H
                                          have c35b0 : ((Go.bits .or .i64 (Go.bits .or .i64 (Go.bits .or .i64 (wrap64 ((wrap64 (bt rs_ 0)) * 16777216)) (wrap64 ((wrap64 (bt rs_ 1)) * 65536))) (wrap64 ((wrap64 (bt rs_ 2)) * 256))) (wrap64 (bt rs_ 3))) == t215) = false := beq_eq_false_iff_ne.mpr c35
                                          have c35b1 : ((Go.bits .or .i64 (Go.bits .or .i64 (Go.bits .or .i64 (wrap64 ((wrap64 (bt rs_ 0)) * 16777216)) (wrap64 ((wrap64 (bt rs_ 1)) * 65536))) (wrap64 ((wrap64 (bt rs_ 2)) * 256))) (wrap64 (bt rs_ 3))) != t215) = true := bne_iff_ne.mpr c35
                                          simp only [Option.some.injEq, Prod.mk.injEq] at H
                                          obtain ⟨rfl, rfl⟩ := H
                                          have p8 : 0 ≤ (0 : Int) := (by omega)
                                          have q8 : 0 < a0.size := (by have : (0 : Int) < (a0.size : Int) := of_decide_eq_true (by first | (with_reducible assumption) | assumption); omega)
                                          have hx8 : ∀ h : 0 < a0.size, ((a0[0]'h).toNat : Int) = bt a0 0 := bt_at a0 0
                                          clear p8
                                          have qi8 : (0 < (a0.size : Int)) = True := eq_true (of_decide_eq_true (by first | (with_reducible assumption) | assumption))
                                          replace q8 := eq_true q8
                                          have p10 : 0 ≤ (0 : Int) := (by omega)
                                          have q10 : 0 < a0.size := (by have : (0 : Int) < (a0.size : Int) := of_decide_eq_true (by first | (with_reducible assumption) | assumption); omega)
                                          have hx10 : ∀ h : 0 < a0.size, ((a0[0]'h).toNat : Int) = bt a0 0 := bt_at a0 0
                                          clear p10
                                          have qi10 : (0 < (a0.size : Int)) = True := eq_true (of_decide_eq_true (by first | (with_reducible assumption) | assumption))
                                          replace q10 := eq_true q10
                                          have p12 : 0 ≤ (0 : Int) := (by omega)
                                          have q12 : 0 < a0.size := (by have : (0 : Int) < (a0.size : Int) := of_decide_eq_true (by first | (with_reducible assumption) | assumption); omega)
                                          have hx12 : ∀ h : 0 < a0.size, ((a0[0]'h).toNat : Int) = bt a0 0 := bt_at a0 0
                                          clear p12
                                          have qi12 : (0 < (a0.size : Int)) = True := eq_true (of_decide_eq_true (by first | (with_reducible assumption) | assumption))
                                          replace q12 := eq_true q12
                                          have p14 : 0 ≤ (1 : Int) := (by omega)
                                          have q14 : 1 < a0.size := (by have : (1 : Int) < (a0.size : Int) := of_decide_eq_true (by first | (with_reducible assumption) | assumption); omega)
                                          have hx14 : ∀ h : 1 < a0.size, ((a0[1]'h).toNat : Int) = bt a0 1 := bt_at a0 1
                                          clear p14
                                          have qi14 : (1 < (a0.size : Int)) = True := eq_true (of_decide_eq_true (by first | (with_reducible assumption) | assumption))
                                          replace q14 := eq_true q14
                                          have p16 : 0 ≤ (1 : Int) := (by omega)
                                          have q16 : 1 < a0.size := (by have : (1 : Int) < (a0.size : Int) := of_decide_eq_true (by first | (with_reducible assumption) | assumption); omega)
                                          have hx16 : ∀ h : 1 < a0.size, ((a0[1]'h).toNat : Int) = bt a0 1 := bt_at a0 1
                                          clear p16
                                          have qi16 : (1 < (a0.size : Int)) = True := eq_true (of_decide_eq_true (by first | (with_reducible assumption) | assumption))
                                          replace q16 := eq_true q16
                                          go_wp2_with (first | (go_at_call 44; (with_reducible refine (inflate_Raw.calls (a0.extract 2 a0.size) a1 t212 t213 t214 _ A19.out).mono ?_); rintro e w39 ⟨rfl, hb⟩; have n0_ := hs HB hb; clear HB; have HB := n0_; clear n0_; (try clear hb); have p27 : 0 ≤ (0 : Int) := (by omega); have q27 : 0 < rs_.size := (by have : (0 : Int) < (rs_.size : Int) := of_decide_eq_true (by first | (with_reducible assumption) | assumption); omega); have hx27 : ∀ h : 0 < rs_.size, ((rs_[0]'h).toNat : Int) = bt rs_ 0 := bt_at rs_ 0; clear p27; have qi27 : (0 < (rs_.size : Int)) = True := eq_true (of_decide_eq_true (by first | (with_reducible assumption) | assumption)); replace q27 := eq_true q27; have p29 : 0 ≤ (1 : Int) := (by omega); have q29 : 1 < rs_.size := (by have : (1 : Int) < (rs_.size : Int) := of_decide_eq_true (by first | (with_reducible assumption) | assumption); omega); have hx29 : ∀ h : 1 < rs_.size, ((rs_[1]'h).toNat : Int) = bt rs_ 1 := bt_at rs_ 1; clear p29; have qi29 : (1 < (rs_.size : Int)) = True := eq_true (of_decide_eq_true (by first | (with_reducible assumption) | assumption)); replace q29 := eq_true q29; have p31 : 0 ≤ (2 : Int) := (by omega); have q31 : 2 < rs_.size := (by have : (2 : Int) < (rs_.size : Int) := of_decide_eq_true (by first | (with_reducible assumption) | assumption); omega); have hx31 : ∀ h : 2 < rs_.size, ((rs_[2]'h).toNat : Int) = bt rs_ 2 := bt_at rs_ 2; clear p31; have qi31 : (2 < (rs_.size : Int)) = True := eq_true (of_decide_eq_true (by first | (with_reducible assumption) | assumption)); replace q31 := eq_true q31; have p33 : 0 ≤ (3 : Int) := (by omega); have q33 : 3 < rs_.size := (by have : (3 : Int) < (rs_.size : Int) := of_decide_eq_true (by first | (with_reducible assumption) | assumption); omega); have hx33 : ∀ h : 3 < rs_.size, ((rs_[3]'h).toNat : Int) = bt rs_ 3 := bt_at rs_ 3; clear p33; have qi33 : (3 < (rs_.size : Int)) = True := eq_true (of_decide_eq_true (by first | (with_reducible assumption) | assumption)); replace q33 := eq_true q33) | (go_at_call 48; (with_reducible refine (adler_Sum.calls kj2 t212 t215 _ A34.out).mono ?_); rintro e w' ⟨rfl, ⟨nd, rfl⟩⟩; (try first | exact ⟨rfl, _, World.drewN_drewN _ _ _⟩ | exact ⟨rfl, _, Eq.trans (World.drewN_drewN _ _ _) (congrArg (World.drewN _) (Nat.add_assoc _ _ _))⟩)))
                                          repeat (go_quiet (first | (go_at_call 44; (with_reducible refine (inflate_Raw.calls (a0.extract 2 a0.size) a1 t212 t213 t214 _ A19.out).mono ?_); rintro e w39 ⟨rfl, hb⟩; have n0_ := hs HB hb; clear HB; have HB := n0_; clear n0_; (try clear hb); have p27 : 0 ≤ (0 : Int) := (by omega); have q27 : 0 < rs_.size := (by have : (0 : Int) < (rs_.size : Int) := of_decide_eq_true (by first | (with_reducible assumption) | assumption); omega); have hx27 : ∀ h : 0 < rs_.size, ((rs_[0]'h).toNat : Int) = bt rs_ 0 := bt_at rs_ 0; clear p27; have qi27 : (0 < (rs_.size : Int)) = True := eq_true (of_decide_eq_true (by first | (with_reducible assumption) | assumption)); replace q27 := eq_true q27; have p29 : 0 ≤ (1 : Int) := (by omega); have q29 : 1 < rs_.size := (by have : (1 : Int) < (rs_.size : Int) := of_decide_eq_true (by first | (with_reducible assumption) | assumption); omega); have hx29 : ∀ h : 1 < rs_.size, ((rs_[1]'h).toNat : Int) = bt rs_ 1 := bt_at rs_ 1; clear p29; have qi29 : (1 < (rs_.size : Int)) = True := eq_true (of_decide_eq_true (by first | (with_reducible assumption) | assumption)); replace q29 := eq_true q29; have p31 : 0 ≤ (2 : Int) := (by omega); have q31 : 2 < rs_.size := (by have : (2 : Int) < (rs_.size : Int) := of_decide_eq_true (by first | (with_reducible assumption) | assumption); omega); have hx31 : ∀ h : 2 < rs_.size, ((rs_[2]'h).toNat : Int) = bt rs_ 2 := bt_at rs_ 2; clear p31; have qi31 : (2 < (rs_.size : Int)) = True := eq_true (of_decide_eq_true (by first | (with_reducible assumption) | assumption)); replace q31 := eq_true q31; have p33 : 0 ≤ (3 : Int) := (by omega); have q33 : 3 < rs_.size := (by have : (3 : Int) < (rs_.size : Int) := of_decide_eq_true (by first | (with_reducible assumption) | assumption); omega); have hx33 : ∀ h : 3 < rs_.size, ((rs_[3]'h).toNat : Int) = bt rs_ 3 := bt_at rs_ 3; clear p33; have qi33 : (3 < (rs_.size : Int)) = True := eq_true (of_decide_eq_true (by first | (with_reducible assumption) | assumption)); replace q33 := eq_true q33) | (go_at_call 48; (with_reducible refine (adler_Sum.calls kj2 t212 t215 _ A34.out).mono ?_); rintro e w' ⟨rfl, ⟨nd, rfl⟩⟩; (try first | exact ⟨rfl, _, World.drewN_drewN _ _ _⟩ | exact ⟨rfl, _, Eq.trans (World.drewN_drewN _ _ _) (congrArg (World.drewN _) (Nat.add_assoc _ _ _))⟩))); try go_wp2_with (first | (go_at_call 44; (with_reducible refine (inflate_Raw.calls (a0.extract 2 a0.size) a1 t212 t213 t214 _ A19.out).mono ?_); rintro e w39 ⟨rfl, hb⟩; have n0_ := hs HB hb; clear HB; have HB := n0_; clear n0_; (try clear hb); have p27 : 0 ≤ (0 : Int) := (by omega); have q27 : 0 < rs_.size := (by have : (0 : Int) < (rs_.size : Int) := of_decide_eq_true (by first | (with_reducible assumption) | assumption); omega); have hx27 : ∀ h : 0 < rs_.size, ((rs_[0]'h).toNat : Int) = bt rs_ 0 := bt_at rs_ 0; clear p27; have qi27 : (0 < (rs_.size : Int)) = True := eq_true (of_decide_eq_true (by first | (with_reducible assumption) | assumption)); replace q27 := eq_true q27; have p29 : 0 ≤ (1 : Int) := (by omega); have q29 : 1 < rs_.size := (by have : (1 : Int) < (rs_.size : Int) := of_decide_eq_true (by first | (with_reducible assumption) | assumption); omega); have hx29 : ∀ h : 1 < rs_.size, ((rs_[1]'h).toNat : Int) = bt rs_ 1 := bt_at rs_ 1; clear p29; have qi29 : (1 < (rs_.size : Int)) = True := eq_true (of_decide_eq_true (by first | (with_reducible assumption) | assumption)); replace q29 := eq_true q29; have p31 : 0 ≤ (2 : Int) := (by omega); have q31 : 2 < rs_.size := (by have : (2 : Int) < (rs_.size : Int) := of_decide_eq_true (by first | (with_reducible assumption) | assumption); omega); have hx31 : ∀ h : 2 < rs_.size, ((rs_[2]'h).toNat : Int) = bt rs_ 2 := bt_at rs_ 2; clear p31; have qi31 : (2 < (rs_.size : Int)) = True := eq_true (of_decide_eq_true (by first | (with_reducible assumption) | assumption)); replace q31 := eq_true q31; have p33 : 0 ≤ (3 : Int) := (by omega); have q33 : 3 < rs_.size := (by have : (3 : Int) < (rs_.size : Int) := of_decide_eq_true (by first | (with_reducible assumption) | assumption); omega); have hx33 : ∀ h : 3 < rs_.size, ((rs_[3]'h).toNat : Int) = bt rs_ 3 := bt_at rs_ 3; clear p33; have qi33 : (3 < (rs_.size : Int)) = True := eq_true (of_decide_eq_true (by first | (with_reducible assumption) | assumption)); replace q33 := eq_true q33) | (go_at_call 48; (with_reducible refine (adler_Sum.calls kj2 t212 t215 _ A34.out).mono ?_); rintro e w' ⟨rfl, ⟨nd, rfl⟩⟩; (try first | exact ⟨rfl, _, World.drewN_drewN _ _ _⟩ | exact ⟨rfl, _, Eq.trans (World.drewN_drewN _ _ _) (congrArg (World.drewN _) (Nat.add_assoc _ _ _))⟩))))
                                          go_ret2
                                          exact ⟨by first | rfl | (simp [errW_none, errW_some] <;> rfl) | (simp only [← hji21]; first | rfl | (simp [errW_none, errW_some] <;> rfl)) | (simp [*, errW_none, errW_some] <;> rfl), hn HB⟩
                                      · rw [if_neg c32] at H
                                        exact absurd H (by simp)
                                    · rw [if_neg c30] at H
                                      exact absurd H (by simp)
                                  · rw [if_neg c28] at H
                                    exact absurd H (by simp)
                                · rw [if_neg c26] at H
                                  exact absurd H (by simp)
                            · rw [if_neg c23] at H
                              exact absurd H (by simp)
                          · rw [if_neg c22] at H
                            exact absurd H (by simp)
                        · rw [if_neg c20] at H
                          have c20b0 : (t214 == 0) = false := beq_eq_false_iff_ne.mpr c20
                          have c20b1 : (t214 != 0) = true := bne_iff_ne.mpr c20
                          simp only [Option.some.injEq, Prod.mk.injEq] at H
                          obtain ⟨rfl, rfl⟩ := H
                          have p8 : 0 ≤ (0 : Int) := (by omega)
                          have q8 : 0 < a0.size := (by have : (0 : Int) < (a0.size : Int) := of_decide_eq_true (by first | (with_reducible assumption) | assumption); omega)
                          have hx8 : ∀ h : 0 < a0.size, ((a0[0]'h).toNat : Int) = bt a0 0 := bt_at a0 0
                          clear p8
                          have qi8 : (0 < (a0.size : Int)) = True := eq_true (of_decide_eq_true (by first | (with_reducible assumption) | assumption))
                          replace q8 := eq_true q8
                          have p10 : 0 ≤ (0 : Int) := (by omega)
                          have q10 : 0 < a0.size := (by have : (0 : Int) < (a0.size : Int) := of_decide_eq_true (by first | (with_reducible assumption) | assumption); omega)
                          have hx10 : ∀ h : 0 < a0.size, ((a0[0]'h).toNat : Int) = bt a0 0 := bt_at a0 0
                          clear p10
                          have qi10 : (0 < (a0.size : Int)) = True := eq_true (of_decide_eq_true (by first | (with_reducible assumption) | assumption))
                          replace q10 := eq_true q10
                          have p12 : 0 ≤ (0 : Int) := (by omega)
                          have q12 : 0 < a0.size := (by have : (0 : Int) < (a0.size : Int) := of_decide_eq_true (by first | (with_reducible assumption) | assumption); omega)
                          have hx12 : ∀ h : 0 < a0.size, ((a0[0]'h).toNat : Int) = bt a0 0 := bt_at a0 0
                          clear p12
                          have qi12 : (0 < (a0.size : Int)) = True := eq_true (of_decide_eq_true (by first | (with_reducible assumption) | assumption))
                          replace q12 := eq_true q12
                          have p14 : 0 ≤ (1 : Int) := (by omega)
                          have q14 : 1 < a0.size := (by have : (1 : Int) < (a0.size : Int) := of_decide_eq_true (by first | (with_reducible assumption) | assumption); omega)
                          have hx14 : ∀ h : 1 < a0.size, ((a0[1]'h).toNat : Int) = bt a0 1 := bt_at a0 1
                          clear p14
                          have qi14 : (1 < (a0.size : Int)) = True := eq_true (of_decide_eq_true (by first | (with_reducible assumption) | assumption))
                          replace q14 := eq_true q14
                          have p16 : 0 ≤ (1 : Int) := (by omega)
                          have q16 : 1 < a0.size := (by have : (1 : Int) < (a0.size : Int) := of_decide_eq_true (by first | (with_reducible assumption) | assumption); omega)
                          have hx16 : ∀ h : 1 < a0.size, ((a0[1]'h).toNat : Int) = bt a0 1 := bt_at a0 1
                          clear p16
                          have qi16 : (1 < (a0.size : Int)) = True := eq_true (of_decide_eq_true (by first | (with_reducible assumption) | assumption))
                          replace q16 := eq_true q16
                          go_wp2_with (first | (go_at_call 44; (with_reducible refine (inflate_Raw.calls (a0.extract 2 a0.size) a1 t212 t213 t214 _ A19.out).mono ?_); rintro e w40 ⟨rfl, hb⟩; have n0_ := hs HB hb; clear HB; have HB := n0_; clear n0_; (try clear hb)))
                          repeat (go_quiet (first | (go_at_call 44; (with_reducible refine (inflate_Raw.calls (a0.extract 2 a0.size) a1 t212 t213 t214 _ A19.out).mono ?_); rintro e w40 ⟨rfl, hb⟩; have n0_ := hs HB hb; clear HB; have HB := n0_; clear n0_; (try clear hb))); try go_wp2_with (first | (go_at_call 44; (with_reducible refine (inflate_Raw.calls (a0.extract 2 a0.size) a1 t212 t213 t214 _ A19.out).mono ?_); rintro e w40 ⟨rfl, hb⟩; have n0_ := hs HB hb; clear HB; have HB := n0_; clear n0_; (try clear hb))))
                          go_ret2
                          exact ⟨by first | rfl | (simp [errW_none, errW_some] <;> rfl) | (simp [*, errW_none, errW_some] <;> rfl), hn HB⟩
                      · rw [if_neg c18] at H
                        exact absurd H (by simp)
                    · rw [if_neg c17] at H
                      have c17b0 : ((Go.bits .and .u8 (bt a0 1) 32) == 0) = false := beq_eq_false_iff_ne.mpr c17
                      have c17b1 : ((Go.bits .and .u8 (bt a0 1) 32) != 0) = true := bne_iff_ne.mpr c17
                      simp only [Option.some.injEq, Prod.mk.injEq] at H
                      obtain ⟨rfl, rfl⟩ := H
                      have p8 : 0 ≤ (0 : Int) := (by omega)
                      have q8 : 0 < a0.size := (by have : (0 : Int) < (a0.size : Int) := of_decide_eq_true (by first | (with_reducible assumption) | assumption); omega)
                      have hx8 : ∀ h : 0 < a0.size, ((a0[0]'h).toNat : Int) = bt a0 0 := bt_at a0 0
                      clear p8
                      have qi8 : (0 < (a0.size : Int)) = True := eq_true (of_decide_eq_true (by first | (with_reducible assumption) | assumption))
                      replace q8 := eq_true q8
                      have p10 : 0 ≤ (0 : Int) := (by omega)
                      have q10 : 0 < a0.size := (by have : (0 : Int) < (a0.size : Int) := of_decide_eq_true (by first | (with_reducible assumption) | assumption); omega)
                      have hx10 : ∀ h : 0 < a0.size, ((a0[0]'h).toNat : Int) = bt a0 0 := bt_at a0 0
                      clear p10
                      have qi10 : (0 < (a0.size : Int)) = True := eq_true (of_decide_eq_true (by first | (with_reducible assumption) | assumption))
                      replace q10 := eq_true q10
                      have p12 : 0 ≤ (0 : Int) := (by omega)
                      have q12 : 0 < a0.size := (by have : (0 : Int) < (a0.size : Int) := of_decide_eq_true (by first | (with_reducible assumption) | assumption); omega)
                      have hx12 : ∀ h : 0 < a0.size, ((a0[0]'h).toNat : Int) = bt a0 0 := bt_at a0 0
                      clear p12
                      have qi12 : (0 < (a0.size : Int)) = True := eq_true (of_decide_eq_true (by first | (with_reducible assumption) | assumption))
                      replace q12 := eq_true q12
                      have p14 : 0 ≤ (1 : Int) := (by omega)
                      have q14 : 1 < a0.size := (by have : (1 : Int) < (a0.size : Int) := of_decide_eq_true (by first | (with_reducible assumption) | assumption); omega)
                      have hx14 : ∀ h : 1 < a0.size, ((a0[1]'h).toNat : Int) = bt a0 1 := bt_at a0 1
                      clear p14
                      have qi14 : (1 < (a0.size : Int)) = True := eq_true (of_decide_eq_true (by first | (with_reducible assumption) | assumption))
                      replace q14 := eq_true q14
                      have p16 : 0 ≤ (1 : Int) := (by omega)
                      have q16 : 1 < a0.size := (by have : (1 : Int) < (a0.size : Int) := of_decide_eq_true (by first | (with_reducible assumption) | assumption); omega)
                      have hx16 : ∀ h : 1 < a0.size, ((a0[1]'h).toNat : Int) = bt a0 1 := bt_at a0 1
                      clear p16
                      have qi16 : (1 < (a0.size : Int)) = True := eq_true (of_decide_eq_true (by first | (with_reducible assumption) | assumption))
                      replace q16 := eq_true q16
                      go_wp2
                      repeat (go_quiet (fail); try go_wp2)
                      go_ret2
                      exact ⟨by first | rfl | (simp [errW_none, errW_some] <;> rfl) | (simp [*, errW_none, errW_some] <;> rfl), hn HB⟩
                  · rw [if_neg c15] at H
                    have c15b0 : ((Int.tmod (Go.bits .or .i64 (wrap64 ((wrap64 (bt a0 0)) * 256)) (wrap64 (bt a0 1))) 31) == 0) = false := beq_eq_false_iff_ne.mpr c15
                    have c15b1 : ((Int.tmod (Go.bits .or .i64 (wrap64 ((wrap64 (bt a0 0)) * 256)) (wrap64 (bt a0 1))) 31) != 0) = true := bne_iff_ne.mpr c15
                    simp only [Option.some.injEq, Prod.mk.injEq] at H
                    obtain ⟨rfl, rfl⟩ := H
                    have p8 : 0 ≤ (0 : Int) := (by omega)
                    have q8 : 0 < a0.size := (by have : (0 : Int) < (a0.size : Int) := of_decide_eq_true (by first | (with_reducible assumption) | assumption); omega)
                    have hx8 : ∀ h : 0 < a0.size, ((a0[0]'h).toNat : Int) = bt a0 0 := bt_at a0 0
                    clear p8
                    have qi8 : (0 < (a0.size : Int)) = True := eq_true (of_decide_eq_true (by first | (with_reducible assumption) | assumption))
                    replace q8 := eq_true q8
                    have p10 : 0 ≤ (0 : Int) := (by omega)
                    have q10 : 0 < a0.size := (by have : (0 : Int) < (a0.size : Int) := of_decide_eq_true (by first | (with_reducible assumption) | assumption); omega)
                    have hx10 : ∀ h : 0 < a0.size, ((a0[0]'h).toNat : Int) = bt a0 0 := bt_at a0 0
                    clear p10
                    have qi10 : (0 < (a0.size : Int)) = True := eq_true (of_decide_eq_true (by first | (with_reducible assumption) | assumption))
                    replace q10 := eq_true q10
                    have p12 : 0 ≤ (0 : Int) := (by omega)
                    have q12 : 0 < a0.size := (by have : (0 : Int) < (a0.size : Int) := of_decide_eq_true (by first | (with_reducible assumption) | assumption); omega)
                    have hx12 : ∀ h : 0 < a0.size, ((a0[0]'h).toNat : Int) = bt a0 0 := bt_at a0 0
                    clear p12
                    have qi12 : (0 < (a0.size : Int)) = True := eq_true (of_decide_eq_true (by first | (with_reducible assumption) | assumption))
                    replace q12 := eq_true q12
                    have p14 : 0 ≤ (1 : Int) := (by omega)
                    have q14 : 1 < a0.size := (by have : (1 : Int) < (a0.size : Int) := of_decide_eq_true (by first | (with_reducible assumption) | assumption); omega)
                    have hx14 : ∀ h : 1 < a0.size, ((a0[1]'h).toNat : Int) = bt a0 1 := bt_at a0 1
                    clear p14
                    have qi14 : (1 < (a0.size : Int)) = True := eq_true (of_decide_eq_true (by first | (with_reducible assumption) | assumption))
                    replace q14 := eq_true q14
                    go_wp2
                    repeat (go_quiet (fail); try go_wp2)
                    go_ret2
                    exact ⟨by first | rfl | (simp [errW_none, errW_some] <;> rfl) | (simp [*, errW_none, errW_some] <;> rfl), hn HB⟩
                · rw [if_neg c13] at H
                  exact absurd H (by simp)
            · rw [if_neg c9] at H
              have c9b0 : ((Go.bits .and .u8 (bt a0 0) 15) == 8) = false := beq_eq_false_iff_ne.mpr c9
              have c9b1 : ((Go.bits .and .u8 (bt a0 0) 15) != 8) = true := bne_iff_ne.mpr c9
              simp only [Option.some.injEq, Prod.mk.injEq] at H
              obtain ⟨rfl, rfl⟩ := H
              have p8 : 0 ≤ (0 : Int) := (by omega)
              have q8 : 0 < a0.size := (by have : (0 : Int) < (a0.size : Int) := of_decide_eq_true (by first | (with_reducible assumption) | assumption); omega)
              have hx8 : ∀ h : 0 < a0.size, ((a0[0]'h).toNat : Int) = bt a0 0 := bt_at a0 0
              clear p8
              have qi8 : (0 < (a0.size : Int)) = True := eq_true (of_decide_eq_true (by first | (with_reducible assumption) | assumption))
              replace q8 := eq_true q8
              go_wp2
              repeat (go_quiet (fail); try go_wp2)
              go_ret2
              exact ⟨by first | rfl | (simp [errW_none, errW_some] <;> rfl) | (simp [*, errW_none, errW_some] <;> rfl), hn HB⟩
          · rw [if_neg c7] at H
            exact absurd H (by simp)
end Go.Proofs.Ytpbhkdamkbopkaa.GBack2
namespace Go.Proofs.Ytpbhkdamkbopkaa.GPix
open Go.RowKit Go.Proofs.YtpbhkdamkbopkaaW.PrintWords Go.Proofs.YtpbhkdamkbopkaaW.PrintLast Go.Proofs.YtpbhkdamkbopkaaW.PrintMore Go.Proofs.Ytpbhkdamkbopkaa.Wr2 Go.Proofs.Ytpbhkdamkbopkaa.Wr1 Go.Proofs.Ytpbhkdamkbopkaa.GRuns Go.Proofs.Ytpbhkdamkbopkaa.GBack2
attribute [local go_sem] max2_int min2_int max_two min_two max_three min_three max_four min_four
set_option linter.unusedVariables false
set_option linter.unusedSimpArgs false
def errW : Option Int → Value
  | none => .nilIface
  | some c => .iface 0 (.int .i64 c)
theorem errW_none : errW none = .nilIface := rfl
theorem errW_some (c : Int) : errW (some c) = .iface 0 (.int .i64 c) := rfl
theorem info3 : (Try.prog.info? 3).map (fun i => (i.zero, i.size, i.bytes)) = some (some (.int .i64 0), 1, 8) := by kernel_rfl
theorem info5 : (Try.prog.info? 5).map (fun i => (i.zero, i.size, i.bytes)) = some (some (.int .u8 0), 1, 1) := by kernel_rfl
theorem info89 : (Try.prog.info? 89).map (fun i => (i.zero, i.size, i.bytes)) = some (some (.agg #[(.int .i64 0), (.int .i64 0), (.int .i64 0), (.int .i64 0)]), 4, 32) := by kernel_rfl
structure S89 where
  f0 : Int
  f1 : Int
  f2 : Int
  f3 : Int
def z89 : S89 := ⟨(0 : Int), (0 : Int), (0 : Int), (0 : Int)⟩
def k89 : Kd S89 := Kd.iso (Kd.pair (Kd.int .i64) (Kd.pair (Kd.int .i64) (Kd.pair (Kd.int .i64) (Kd.int .i64)))) (fun x : S89 => (x.f0, x.f1, x.f2, x.f3))
theorem k89_open {w : World} {x : S89} {cs : List Value} (h : k89.K w x cs) : cs = [.int .i64 x.f0, .int .i64 x.f1, .int .i64 x.f2, .int .i64 x.f3] := by
  obtain ⟨_, _, rfl, rfl, ⟨_, _, rfl, rfl, ⟨_, _, rfl, rfl, rfl⟩⟩⟩ := h
  exact rfl
theorem k89_mkM (w : World) (base : Nat) (ok : Nat → Prop) (x : S89)  : k89.M w base ok x [.int .i64 x.f0, .int .i64 x.f1, .int .i64 x.f2, .int .i64 x.f3] := ⟨[.int .i64 x.f0], [.int .i64 x.f1, .int .i64 x.f2, .int .i64 x.f3], rfl, rfl, ⟨[.int .i64 x.f1], [.int .i64 x.f2, .int .i64 x.f3], rfl, rfl, ⟨[.int .i64 x.f2], [.int .i64 x.f3], rfl, rfl, rfl⟩⟩⟩
def rd_T89 (xs : List S89) (i : Int) : S89 := xs.getD i.toNat z89
theorem at_T89 {w : World} {A : Option Addr} {n : Nat} {xs : List S89} (h : Kd.C k89 w A n xs) (i : Int) (h0 : 0 ≤ i) (h1 : i < n) : ∃ ad , A = some ad ∧ w.cell? (ad.add (i.toNat * 4)) = some (.int .i64 (rd_T89 xs i).f0) ∧ w.cell? ⟨(ad.add (i.toNat * 4)).block, (ad.add (i.toNat * 4)).off + 1, none⟩ = some (.int .i64 (rd_T89 xs i).f1) ∧ w.cell? ⟨(ad.add (i.toNat * 4)).block, (ad.add (i.toNat * 4)).off + 2, none⟩ = some (.int .i64 (rd_T89 xs i).f2) ∧ w.cell? ⟨(ad.add (i.toNat * 4)).block, (ad.add (i.toNat * 4)).off + 3, none⟩ = some (.int .i64 (rd_T89 xs i).f3) := by
  obtain ⟨ad, c, e, _, hK, hc0⟩ := Kd.C_get h z89 i h0 h1
  have hc : ∀ j u, c[j]? = some u → w.cell? (ad.add (i.toNat * 4 + j)) = some u := hc0
  obtain rfl := k89_open hK
  exact ⟨ad, e, hc 0 _ rfl, by rw [← add_field _ _ 1 (by omega)]; exact hc 1 _ rfl, by rw [← add_field _ _ 2 (by omega)]; exact hc 2 _ rfl, by rw [← add_field _ _ 3 (by omega)]; exact hc 3 _ rfl⟩
end Go.Proofs.Ytpbhkdamkbopkaa.GPix
namespace Go.Proofs.Ytpbhkdamkbopkaa.Opens
open Go.RowKit Go.Proofs.Ytpbhkdamkbopkaa.GPix Go.Proofs.YtpbhkdamkbopkaaW.PrintWords
/-- The numbers of a colour are Go's. -/
def G89 (x : S89) : Prop := (Lit.int .i64 x.f0).wf = true ∧ (Lit.int .i64 x.f1).wf = true ∧ (Lit.int .i64 x.f2).wf = true ∧ (Lit.int .i64 x.f3).wf = true
theorem P89 : Opens Try.prog (Kd.pair (Kd.int .i64) (Kd.pair (Kd.int .i64) (Kd.pair (Kd.int .i64) (Kd.int .i64)))) 89 (fun p => (Lit.int .i64 p.1).wf = true ∧ (Lit.int .i64 p.2.1).wf = true ∧ (Lit.int .i64 p.2.2.1).wf = true ∧ (Lit.int .i64 p.2.2.2).wf = true) := Opens.good (
  Opens.fields Try.underlying89 (by kernel_rfl) (OpensF.cons rfl (by kernel_rfl) (Opens.int Try.underlying3) (OpensF.cons rfl (by kernel_rfl) (Opens.int Try.underlying3) (OpensF.cons rfl (by kernel_rfl) (Opens.int Try.underlying3) (OpensF.one rfl (by kernel_rfl) (Opens.int Try.underlying3)))))) (fun _ h => h)
theorem opens89 : Opens Try.prog k89 89 G89 := Opens.good (Opens.iso P89 (fun x : S89 => (x.f0, x.f1, x.f2, x.f3)) (fun p => (⟨p.1, p.2.1, p.2.2.1, p.2.2.2⟩ : S89)) (fun _ => rfl)) (fun _ h => h)
theorem opens74 : Opens Try.prog (Kd.slice 89 k89) 74 (fun l => l.length ≤ maxLen ∧ ∀ x ∈ l, G89 x) := Opens.slice Try.underlying74 (by kernel_rfl) opens89
theorem P76 : Opens Try.prog (Kd.pair (Kd.int .i64) (Kd.pair (Kd.int .i64) (Kd.pair (Kd.int .i64) (Kd.slice 89 k89)))) 76 (fun p => (Lit.int .i64 p.1).wf = true ∧ (Lit.int .i64 p.2.1).wf = true ∧ (Lit.int .i64 p.2.2.1).wf = true ∧ (p.2.2.2.length ≤ maxLen ∧ ∀ x ∈ p.2.2.2, G89 x)) := Opens.good (
  Opens.fields Try.underlying76 (by kernel_rfl) (OpensF.cons rfl (by kernel_rfl) (Opens.int Try.underlying3) (OpensF.cons rfl (by kernel_rfl) (Opens.int Try.underlying3) (OpensF.cons rfl (by kernel_rfl) (Opens.int Try.underlying3) (OpensF.one rfl (by kernel_rfl) opens74))))) (fun _ h => h)
end Go.Proofs.Ytpbhkdamkbopkaa.Opens
