/- What deflate.Raw holds between its steps: the writer and the places; and how each step leaves it. -/
import Derived.Test.YtpbhkdamkbopkaaExtM
import Derived.Test.YtpbhkdamkbopkaaRunMathD
namespace Go.Proofs.Ytpbhkdamkbopkaa.Wr
set_option linter.unusedSimpArgs false
set_option linter.unusedVariables false
open Go.WideElems (rd_val)
open Go.RowKit Go.Maps Go.MapKept Go.ChangeShapes Go.Proofs.YtpbhkdamkbopkaaW.PrintWords Go.Proofs.YtpbhkdamkbopkaaW.PrintLast Go.Proofs.YtpbhkdamkbopkaaW.PrintMore
open Go.Proofs.Ytpbhkdamkbopkaa.Rn (run pl tri)

/-- The places below n where these three bytes begin. -/
def pos (s : ByteArray) (a b c : Int) : Nat → List Int
  | 0 => []
  | n + 1 => if n + 3 ≤ s.size ∧ bt s (n : Int) = a ∧ bt s ((n + 1 : Nat) : Int) = b ∧ bt s ((n + 2 : Nat) : Int) = c then pos s a b c n ++ [(n : Int)] else pos s a b c n
theorem pos_pl (s : ByteArray) (i : Nat) (hi : i + 3 ≤ s.size) : ∀ n, n ≤ i → pos s (bt s (i : Int)) (bt s ((i + 1 : Nat) : Int)) (bt s ((i + 2 : Nat) : Int)) n = pl s i 0 n := by
  intro n
  induction n with
  | zero => intro _; rfl
  | succ n ih =>
    intro hn
    simp only [pos, pl, Nat.zero_add]
    rw [ih (by omega)]
    by_cases c : tri s i n
    · rw [if_pos c, if_pos ⟨by omega, c.1.symm, c.2.1.symm, c.2.2.symm⟩]
    · rw [if_neg c, if_neg (fun h => c ⟨h.2.1.symm, h.2.2.1.symm, h.2.2.2.symm⟩)]
theorem pos_len (s : ByteArray) (a b c : Int) : ∀ n, (pos s a b c n).length ≤ n := by
  intro n
  induction n with
  | zero => exact Nat.le_refl _
  | succ n ih =>
    simp only [pos]
    split
    · simp; omega
    · omega
theorem pos_wf (s : ByteArray) (hs : s.size ≤ 140737488351232) (a b c : Int) : ∀ n, ∀ z ∈ pos s a b c n, (Lit.int .i64 z).wf = true := by
  intro n
  induction n with
  | zero => intro z hz; simp [pos] at hz
  | succ n ih =>
    intro z hz
    simp only [pos] at hz
    split at hz
    · rename_i h
      rcases List.mem_append.1 hz with h1 | h1
      · exact ih z h1
      · simp at h1
        subst h1
        simp [Lit.wf, IntKind.min, IntKind.max, IntKind.signed, IntKind.bits]
        omega
    · exact ih z hz
/-- A datum reads as these numbers. -/
def Dat (d : DataW Unit) (zs : List Int) : Prop := (d = .nil ∧ zs = []) ∨ d = .slice (lits .i64 zs) []
theorem lits_inj {zs ys : List Int} (h : lits (H := Unit) .i64 zs = lits .i64 ys) : zs = ys := by
  unfold lits at h
  exact (List.map_inj_right (fun a b hab => by cases hab; rfl)).1 h
theorem Dat.unique {d : DataW Unit} {zs ys : List Int} (h : Dat d zs) (k : Dat d ys) : zs = ys := by
  rcases h with ⟨h1, h2⟩ | h1 <;> rcases k with ⟨k1, k2⟩ | k1
  · rw [h2, k2]
  · rw [h1] at k1; cases k1
  · rw [k1] at h1; cases h1
  · rw [h1] at k1
    simp at k1
    exact lits_inj k1
theorem rows_lt {H : Type} {P : Program} {k : TypeId} {w : World} {base : Nat} {e : TypeId} {q : IntKind} {b n : Nat} {D : DataW H} (h : w.ownsGroups P k base e q b n D) : ∀ es clock, w.heap[b]? = some (.map es clock) → ∀ x ∈ es.toList, ∀ g, x.val.ownBlock = some g → base ≤ g ∧ g < w.heap.size := by
  intro es clock hb x hx g hg
  obtain ⟨es', clock', hb', F, _⟩ := h
  obtain ⟨rfl, rfl⟩ : es' = es ∧ clock' = clock := by rw [hb'] at hb; simpa using hb
  obtain ⟨y, hy⟩ := F.reads x hx
  obtain ⟨z, hz, _⟩ := rd_val hy
  obtain ⟨zs, hoi, _⟩ := rowElem_inv hz
  exact hoi.1.lt g hg
theorem WSt.same {w0 : World} {g : Nat} {v : Value} {o : List Int} {f : Int} {w w' : World} (h : WSt w0 g v o f w) (hg : w'.heap[g]? = w.heap[g]?) (hv : ∀ k, v.ownBlock = some k → w'.heap[k]? = w.heap[k]?) (hb : Below w0.heap.size w0 w') : WSt w0 g v o f w' :=
  ⟨hg.trans h.blk, Kd.R_reok rfl (Kd.R_step (Kd.R_tight rfl h.row) (fun k hk _ => hv k hk.symm)) h.row.1, h.hg, hb⟩
/-- The writer and the places. -/
structure RSt (W0 : World) (s : ByteArray) (g m : Nat) (v : Value) (B : List Int) (i : Nat) (w : World) : Prop where
  wr : WSt W0 g v (pk B) (fr B.length) w
  bits : Bits B
  gm : g < m
  mw : m < w.heap.size
  vm : v.ownBlock ≠ some m
  grp : ∃ (D : DataW Unit) (n : Nat), n ≤ i ∧ w.ownsGroups Try.prog 97 (m + 1) 3 .i64 m n D ∧ Maps.IsMap D ∧ ∀ a b c, (0 ≤ a ∧ a ≤ 255) → (0 ≤ b ∧ b ≤ 255) → (0 ≤ c ∧ c ≤ 255) → Dat (D.atKey (tl a b c) .nil) (pos s a b c i)
  shun : w.Shuns m (fun k => k = g ∨ v.ownBlock = some k)
variable {W0 : World} {s : ByteArray} {g m : Nat} {v : Value} {B : List Int} {i : Nat} {w w' : World}
theorem RSt.below (h : RSt W0 s g m v B i w) (hb : Below w.heap.size w w') : RSt W0 s g m v B i w' := by
  obtain ⟨D, n, h1, h2, h3, h4⟩ := h.grp
  have hm := hb.block m h.mw
  exact ⟨h.wr.below hb, h.bits, h.gm, Nat.lt_of_lt_of_le h.mw hb.size, h.vm, ⟨D, n, h1, owns_same h2 hm (fun es clock he x hx g' hg' => hb.block g' (rows_lt h2 es clock he x hx g' hg').2), h3, h4⟩, shuns_same h.shun hm⟩
theorem RSt.wrote {v' : Value} {C : List Int} (h : RSt W0 s g m v B i w) (hC : Bits C) (hw : WSt W0 g v' (pk (B ++ C)) (fr (B ++ C).length) w') (hf : Fro w g v w' v') : RSt W0 s g m v' (B ++ C) i w' := by
  obtain ⟨D, n, h1, h2, h3, h4⟩ := h.grp
  have hm : w'.heap[m]? = w.heap[m]? := hf.keep.2 m h.mw (by have := h.gm; omega) (fun e => h.vm e.symm)
  have hs : ∀ es clock, w.heap[m]? = some (.map es clock) → ∀ x ∈ es.toList, ∀ g', x.val.ownBlock = some g' → w'.heap[g']? = w.heap[g']? := fun es clock he x hx g' hg' =>
    hf.keep.2 g' (rows_lt h2 es clock he x hx g' hg').2 (fun e => h.shun es clock he x hx g' hg' (.inl e)) (fun e => h.shun es clock he x hx g' hg' (.inr e.symm))
  have hsh : w.Shuns m (fun k => k = g ∨ v'.ownBlock = some k) := h.shun.reno h2 (fun k hk => by
    rcases hk with hk | hk
    · exact .inl (.inl hk)
    · rcases hf.own with e | ⟨b, e, hb⟩
      · exact .inl (.inr (e ▸ hk))
      · rw [e] at hk
        cases hk
        exact .inr hb)
  refine ⟨hw, h.bits.append hC, h.gm, Nat.lt_of_lt_of_le h.mw hf.keep.1, fun e => ?_, ⟨D, n, h1, owns_same h2 hm hs, h3, h4⟩, shuns_same hsh hm⟩
  rcases hf.own with e1 | ⟨b, e1, hb⟩
  · exact h.vm (e1 ▸ e)
  · rw [e1] at e
    cases e
    have := h.mw
    omega
/-- A place without three bytes. -/
theorem RSt.skip (h : RSt W0 s g m v B i w) (hi : s.size < i + 3) : RSt W0 s g m v B (i + 1) w := by
  obtain ⟨D, n, h1, h2, h3, h4⟩ := h.grp
  refine ⟨h.wr, h.bits, h.gm, h.mw, h.vm, ⟨D, n, by omega, h2, h3, fun a b c ha hb hc => ?_⟩, h.shun⟩
  have e : pos s a b c (i + 1) = pos s a b c i := by
    simp only [pos]
    rw [if_neg (fun h => by omega)]
  rw [e]
  exact h4 a b c ha hb hc
/-- The places of three bytes, looked up. -/
theorem RSt.look (h : RSt W0 s g m v B i w) (hi : i ≤ 1000000000) {a b c : Int} (ha : 0 ≤ a ∧ a ≤ 255) (hb : 0 ≤ b ∧ b ≤ 255) (hc : 0 ≤ c ∧ c ≤ 255) :
    ∃ A cap, (Instr.lookup 105 (.map (some m)) (tk a b c) false).run Try.prog w = .ok (.slice A (pos s a b c i).length cap) w ∧ (pos s a b c i).length ≤ cap ∧ Kd.C (Kd.int .i64) w A (pos s a b c i).length (pos s a b c i) := by
  obtain ⟨D, n, h1, h2, h3, h4⟩ := h.grp
  obtain ⟨u, zs, hrun, hat, hoi, _, _⟩ := h2.at keyed97 Try.underlying105 (zero22 w) (by unfold maxLen; omega) (tl_key ha hb hc)
  have hz : zs = pos s a b c i := Dat.unique (d := rowDatum .i64 u zs) hoi.datum (hat ▸ h4 a b c ha hb hc)
  have hR : Kd.R (Kd.int .i64) 3 w (m + 1) (fun _ => True) u zs := Kd.R_of_own hoi.1 (fun _ _ => trivial)
  obtain ⟨A, cap, e, hle, hC⟩ := Kd.R_reads hR
  rw [← hz]
  exact ⟨A, cap, by rw [hrun, e], hle, hC⟩
/-- An entry that is appended to: the places hold one more. -/
theorem RSt.entry (h : RSt W0 s g m v B i w) (hs : s.size ≤ 1000000000) (hi : i + 3 ≤ s.size) :
    ∃ (u : Value) (st : Int) (zs : List Int) (w1 : World), (Instr.mapEntry 105 (.map (some m)) (tk (bt s (i : Int)) (bt s ((i + 1 : Nat) : Int)) (bt s ((i + 2 : Nat) : Int)))).run Try.prog w = .ok (.tuple #[u, goInt st]) w1 ∧ w.grownBy w1 (some m) ∧
      w1.ownsRow (m + 1) 3 1 u zs.length (zs.map (Value.int .i64)) ∧ zs.length ≤ i ∧ m + 1 ≤ w1.heap.size ∧
      ∀ (w2 : World) (u' : Value), w1.grownBy w2 u.ownBlock → w2.ownsRow (m + 1) 3 1 u' (zs.length + 1) (zs.map (Value.int .i64) ++ [.int .i64 (i : Int)]) → (u'.ownBlock = u.ownBlock ∨ u'.ownBlock = some w1.heap.size) →
        ∃ w3, (Instr.entryStore 105 (.map (some m)) (goInt st) u').run Try.prog w2 = .ok () w3 ∧ RSt W0 s g m v B (i + 1) w3 := by
  obtain ⟨D, n, h1, h2, h3, h4⟩ := h.grp
  have ra := bt_range s (i : Int)
  have rb := bt_range s ((i + 1 : Nat) : Int)
  have rc := bt_range s ((i + 2 : Nat) : Int)
  obtain ⟨u, st, zs, w1, hrun, hg1, hat, hoi, hzl, hsh, hback⟩ := groups_entry law97 Try.underlying105 zero22 h2 (by unfold maxLen; omega) (tl_key ra rb rc)
  have hz : zs = pos s (bt s (i : Int)) (bt s ((i + 1 : Nat) : Int)) (bt s ((i + 2 : Nat) : Int)) i := Dat.unique (d := rowDatum .i64 u zs) hoi.datum (hat ▸ h4 _ _ _ ra rb rc)
  refine ⟨u, st, zs, w1, hrun, hg1, hoi.1, by omega, Nat.lt_of_lt_of_le h.mw hg1.size, ?_⟩
  intro w2 u' hg2 hown hloc
  have hwf : (Lit.int .i64 (i : Int)).wf = true := by
    simp [Lit.wf, IntKind.min, IntKind.max, IntKind.signed, IntKind.bits]
    omega
  have hoi' : w2.ownsInts (m + 1) 3 .i64 u' (zs ++ [(i : Int)]) := hoi.appended hown hwf
  have hloc' : u'.ownBlock = u.ownBlock ∨ ∃ g, u'.ownBlock = some g ∧ w.heap.size ≤ g := hloc.imp id (fun h => ⟨_, h, hg1.size⟩)
  obtain ⟨w3, hrun3, hown3, hg3, hsh3⟩ := hback w2 u' (zs ++ [(i : Int)]) hg2 hoi' (by simp; omega) hloc'
  refine ⟨w3, hrun3, ?_⟩
  -- what is not the map's nor its row's stays
  have hgs : g < w.heap.size := blk_lt h.wr.blk
  have stay : ∀ k, k < w.heap.size → k ≠ m → u.ownBlock ≠ some k → w3.heap[k]? = w.heap[k]? := fun k hk hm hu =>
    ((hg3.block k (Nat.lt_of_lt_of_le hk (Nat.le_trans hg1.size hg2.size)) (fun e => hm (by cases e; rfl))).trans (hg2.block k (Nat.lt_of_lt_of_le hk hg1.size) (fun e => hu e.symm))).trans (hg1.block k hk (fun e => hm (by cases e; rfl)))
  have husn := hsh _ h.shun
  have hbel : Below W0.heap.size W0 w3 := by
    have hWm : W0.heap.size ≤ m := Nat.le_trans h.wr.hg (Nat.le_of_lt h.gm)
    have b1 := h.wr.bl.grown hg1 h.wr.bl.size (fun j hj => by cases hj; exact hWm)
    have b2 := b1.grown hg2 b1.size (fun j hj => by have := (hoi.1.lt j hj).1; omega)
    exact b2.grown hg3 b2.size (fun j hj => by cases hj; exact hWm)
  have hvlt : ∀ k, v.ownBlock = some k → k < w.heap.size := fun k hk => by
    obtain ⟨inner, ho⟩ := Kd.R_own h.wr.row
    exact (ho.lt k hk).2
  refine ⟨h.wr.same (stay g hgs (by have := h.gm; omega) (fun e => husn g e (.inl rfl))) (fun k hk => stay k (hvlt k hk) (fun e => h.vm (e ▸ hk)) (fun e => husn k e (.inr hk))) hbel, h.bits, h.gm, Nat.lt_of_lt_of_le h.mw (Nat.le_trans hg1.size (Nat.le_trans hg2.size hg3.size)), h.vm, ⟨_, n + 1, by omega, hown3, h3.put _ _, fun a b c ha hb hc => ?_⟩, hsh3 _ h.shun ?_⟩
  · by_cases e : a = bt s (i : Int) ∧ b = bt s ((i + 1 : Nat) : Int) ∧ c = bt s ((i + 2 : Nat) : Int)
    · rw [e.1, e.2.1, e.2.2, put_here h3 ra rb rc]
      simp only [pos]
      rw [if_pos ⟨hi, trivial, trivial, trivial⟩, ← hz]
      exact hoi'.datum
    · rw [put_there ha hb hc ra rb rc _ e]
      simp only [pos]
      rw [if_neg (fun e1 => e ⟨e1.2.1.symm, e1.2.2.1.symm, e1.2.2.2.symm⟩)]
      exact h4 a b c ha hb hc
  · intro k hk hno
    rcases hloc with e | e
    · exact husn k (e ▸ hk) hno
    · rw [e] at hk
      cases hk
      rcases hno with e1 | e1
      · have := hg1.size; omega
      · have := hvlt _ e1; have := hg1.size; omega
section
variable {P : Program} {ops : Array Oper} {rest : List Oper} {o : Oper} {a : Act} {Q : Exit → Act → World → Prop} {w w1 : World}
theorem wpList_mapEntry_run (hg : o.guard = none) (mo x : Operand) (t : TypeId) (hop : o.op = Op.mapEntry t mo x) (mv key r : Value) (hm : a.eval mo = mv) (hx : a.eval x = key) (hrun : (Instr.mapEntry t mv key).run P w = .ok r w1) (hK : wpList P ops Q rest (a.put o.dst r) w1) : wpList P ops Q (o :: rest) a w := by
  refine wpList_plain hg fun K' hK' => ?_
  unfold Oper.wp
  simp [execOp, hop, hm, hx, hrun, Result.andThen]
  exact hK' _ _ hK
theorem wpList_entryStore_run (hg : o.guard = none) (mo st x : Operand) (t : TypeId) (hop : o.op = Op.entryStore t mo st x) (mv sv key : Value) (hm : a.eval mo = mv) (hst : a.eval st = sv) (hx : a.eval x = key) (hrun : (Instr.entryStore t mv sv key).run P w = .ok () w1) (hK : wpList P ops Q rest (a.put o.dst undef) w1) : wpList P ops Q (o :: rest) a w := by
  refine wpList_plain hg fun K' hK' => ?_
  unfold Oper.wp
  simp [execOp, hop, hm, hst, hx, hrun, Result.andThen]
  exact hK' _ _ hK
theorem wpList_lookup_run (hg : o.guard = none) (mo x : Operand) (t : TypeId) (hop : o.op = Op.lookup t mo x false) (mv key r : Value) (hm : a.eval mo = mv) (hx : a.eval x = key) (hrun : (Instr.lookup t mv key false).run P w = .ok r w) (hK : wpList P ops Q rest (a.put o.dst r) w) : wpList P ops Q (o :: rest) a w := by
  refine wpList_plain hg fun K' hK' => ?_
  unfold Oper.wp
  simp [execOp, hop, hm, hx, hrun, Result.andThen]
  exact hK' _ _ hK
end
end Go.Proofs.Ytpbhkdamkbopkaa.Wr
