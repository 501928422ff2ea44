/- The walks of inflate's reader: fail, bits, next. -/
import Derived.Test.YtpbhkdamkbopkaaInfMath
import Derived.Test.YtpbhkdamkbopkaaWFoot
import Derived.Carry
import Derived.Deep.QuietTactic
import Derived.Deep.WholeRow
namespace Go.Proofs.Ytpbhkdamkbopkaa.Inf
set_option linter.unusedSimpArgs false
set_option linter.unusedVariables false
open Go.RowKit Go.Proofs.Ytpbhkdamkbopkaa.Ext Go.Proofs.Ytpbhkdamkbopkaa.RefP Go.Proofs.YtpbhkdamkbopkaaW.PrintWords Go.Proofs.YtpbhkdamkbopkaaW.PrintLast Go.Proofs.YtpbhkdamkbopkaaW.PrintMore
open Go.Proofs.Ytpbhkdamkbopkaa.PHuffBits (huff_Bits.f huff_Bits.calls)

section
variable {P : Program} {ops : Array Oper} {C : World → Prop} {Q : Act → Prop} {o : Oper} {rest : List Oper} {a : Act} {v : Value}
/-- One step of a region whose operations leave a class of worlds alone. -/
theorem quiet_val (hw : Region.wanted o (yielded ops a.tmps) = true) (h1 : ∀ w, C w → o.quietAt P a C w v) (h2 : wpQuiet P ops C Q rest (a.put o.dst v)) : wpQuiet P ops C Q (o :: rest) a := by
  unfold wpQuiet
  rw [if_pos hw]
  exact ⟨v, h1, h2⟩
theorem quiet_ex (hw : Region.wanted o (yielded ops a.tmps) = true) (h : ∃ v, (∀ w, C w → o.quietAt P a C w v) ∧ wpQuiet P ops C Q rest (a.put o.dst v)) : wpQuiet P ops C Q (o :: rest) a := by
  obtain ⟨v, h1, h2⟩ := h
  exact quiet_val hw h1 h2
/-- .. that loads a struct whole. -/
theorem quiet_row (hw : Region.wanted o (yielded ops a.tmps) = true) (ty : TypeId) (x : Operand) (ho : o.op = .load ty x) (g : Nat) (hx : a.eval x = .pointer (some ⟨g, 0, none⟩)) (t : TypeId) (cs : Array Value) (fr : Nat × Nat) (d : TypeDesc) (hg : ∀ w, C w → w.heap[g]? = some (.cells cs t fr))
    (hu : P.underlying ty = some d) (hd : (match d with | .struct _ | .array _ _ => true | _ => false) = true) (hi : (P.info? ty).map (·.size) = some cs.size) (h2 : wpQuiet P ops C Q rest (a.put o.dst (.agg cs))) : wpQuiet P ops C Q (o :: rest) a := by
  refine quiet_val hw (fun w hc => ?_) h2
  unfold Oper.quietAt execOp
  simp only [ho, hx, Instr.loadAt, Instr.sureAddr, Sem.run_bind, Sem.run_pure, Result.andThen_ok, run_loadVar_row w g t ty cs fr d (hg w hc) hu hd hi]
  exact ⟨rfl, rfl⟩
end
/-- A reader in memory: its block, its row of bytes. -/
structure ISt (w0 : World) (g : Nat) (v : Value) (s : ByteArray) (mx : Int) (x : St) (w : World) : Prop where
  blk : w.heap[g]? = some (.cells #[.string s, .int .i64 x.p, v, .int .i64 mx, .int .i64 x.e] 113 (0, 0))
  row : Kd.R (Kd.int .u8) 5 w w0.heap.size (fun k => k ≠ g) v x.o
  hg : w0.heap.size ≤ g
  bl : Below w0.heap.size w0 w
/-- What else is in memory stays. -/
structure Fro (w : World) (g : Nat) (v : Value) (w' : World) (v' : Value) : Prop where
  keep : KeepBut w w' g v.ownBlock
  own : v'.ownBlock = v.ownBlock ∨ ∃ b, v'.ownBlock = some b ∧ w.heap.size ≤ b
theorem Fro.refl (w : World) (g : Nat) (v : Value) : Fro w g v w v := ⟨KeepBut.refl _ _ _, .inl rfl⟩
theorem Fro.trans {w w1 w2 : World} {g : Nat} {v v1 v2 : Value} (h : Fro w g v w1 v1) (k : Fro w1 g v1 w2 v2) : Fro w g v w2 v2 :=
  ⟨h.keep.trans k.keep h.own, by
    rcases k.own with e | ⟨b, e, hb⟩
    · rw [e]; exact h.own
    · exact .inr ⟨b, e, Nat.le_trans h.keep.1 hb⟩⟩
theorem Fro.below {w w1 w2 : World} {g : Nat} {v v1 : Value} (h : Fro w g v w1 v1) (hb : Below w1.heap.size w1 w2) : Fro w g v w2 v1 :=
  h.trans ⟨KeepBut.of_below hb _ _, .inl rfl⟩
theorem Fro.set {w w1 : World} {g : Nat} {v v1 : Value} (h : Fro w g v w1 v1) (j : Nat) (u : Value) : Fro w g v (w1.setCell ⟨g, j, none⟩ u) v1 :=
  h.trans ⟨(KeepBut.refl _ _ _).set_ j u, .inl rfl⟩
section
variable {w0 w w' : World} {g : Nat} {v v' : Value} {s : ByteArray} {mx : Int} {x : St}
theorem ISt.below (h : ISt w0 g v s mx x w) (hb : Below w.heap.size w w') : ISt w0 g v s mx x w' :=
  ⟨blk_below h.blk hb, Kd.R_below h.row hb, h.hg, below_step h.bl hb⟩
theorem ISt.setp (h : ISt w0 g v s mx x w) (p : Int) : ISt w0 g v s mx ⟨p, x.o, x.e⟩ (w.setCell ⟨g, 1, none⟩ (.int .i64 p)) :=
  ⟨blk_put h.blk 1 _ rfl, Kd.R_far (p := ⟨g, 1, none⟩) h.row (fun _ hk => hk) _, h.hg, below_set h.bl h.hg⟩
theorem ISt.sete (h : ISt w0 g v s mx x w) (e : Int) : ISt w0 g v s mx ⟨x.p, x.o, e⟩ (w.setCell ⟨g, 4, none⟩ (.int .i64 e)) :=
  ⟨blk_put h.blk 4 _ rfl, Kd.R_far (p := ⟨g, 4, none⟩) h.row (fun _ hk => hk) _, h.hg, below_set h.bl h.hg⟩
theorem ISt.drew (h : ISt w0 g v s mx x w) : ISt w0 g v s mx x w.drew := h.below (below_drew1 (Below.refl _ _))
theorem Fro.drew {w1 : World} (h : Fro w g v w1 v') : Fro w g v w1.drew v' := h.below (below_drew1 (Below.refl _ _))
theorem ISt.c0 (h : ISt w0 g v s mx x w) : w.cell? ⟨g, 0, none⟩ = some (.string s) := (blk_cell h.blk 0).trans rfl
theorem ISt.c1 (h : ISt w0 g v s mx x w) : w.cell? ⟨g, 1, none⟩ = some (.int .i64 x.p) := (blk_cell h.blk 1).trans rfl
theorem ISt.c2 (h : ISt w0 g v s mx x w) : w.cell? ⟨g, 2, none⟩ = some v := (blk_cell h.blk 2).trans rfl
theorem ISt.c3 (h : ISt w0 g v s mx x w) : w.cell? ⟨g, 3, none⟩ = some (.int .i64 mx) := (blk_cell h.blk 3).trans rfl
theorem ISt.c4 (h : ISt w0 g v s mx x w) : w.cell? ⟨g, 4, none⟩ = some (.int .i64 x.e) := (blk_cell h.blk 4).trans rfl
theorem ISt.f (h : ISt w0 g v s mx x w) (j : Nat) : w.frozen? ⟨g, j, none⟩ = false := blk_frozen h.blk j
end
/-- What a method leaves. -/
def Post (w0 : World) (g : Nat) (v : Value) (s : ByteArray) (mx : Int) (w : World) (r : Value) (y : St) (e : Ending) (w' : World) : Prop :=
  ∃ v1, e = .returned r ∧ ISt w0 g v1 s mx y w' ∧ Fro w g v w' v1
/-- A row that is read beside a reader. -/
def Foot (w : World) (g : Nat) (v : Value) (A : Option Addr) (l : List Int) : Prop := ∀ W', KeepBut w W' g v.ownBlock → Kd.C (Kd.int .i64) W' A l.length l
theorem Foot.fro {w w' : World} {g : Nat} {v v' : Value} {A : Option Addr} {l : List Int} (h : Foot w g v A l) (k : Fro w g v w' v') : Foot w' g v' A l := fun W' hk => h W' (k.keep.trans hk k.own)
theorem Foot.now {w : World} {g : Nat} {v : Value} {A : Option Addr} {l : List Int} (h : Foot w g v A l) : Kd.C (Kd.int .i64) w A l.length l := h w (KeepBut.refl _ _ _)

theorem fail_calls (w0 : World) (g : Nat) (v : Value) (s : ByteArray) (mx : Int) (x : St) (er : Int) (w : World) (h : ISt w0 g v s mx x w) :
    Calls Try.prog 100 #[.pointer (some ⟨g, 0, none⟩), .int .i64 er] w (Post w0 g v s mx w (.tuple #[]) (fail x er)) := by
  have HH := Aside0.mk h
  have hc := h.c4
  have hf := h.f 4
  clear h
  by_cases c : x.e = 0
  · have hd : (x.e == 0) = true := by rw [c]; rfl
    go_enter Try.func100, Try.ntmps100
    go_wp2
    exact bodyPost_end (v := .tuple #[]) (by simp [results, Try.results100, go_sem]) rfl ⟨v, rfl, by unfold fail; rw [if_pos c]; exact HH.out.sete er, (Fro.refl _ _ _).set 4 _⟩
  · have hd : (x.e == 0) = false := beq_eq_false_iff_ne.2 c
    go_enter Try.func100, Try.ntmps100
    go_wp2
    exact bodyPost_end (v := .tuple #[]) (by simp [results, Try.results100, go_sem]) rfl ⟨v, rfl, by unfold fail; rw [if_neg c]; exact HH.out, Fro.refl _ _ _⟩

theorem bits_calls (w0 : World) (g : Nat) (v : Value) (s : ByteArray) (mx : Int) (x : St) (n : Int) (w : World) (hs : s.size ≤ 140737488351232) (hp : x.p ≤ 9223372036854775807) (h : ISt w0 g v s mx x w) :
    Calls Try.prog 94 #[.pointer (some ⟨g, 0, none⟩), .int .i64 n] w (Post w0 g v s mx w (.int .i64 (bits s n x).1) (bits s n x).2) := by
  have HH := Aside0.mk h
  have hc := h.c4
  have hc1 := h.c1
  have hc0 := h.c0
  clear h
  unfold bits tak
  by_cases c : x.e = 0
  · rw [if_pos c]
    have hd : (x.e != 0) = false := by rw [c]; rfl
    obtain ⟨K, hK⟩ := bits_is s hs x.p n hp
    have hK := hK K (Nat.le_refl _)
    generalize bitsOf s x.p n = r at hK ⊢
    obtain ⟨r1, r2, r3⟩ := r
    dsimp only at hK ⊢
    have HK := Aside0.mk hK
    clear hK
    by_cases c3 : r3 = 0
    · rw [if_pos c3]
      have hd3 : (r3 != 0) = false := by rw [c3]; rfl
      go_enter Try.func94, Try.ntmps94
      go_upto_region 3 with fail
      go_quiet (first | (go_at_call 32; (with_reducible refine (huff_Bits.calls K s x.p n r1 r2 r3 _ HK.out).mono ?_); rintro e w' ⟨rfl, ⟨nd, rfl⟩⟩; (first | exact ⟨rfl, _, World.drewN_drewN _ _ _⟩ | exact ⟨rfl, _, Eq.trans (World.drewN_drewN _ _ _) (congrArg (World.drewN _) (Nat.add_assoc _ _ _))⟩)))
      generalize hw' : World.drewN _ _ = w'
      have HI : Aside0 (ISt w0 g v s mx x w') := ⟨by rw [← hw']; exact HH.out.below (pw_below_drewN (Below.refl _ _) _)⟩
      have HF : Aside0 (Fro w g v w' v) := ⟨by rw [← hw']; exact (Fro.refl _ _ _).below (pw_below_drewN (Below.refl _ _) _)⟩
      clear hw'
      have hc1' := HI.out.c1
      have hf1' := HI.out.f 1
      go_wp2
      exact bodyPost_ret (v := .int .i64 r1) (by simp [results, Try.results94, go_sem]) rfl ⟨v, rfl, (by first | exact HI.out.setp r2 | (have h := HI.out.setp r2; rw [c] at h; exact h)), HF.out.set 1 _⟩
    · rw [if_neg c3]
      have hd3 : (r3 != 0) = true := by simpa using c3
      have hfe : fail x r3 = ⟨x.p, x.o, r3⟩ := by unfold fail; rw [if_pos c]
      go_enter Try.func94, Try.ntmps94
      go_upto_region 3 with fail
      go_quiet (first | (go_at_call 32; (with_reducible refine (huff_Bits.calls K s x.p n r1 r2 r3 _ HK.out).mono ?_); rintro e w' ⟨rfl, ⟨nd, rfl⟩⟩; (first | exact ⟨rfl, _, World.drewN_drewN _ _ _⟩ | exact ⟨rfl, _, Eq.trans (World.drewN_drewN _ _ _) (congrArg (World.drewN _) (Nat.add_assoc _ _ _))⟩)))
      generalize hw' : World.drewN _ _ = w'
      have HI : Aside0 (ISt w0 g v s mx x w') := ⟨by rw [← hw']; exact HH.out.below (pw_below_drewN (Below.refl _ _) _)⟩
      have HF : Aside0 (Fro w g v w' v) := ⟨by rw [← hw']; exact (Fro.refl _ _ _).below (pw_below_drewN (Below.refl _ _) _)⟩
      clear hw'
      go_wp2_with (go_at_call 100; (with_reducible refine (fail_calls w0 g v s mx x r3 _ HI.out).mono ?_); rintro e w2 ⟨v1, rfl, hi, hf⟩; rw [hfe] at hi; have HI2 := Aside0.mk hi; have HF2 := Aside0.mk (HF.out.trans hf); clear hi hf)
      exact bodyPost_ret (v := .int .i64 0) (by simp [results, Try.results94, go_sem]) rfl ⟨v1, rfl, HI2.out, HF2.out⟩
  · rw [if_neg c]
    have hd : (x.e != 0) = true := by simpa using c
    go_enter Try.func94, Try.ntmps94
    go_wp2
    go_ret
    exact ⟨v, rfl, HH.out, Fro.refl _ _ _⟩

/-- A table as a value: its counts, and the row of its symbols, read beside a reader. -/
def Tv (w : World) (g : Nat) (v : Value) (tv : Value) (l : List Int) (P : Prop) : Prop :=
  ∃ (cs ss : List Int) (A : Option Addr) (c : Nat), tv = .agg (tab cs (.slice A ss.length c)) ∧ cs.length = 16 ∧ Foot w g v A ss ∧ (P → cs = newCs l ∧ ss = newSs l)
theorem Tv.fro {w w' : World} {g : Nat} {v v' : Value} {tv : Value} {l : List Int} {P : Prop} (h : Tv w g v tv l P) (k : Fro w g v w' v') : Tv w' g v' tv l P := by
  obtain ⟨cs, ss, A, c, h1, h2, h3, h4⟩ := h
  exact ⟨cs, ss, A, c, h1, h2, h3.fro k, h4⟩
theorem Tv.imp {w : World} {g : Nat} {v : Value} {tv : Value} {l : List Int} {P Q : Prop} (h : Tv w g v tv l P) (k : Q → P) : Tv w g v tv l Q := by
  obtain ⟨cs, ss, A, c, h1, h2, h3, h4⟩ := h
  exact ⟨cs, ss, A, c, h1, h2, h3, fun q => h4 (k q)⟩

set_option maxRecDepth 100000 in
set_option maxHeartbeats 4000000 in
theorem next_calls (w0 : World) (g : Nat) (v : Value) (s : ByteArray) (mx : Int) (x : St) (tv : Value) (l : List Int) (w : World) (hs : s.size ≤ 140737488351232) (hp0 : 0 ≤ x.p) (hp : x.p ≤ 4611686018427387904) (h : ISt w0 g v s mx x w) (ht : Tv w g v tv l (x.e = 0)) (he : x.e = 0 → errOf l = 0) :
    Calls Try.prog 111 #[.pointer (some ⟨g, 0, none⟩), tv] w (Post w0 g v s mx w (.int .i64 (next l s x).1) (next l s x).2) := by
  have HH := Aside0.mk h
  obtain ⟨cs, ss, A, cc, rfl, hcl, hft, hcs⟩ := ht
  have HFT := Aside0.mk hft
  clear h hft
  have hu26 := Try.underlying26
  unfold next tak
  by_cases c : x.e = 0
  · rw [if_pos c]
    obtain ⟨rfl, rfl⟩ := hcs c
    have hd : (x.e != 0) = false := by rw [c]; rfl
    obtain ⟨hK, _⟩ := next_some l (he c) s hs x.p hp0 hp
    generalize nextL l s x.p = r at hK ⊢
    obtain ⟨r1, r2, r3⟩ := r
    dsimp only at hK ⊢
    have HK := Aside0.mk hK
    clear hK he hcs
    by_cases c3 : r3 = 0
    · rw [if_pos c3]
      have hd3 : (r3 != 0) = false := by rw [c3]; rfl
      have HW : ISt w0 g v s mx x (w.alloc (.cells (tab (newCs l) (.slice A (newSs l).length cc)) 26)) := HH.out.below (below_alloc (Below.refl _ _) _)
      have hc4 := HW.c4
      have hblk := heap_alloc_new w (.cells (tab (newCs l) (.slice A (newSs l).length cc)) 26)
      have HFW : Fro w g v (w.alloc (.cells (tab (newCs l) (.slice A (newSs l).length cc)) 26)) v := (Fro.refl _ _ _).below (below_alloc (Below.refl _ _) _)
      go_enter Try.func111, Try.ntmps111
      go_upto_region 3 with fail
      generalize w.alloc (.cells (tab (newCs l) (.slice A (newSs l).length cc)) 26) = W at HW hc4 hblk HFW ⊢
      generalize w.heap.size = b at hblk ⊢
      refine wp_region_quiet (C := fun w' => ISt w0 g v s mx x w' ∧ w'.heap[b]? = some (.cells (tab (newCs l) (.slice A (newSs l).length cc)) 26 (0, 0)) ∧ Fro w g v w' v) (by kernel_rfl) (by kernel_rfl) ⟨HW.drew, hblk, HFW.drew⟩ ?_
      refine quiet_row rfl 26 (.tmp 3) rfl b rfl 26 _ (0, 0) _ (fun w' hw' => hw'.2.1) hu26 rfl (by rw [tab_size, newCs_length]; exact info26) ?_
      repeat (refine quiet_ex rfl ?_; apply Exists.intro; refine ⟨fun w' hw' => ?_, ?_⟩; focus (have h0 := hw'.1.c0; have h1 := hw'.1.c1; unfold Oper.quietAt; go_simp; (first | done | rfl)))
      refine quiet_ex rfl ?_
      apply Exists.intro
      refine ⟨fun w' hw' => ?_, ?_⟩
      focus
        unfold Oper.quietAt
        go_simp
        refine (Ext.next_calls A cc (newCs l) (newSs l) s x.p w' (HFT.out.fro hw'.2.2).now (newCs_length l) r1 r2 r3 HK.out).mono ?_
        rintro e w2 ⟨rfl, hb⟩
        exact ⟨rfl, hw'.1.below hb, (hb.block b (blk_lt hw'.2.1)).trans hw'.2.1, hw'.2.2.below hb⟩
      repeat (refine quiet_ex rfl ?_; apply Exists.intro; refine ⟨fun w' hw' => ?_, ?_⟩; focus (unfold Oper.quietAt; go_simp; (first | done | rfl)))
      refine wpQuiet_nil ?_
      intro w' hw'
      have HI : Aside0 (ISt w0 g v s mx x w') := ⟨hw'.1⟩
      have HF : Aside0 (Fro w g v w' v) := ⟨hw'.2.2⟩
      clear hw' hc4 hblk HW HFW
      have hc1' := HI.out.c1
      have hf1' := HI.out.f 1
      go_wp2
      exact bodyPost_ret (v := .int .i64 r1) (by simp [results, Try.results111, go_sem]) rfl ⟨v, rfl, (by first | exact HI.out.setp r2 | (have h := HI.out.setp r2; rw [c] at h; exact h)), HF.out.set 1 _⟩
    · rw [if_neg c3]
      have hd3 : (r3 != 0) = true := by simpa using c3
      have hfe : fail x r3 = ⟨x.p, x.o, r3⟩ := by unfold fail; rw [if_pos c]
      have HW : ISt w0 g v s mx x (w.alloc (.cells (tab (newCs l) (.slice A (newSs l).length cc)) 26)) := HH.out.below (below_alloc (Below.refl _ _) _)
      have hc4 := HW.c4
      have hblk := heap_alloc_new w (.cells (tab (newCs l) (.slice A (newSs l).length cc)) 26)
      have HFW : Fro w g v (w.alloc (.cells (tab (newCs l) (.slice A (newSs l).length cc)) 26)) v := (Fro.refl _ _ _).below (below_alloc (Below.refl _ _) _)
      go_enter Try.func111, Try.ntmps111
      go_upto_region 3 with fail
      generalize w.alloc (.cells (tab (newCs l) (.slice A (newSs l).length cc)) 26) = W at HW hc4 hblk HFW ⊢
      generalize w.heap.size = b at hblk ⊢
      refine wp_region_quiet (C := fun w' => ISt w0 g v s mx x w' ∧ w'.heap[b]? = some (.cells (tab (newCs l) (.slice A (newSs l).length cc)) 26 (0, 0)) ∧ Fro w g v w' v) (by kernel_rfl) (by kernel_rfl) ⟨HW.drew, hblk, HFW.drew⟩ ?_
      refine quiet_row rfl 26 (.tmp 3) rfl b rfl 26 _ (0, 0) _ (fun w' hw' => hw'.2.1) hu26 rfl (by rw [tab_size, newCs_length]; exact info26) ?_
      repeat (refine quiet_ex rfl ?_; apply Exists.intro; refine ⟨fun w' hw' => ?_, ?_⟩; focus (have h0 := hw'.1.c0; have h1 := hw'.1.c1; unfold Oper.quietAt; go_simp; (first | done | rfl)))
      refine quiet_ex rfl ?_
      apply Exists.intro
      refine ⟨fun w' hw' => ?_, ?_⟩
      focus
        unfold Oper.quietAt
        go_simp
        refine (Ext.next_calls A cc (newCs l) (newSs l) s x.p w' (HFT.out.fro hw'.2.2).now (newCs_length l) r1 r2 r3 HK.out).mono ?_
        rintro e w2 ⟨rfl, hb⟩
        exact ⟨rfl, hw'.1.below hb, (hb.block b (blk_lt hw'.2.1)).trans hw'.2.1, hw'.2.2.below hb⟩
      repeat (refine quiet_ex rfl ?_; apply Exists.intro; refine ⟨fun w' hw' => ?_, ?_⟩; focus (unfold Oper.quietAt; go_simp; (first | done | rfl)))
      refine wpQuiet_nil ?_
      intro w' hw'
      have HI : Aside0 (ISt w0 g v s mx x w') := ⟨hw'.1⟩
      have HF : Aside0 (Fro w g v w' v) := ⟨hw'.2.2⟩
      clear hw' hc4 hblk HW HFW
      go_wp2_with (go_at_call 100; (with_reducible refine (fail_calls w0 g v s mx x r3 _ HI.out).mono ?_); rintro e w2 ⟨v1, rfl, hi, hf⟩; rw [hfe] at hi; have HI2 := Aside0.mk hi; have HF2 := Aside0.mk (HF.out.trans hf); clear hi hf)
      exact bodyPost_ret (v := .int .i64 0) (by simp [results, Try.results111, go_sem]) rfl ⟨v1, rfl, HI2.out, HF2.out⟩
  · rw [if_neg c]
    have hd : (x.e != 0) = true := by simpa using c
    have HW : ISt w0 g v s mx x (w.alloc (.cells (tab cs (.slice A ss.length cc)) 26)) := HH.out.below (below_alloc (Below.refl _ _) _)
    have hc4 := HW.c4
    go_enter Try.func111, Try.ntmps111
    go_wp2
    exact bodyPost_ret (v := .int .i64 0) (by simp [results, Try.results111, go_sem]) rfl ⟨v, rfl, HW, (Fro.refl _ _ _).below (below_alloc (Below.refl _ _) _)⟩
end Go.Proofs.Ytpbhkdamkbopkaa.Inf
