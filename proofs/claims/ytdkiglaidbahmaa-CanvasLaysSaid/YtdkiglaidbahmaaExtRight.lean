/- The walk of canvas.Right: a canvas of faint colours; with slices.ContainsFunc and slices.IndexFunc at its test. -/
import Derived.Test.YtdkiglaidbahmaaExtClone
import Derived.BigQuiet
namespace Go.Proofs.Ytdkiglaidbahmaa.Ext
set_option linter.unusedSimpArgs false
set_option linter.unusedVariables false
open Go.RowKit Go.Proofs.Ytdkiglaidbahmaa.PCanvasLays Go.Proofs.YtdkiglaidbahmaaW.PrintWords Go.Proofs.YtdkiglaidbahmaaW.PrintLast Go.Proofs.YtdkiglaidbahmaaW.PrintMore

/-- Are all colours faint? -/
def allF (k : Nat) : List S23 → Option Bool
  | [] => some true
  | x :: t => (canvas_faint.f k x.f0 x.f1 x.f2 x.f3).bind fun b => if b = true then allF k t else some false
theorem allF_mono (l : List S23) (k : Nat) : LeO (allF k l) (allF (k + 1) l) := by
  induction l with
  | nil => exact LeO.refl _
  | cons x t ih => exact LeO.bind (canvas_faint.mono _ _ _ _ k) (fun b => LeO.ite ih (LeO.refl _))
theorem drop_rd (l : List S23) (j : Nat) (h : j < l.length) : l.drop j = rd_T23 l j :: l.drop (j + 1) := by
  rw [List.drop_eq_getElem_cons h]
  unfold rd_T23
  rw [Int.toNat_natCast, List.getD_eq_getElem?_getD, List.getElem?_eq_getElem h]
  rfl

theorem not26 (k : Nat) (x0 x1 x2 x3 : Int) (b : Bool) (w : World) (h : canvas_faint.f k x0 x1 x2 x3 = some b) :
    Calls Try.prog 26 #[.agg #[.int .i64 x0, .int .i64 x1, .int .i64 x2, .int .i64 x3]] w fun e w' => e = .returned (.bool (!b)) ∧ Below w.heap.size w w' := by
  have H := Aside0.mk h
  clear h
  go_enter Try.func26, Try.ntmps26
  go_wp2_with (first
    | ((with_reducible refine gate_dst (N := 1) rfl ?_); refine box_event ?hg (N := 1) ?hd (cs := #[.int .i64 x0, .int .i64 x1, .int .i64 x2, .int .i64 x3]) (t := 23) ?hr ?_; (case hd => rfl); (case hg => rfl); (case hr => first | (go_simp; done) | (go_simp; rfl)); intro g1 hg w1 hx hb; have B1 := Aside0.mk hx; have L1 := Aside0.mk hb; clear hx hb hg; have hc0 : w1.cell? ⟨g1, 0, none⟩ = some (.int .i64 x0) := (blk_cell B1.out 0).trans rfl; have hc1 : w1.cell? ⟨g1, 1, none⟩ = some (.int .i64 x1) := (blk_cell B1.out 1).trans rfl; have hc2 : w1.cell? ⟨g1, 2, none⟩ = some (.int .i64 x2) := (blk_cell B1.out 2).trans rfl; have hc3 : w1.cell? ⟨g1, 3, none⟩ = some (.int .i64 x3) := (blk_cell B1.out 3).trans rfl)
    | (go_at_call 22; refine (canvas_faint.calls k x0 x1 x2 x3 b _ H.out).mono ?_; rintro e w2 ⟨rfl, hb⟩; have L2 := Aside0.mk (below_step L1.out hb); clear hb))
  go_ret
  exact ⟨rfl, L2.out⟩

set_option maxHeartbeats 4000000 in
theorem index_any (k : Nat) (A : Option Addr) (c : Nat) (l : List S23) (r : Bool) (w : World) (hr : Kd.C k23 w A l.length l) (h : allF k l = some r) :
    Calls Try.prog 33 #[.slice A l.length c, .func (.func 26) #[] #[]] w fun e w' => ∃ i : Int, e = .returned (.int .i64 i) ∧ decide (0 ≤ i) = !r ∧ Below w.heap.size w w' := by
  have HR := Aside0.mk hr
  have HH : Aside0 (allF k (l.drop 0) = some r) := ⟨h⟩
  have hm := Kd.C_max hr
  clear hr h
  go_enter Try.func33, Try.ntmps33
  go_wp2
  go_loopw [4, 8] (fun v4 v8 w' => ∃ j : Nat, j ≤ l.length ∧ v4 = .int .i64 0 ∧ v8 = .int .i64 j ∧ Aside0 (allF k (l.drop j) = some r) ∧ Aside0 (Below w.heap.size w w')) (fun _ v8 _ => l.length - (intOf v8).toNat)
  case atStart => exact ⟨0, Nat.zero_le _, rfl, rfl, HH, ⟨Below.refl _ _⟩⟩
  case round =>
    clear HH
    obtain ⟨j, hj, rfl, rfl, HJ, HB⟩ := hrel
    by_cases hlt : j < l.length
    · have hj0 := HJ.out
      rw [drop_rd l j hlt] at hj0
      simp only [allF] at hj0
      obtain ⟨b, hb, hrest⟩ := Option.bind_eq_some_iff.mp hj0
      have HF := Aside0.mk hb
      have HQ := Aside0.mk hrest
      clear hb hrest hj0 HJ
      obtain ⟨ad, ead, hx0, hx1, hx2, hx3⟩ := at_T23 HR.out j (by omega) (by omega)
      cases ead
      rw [Int.toNat_natCast] at hx0 hx1 hx2 hx3
      replace hx0 := (HB.out.cell (World.block_lt_of_cell? w _ hx0)).trans hx0
      replace hx1 := (HB.out.cell (World.block_lt_of_cell? w _ hx1)).trans hx1
      replace hx2 := (HB.out.cell (World.block_lt_of_cell? w _ hx2)).trans hx2
      replace hx3 := (HB.out.cell (World.block_lt_of_cell? w _ hx3)).trans hx3
      cases b with
      | true =>
        go_wp2_with (go_at_call 26; refine (not26 k _ _ _ _ true _ HF.out).mono ?_; rintro e w2 ⟨rfl, hb⟩; have L2 := Aside0.mk (below_step HB.out hb); clear hb)
        go_roundw
        case rel => exact ⟨j + 1, by omega, rfl, by go_num, ⟨by have := HQ.out; simpa using this⟩, L2⟩
        case measure => simp [intOf]; omega
      | false =>
        have hrf : r = false := by have := HQ.out; simpa using this.symm
        subst hrf
        go_wp2_with (go_at_call 26; refine (not26 k _ _ _ _ false _ HF.out).mono ?_; rintro e w2 ⟨rfl, hb⟩; have L2 := Aside0.mk (below_step HB.out hb); clear hb)
        go_ret
        exact ⟨_, rfl, by simp, L2.out⟩
    · have hrt : r = true := by
        have := HJ.out
        rw [List.drop_eq_nil_of_le (by omega)] at this
        simpa [allF] using this.symm
      subst hrt
      go_wp2
      go_ret
      exact ⟨_, rfl, rfl, HB.out⟩

theorem contains_any (k : Nat) (A : Option Addr) (c : Nat) (l : List S23) (r : Bool) (w : World) (hr : Kd.C k23 w A l.length l) (h : allF k l = some r) :
    Calls Try.prog 25 #[.slice A l.length c, .func (.func 26) #[] #[]] w fun e w' => e = .returned (.bool (!r)) ∧ Below w.heap.size w w' := by
  have HR := Aside0.mk hr
  have HH := Aside0.mk h
  clear hr h
  go_enter Try.func25, Try.ntmps25
  go_wp2_with (go_at_call 33; refine (index_any k A c l r _ HR.out HH.out).mono ?_; rintro e w' ⟨i, rfl, hi, hb⟩; have HB := Aside0.mk hb; have HI := Aside0.mk hi; clear hb hi)
  go_ret
  exact ⟨by rw [← HI.out]; rfl, HB.out⟩

/-- Right, as the print would tell it. -/
def canvas_Right.f (k : Nat) (a0_0 : Int) (a0_1 : Int) (l0_2 : List S23) : Option Bool :=
  if 1 ≤ mn a0_0 a0_1 then (if mx a0_0 a0_1 ≤ 256 then (if (l0_2.length : Int) = wrap64 (a0_0 * a0_1) then allF k l0_2 else some false) else some false) else some false
theorem canvas_Right.mono : ∀ a0 a1 a2 k, LeO (canvas_Right.f k a0 a1 a2) (canvas_Right.f (k + 1) a0 a1 a2) := by
  intro a0 a1 a2 k
  unfold canvas_Right.f
  exact LeO.ite (LeO.ite (LeO.ite (allF_mono _ _) (LeO.refl _)) (LeO.refl _)) (LeO.refl _)
set_option maxHeartbeats 4000000 in
theorem right_all (k : Nat) (a0_0 : Int) (a0_1 : Int) (A0_2 : Option Addr) (c0_2 : Nat) (l0_2 : List S23) (r : Bool) (j1 j2 : Int) (hj1 : (if a0_1 < a0_0 then a0_1 else a0_0) = j1) (hj2 : (if a0_0 < a0_1 then a0_1 else a0_0) = j2) (w : World) (hr0_2 : Kd.C k23 w A0_2 l0_2.length l0_2)
    (h1 : 1 ≤ j1) (h2 : j2 ≤ 256) (h3 : ((l0_2.length : Int) == wrap64 (a0_0 * a0_1)) = true) (h : allF k l0_2 = some r) :
    Calls Try.prog 12 #[.agg #[.int .i64 a0_0, .int .i64 a0_1, .slice A0_2 l0_2.length c0_2]] w fun e w' => e = .returned (.bool r) ∧ Below w.heap.size w w' := by
  have HR := Aside0.mk hr0_2
  have HF := Aside0.mk h
  have d1 : decide (1 ≤ j1) = true := decide_eq_true h1
  have d2 : decide (j2 ≤ 256) = true := decide_eq_true h2
  clear hr0_2 h h1 h2
  go_enter Try.func12, Try.ntmps12
  go_wp2_with (first
    | ((with_reducible refine gate_dst (N := 1) rfl ?_); refine box_event ?hg (N := 1) ?hd (cs := #[.int .i64 a0_0, .int .i64 a0_1, .slice A0_2 l0_2.length c0_2]) (t := 26) ?hr ?_; (case hd => rfl); (case hg => rfl); (case hr => first | (go_simp; done) | (go_simp; rfl)); intro g1 hg w1 hx hb; have B1 := Aside0.mk hx; have L1 := Aside0.mk hb; clear hx hb hg; have hc0 : w1.cell? ⟨g1, 0, none⟩ = some (.int .i64 a0_0) := (blk_cell B1.out 0).trans rfl; have hc1 : w1.cell? ⟨g1, 1, none⟩ = some (.int .i64 a0_1) := (blk_cell B1.out 1).trans rfl; have hc2 : w1.cell? ⟨g1, 2, none⟩ = some (.slice A0_2 l0_2.length c0_2) := (blk_cell B1.out 2).trans rfl)
    | (go_at_call 25; refine (contains_any k A0_2 c0_2 l0_2 r _ (Kd.C_below HR.out L1.out) HF.out).mono ?_; rintro e w2 ⟨rfl, hb⟩; have L2 := Aside0.mk (below_step L1.out hb); clear hb))
  go_ret
  exact ⟨by simp, L2.out⟩
set_option maxHeartbeats 4000000 in
theorem right_no (a0_0 : Int) (a0_1 : Int) (A0_2 : Option Addr) (c0_2 : Nat) (l0_2 : List S23) (j1 j2 : Int) (hj1 : (if a0_1 < a0_0 then a0_1 else a0_0) = j1) (hj2 : (if a0_0 < a0_1 then a0_1 else a0_0) = j2) (w : World)
    (b1 b2 b3 : Bool) (h1 : decide (1 ≤ j1) = b1) (h2 : decide (j2 ≤ 256) = b2) (h3 : ((l0_2.length : Int) == wrap64 (a0_0 * a0_1)) = b3) (h : b1 = false ∨ b1 = true ∧ b2 = false ∨ b1 = true ∧ b2 = true ∧ b3 = false) :
    Calls Try.prog 12 #[.agg #[.int .i64 a0_0, .int .i64 a0_1, .slice A0_2 l0_2.length c0_2]] w fun e w' => e = .returned (.bool false) ∧ Below w.heap.size w w' := by
  rcases h with rfl | ⟨rfl, rfl⟩ | ⟨rfl, rfl, rfl⟩
  all_goals
    go_enter Try.func12, Try.ntmps12
    go_wp2_with (first
      | ((with_reducible refine gate_dst (N := 1) rfl ?_); refine box_event ?hg (N := 1) ?hd (cs := #[.int .i64 a0_0, .int .i64 a0_1, .slice A0_2 l0_2.length c0_2]) (t := 26) ?hr ?_; (case hd => rfl); (case hg => rfl); (case hr => first | (go_simp; done) | (go_simp; rfl)); intro g1 hg w1 hx hb; have B1 := Aside0.mk hx; have L1 := Aside0.mk hb; clear hx hb hg; have hc0 : w1.cell? ⟨g1, 0, none⟩ = some (.int .i64 a0_0) := (blk_cell B1.out 0).trans rfl; have hc1 : w1.cell? ⟨g1, 1, none⟩ = some (.int .i64 a0_1) := (blk_cell B1.out 1).trans rfl; have hc2 : w1.cell? ⟨g1, 2, none⟩ = some (.slice A0_2 l0_2.length c0_2) := (blk_cell B1.out 2).trans rfl))
    go_ret
    exact ⟨by simp, L1.out⟩
theorem canvas_Right.calls (k : Nat) (a0_0 : Int) (a0_1 : Int) (A0_2 : Option Addr) (c0_2 : Nat) (l0_2 : List S23) (r : Bool) (w : World) (hr0_2 : Kd.C k23 w A0_2 l0_2.length l0_2) (hc0_2 : l0_2.length ≤ c0_2) (h : canvas_Right.f k a0_0 a0_1 l0_2 = some r) :
    Calls Try.prog 12 #[.agg #[.int .i64 a0_0, .int .i64 a0_1, .slice A0_2 l0_2.length c0_2]] w fun e w' => e = .returned (.bool r) ∧ Below w.heap.size w w' := by
  unfold canvas_Right.f at h
  by_cases c1 : 1 ≤ mn a0_0 a0_1
  · rw [if_pos c1] at h
    by_cases c2 : mx a0_0 a0_1 ≤ 256
    · rw [if_pos c2] at h
      by_cases c3 : (l0_2.length : Int) = wrap64 (a0_0 * a0_1)
      · rw [if_pos c3] at h
        exact right_all k a0_0 a0_1 A0_2 c0_2 l0_2 r _ _ rfl rfl w hr0_2 c1 c2 (beq_iff_eq.2 c3) h
      · rw [if_neg c3] at h
        obtain rfl := Option.some.inj h
        exact right_no a0_0 a0_1 A0_2 c0_2 l0_2 _ _ rfl rfl w true true false (decide_eq_true c1) (decide_eq_true c2) (beq_eq_false_iff_ne.2 c3) (.inr (.inr ⟨rfl, rfl, rfl⟩))
    · rw [if_neg c2] at h
      obtain rfl := Option.some.inj h
      exact right_no a0_0 a0_1 A0_2 c0_2 l0_2 _ _ rfl rfl w true false _ (decide_eq_true c1) (decide_eq_false c2) rfl (.inr (.inl ⟨rfl, rfl⟩))
  · rw [if_neg c1] at h
    obtain rfl := Option.some.inj h
    exact right_no a0_0 a0_1 A0_2 c0_2 l0_2 _ _ rfl rfl w false _ _ (decide_eq_false c1) rfl rfl (.inl rfl)
end Go.Proofs.Ytdkiglaidbahmaa.Ext
