/- The walk of canvas.Over: a pixel with parts laid over it. -/
import Derived.Test.YtdkiglaidbahmaaExtL
import Derived.Deep.RegionHeld3
import Derived.Deep.DeepCutAuto
import Derived.Deep.QuietTactic
import Derived.BigQuiet
import Derived.StillTailTactics
namespace Go.Proofs.Ytdkiglaidbahmaa.Ext
set_option linter.unusedSimpArgs false
set_option linter.unusedVariables false
open Go.RowKit Go.Proofs.Ytdkiglaidbahmaa.PCanvasLays Go.Proofs.YtdkiglaidbahmaaW.PrintWords Go.Proofs.YtdkiglaidbahmaaW.PrintLast Go.Proofs.YtdkiglaidbahmaaW.PrintMore

def sh (n : Int) : Int := wrap64 (Int.tdiv (wrap64 (n + 8)) 16)
def ovw (m a n u : Int) : Int := wrap64 (sh (wrap64 (sh n * m)) + wrap64 (Int.tdiv (wrap64 (wrap64 (u * wrap64 (255 - a)) + 127)) 255))
theorem sh_f (n : Int) : canvas_share.f n = some (sh n) := rfl

theorem share_same (n : Int) (w : World) : Calls Try.prog 27 #[.int .i64 n] w fun e w' => e = .returned (.int .i64 (sh n)) ∧ w' = w := by
  go_enter Try.func27, Try.ntmps27
  go_wp2
  go_ret
  exact ⟨rfl, rfl⟩
set_option maxHeartbeats 8000000 in
theorem over1_calls (n u m a : Int) (g5 g11 : Nat) (w : World) (h5 : w.cell? ⟨g5, 0, none⟩ = some (.int .i64 m)) (h11 : w.cell? ⟨g11, 0, none⟩ = some (.int .i64 a)) :
    Calls Try.prog 28 #[.int .i64 n, .int .i64 u, .pointer (some ⟨g5, 0, none⟩), .pointer (some ⟨g11, 0, none⟩)] w fun e w' => e = .returned (.int .i64 (ovw m a n u)) ∧ Drawn0 w w' := by
  go_enter Try.func28, Try.ntmps28
  go_wp2
  go_quiet ((go_at_call 27; exact Calls.quiet_of ((canvas_share.calls _ _ _ (sh_f _)).mono fun e w' h => ⟨h.1, by obtain ⟨n, rfl⟩ := h.2; exact ⟨n, rfl⟩⟩)))
  go_wp2
  go_ret
  exact ⟨rfl, ⟨_, rfl⟩⟩

/-- A sum of parts, as it is counted. -/
def sumW (f : S50 → Int) (l : List S50) : Nat → Int
  | 0 => 0
  | k + 1 => wrap64 (sumW f l k + wrap64 (f (rd_T50 l k) * (rd_T50 l k).f1))
/-- A part of what Over answers. -/
def ovR (f : S50 → Int) (l : List S50) (m u : Int) : Int := ovw m (sh (wrap64 (sh (sumW (fun x => x.f0.f3) l l.length) * m))) (sumW f l l.length) u
/-- What stands in memory while Over runs: the pixel, the mask, the answer. -/
structure O1 (w0 : World) (g3 g5 g6 : Nat) (p0 p1 p2 p3 m : Int) (w' : World) : Prop where
  b3 : w'.heap[g3]? = some (.cells #[.int .i64 p0, .int .i64 p1, .int .i64 p2, .int .i64 p3] 23 (0, 0))
  b5 : w'.heap[g5]? = some (.cells #[.int .i64 m] 3 (0, 0))
  b6 : w'.heap[g6]? = some (.cells #[.int .i64 0, .int .i64 0, .int .i64 0, .int .i64 0] 23 (0, 0))
  h3 : w0.heap.size ≤ g3
  h5 : w0.heap.size ≤ g5
  h6 : w0.heap.size ≤ g6
  n3 : g3 ≠ g6
  n5 : g5 ≠ g6
  bl : Below w0.heap.size w0 w'
theorem O1.below {w0 : World} {g3 g5 g6 : Nat} {p0 p1 p2 p3 m : Int} {w1 w2 : World} (h : O1 w0 g3 g5 g6 p0 p1 p2 p3 m w1) (hb : Below w1.heap.size w1 w2) : O1 w0 g3 g5 g6 p0 p1 p2 p3 m w2 :=
  ⟨blk_below h.b3 hb, blk_below h.b5 hb, blk_below h.b6 hb, h.h3, h.h5, h.h6, h.n3, h.n5, below_step h.bl hb⟩

theorem info50s : (Try.prog.info? 50).map (·.size) = some 5 := by kernel_rfl
/-- The sums beside it. -/
structure O2 (w0 : World) (g3 g5 g6 g8 : Nat) (p0 p1 p2 p3 m : Int) (s0 s1 s2 s3 : Int) (w' : World) : Prop where
  o : O1 w0 g3 g5 g6 p0 p1 p2 p3 m w'
  b8 : w'.heap[g8]? = some (.cells #[.int .i64 s0, .int .i64 s1, .int .i64 s2, .int .i64 s3] 23 (0, 0))
  h8 : w0.heap.size ≤ g8
  n3 : g3 ≠ g8
  n5 : g5 ≠ g8
  n6 : g6 ≠ g8
theorem O2.below {w0 : World} {g3 g5 g6 g8 : Nat} {p0 p1 p2 p3 m s0 s1 s2 s3 : Int} {w1 w2 : World} (h : O2 w0 g3 g5 g6 g8 p0 p1 p2 p3 m s0 s1 s2 s3 w1) (hb : Below w1.heap.size w1 w2) : O2 w0 g3 g5 g6 g8 p0 p1 p2 p3 m s0 s1 s2 s3 w2 :=
  ⟨h.o.below hb, blk_below h.b8 hb, h.h8, h.n3, h.n5, h.n6⟩
theorem O2.put {w0 : World} {g3 g5 g6 g8 : Nat} {p0 p1 p2 p3 m s0 s1 s2 s3 : Int} {w1 : World} (h : O2 w0 g3 g5 g6 g8 p0 p1 p2 p3 m s0 s1 s2 s3 w1) (x0 x1 x2 x3 : Int) :
    O2 w0 g3 g5 g6 g8 p0 p1 p2 p3 m x0 x1 x2 x3 ((((w1.setCell ⟨g8, 0, none⟩ (.int .i64 x0)).setCell ⟨g8, 1, none⟩ (.int .i64 x1)).setCell ⟨g8, 2, none⟩ (.int .i64 x2)).setCell ⟨g8, 3, none⟩ (.int .i64 x3)) :=
  ⟨⟨blk_far (blk_far (blk_far (blk_far h.o.b3 h.n3 _) h.n3 _) h.n3 _) h.n3 _, blk_far (blk_far (blk_far (blk_far h.o.b5 h.n5 _) h.n5 _) h.n5 _) h.n5 _, blk_far (blk_far (blk_far (blk_far h.o.b6 h.n6 _) h.n6 _) h.n6 _) h.n6 _, h.o.h3, h.o.h5, h.o.h6, h.o.n3, h.o.n5,
    below_set (below_set (below_set (below_set h.o.bl h.h8) h.h8) h.h8) h.h8⟩,
   blk_put (blk_put (blk_put (blk_put h.b8 0 _ rfl) 1 _ rfl) 2 _ rfl) 3 _ rfl, h.h8, h.n3, h.n5, h.n6⟩

set_option maxRecDepth 100000 in
set_option maxHeartbeats 8000000 in
theorem over_calls (k : Nat) (p0 p1 p2 p3 : Int) (A : Option Addr) (c : Nat) (l : List S50) (m : Int) (w : World) (hr : Kd.C k50 w A l.length l) (hc : l.length ≤ c)
    (hf : canvas_faint.f k p0 p1 p2 p3 = some true) (hp : canvas_RightParts.f k l = some true) (h0 : 0 ≤ m) (h1 : m ≤ 16) :
    Calls Try.prog 14 #[.agg #[.int .i64 p0, .int .i64 p1, .int .i64 p2, .int .i64 p3], .slice A l.length c, .int .i64 m] w fun e w' => e = .returned (.tuple #[.agg #[.int .i64 (ovR (fun x => x.f0.f0) l m p0), .int .i64 (ovR (fun x => x.f0.f1) l m p1), .int .i64 (ovR (fun x => x.f0.f2) l m p2), .int .i64 (ovR (fun x => x.f0.f3) l m p3)], .int .i64 0]) ∧ Below w.heap.size w w' := by
  have HR := Aside0.mk hr
  have HF := Aside0.mk hf
  have HP := Aside0.mk hp
  have hmax := Kd.C_max hr
  have c0 : decide (m < 0) = false := decide_eq_false (by omega)
  have c1 : decide (16 < m) = false := decide_eq_false (by omega)
  clear hr hf hp h0 h1
  go_enter Try.func14, Try.ntmps14
  go_upto_region 4 with (first
    | ((with_reducible refine gate_dst (N := 3) rfl ?_); refine box_event ?hg (N := 3) ?hd (cs := #[.int .i64 p0, .int .i64 p1, .int .i64 p2, .int .i64 p3]) (t := 23) ?hr ?_; (case hd => rfl); (case hg => rfl); (case hr => first | (go_simp; done) | (go_simp; rfl)); intro g3 hg w3 hx hb; have B3 := Aside0.mk hx; have L3 := Aside0.mk hb; have G3 := Aside0.mk hg; clear hx hb hg)
    | ((with_reducible refine gate_dst (N := 5) rfl ?_); refine box_event ?hg (N := 5) ?hd (cs := #[.int .i64 m]) (t := 3) ?hr ?_; (case hd => rfl); (case hg => rfl); (case hr => first | (go_simp; done) | (go_simp; rfl)); intro g5 hg w5 hx hb; have B5 := Aside0.mk hx; have L5 := Aside0.mk hb; have G5 := Aside0.mk hg; clear hx hb hg)
    | ((with_reducible refine gate_dst (N := 6) rfl ?_); refine box_event ?hg (N := 6) ?hd (cs := #[.int .i64 0, .int .i64 0, .int .i64 0, .int .i64 0]) (t := 23) ?hr ?_; (case hd => rfl); (case hg => rfl); (case hr => first | (go_simp; done) | (go_simp; rfl)); intro g6 hg w6 hx hb; have HO := Aside0.mk (O1.mk (blk_below (blk_below B3.out L5.out) hb) (blk_below B5.out hb) hx (Nat.le_of_eq G3.out.symm) (by rw [G5.out]; exact below_size L3.out) (by rw [hg]; exact Nat.le_trans (below_size L3.out) (below_size L5.out)) (by rw [hg]; exact Nat.ne_of_lt (blk_lt (blk_below B3.out L5.out))) (by rw [hg]; exact Nat.ne_of_lt (blk_lt B5.out)) (below_step (below_step L3.out L5.out) hb)); clear hx hb hg B3 L3 G3 B5 L5 G5; have hp0 : w6.cell? ⟨g3, 0, none⟩ = some (.int .i64 p0) := (blk_cell HO.out.b3 0).trans rfl; have hp1 : w6.cell? ⟨g3, 1, none⟩ = some (.int .i64 p1) := (blk_cell HO.out.b3 1).trans rfl; have hp2 : w6.cell? ⟨g3, 2, none⟩ = some (.int .i64 p2) := (blk_cell HO.out.b3 2).trans rfl; have hp3 : w6.cell? ⟨g3, 3, none⟩ = some (.int .i64 p3) := (blk_cell HO.out.b3 3).trans rfl)
    | (go_at_call 22; refine (canvas_faint.calls k p0 p1 p2 p3 true _ HF.out).mono ?_; rintro e w7 ⟨rfl, hb⟩; have n0_ := Aside0.mk (HO.out.below hb); clear HO; have HO := n0_; clear n0_ hb; have hm_w7 : w7.cell? ⟨g5, 0, none⟩ = some (.int .i64 m) := (blk_cell HO.out.b5 0).trans rfl)
    | (go_at_call 17; refine (canvas_RightParts.calls k A c l true _ (Kd.C_below HR.out HO.out.bl) hc HP.out).mono ?_; rintro e w7 ⟨rfl, hb⟩; have n0_ := Aside0.mk (HO.out.below hb); clear HO; have HO := n0_; clear n0_ hb; have hm_w7 : w7.cell? ⟨g5, 0, none⟩ = some (.int .i64 m) := (blk_cell HO.out.b5 0).trans rfl)
    | ((with_reducible refine gate_dst (N := 8) rfl ?_); refine box_event ?hg (N := 8) ?hd (cs := #[.int .i64 0, .int .i64 0, .int .i64 0, .int .i64 0]) (t := 23) ?hr ?_; (case hd => rfl); (case hg => rfl); (case hr => first | (go_simp; done) | (go_simp; rfl)); intro g8 hg w8 hx hb; have HQ := Aside0.mk (O2.mk (HO.out.below hb) hx (by rw [hg]; exact Nat.le_trans (Nat.le_trans HO.out.h3 (Nat.le_of_lt (blk_lt HO.out.b3))) (Nat.le_refl _)) (by rw [hg]; exact Nat.ne_of_lt (blk_lt HO.out.b3)) (by rw [hg]; exact Nat.ne_of_lt (blk_lt HO.out.b5)) (by rw [hg]; exact Nat.ne_of_lt (blk_lt HO.out.b6))); clear hx hb hg HO))
  go_wp2
  go_loopw [32] (fun v32 w' => ∃ k1 : Nat, k1 ≤ l.length ∧ v32 = .int .i64 k1 ∧ Aside0 (O2 w g3 g5 g6 g8 p0 p1 p2 p3 m (sumW (fun x => x.f0.f0) l k1) (sumW (fun x => x.f0.f1) l k1) (sumW (fun x => x.f0.f2) l k1) (sumW (fun x => x.f0.f3) l k1) w')) (fun v32 _ => l.length - (intOf v32).toNat)
  case atStart => exact ⟨0, Nat.zero_le _, rfl, HQ⟩
  case round =>
    clear HQ
    obtain ⟨k1, hk1, rfl, HQ⟩ := hrel
    by_cases hlt : k1 < l.length
    · have hdec : decide ((k1 : Int) < l.length) = true := decide_eq_true (by omega)
      obtain ⟨ad, ead, hx0, hx1, hx2, hx3, hx4⟩ := at_T50 HR.out k1 (by omega) (by omega)
      cases ead
      rw [Int.toNat_natCast] at hx0 hx1 hx2 hx3 hx4
      replace hx0 := (HQ.out.o.bl.cell (World.block_lt_of_cell? w _ hx0)).trans hx0
      replace hx1 := (HQ.out.o.bl.cell (World.block_lt_of_cell? w _ hx1)).trans hx1
      replace hx2 := (HQ.out.o.bl.cell (World.block_lt_of_cell? w _ hx2)).trans hx2
      replace hx3 := (HQ.out.o.bl.cell (World.block_lt_of_cell? w _ hx3)).trans hx3
      replace hx4 := (HQ.out.o.bl.cell (World.block_lt_of_cell? w _ hx4)).trans hx4
      go_upto_region 7 with (fail)
      have HQ2 := Aside0.mk (HQ.out.below (below_alloc (Below.refl _ _) (.cells #[.int .i64 ((rd_T50 l k1).f0.f0), .int .i64 ((rd_T50 l k1).f0.f1), .int .i64 ((rd_T50 l k1).f0.f2), .int .i64 ((rd_T50 l k1).f0.f3), .int .i64 ((rd_T50 l k1).f1)] 50)))
      have B10 := Aside0.mk (blk_new wr (.cells #[.int .i64 ((rd_T50 l k1).f0.f0), .int .i64 ((rd_T50 l k1).f0.f1), .int .i64 ((rd_T50 l k1).f0.f2), .int .i64 ((rd_T50 l k1).f0.f3), .int .i64 ((rd_T50 l k1).f1)] 50))
      have hn : g8 ≠ wr.heap.size := Nat.ne_of_lt (blk_lt HQ.out.b8)
      clear HQ
      obtain ⟨g10, hg10⟩ : ∃ g, g = wr.heap.size := ⟨_, rfl⟩
      rw [← hg10] at hn B10 ⊢
      clear hg10 hx0 hx1 hx2 hx3 hx4
      generalize wr.alloc (.cells #[.int .i64 ((rd_T50 l k1).f0.f0), .int .i64 ((rd_T50 l k1).f0.f1), .int .i64 ((rd_T50 l k1).f0.f2), .int .i64 ((rd_T50 l k1).f0.f3), .int .i64 ((rd_T50 l k1).f1)] 50) = w10 at HQ2 B10 ⊢
      have hq0 : w10.cell? ⟨g10, 0, none⟩ = some (.int .i64 ((rd_T50 l k1).f0.f0)) := (blk_cell B10.out 0).trans rfl
      have hq1 : w10.cell? ⟨g10, 1, none⟩ = some (.int .i64 ((rd_T50 l k1).f0.f1)) := (blk_cell B10.out 1).trans rfl
      have hq2 : w10.cell? ⟨g10, 2, none⟩ = some (.int .i64 ((rd_T50 l k1).f0.f2)) := (blk_cell B10.out 2).trans rfl
      have hq3 : w10.cell? ⟨g10, 3, none⟩ = some (.int .i64 ((rd_T50 l k1).f0.f3)) := (blk_cell B10.out 3).trans rfl
      have hq4 : w10.cell? ⟨g10, 4, none⟩ = some (.int .i64 ((rd_T50 l k1).f1)) := (blk_cell B10.out 4).trans rfl
      have hs0 : w10.cell? ⟨g8, 0, none⟩ = some (.int .i64 (sumW (fun x => x.f0.f0) l k1)) := (blk_cell HQ2.out.b8 0).trans rfl
      have hs1 : w10.cell? ⟨g8, 1, none⟩ = some (.int .i64 (sumW (fun x => x.f0.f1) l k1)) := (blk_cell HQ2.out.b8 1).trans rfl
      have hs2 : w10.cell? ⟨g8, 2, none⟩ = some (.int .i64 (sumW (fun x => x.f0.f2) l k1)) := (blk_cell HQ2.out.b8 2).trans rfl
      have hs3 : w10.cell? ⟨g8, 3, none⟩ = some (.int .i64 (sumW (fun x => x.f0.f3) l k1)) := (blk_cell HQ2.out.b8 3).trans rfl
      have hf0 := blk_frozen HQ2.out.b8 0
      have hf1 := blk_frozen HQ2.out.b8 1
      have hf2 := blk_frozen HQ2.out.b8 2
      have hf3 := blk_frozen HQ2.out.b8 3
      have hnn : ¬ g10 = g8 := fun e => hn e.symm
      go_wp2
      go_roundw
      case rel => exact ⟨k1 + 1, by omega, by go_num, ⟨HQ2.out.put _ _ _ _⟩⟩
      case measure => simp [intOf]; omega
    · have hdec : decide ((k1 : Int) < l.length) = false := decide_eq_false (by omega)
      obtain rfl : k1 = l.length := by omega
      go_upto_region 12 with (fail)
      have hs3 : wr.cell? ⟨g8, 3, none⟩ = some (.int .i64 (sumW (fun x => x.f0.f3) l l.length)) := (blk_cell HQ.out.b8 3).trans rfl
      have hm5 : wr.cell? ⟨g5, 0, none⟩ = some (.int .i64 m) := (blk_cell HQ.out.o.b5 0).trans rfl
      go_cut [11] (fun v11 wx => ∃ g11 : Nat, v11 = .pointer (some ⟨g11, 0, none⟩) ∧ Aside0 (g6 ≠ g11) ∧ Aside0 (O2 w g3 g5 g6 g8 p0 p1 p2 p3 m (sumW (fun x => x.f0.f0) l l.length) (sumW (fun x => x.f0.f1) l l.length) (sumW (fun x => x.f0.f2) l l.length) (sumW (fun x => x.f0.f3) l l.length) wx) ∧ Aside0 (wx.heap[g11]? = some (.cells #[.int .i64 (sh (wrap64 (sh (sumW (fun x => x.f0.f3) l l.length) * m)))] 3 (0, 0))))
      case first =>
        go_region_held3 (fun w' => w'.cell? ⟨g8, 3, none⟩ = some (.int .i64 (sumW (fun x => x.f0.f3) l l.length)) ∧ w'.cell? ⟨g5, 0, none⟩ = some (.int .i64 m)) (go_keep) ((go_at_call 27; refine (share_same _ _).mono ?_; rintro e w' ⟨rfl, rfl⟩))
        all_goals go_wp2_with fail
        all_goals go_meet
        all_goals exact ⟨_, rfl, ⟨Nat.ne_of_lt (blk_lt HQ.out.o.b6)⟩, ⟨HQ.out.below (below_drew1 (below_alloc (Below.refl _ _) _))⟩, ⟨(blk_drew (blk_new wr _)).trans (by simp only [i64_w])⟩⟩
      case rest =>
        clear HQ hs3 hm5
        obtain ⟨g11, rfl, HN, HQ, B11⟩ := hcut
        obtain ⟨a, ea⟩ : ∃ a, a = (sh (wrap64 (sh (sumW (fun x => x.f0.f3) l l.length) * m))) := ⟨_, rfl⟩
        rw [← ea] at B11
        have EA := Aside0.mk ea
        clear ea
        have hs0 : wc.cell? ⟨g8, 0, none⟩ = some (.int .i64 (sumW (fun x => x.f0.f0) l l.length)) := (blk_cell HQ.out.b8 0).trans rfl
        have hs1 : wc.cell? ⟨g8, 1, none⟩ = some (.int .i64 (sumW (fun x => x.f0.f1) l l.length)) := (blk_cell HQ.out.b8 1).trans rfl
        have hs2 : wc.cell? ⟨g8, 2, none⟩ = some (.int .i64 (sumW (fun x => x.f0.f2) l l.length)) := (blk_cell HQ.out.b8 2).trans rfl
        have hs3 : wc.cell? ⟨g8, 3, none⟩ = some (.int .i64 (sumW (fun x => x.f0.f3) l l.length)) := (blk_cell HQ.out.b8 3).trans rfl
        have hp0 : wc.cell? ⟨g3, 0, none⟩ = some (.int .i64 p0) := (blk_cell HQ.out.o.b3 0).trans rfl
        have hp1 : wc.cell? ⟨g3, 1, none⟩ = some (.int .i64 p1) := (blk_cell HQ.out.o.b3 1).trans rfl
        have hp2 : wc.cell? ⟨g3, 2, none⟩ = some (.int .i64 p2) := (blk_cell HQ.out.o.b3 2).trans rfl
        have hp3 : wc.cell? ⟨g3, 3, none⟩ = some (.int .i64 p3) := (blk_cell HQ.out.o.b3 3).trans rfl
        have hm5 : wc.cell? ⟨g5, 0, none⟩ = some (.int .i64 m) := (blk_cell HQ.out.o.b5 0).trans rfl
        have ha11 : wc.cell? ⟨g11, 0, none⟩ = some (.int .i64 a) := (blk_cell B11.out 0).trans rfl
        have ho0 : wc.cell? ⟨g6, 0, none⟩ = some (.int .i64 0) := (blk_cell HQ.out.o.b6 0).trans rfl
        have hf0 : wc.frozen? ⟨g6, 0, none⟩ = false := blk_frozen HQ.out.o.b6 0
        have ho1 : wc.cell? ⟨g6, 1, none⟩ = some (.int .i64 0) := (blk_cell HQ.out.o.b6 1).trans rfl
        have hf1 : wc.frozen? ⟨g6, 1, none⟩ = false := blk_frozen HQ.out.o.b6 1
        have ho2 : wc.cell? ⟨g6, 2, none⟩ = some (.int .i64 0) := (blk_cell HQ.out.o.b6 2).trans rfl
        have hf2 : wc.frozen? ⟨g6, 2, none⟩ = false := blk_frozen HQ.out.o.b6 2
        have ho3 : wc.cell? ⟨g6, 3, none⟩ = some (.int .i64 0) := (blk_cell HQ.out.o.b6 3).trans rfl
        have hf3 : wc.frozen? ⟨g6, 3, none⟩ = false := blk_frozen HQ.out.o.b6 3
        go_upto_region 14 with (fail)
        have x1 : ¬ g3 = g6 := HQ.out.o.n3
        have x2 : ¬ g6 = g3 := fun e => HQ.out.o.n3 e.symm
        have x3 : ¬ g5 = g6 := HQ.out.o.n5
        have x4 : ¬ g6 = g5 := fun e => HQ.out.o.n5 e.symm
        have x5 : ¬ g6 = g8 := HQ.out.n6
        have x6 : ¬ g8 = g6 := fun e => HQ.out.n6 e.symm
        have x7 : ¬ g6 = g11 := HN.out
        have x8 : ¬ g11 = g6 := fun e => HN.out e.symm
        go_cut [7] (fun v7 wx => v7 = .int .i64 0 ∧ Aside0 (wx.heap[g6]? = some (.cells #[.int .i64 (ovw m a (sumW (fun x => x.f0.f0) l l.length) p0), .int .i64 (ovw m a (sumW (fun x => x.f0.f1) l l.length) p1), .int .i64 (ovw m a (sumW (fun x => x.f0.f2) l l.length) p2), .int .i64 (ovw m a (sumW (fun x => x.f0.f3) l l.length) p3)] 23 (0, 0))) ∧ Aside0 (Below w.heap.size w wx))
        case first =>
          go_region_held3 (fun w' => w'.cell? ⟨g8, 0, none⟩ = some (.int .i64 (sumW (fun x => x.f0.f0) l l.length)) ∧ w'.cell? ⟨g8, 1, none⟩ = some (.int .i64 (sumW (fun x => x.f0.f1) l l.length)) ∧ w'.cell? ⟨g8, 2, none⟩ = some (.int .i64 (sumW (fun x => x.f0.f2) l l.length)) ∧ w'.cell? ⟨g8, 3, none⟩ = some (.int .i64 (sumW (fun x => x.f0.f3) l l.length)) ∧ w'.cell? ⟨g3, 0, none⟩ = some (.int .i64 p0) ∧ w'.cell? ⟨g3, 1, none⟩ = some (.int .i64 p1) ∧ w'.cell? ⟨g3, 2, none⟩ = some (.int .i64 p2) ∧ w'.cell? ⟨g3, 3, none⟩ = some (.int .i64 p3) ∧ w'.cell? ⟨g5, 0, none⟩ = some (.int .i64 m) ∧ w'.cell? ⟨g11, 0, none⟩ = some (.int .i64 a)) (go_keep) ((go_at_call 28; refine (over1_calls _ _ m a g5 g11 _ ?_ ?_).mono ?_; go_keep; go_keep; rintro e w' ⟨rfl, ⟨nd, rfl⟩⟩))
          all_goals go_wp2_with fail
          all_goals go_meet
          all_goals exact ⟨rfl, ⟨blk_put (blk_put (blk_put (blk_put (blk_drewN HQ.out.o.b6 _) 0 _ rfl) 1 _ rfl) 2 _ rfl) 3 _ rfl⟩, ⟨below_set (below_set (below_set (below_set (pw_below_drewN HQ.out.o.bl _) HQ.out.o.h6) HQ.out.o.h6) HQ.out.o.h6) HQ.out.o.h6⟩⟩
        case rest =>
          obtain ⟨rfl, BO, HB⟩ := hcut
          go_wp2
          refine bodyPost_ret (results_ct rfl _ _ g6 23 #[.int .i64 (ovw m a (sumW (fun x => x.f0.f0) l l.length) p0), .int .i64 (ovw m a (sumW (fun x => x.f0.f1) l l.length) p1), .int .i64 (ovw m a (sumW (fun x => x.f0.f2) l l.length) p2), .int .i64 (ovw m a (sumW (fun x => x.f0.f3) l l.length) p3)] (0, 0) _ rfl BO.out Try.underlying23 rfl (by kernel_rfl)) rfl ?_
          exact ⟨by rw [EA.out]; rfl, HB.out⟩
set_option maxRecDepth 100000 in
set_option maxHeartbeats 8000000 in
theorem over_err1 (k : Nat) (p0 p1 p2 p3 : Int) (A : Option Addr) (c : Nat) (l : List S50) (m : Int) (w : World) (hr : Kd.C k50 w A l.length l) (hc : l.length ≤ c) (hf : canvas_faint.f k p0 p1 p2 p3 = some false) :
    Calls Try.prog 14 #[.agg #[.int .i64 p0, .int .i64 p1, .int .i64 p2, .int .i64 p3], .slice A l.length c, .int .i64 m] w fun e w' => e = .returned (.tuple #[.agg #[.int .i64 0, .int .i64 0, .int .i64 0, .int .i64 0], .int .i64 1]) ∧ Below w.heap.size w w' := by
  have HR := Aside0.mk hr
  have HF := Aside0.mk hf
  clear hr hf
  go_enter Try.func14, Try.ntmps14
  go_upto_region 2 with (first
    | ((with_reducible refine gate_dst (N := 3) rfl ?_); refine box_event ?hg (N := 3) ?hd (cs := #[.int .i64 p0, .int .i64 p1, .int .i64 p2, .int .i64 p3]) (t := 23) ?hr ?_; (case hd => rfl); (case hg => rfl); (case hr => first | (go_simp; done) | (go_simp; rfl)); intro g3 hg w3 hx hb; have B3 := Aside0.mk hx; have L3 := Aside0.mk hb; have G3 := Aside0.mk hg; clear hx hb hg)
    | ((with_reducible refine gate_dst (N := 5) rfl ?_); refine box_event ?hg (N := 5) ?hd (cs := #[.int .i64 m]) (t := 3) ?hr ?_; (case hd => rfl); (case hg => rfl); (case hr => first | (go_simp; done) | (go_simp; rfl)); intro g5 hg w5 hx hb; have B5 := Aside0.mk hx; have L5 := Aside0.mk hb; have G5 := Aside0.mk hg; clear hx hb hg)
    | ((with_reducible refine gate_dst (N := 6) rfl ?_); refine box_event ?hg (N := 6) ?hd (cs := #[.int .i64 0, .int .i64 0, .int .i64 0, .int .i64 0]) (t := 23) ?hr ?_; (case hd => rfl); (case hg => rfl); (case hr => first | (go_simp; done) | (go_simp; rfl)); intro g6 hg w6 hx hb; have HO := Aside0.mk (O1.mk (blk_below (blk_below B3.out L5.out) hb) (blk_below B5.out hb) hx (Nat.le_of_eq G3.out.symm) (by rw [G5.out]; exact below_size L3.out) (by rw [hg]; exact Nat.le_trans (below_size L3.out) (below_size L5.out)) (by rw [hg]; exact Nat.ne_of_lt (blk_lt (blk_below B3.out L5.out))) (by rw [hg]; exact Nat.ne_of_lt (blk_lt B5.out)) (below_step (below_step L3.out L5.out) hb)); clear hx hb hg B3 L3 G3 B5 L5 G5; have hp0 : w6.cell? ⟨g3, 0, none⟩ = some (.int .i64 p0) := (blk_cell HO.out.b3 0).trans rfl; have hp1 : w6.cell? ⟨g3, 1, none⟩ = some (.int .i64 p1) := (blk_cell HO.out.b3 1).trans rfl; have hp2 : w6.cell? ⟨g3, 2, none⟩ = some (.int .i64 p2) := (blk_cell HO.out.b3 2).trans rfl; have hp3 : w6.cell? ⟨g3, 3, none⟩ = some (.int .i64 p3) := (blk_cell HO.out.b3 3).trans rfl)
    | (go_at_call 22; refine (canvas_faint.calls k p0 p1 p2 p3 false _ HF.out).mono ?_; rintro e w7 ⟨rfl, hb⟩; have n0_ := Aside0.mk (HO.out.below hb); clear HO; have HO := n0_; clear n0_ hb; have hm_w7 : w7.cell? ⟨g5, 0, none⟩ = some (.int .i64 m) := (blk_cell HO.out.b5 0).trans rfl))
  have ho0 : w7.cell? ⟨g6, 0, none⟩ = some (.int .i64 0) := (blk_cell HO.out.b6 0).trans rfl
  have hf0 : w7.frozen? ⟨g6, 0, none⟩ = false := blk_frozen HO.out.b6 0
  have ho1 : w7.cell? ⟨g6, 1, none⟩ = some (.int .i64 0) := (blk_cell HO.out.b6 1).trans rfl
  have hf1 : w7.frozen? ⟨g6, 1, none⟩ = false := blk_frozen HO.out.b6 1
  have ho2 : w7.cell? ⟨g6, 2, none⟩ = some (.int .i64 0) := (blk_cell HO.out.b6 2).trans rfl
  have hf2 : w7.frozen? ⟨g6, 2, none⟩ = false := blk_frozen HO.out.b6 2
  have ho3 : w7.cell? ⟨g6, 3, none⟩ = some (.int .i64 0) := (blk_cell HO.out.b6 3).trans rfl
  have hf3 : w7.frozen? ⟨g6, 3, none⟩ = false := blk_frozen HO.out.b6 3
  go_wp2
  refine bodyPost_ret (results_ct rfl _ _ g6 23 #[.int .i64 0, .int .i64 0, .int .i64 0, .int .i64 0] (0, 0) _ rfl (blk_put (blk_put (blk_put (blk_put HO.out.b6 0 _ rfl) 1 _ rfl) 2 _ rfl) 3 _ rfl) Try.underlying23 rfl (by kernel_rfl)) rfl ?_
  exact ⟨rfl, below_set (below_set (below_set (below_set HO.out.bl HO.out.h6) HO.out.h6) HO.out.h6) HO.out.h6⟩
set_option maxRecDepth 100000 in
set_option maxHeartbeats 8000000 in
theorem over_err2 (k : Nat) (p0 p1 p2 p3 : Int) (A : Option Addr) (c : Nat) (l : List S50) (m : Int) (w : World) (hr : Kd.C k50 w A l.length l) (hc : l.length ≤ c) (hf : canvas_faint.f k p0 p1 p2 p3 = some true) (hp : canvas_RightParts.f k l = some false) :
    Calls Try.prog 14 #[.agg #[.int .i64 p0, .int .i64 p1, .int .i64 p2, .int .i64 p3], .slice A l.length c, .int .i64 m] w fun e w' => e = .returned (.tuple #[.agg #[.int .i64 0, .int .i64 0, .int .i64 0, .int .i64 0], .int .i64 1]) ∧ Below w.heap.size w w' := by
  have HR := Aside0.mk hr
  have HF := Aside0.mk hf
  have HP := Aside0.mk hp
  clear hr hf hp
  go_enter Try.func14, Try.ntmps14
  go_upto_region 2 with (first
    | ((with_reducible refine gate_dst (N := 3) rfl ?_); refine box_event ?hg (N := 3) ?hd (cs := #[.int .i64 p0, .int .i64 p1, .int .i64 p2, .int .i64 p3]) (t := 23) ?hr ?_; (case hd => rfl); (case hg => rfl); (case hr => first | (go_simp; done) | (go_simp; rfl)); intro g3 hg w3 hx hb; have B3 := Aside0.mk hx; have L3 := Aside0.mk hb; have G3 := Aside0.mk hg; clear hx hb hg)
    | ((with_reducible refine gate_dst (N := 5) rfl ?_); refine box_event ?hg (N := 5) ?hd (cs := #[.int .i64 m]) (t := 3) ?hr ?_; (case hd => rfl); (case hg => rfl); (case hr => first | (go_simp; done) | (go_simp; rfl)); intro g5 hg w5 hx hb; have B5 := Aside0.mk hx; have L5 := Aside0.mk hb; have G5 := Aside0.mk hg; clear hx hb hg)
    | ((with_reducible refine gate_dst (N := 6) rfl ?_); refine box_event ?hg (N := 6) ?hd (cs := #[.int .i64 0, .int .i64 0, .int .i64 0, .int .i64 0]) (t := 23) ?hr ?_; (case hd => rfl); (case hg => rfl); (case hr => first | (go_simp; done) | (go_simp; rfl)); intro g6 hg w6 hx hb; have HO := Aside0.mk (O1.mk (blk_below (blk_below B3.out L5.out) hb) (blk_below B5.out hb) hx (Nat.le_of_eq G3.out.symm) (by rw [G5.out]; exact below_size L3.out) (by rw [hg]; exact Nat.le_trans (below_size L3.out) (below_size L5.out)) (by rw [hg]; exact Nat.ne_of_lt (blk_lt (blk_below B3.out L5.out))) (by rw [hg]; exact Nat.ne_of_lt (blk_lt B5.out)) (below_step (below_step L3.out L5.out) hb)); clear hx hb hg B3 L3 G3 B5 L5 G5; have hp0 : w6.cell? ⟨g3, 0, none⟩ = some (.int .i64 p0) := (blk_cell HO.out.b3 0).trans rfl; have hp1 : w6.cell? ⟨g3, 1, none⟩ = some (.int .i64 p1) := (blk_cell HO.out.b3 1).trans rfl; have hp2 : w6.cell? ⟨g3, 2, none⟩ = some (.int .i64 p2) := (blk_cell HO.out.b3 2).trans rfl; have hp3 : w6.cell? ⟨g3, 3, none⟩ = some (.int .i64 p3) := (blk_cell HO.out.b3 3).trans rfl)
    | (go_at_call 22; refine (canvas_faint.calls k p0 p1 p2 p3 true _ HF.out).mono ?_; rintro e w7 ⟨rfl, hb⟩; have n0_ := Aside0.mk (HO.out.below hb); clear HO; have HO := n0_; clear n0_ hb; have hm_w7 : w7.cell? ⟨g5, 0, none⟩ = some (.int .i64 m) := (blk_cell HO.out.b5 0).trans rfl)
    | (go_at_call 17; refine (canvas_RightParts.calls k A c l false _ (Kd.C_below HR.out HO.out.bl) hc HP.out).mono ?_; rintro e w7 ⟨rfl, hb⟩; have n0_ := Aside0.mk (HO.out.below hb); clear HO; have HO := n0_; clear n0_ hb; have hm_w7 : w7.cell? ⟨g5, 0, none⟩ = some (.int .i64 m) := (blk_cell HO.out.b5 0).trans rfl))
  have ho0 : w7.cell? ⟨g6, 0, none⟩ = some (.int .i64 0) := (blk_cell HO.out.b6 0).trans rfl
  have hf0 : w7.frozen? ⟨g6, 0, none⟩ = false := blk_frozen HO.out.b6 0
  have ho1 : w7.cell? ⟨g6, 1, none⟩ = some (.int .i64 0) := (blk_cell HO.out.b6 1).trans rfl
  have hf1 : w7.frozen? ⟨g6, 1, none⟩ = false := blk_frozen HO.out.b6 1
  have ho2 : w7.cell? ⟨g6, 2, none⟩ = some (.int .i64 0) := (blk_cell HO.out.b6 2).trans rfl
  have hf2 : w7.frozen? ⟨g6, 2, none⟩ = false := blk_frozen HO.out.b6 2
  have ho3 : w7.cell? ⟨g6, 3, none⟩ = some (.int .i64 0) := (blk_cell HO.out.b6 3).trans rfl
  have hf3 : w7.frozen? ⟨g6, 3, none⟩ = false := blk_frozen HO.out.b6 3
  go_wp2
  refine bodyPost_ret (results_ct rfl _ _ g6 23 #[.int .i64 0, .int .i64 0, .int .i64 0, .int .i64 0] (0, 0) _ rfl (blk_put (blk_put (blk_put (blk_put HO.out.b6 0 _ rfl) 1 _ rfl) 2 _ rfl) 3 _ rfl) Try.underlying23 rfl (by kernel_rfl)) rfl ?_
  exact ⟨rfl, below_set (below_set (below_set (below_set HO.out.bl HO.out.h6) HO.out.h6) HO.out.h6) HO.out.h6⟩
set_option maxRecDepth 100000 in
set_option maxHeartbeats 8000000 in
theorem over_err3 (k : Nat) (p0 p1 p2 p3 : Int) (A : Option Addr) (c : Nat) (l : List S50) (m : Int) (w : World) (hr : Kd.C k50 w A l.length l) (hc : l.length ≤ c) (hf : canvas_faint.f k p0 p1 p2 p3 = some true) (hp : canvas_RightParts.f k l = some true) (h0 : m < 0) :
    Calls Try.prog 14 #[.agg #[.int .i64 p0, .int .i64 p1, .int .i64 p2, .int .i64 p3], .slice A l.length c, .int .i64 m] w fun e w' => e = .returned (.tuple #[.agg #[.int .i64 0, .int .i64 0, .int .i64 0, .int .i64 0], .int .i64 1]) ∧ Below w.heap.size w w' := by
  have HR := Aside0.mk hr
  have HF := Aside0.mk hf
  have HP := Aside0.mk hp
  have c0 : decide (m < 0) = true := decide_eq_true h0
  clear hr hf hp h0
  go_enter Try.func14, Try.ntmps14
  go_upto_region 2 with (first
    | ((with_reducible refine gate_dst (N := 3) rfl ?_); refine box_event ?hg (N := 3) ?hd (cs := #[.int .i64 p0, .int .i64 p1, .int .i64 p2, .int .i64 p3]) (t := 23) ?hr ?_; (case hd => rfl); (case hg => rfl); (case hr => first | (go_simp; done) | (go_simp; rfl)); intro g3 hg w3 hx hb; have B3 := Aside0.mk hx; have L3 := Aside0.mk hb; have G3 := Aside0.mk hg; clear hx hb hg)
    | ((with_reducible refine gate_dst (N := 5) rfl ?_); refine box_event ?hg (N := 5) ?hd (cs := #[.int .i64 m]) (t := 3) ?hr ?_; (case hd => rfl); (case hg => rfl); (case hr => first | (go_simp; done) | (go_simp; rfl)); intro g5 hg w5 hx hb; have B5 := Aside0.mk hx; have L5 := Aside0.mk hb; have G5 := Aside0.mk hg; clear hx hb hg)
    | ((with_reducible refine gate_dst (N := 6) rfl ?_); refine box_event ?hg (N := 6) ?hd (cs := #[.int .i64 0, .int .i64 0, .int .i64 0, .int .i64 0]) (t := 23) ?hr ?_; (case hd => rfl); (case hg => rfl); (case hr => first | (go_simp; done) | (go_simp; rfl)); intro g6 hg w6 hx hb; have HO := Aside0.mk (O1.mk (blk_below (blk_below B3.out L5.out) hb) (blk_below B5.out hb) hx (Nat.le_of_eq G3.out.symm) (by rw [G5.out]; exact below_size L3.out) (by rw [hg]; exact Nat.le_trans (below_size L3.out) (below_size L5.out)) (by rw [hg]; exact Nat.ne_of_lt (blk_lt (blk_below B3.out L5.out))) (by rw [hg]; exact Nat.ne_of_lt (blk_lt B5.out)) (below_step (below_step L3.out L5.out) hb)); clear hx hb hg B3 L3 G3 B5 L5 G5; have hp0 : w6.cell? ⟨g3, 0, none⟩ = some (.int .i64 p0) := (blk_cell HO.out.b3 0).trans rfl; have hp1 : w6.cell? ⟨g3, 1, none⟩ = some (.int .i64 p1) := (blk_cell HO.out.b3 1).trans rfl; have hp2 : w6.cell? ⟨g3, 2, none⟩ = some (.int .i64 p2) := (blk_cell HO.out.b3 2).trans rfl; have hp3 : w6.cell? ⟨g3, 3, none⟩ = some (.int .i64 p3) := (blk_cell HO.out.b3 3).trans rfl)
    | (go_at_call 22; refine (canvas_faint.calls k p0 p1 p2 p3 true _ HF.out).mono ?_; rintro e w7 ⟨rfl, hb⟩; have n0_ := Aside0.mk (HO.out.below hb); clear HO; have HO := n0_; clear n0_ hb; have hm_w7 : w7.cell? ⟨g5, 0, none⟩ = some (.int .i64 m) := (blk_cell HO.out.b5 0).trans rfl)
    | (go_at_call 17; refine (canvas_RightParts.calls k A c l true _ (Kd.C_below HR.out HO.out.bl) hc HP.out).mono ?_; rintro e w7 ⟨rfl, hb⟩; have n0_ := Aside0.mk (HO.out.below hb); clear HO; have HO := n0_; clear n0_ hb; have hm_w7 : w7.cell? ⟨g5, 0, none⟩ = some (.int .i64 m) := (blk_cell HO.out.b5 0).trans rfl))
  have ho0 : w7.cell? ⟨g6, 0, none⟩ = some (.int .i64 0) := (blk_cell HO.out.b6 0).trans rfl
  have hf0 : w7.frozen? ⟨g6, 0, none⟩ = false := blk_frozen HO.out.b6 0
  have ho1 : w7.cell? ⟨g6, 1, none⟩ = some (.int .i64 0) := (blk_cell HO.out.b6 1).trans rfl
  have hf1 : w7.frozen? ⟨g6, 1, none⟩ = false := blk_frozen HO.out.b6 1
  have ho2 : w7.cell? ⟨g6, 2, none⟩ = some (.int .i64 0) := (blk_cell HO.out.b6 2).trans rfl
  have hf2 : w7.frozen? ⟨g6, 2, none⟩ = false := blk_frozen HO.out.b6 2
  have ho3 : w7.cell? ⟨g6, 3, none⟩ = some (.int .i64 0) := (blk_cell HO.out.b6 3).trans rfl
  have hf3 : w7.frozen? ⟨g6, 3, none⟩ = false := blk_frozen HO.out.b6 3
  go_wp2
  refine bodyPost_ret (results_ct rfl _ _ g6 23 #[.int .i64 0, .int .i64 0, .int .i64 0, .int .i64 0] (0, 0) _ rfl (blk_put (blk_put (blk_put (blk_put HO.out.b6 0 _ rfl) 1 _ rfl) 2 _ rfl) 3 _ rfl) Try.underlying23 rfl (by kernel_rfl)) rfl ?_
  exact ⟨rfl, below_set (below_set (below_set (below_set HO.out.bl HO.out.h6) HO.out.h6) HO.out.h6) HO.out.h6⟩
set_option maxRecDepth 100000 in
set_option maxHeartbeats 8000000 in
theorem over_err4 (k : Nat) (p0 p1 p2 p3 : Int) (A : Option Addr) (c : Nat) (l : List S50) (m : Int) (w : World) (hr : Kd.C k50 w A l.length l) (hc : l.length ≤ c) (hf : canvas_faint.f k p0 p1 p2 p3 = some true) (hp : canvas_RightParts.f k l = some true) (h0 : ¬ m < 0) (h1 : 16 < m) :
    Calls Try.prog 14 #[.agg #[.int .i64 p0, .int .i64 p1, .int .i64 p2, .int .i64 p3], .slice A l.length c, .int .i64 m] w fun e w' => e = .returned (.tuple #[.agg #[.int .i64 0, .int .i64 0, .int .i64 0, .int .i64 0], .int .i64 1]) ∧ Below w.heap.size w w' := by
  have HR := Aside0.mk hr
  have HF := Aside0.mk hf
  have HP := Aside0.mk hp
  have c0 : decide (m < 0) = false := decide_eq_false h0
  have c1 : decide (16 < m) = true := decide_eq_true h1
  clear hr hf hp h0 h1
  go_enter Try.func14, Try.ntmps14
  go_upto_region 2 with (first
    | ((with_reducible refine gate_dst (N := 3) rfl ?_); refine box_event ?hg (N := 3) ?hd (cs := #[.int .i64 p0, .int .i64 p1, .int .i64 p2, .int .i64 p3]) (t := 23) ?hr ?_; (case hd => rfl); (case hg => rfl); (case hr => first | (go_simp; done) | (go_simp; rfl)); intro g3 hg w3 hx hb; have B3 := Aside0.mk hx; have L3 := Aside0.mk hb; have G3 := Aside0.mk hg; clear hx hb hg)
    | ((with_reducible refine gate_dst (N := 5) rfl ?_); refine box_event ?hg (N := 5) ?hd (cs := #[.int .i64 m]) (t := 3) ?hr ?_; (case hd => rfl); (case hg => rfl); (case hr => first | (go_simp; done) | (go_simp; rfl)); intro g5 hg w5 hx hb; have B5 := Aside0.mk hx; have L5 := Aside0.mk hb; have G5 := Aside0.mk hg; clear hx hb hg)
    | ((with_reducible refine gate_dst (N := 6) rfl ?_); refine box_event ?hg (N := 6) ?hd (cs := #[.int .i64 0, .int .i64 0, .int .i64 0, .int .i64 0]) (t := 23) ?hr ?_; (case hd => rfl); (case hg => rfl); (case hr => first | (go_simp; done) | (go_simp; rfl)); intro g6 hg w6 hx hb; have HO := Aside0.mk (O1.mk (blk_below (blk_below B3.out L5.out) hb) (blk_below B5.out hb) hx (Nat.le_of_eq G3.out.symm) (by rw [G5.out]; exact below_size L3.out) (by rw [hg]; exact Nat.le_trans (below_size L3.out) (below_size L5.out)) (by rw [hg]; exact Nat.ne_of_lt (blk_lt (blk_below B3.out L5.out))) (by rw [hg]; exact Nat.ne_of_lt (blk_lt B5.out)) (below_step (below_step L3.out L5.out) hb)); clear hx hb hg B3 L3 G3 B5 L5 G5; have hp0 : w6.cell? ⟨g3, 0, none⟩ = some (.int .i64 p0) := (blk_cell HO.out.b3 0).trans rfl; have hp1 : w6.cell? ⟨g3, 1, none⟩ = some (.int .i64 p1) := (blk_cell HO.out.b3 1).trans rfl; have hp2 : w6.cell? ⟨g3, 2, none⟩ = some (.int .i64 p2) := (blk_cell HO.out.b3 2).trans rfl; have hp3 : w6.cell? ⟨g3, 3, none⟩ = some (.int .i64 p3) := (blk_cell HO.out.b3 3).trans rfl)
    | (go_at_call 22; refine (canvas_faint.calls k p0 p1 p2 p3 true _ HF.out).mono ?_; rintro e w7 ⟨rfl, hb⟩; have n0_ := Aside0.mk (HO.out.below hb); clear HO; have HO := n0_; clear n0_ hb; have hm_w7 : w7.cell? ⟨g5, 0, none⟩ = some (.int .i64 m) := (blk_cell HO.out.b5 0).trans rfl)
    | (go_at_call 17; refine (canvas_RightParts.calls k A c l true _ (Kd.C_below HR.out HO.out.bl) hc HP.out).mono ?_; rintro e w7 ⟨rfl, hb⟩; have n0_ := Aside0.mk (HO.out.below hb); clear HO; have HO := n0_; clear n0_ hb; have hm_w7 : w7.cell? ⟨g5, 0, none⟩ = some (.int .i64 m) := (blk_cell HO.out.b5 0).trans rfl))
  have ho0 : w7.cell? ⟨g6, 0, none⟩ = some (.int .i64 0) := (blk_cell HO.out.b6 0).trans rfl
  have hf0 : w7.frozen? ⟨g6, 0, none⟩ = false := blk_frozen HO.out.b6 0
  have ho1 : w7.cell? ⟨g6, 1, none⟩ = some (.int .i64 0) := (blk_cell HO.out.b6 1).trans rfl
  have hf1 : w7.frozen? ⟨g6, 1, none⟩ = false := blk_frozen HO.out.b6 1
  have ho2 : w7.cell? ⟨g6, 2, none⟩ = some (.int .i64 0) := (blk_cell HO.out.b6 2).trans rfl
  have hf2 : w7.frozen? ⟨g6, 2, none⟩ = false := blk_frozen HO.out.b6 2
  have ho3 : w7.cell? ⟨g6, 3, none⟩ = some (.int .i64 0) := (blk_cell HO.out.b6 3).trans rfl
  have hf3 : w7.frozen? ⟨g6, 3, none⟩ = false := blk_frozen HO.out.b6 3
  go_wp2
  refine bodyPost_ret (results_ct rfl _ _ g6 23 #[.int .i64 0, .int .i64 0, .int .i64 0, .int .i64 0] (0, 0) _ rfl (blk_put (blk_put (blk_put (blk_put HO.out.b6 0 _ rfl) 1 _ rfl) 2 _ rfl) 3 _ rfl) Try.underlying23 rfl (by kernel_rfl)) rfl ?_
  exact ⟨rfl, below_set (below_set (below_set (below_set HO.out.bl HO.out.h6) HO.out.h6) HO.out.h6) HO.out.h6⟩

/-- Over, as the print would tell it. -/
def canvas_Over.f (k : Nat) (a0_0 : Int) (a0_1 : Int) (a0_2 : Int) (a0_3 : Int) (l1 : List S50) (a2 : Int) : Option (Int × Int × Int × Int × Int) :=
  (canvas_faint.f k a0_0 a0_1 a0_2 a0_3).bind fun t1 => if t1 = true then ((canvas_RightParts.f k l1).bind fun t2 => if t2 = true then (if a2 < 0 then some (0, 0, 0, 0, 1) else if 16 < a2 then some (0, 0, 0, 0, 1) else
    some (ovR (fun x => x.f0.f0) l1 a2 a0_0, ovR (fun x => x.f0.f1) l1 a2 a0_1, ovR (fun x => x.f0.f2) l1 a2 a0_2, ovR (fun x => x.f0.f3) l1 a2 a0_3, 0)) else some (0, 0, 0, 0, 1)) else some (0, 0, 0, 0, 1)
theorem canvas_Over.mono : ∀ a0 a1 a2 a3 a4 a5 k, LeO (canvas_Over.f k a0 a1 a2 a3 a4 a5) (canvas_Over.f (k + 1) a0 a1 a2 a3 a4 a5) := by
  intro a0 a1 a2 a3 a4 a5 k
  unfold canvas_Over.f
  refine LeO.bind (canvas_faint.mono _ _ _ _ k) (fun t1 => ?_)
  refine LeO.ite ?_ (LeO.refl _)
  exact LeO.bind (canvas_RightParts.mono _ k) (fun t2 => LeO.refl _)
theorem canvas_Over.calls (k : Nat) (a0_0 : Int) (a0_1 : Int) (a0_2 : Int) (a0_3 : Int) (A1 : Option Addr) (c1 : Nat) (l1 : List S50) (a2 : Int) (r1 : Int) (r2 : Int) (r3 : Int) (r4 : Int) (r5 : Int) (w : World) (hr1 : Kd.C k50 w A1 l1.length l1) (hc1 : l1.length ≤ c1) (h : canvas_Over.f k a0_0 a0_1 a0_2 a0_3 l1 a2 = some (r1, r2, r3, r4, r5)) :
    Calls Try.prog 14 #[.agg #[.int .i64 a0_0, .int .i64 a0_1, .int .i64 a0_2, .int .i64 a0_3], .slice A1 l1.length c1, .int .i64 a2] w fun e w' => e = .returned (.tuple #[.agg #[.int .i64 r1, .int .i64 r2, .int .i64 r3, .int .i64 r4], .int .i64 r5]) ∧ Below w.heap.size w w' := by
  unfold canvas_Over.f at h
  obtain ⟨t1, hf, h⟩ := Option.bind_eq_some_iff.mp h
  by_cases e1 : t1 = true
  · subst e1
    rw [if_pos rfl] at h
    obtain ⟨t2, hp, h⟩ := Option.bind_eq_some_iff.mp h
    by_cases e2 : t2 = true
    · subst e2
      rw [if_pos rfl] at h
      by_cases h0 : a2 < 0
      · rw [if_pos h0] at h
        simp only [Option.some.injEq, Prod.mk.injEq] at h
        obtain ⟨rfl, rfl, rfl, rfl, rfl⟩ := h
        exact over_err3 k _ _ _ _ A1 c1 l1 a2 w hr1 hc1 hf hp h0
      · rw [if_neg h0] at h
        by_cases h1 : 16 < a2
        · rw [if_pos h1] at h
          simp only [Option.some.injEq, Prod.mk.injEq] at h
          obtain ⟨rfl, rfl, rfl, rfl, rfl⟩ := h
          exact over_err4 k _ _ _ _ A1 c1 l1 a2 w hr1 hc1 hf hp h0 h1
        · rw [if_neg h1] at h
          simp only [Option.some.injEq, Prod.mk.injEq] at h
          obtain ⟨rfl, rfl, rfl, rfl, rfl⟩ := h
          exact over_calls k _ _ _ _ A1 c1 l1 a2 w hr1 hc1 hf hp (by omega) (by omega)
    · rw [if_neg e2] at h
      obtain rfl : t2 = false := by simpa using e2
      simp only [Option.some.injEq, Prod.mk.injEq] at h
      obtain ⟨rfl, rfl, rfl, rfl, rfl⟩ := h
      exact over_err2 k _ _ _ _ A1 c1 l1 a2 w hr1 hc1 hf hp
  · rw [if_neg e1] at h
    obtain rfl : t1 = false := by simpa using e1
    simp only [Option.some.injEq, Prod.mk.injEq] at h
    obtain ⟨rfl, rfl, rfl, rfl, rfl⟩ := h
    exact over_err1 k _ _ _ _ A1 c1 l1 a2 w hr1 hc1 hf
end Go.Proofs.Ytdkiglaidbahmaa.Ext
