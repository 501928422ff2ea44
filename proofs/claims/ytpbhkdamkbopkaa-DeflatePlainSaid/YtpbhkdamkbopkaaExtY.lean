/- The walk of deflate.Raw. -/
import Derived.Test.YtpbhkdamkbopkaaExtX
namespace Go.Proofs.Ytpbhkdamkbopkaa.Wr
set_option linter.unusedSimpArgs false
set_option linter.unusedVariables false
open Go.RowKit Go.Maps Go.MapKept Go.Proofs.YtpbhkdamkbopkaaW.PrintWords Go.Proofs.YtpbhkdamkbopkaaW.PrintLast Go.Proofs.YtpbhkdamkbopkaaW.PrintMore
open Go.Proofs.Ytpbhkdamkbopkaa.Rn (run ip at_ok at_no best_f)
open Go.Proofs.Ytpbhkdamkbopkaa.GRuns (deflate_at.f deflate_at.calls deflate_best.f deflate_best.calls)

/-- The bits of the bytes from i on. -/
def rbits (s : ByteArray) : Nat → Nat → List Int
  | 0, _ => []
  | k + 1, i => if i < s.size then (if (run s i).1 = 0 then sc (bt s (i : Int)) ++ rbits s k (i + 1) else rc ((run s i).1 : Nat) ((run s i).2 : Nat) ++ rbits s k (i + (run s i).1)) else []
/-- The bits of a whole. -/
def RB (s : ByteArray) : List Int := (([] ++ [1]) ++ nb 1 2 ++ rbits s s.size 0) ++ sc 256
theorem RSt.start {W0 : World} {s : ByteArray} {g : Nat} {v : Value} {B : List Int} {w : World} (h : WSt W0 g v (pk B) (fr B.length) w) (hB : Bits B) : RSt W0 s g w.heap.size v B 0 (w.alloc (.map #[] 0)) := by
  refine ⟨h.below (below_alloc (Below.refl _ _) _), hB, blk_lt h.blk, by simp, fun e => ?_, ⟨.map [], 0, Nat.le_refl _, World.ownsGroups_made w Try.prog 97 3 .i64, Maps.isMap_empty, fun a b c _ _ _ => .inl ⟨rfl, rfl⟩⟩, World.Shuns_made w _⟩
  obtain ⟨inner, ho⟩ := Kd.R_own h.row
  have := (ho.lt _ e).2
  omega

theorem add_block (b : Nat) (t : Nat) : ((⟨b, 0, none⟩ : Addr).add t).block = b := by
  simp [Addr.add]
  split <;> rfl
theorem cell_keep {w8 wm : World} {m : Nat} {y : Int} (hgm : (w8.alloc (.cells #[.int .i64 y] 3)).grownBy wm (some m)) (hm : m < w8.heap.size) : ∀ t u, [Value.int .i64 y][t]? = some u → wm.cell? ((⟨w8.heap.size, 0, none⟩ : Addr).add t) = some u := by
  intro t u htu
  have hb : wm.heap[((⟨w8.heap.size, 0, none⟩ : Addr).add t).block]? = (w8.alloc (.cells #[.int .i64 y] 3)).heap[((⟨w8.heap.size, 0, none⟩ : Addr).add t).block]? := by
    rw [add_block]
    exact hgm.block w8.heap.size (by simp) (fun e1 => by have := Option.some.inj e1; omega)
  exact (World.cell?_of_block hb).trans (cell_one_new w8 _ 3 t u htu)
theorem info3w : (Try.prog.info? 3).map (fun i => (i.zero, i.size, i.bytes)) = some (some (.int .i64 0), 1, 8) := by kernel_rfl
theorem run_rng (s : ByteArray) (i : Nat) (hi : i ≤ s.size) : (run s i).1 = 0 ∧ (run s i).2 = 0 ∨ 3 ≤ (run s i).1 ∧ (run s i).1 ≤ 258 ∧ 1 ≤ (run s i).2 ∧ (run s i).2 ≤ i ∧ (run s i).2 ≤ 32768 ∧ i + (run s i).1 ≤ s.size := by
  obtain ⟨b0, b1⟩ := Rn.best_spec s i (min i 32768)
  unfold run
  generalize Rn.best s i (min i 32768) = p at *
  unfold Rn.fin
  by_cases c : p.1 < 3
  · rw [if_pos c]; exact .inl ⟨rfl, rfl⟩
  · rw [if_neg c]
    rcases b1 with b1 | ⟨a0, a1, a2, a3, a4⟩
    · omega
    · obtain ⟨v0, v1, v2, _⟩ := Rn.mlen_spec (s := s) (i := i) (j := i - p.2) hi
      rw [a2] at v0 v1 v2
      exact .inr ⟨by omega, v0, a0, by omega, by omega, v1⟩
theorem rc_len (n far : Int) (hn : 3 ≤ n) (hf : 1 ≤ far) : (rc n far).length ≤ 32 := by
  have h1 := sc_len (lsym n).1
  have h2 := (lsym_rng hn).2.2.2.2.2
  have h3 := (df_rng hf 30 (Nat.le_refl _)).2.2.2.2.2
  unfold rc
  rw [List.length_append, List.length_append, List.length_append, nb_len, nb_len, cb_len]
  have h4 : (dsym far).2.2 ≤ 13 := h3
  omega

set_option maxRecDepth 100000 in
set_option maxHeartbeats 4000000 in
theorem raw_calls (s : ByteArray) (hs : s.size ≤ 262144) (w : World) : Calls Try.prog 39 #[.string s] w fun e w' => e = .returned (.tuple #[.string (strOfNums (pk (RB s))), .int .i64 0]) ∧ Below w.heap.size w w' := by
  have hu97 := Try.underlying97
  have E0 : Aside0 (Bits []) := ⟨fun b hb => absurd hb (by simp)⟩
  have E1 : Aside0 (Bits ([] ++ [1])) := ⟨fun b hb => by simp at hb; omega⟩
  have E2 : Aside0 ((0 : Int) ≤ 1 ∧ (1 : Int) ≤ 1) := ⟨by decide⟩
  have E3 : Aside0 (([] : List Int).length ≤ 1000000000) := ⟨by decide⟩
  have E4 : Aside0 ((0 : Int) ≤ 1) := ⟨by decide⟩
  have E5 : Aside0 ((1 : Int) ≤ 1000000) := ⟨by decide⟩
  have E6 : Aside0 ((([] : List Int) ++ [1]).length ≤ 1000000000) := ⟨by decide⟩
  have hmm := @run_makeMap Try.prog
  obtain ⟨i0, hi, hz0, hz1, hz2⟩ := info_parts info3w
  have hbig : decide ((s.size : Int) > 262144) = false := decide_eq_false (by omega)
  go_enter Try.func39, Try.ntmps39
  go_upto_region 8 with (first
    | ((with_reducible refine gate_dst (N := 17) rfl ?_); refine box_event ?hg (N := 17) ?hd (cs := #[.slice none 0 0, .int .i64 0]) (t := 103) ?hr ?_; (case hd => rfl); (case hg => rfl); (case hr => first | (go_simp; done) | (go_simp; rfl)); intro g hg w1 hx hb; have H0 : Aside0 (WSt w g (.slice none 0 0) (pk []) (fr ([] : List Int).length) w1) := ⟨⟨hx, Kd.R_nil _ _ _ _ _, Nat.le_of_eq hg.symm, hb⟩⟩; clear hx hb hg)
    | (go_at_call 63; (with_reducible refine (bits_one w g _ [] 1 _ H0.out E0.out E2.out E3.out).mono ?_); rintro e w' ⟨v2, rfl, hw2, hf2⟩; have H1 := Aside0.mk hw2; clear hw2 hf2)
    | (go_at_call 63; (with_reducible refine (bits_two w g _ ([] ++ [1]) 1 _ H1.out E1.out E4.out E5.out E6.out).mono ?_); rintro e w' ⟨v3, rfl, hw2, hf2⟩; have H2 := Aside0.mk hw2; clear hw2 hf2))
  obtain ⟨B0, hB0⟩ : ∃ B0, B0 = ([] ++ [1]) ++ nb 1 2 := ⟨_, rfl⟩
  have EB : Aside0 (Bits B0 ∧ B0.length = 3 ∧ RB s = (B0 ++ rbits s s.size 0) ++ sc 256) := ⟨by rw [hB0]; exact ⟨E1.out.append (nb_bits _ _), rfl, rfl⟩⟩
  have H3 : Aside0 (RSt w s g w'.heap.size v3 B0 0 (w'.alloc (.map #[] 0))) := ⟨by rw [hB0]; exact RSt.start H2.out (E1.out.append (nb_bits _ _))⟩
  clear hB0 H0 H1 H2 E0 E1 E2 E3 E4 E5 E6
  generalize World.alloc _ (.map #[] 0) = w4 at H3 ⊢
  generalize w'.heap.size = m at H3 ⊢
  go_wp2
  go_loopw [6] (fun v6 w' => ∃ (x : Int) (i k : Nat) (v1 : Value) (B : List Int), v6 = .int .i64 x ∧ Aside0 (x = (i : Int)) ∧ Aside0 (i ≤ s.size ∧ s.size ≤ i + k) ∧ Aside0 (RSt w s g m v1 B i w') ∧ Aside0 (B ++ rbits s k i = B0 ++ rbits s s.size 0) ∧ Aside0 (B.length ≤ 3 + 11 * i)) (fun v6 _ => s.size - (intOf v6).toNat)
  case atStart => exact ⟨0, 0, s.size, v3, B0, rfl, ⟨rfl⟩, ⟨⟨Nat.zero_le _, by omega⟩⟩, H3, ⟨rfl⟩, ⟨by rw [EB.out.2.1]; omega⟩⟩
  case round =>
    clear H3
    obtain ⟨x, i, k, v1, B, rfl, hxi, hik, HR, HE, HL⟩ := hrel
    by_cases hlt : i < s.size
    · have hx0 : 0 ≤ x := by rw [hxi.out]; exact Int.natCast_nonneg _
      have hx1 : x < (s.size : Int) := by rw [hxi.out]; exact Int.ofNat_lt.mpr hlt
      have hdec : decide (x < (s.size : Int)) = true := decide_eq_true hx1
      by_cases h3 : i + 3 ≤ s.size
      focus
        obtain ⟨t1, ht1⟩ : ∃ t1, t1 = bt s (i : Int) := ⟨_, rfl⟩
        obtain ⟨t2, ht2⟩ : ∃ t2, t2 = bt s ((i + 1 : Nat) : Int) := ⟨_, rfl⟩
        obtain ⟨t3, ht3⟩ : ∃ t3, t3 = bt s ((i + 2 : Nat) : Int) := ⟨_, rfl⟩
        have Hat : Aside0 (deflate_at.f s x = some (t1, t2, t3, true)) := ⟨by rw [hxi.out, ht1, ht2, ht3]; exact at_ok s (by omega) i h3⟩
        have HT := Aside0.mk (And.intro ht1 (And.intro ht2 ht3))
        clear ht1 ht2 ht3
        go_upto_region 10 with (first
          | (go_at_call 61; (with_reducible refine (deflate_at.calls s x t1 t2 t3 true _ Hat.out).mono ?_); rintro e w' ⟨rfl, hb⟩; have HB1 := Aside0.mk hb; clear hb)
          | ((with_reducible refine gate_dst (N := 7) rfl ?_); refine box_event ?hg (N := 7) ?hd (cs := #[.int .u8 0, .int .u8 0, .int .u8 0]) (t := 97) ?hr ?_; (case hd => rfl); (case hg => rfl); (case hr => first | (go_simp; done) | (go_simp; rfl)); intro gb hg w7 hbox hb; have HB2 := Aside0.mk (below_step HB1.out hb); have BK := Aside0.mk hbox; have GE := Aside0.mk (by rw [hg]; exact HB1.out.size : wr.heap.size ≤ gb); clear hb hbox hg HB1; have hcz8_0 : w7.cell? ⟨gb, 0, none⟩ = some (.int .u8 0) := (blk_cell BK.out 0).trans rfl; have hcz8_1 : w7.cell? ⟨gb, 1, none⟩ = some (.int .u8 0) := (blk_cell BK.out 1).trans rfl; have hcz8_2 : w7.cell? ⟨gb, 2, none⟩ = some (.int .u8 0) := (blk_cell BK.out 2).trans rfl; have hfz8_0 := blk_frozen BK.out 0; have hfz8_1 := blk_frozen BK.out 1; have hfz8_2 := blk_frozen BK.out 2))
        obtain ⟨w8, hw8⟩ : ∃ w8, w8 = (((w7.setCell ⟨gb, 0, none⟩ (.int .u8 t1)).setCell ⟨gb, 1, none⟩ (.int .u8 t2)).setCell ⟨gb, 2, none⟩ (.int .u8 t3)) := ⟨_, rfl⟩
        have BK8 : Aside0 (w8.heap[gb]? = some (.cells #[.int .u8 t1, .int .u8 t2, .int .u8 t3] 97 (0, 0))) := ⟨by rw [hw8]; exact blk_put (cs := #[.int .u8 t1, .int .u8 t2, .int .u8 0]) (blk_put (cs := #[.int .u8 t1, .int .u8 0, .int .u8 0]) (blk_put (cs := #[.int .u8 0, .int .u8 0, .int .u8 0]) BK.out 0 _ rfl) 1 _ rfl) 2 _ rfl⟩
        have HB8 : Aside0 (Below wr.heap.size wr w8) := ⟨by rw [hw8]; exact below_set (below_set (below_set HB2.out GE.out) GE.out) GE.out⟩
        rw [← hw8]
        clear hw8 hcz8_0 hcz8_1 hcz8_2 hfz8_0 hfz8_1 hfz8_2 BK HB2 GE
        have HR8 : Aside0 (RSt w s g m v1 B i w8) := ⟨HR.out.below HB8.out⟩
        have r1 : 0 ≤ t1 ∧ t1 ≤ 255 := by rw [HT.out.1]; exact bt_range _ _
        have r2 : 0 ≤ t2 ∧ t2 ≤ 255 := by rw [HT.out.2.1]; exact bt_range _ _
        have r3 : 0 ≤ t3 ∧ t3 ≤ 255 := by rw [HT.out.2.2]; exact bt_range _ _
        obtain ⟨A, cap, hlook, hcap, hC⟩ := HR8.out.look (by omega) r1 r2 r3
        obtain ⟨L, hL⟩ : ∃ L, L = pos s t1 t2 t3 i := ⟨_, rfl⟩
        rw [← hL] at hlook hcap hC
        have HLK := Aside0.mk hlook
        have HCP := Aside0.mk hcap
        have HCC := Aside0.mk hC
        obtain ⟨N, F, hNF⟩ : ∃ N F, run s i = (N, F) := ⟨_, _, rfl⟩
        have Hbest : Aside0 (deflate_best.f (2 * i + 262) s x L = some ((N : Int), (F : Int))) := ⟨by
          rw [hL, HT.out.1, HT.out.2.1, HT.out.2.2, pos_pl s i h3 i (Nat.le_refl _), hxi.out, best_f s (by omega) i h3 (by omega) _ (Nat.le_refl _), hNF]
          rfl⟩
        clear hL hlook hcap hC r1 r2 r3 HB8 HR Hat HT
        have hc0 : w8.cell? ⟨gb, 0, none⟩ = some (.int .u8 t1) := (blk_cell BK8.out 0).trans rfl
        have hc1 : w8.cell? ⟨gb, 1, none⟩ = some (.int .u8 t2) := (blk_cell BK8.out 1).trans rfl
        have hc2 : w8.cell? ⟨gb, 2, none⟩ = some (.int .u8 t3) := (blk_cell BK8.out 2).trans rfl
        have HNF := Aside0.mk hNF
        clear hNF
        go_upto_region 13 with (first
          | ((with_reducible refine gate_dst (N := 39) rfl ?_); refine wpList_lookup_run rfl (.tmp 37) (.tmp 38) 105 rfl _ _ _ rfl rfl HLK.out ?_)
          | (go_at_call 62; (with_reducible refine (deflate_best.calls (2 * i + 262) s x A cap L (N : Int) (F : Int) _ HCC.out HCP.out Hbest.out).mono ?_); rintro e w' ⟨rfl, hd⟩; have HR9 : Aside0 (RSt w s g m v1 B i w') := ⟨HR8.out.below hd.below⟩; clear hd))
        by_cases c : N = 0
        focus
          subst c
          have hc : (((0 : Nat) : Int) == 0) = true := rfl

          have hxb := bt_at s x
          have p0 := eq_true hx0
          have q0 := eq_true hx1
          obtain ⟨z, hz⟩ : ∃ z, z = bt s x := ⟨_, rfl⟩
          rw [← hz] at hxb
          have hz0 : 0 ≤ z ∧ z ≤ 255 := by rw [hz]; exact bt_range s x
          have HZ : Aside0 (z = bt s (i : Int)) := ⟨by rw [hz, hxi.out]⟩
          clear hz
          obtain ⟨hz0, hz1⟩ := hz0
          have N0 : Aside0 (0 ≤ z) := ⟨hz0⟩
          have N1 : Aside0 (z ≤ 300) := ⟨by omega⟩
          have N2 : Aside0 (B.length ≤ 1000000000 - 16) := ⟨by have := HL.out; omega⟩
          go_wp2_with (go_at_call 64; (with_reducible refine (symbol_calls w g v1 B z _ HR9.out.wr HR9.out.bits N0.out N1.out N2.out).mono ?_); rintro e w10 ⟨v2, rfl, hw2, hf2⟩; have HR10 : Aside0 (RSt w s g m v2 (B ++ sc z) i w10) := ⟨HR9.out.wrote (sc_bits z) hw2 hf2⟩; clear hw2 hf2)
          obtain ⟨k1, hk1⟩ : ∃ k1, k = k1 + 1 := ⟨k - 1, by have := hik.out; omega⟩
          have HE2 : Aside0 ((B ++ sc z) ++ rbits s k1 (i + 1) = B0 ++ rbits s s.size 0) := ⟨by
            rw [← HE.out, hk1, List.append_assoc]
            congr 1
            rw [rbits, if_pos hlt, HNF.out, if_pos rfl, HZ.out]⟩
          have HL2 : Aside0 ((B ++ sc z).length ≤ 3 + 11 * (i + 1)) := ⟨by have h1 := HL.out; have h2 := sc_len z; rw [List.length_append]; omega⟩
          obtain ⟨e, he⟩ : ∃ e, e = i + 1 := ⟨_, rfl⟩
          have Hie : Aside0 (i + 1 ≤ e ∧ e ≤ s.size ∧ s.size ≤ e + k1 ∧ (1 : Int) = (e : Int) - (i : Int)) := ⟨by have := hik.out; omega⟩
          rw [← he] at HE2 HL2
          obtain ⟨B2, hB2⟩ : ∃ B2, B2 = B ++ sc z := ⟨_, rfl⟩
          rw [← hB2] at HR10 HE2 HL2
          clear hB2 he hk1 N0 N1 N2 HZ hz0 hz1 hxb p0 q0 HNF HR9 HE HL; (try clear HR)
        rotate_left
        focus
          have hc : (((N : Nat) : Int) == 0) = false := beq_eq_false_iff_ne.2 (by omega)
          have hrr : 3 ≤ N ∧ N ≤ 258 ∧ 1 ≤ F ∧ F ≤ 32768 ∧ i + N ≤ s.size := by
            have := run_rng s i (by omega)
            rw [HNF.out] at this
            simp only at this
            omega
          have N0 : Aside0 ((3 : Int) ≤ (N : Int)) := ⟨by omega⟩
          have N1 : Aside0 ((N : Int) ≤ 258) := ⟨by omega⟩
          have N2 : Aside0 (B.length ≤ 1000000000 - 100) := ⟨by have := HL.out; omega⟩
          have N3 : Aside0 ((1 : Int) ≤ (F : Int)) := ⟨by omega⟩
          have N4 : Aside0 ((F : Int) ≤ 32768) := ⟨by omega⟩
          go_wp2_with (go_at_call 65; (with_reducible refine (run_calls w g v1 B (N : Int) (F : Int) _ HR9.out.wr HR9.out.bits N0.out N1.out N3.out N4.out N2.out).mono ?_); rintro e w10 ⟨v2, rfl, hw2, hf2⟩; have HR10 : Aside0 (RSt w s g m v2 (B ++ rc (N : Int) (F : Int)) i w10) := ⟨HR9.out.wrote (rc_bits _ _) hw2 hf2⟩; clear hw2 hf2)
          obtain ⟨k1, hk1⟩ : ∃ k1, k = k1 + 1 := ⟨k - 1, by have := hik.out; omega⟩
          have HE2 : Aside0 ((B ++ rc (N : Int) (F : Int)) ++ rbits s k1 (i + N) = B0 ++ rbits s s.size 0) := ⟨by
            rw [← HE.out, hk1, List.append_assoc]
            congr 1
            rw [rbits, if_pos hlt, HNF.out, if_neg c]⟩
          have HL2 : Aside0 ((B ++ rc (N : Int) (F : Int)).length ≤ 3 + 11 * (i + N)) := ⟨by have h1 := HL.out; have h2 := rc_len (N : Int) (F : Int) (by omega) (by omega); rw [List.length_append]; omega⟩
          obtain ⟨e, he⟩ : ∃ e, e = i + N := ⟨_, rfl⟩
          have Hie : Aside0 (i + 1 ≤ e ∧ e ≤ s.size ∧ s.size ≤ e + k1 ∧ (N : Int) = (e : Int) - (i : Int)) := ⟨by have := hik.out; omega⟩
          rw [← he] at HE2 HL2
          obtain ⟨B2, hB2⟩ : ∃ B2, B2 = B ++ rc (N : Int) (F : Int) := ⟨_, rfl⟩
          rw [← hB2] at HR10 HE2 HL2
          clear hB2 he hk1 N0 N1 N2 N3 N4 hrr hc c HNF HR9 HE HL; (try clear HR)
      rotate_right
      focus
        have Hat : Aside0 (deflate_at.f s x = some (0, 0, 0, false)) := ⟨at_no s (by omega) x (.inr (by rw [hxi.out]; omega))⟩
        have HNF : Aside0 (run s i = (0, 0)) := ⟨Rn.run_none (fun d _ _ => by
          have := (Rn.mlen_spec (s := s) (i := i) (j := i - d) (by omega)).2.1
          omega)⟩
        go_upto_region 10 with (first
          | (go_at_call 61; (with_reducible refine (deflate_at.calls s x 0 0 0 false _ Hat.out).mono ?_); rintro e w' ⟨rfl, hb⟩; have HB1 := Aside0.mk hb; clear hb)
          | ((with_reducible refine gate_dst (N := 7) rfl ?_); refine box_event ?hg (N := 7) ?hd (cs := #[.int .u8 0, .int .u8 0, .int .u8 0]) (t := 97) ?hr ?_; (case hd => rfl); (case hg => rfl); (case hr => first | (go_simp; done) | (go_simp; rfl)); intro gb hg w7 hbox hb; have HB2 := Aside0.mk (below_step HB1.out hb); have BK := Aside0.mk hbox; have GE := Aside0.mk (by rw [hg]; exact HB1.out.size : wr.heap.size ≤ gb); clear hb hbox hg HB1; have hcz8_0 : w7.cell? ⟨gb, 0, none⟩ = some (.int .u8 0) := (blk_cell BK.out 0).trans rfl; have hcz8_1 : w7.cell? ⟨gb, 1, none⟩ = some (.int .u8 0) := (blk_cell BK.out 1).trans rfl; have hcz8_2 : w7.cell? ⟨gb, 2, none⟩ = some (.int .u8 0) := (blk_cell BK.out 2).trans rfl; have hfz8_0 := blk_frozen BK.out 0; have hfz8_1 := blk_frozen BK.out 1; have hfz8_2 := blk_frozen BK.out 2))
        obtain ⟨w8, hw8⟩ : ∃ w8, w8 = (((w7.setCell ⟨gb, 0, none⟩ (.int .u8 0)).setCell ⟨gb, 1, none⟩ (.int .u8 0)).setCell ⟨gb, 2, none⟩ (.int .u8 0)) := ⟨_, rfl⟩
        have HB8 : Aside0 (Below wr.heap.size wr w8) := ⟨by rw [hw8]; exact below_set (below_set (below_set HB2.out GE.out) GE.out) GE.out⟩
        rw [← hw8]
        clear hw8 hcz8_0 hcz8_1 hcz8_2 hfz8_0 hfz8_1 hfz8_2 BK HB2 GE
        have HR9 : Aside0 (RSt w s g m v1 B i w8) := ⟨HR.out.below HB8.out⟩
        clear HB8 Hat
        have hxb := bt_at s x
        have p0 := eq_true hx0
        have q0 := eq_true hx1
        obtain ⟨z, hz⟩ : ∃ z, z = bt s x := ⟨_, rfl⟩
        rw [← hz] at hxb
        have hz0 : 0 ≤ z ∧ z ≤ 255 := by rw [hz]; exact bt_range s x
        have HZ : Aside0 (z = bt s (i : Int)) := ⟨by rw [hz, hxi.out]⟩
        clear hz
        obtain ⟨hz0, hz1⟩ := hz0
        have N0 : Aside0 (0 ≤ z) := ⟨hz0⟩
        have N1 : Aside0 (z ≤ 300) := ⟨by omega⟩
        have N2 : Aside0 (B.length ≤ 1000000000 - 16) := ⟨by have := HL.out; omega⟩
        go_wp2_with (go_at_call 64; (with_reducible refine (symbol_calls w g v1 B z _ HR9.out.wr HR9.out.bits N0.out N1.out N2.out).mono ?_); rintro e w10 ⟨v2, rfl, hw2, hf2⟩; have HR10 : Aside0 (RSt w s g m v2 (B ++ sc z) i w10) := ⟨HR9.out.wrote (sc_bits z) hw2 hf2⟩; clear hw2 hf2)
        obtain ⟨k1, hk1⟩ : ∃ k1, k = k1 + 1 := ⟨k - 1, by have := hik.out; omega⟩
        have HE2 : Aside0 ((B ++ sc z) ++ rbits s k1 (i + 1) = B0 ++ rbits s s.size 0) := ⟨by
          rw [← HE.out, hk1, List.append_assoc]
          congr 1
          rw [rbits, if_pos hlt, HNF.out, if_pos rfl, HZ.out]⟩
        have HL2 : Aside0 ((B ++ sc z).length ≤ 3 + 11 * (i + 1)) := ⟨by have h1 := HL.out; have h2 := sc_len z; rw [List.length_append]; omega⟩
        obtain ⟨e, he⟩ : ∃ e, e = i + 1 := ⟨_, rfl⟩
        have Hie : Aside0 (i + 1 ≤ e ∧ e ≤ s.size ∧ s.size ≤ e + k1 ∧ (1 : Int) = (e : Int) - (i : Int)) := ⟨by have := hik.out; omega⟩
        rw [← he] at HE2 HL2
        obtain ⟨B2, hB2⟩ : ∃ B2, B2 = B ++ sc z := ⟨_, rfl⟩
        rw [← hB2] at HR10 HE2 HL2
        clear hB2 he hk1 N0 N1 N2 HZ hz0 hz1 hxb p0 q0 HNF HR9 HE HL; (try clear HR)
      all_goals
        (try clear HR8 HLK HCP HCC Hbest BK8 hc0 hc1 hc2 hlook)
        go_loopw [6, 9] (fun v6 v9 w' => ∃ (y r : Int) (j : Nat), v6 = .int .i64 y ∧ v9 = .int .i64 r ∧ Aside0 (y = (j : Int) ∧ r = (e : Int) - (j : Int) ∧ i ≤ j ∧ j ≤ e) ∧ Aside0 (RSt w s g m v2 B2 j w')) (fun v6 _ _ => e - (intOf v6).toNat)
        case atStart => exact ⟨x, _, i, rfl, rfl, ⟨⟨hxi.out, Hie.out.2.2.2, Nat.le_refl _, by have := Hie.out.1; omega⟩⟩, HR10⟩
        case round =>
          clear HR10
          obtain ⟨y, r, j, rfl, rfl, hy, HRj⟩ := hrel
          have hyb : 0 ≤ y ∧ y ≤ 262144 ∧ 0 ≤ r ∧ r ≤ 262144 := by have h1 := hy.out; have h2 := Hie.out; omega
          obtain ⟨hy0, hy1, hr0, hr1⟩ := hyb
          by_cases hjr : j < e
          · have hdr : decide (r > 0) = true := decide_eq_true (by have := hy.out; omega)
            by_cases h3j : j + 3 ≤ s.size
            · obtain ⟨t1, ht1⟩ : ∃ t1, t1 = bt s (j : Int) := ⟨_, rfl⟩
              obtain ⟨t2, ht2⟩ : ∃ t2, t2 = bt s ((j + 1 : Nat) : Int) := ⟨_, rfl⟩
              obtain ⟨t3, ht3⟩ : ∃ t3, t3 = bt s ((j + 2 : Nat) : Int) := ⟨_, rfl⟩
              have Hat : Aside0 (deflate_at.f s y = some (t1, t2, t3, true)) := ⟨by rw [hy.out.1, ht1, ht2, ht3]; exact at_ok s (by omega) j h3j⟩
              have HT := Aside0.mk (And.intro ht1 (And.intro ht2 ht3))
              clear ht1 ht2 ht3
              go_upto_region 20 with (first
                | (go_at_call 61; (with_reducible refine (deflate_at.calls s y t1 t2 t3 true _ Hat.out).mono ?_); rintro e w' ⟨rfl, hb⟩; have HB1 := Aside0.mk hb; clear hb)
                | ((with_reducible refine gate_dst (N := 11) rfl ?_); refine box_event ?hg (N := 11) ?hd (cs := #[.int .u8 0, .int .u8 0, .int .u8 0]) (t := 97) ?hr ?_; (case hd => rfl); (case hg => rfl); (case hr => first | (go_simp; done) | (go_simp; rfl)); intro gb hg w7 hbox hb; have HB2 := Aside0.mk (below_step HB1.out hb); have BK := Aside0.mk hbox; have GE := Aside0.mk (by rw [hg]; exact HB1.out.size : wr.heap.size ≤ gb); clear hb hbox hg HB1; have hcz8_0 : w7.cell? ⟨gb, 0, none⟩ = some (.int .u8 0) := (blk_cell BK.out 0).trans rfl; have hcz8_1 : w7.cell? ⟨gb, 1, none⟩ = some (.int .u8 0) := (blk_cell BK.out 1).trans rfl; have hcz8_2 : w7.cell? ⟨gb, 2, none⟩ = some (.int .u8 0) := (blk_cell BK.out 2).trans rfl; have hfz8_0 := blk_frozen BK.out 0; have hfz8_1 := blk_frozen BK.out 1; have hfz8_2 := blk_frozen BK.out 2))
              obtain ⟨w8, hw8⟩ : ∃ w8, w8 = (((w7.setCell ⟨gb, 0, none⟩ (.int .u8 t1)).setCell ⟨gb, 1, none⟩ (.int .u8 t2)).setCell ⟨gb, 2, none⟩ (.int .u8 t3)) := ⟨_, rfl⟩
              have BK8 : Aside0 (w8.heap[gb]? = some (.cells #[.int .u8 t1, .int .u8 t2, .int .u8 t3] 97 (0, 0))) := ⟨by rw [hw8]; exact blk_put (cs := #[.int .u8 t1, .int .u8 t2, .int .u8 0]) (blk_put (cs := #[.int .u8 t1, .int .u8 0, .int .u8 0]) (blk_put (cs := #[.int .u8 0, .int .u8 0, .int .u8 0]) BK.out 0 _ rfl) 1 _ rfl) 2 _ rfl⟩
              have HB8 : Aside0 (Below wr.heap.size wr w8) := ⟨by rw [hw8]; exact below_set (below_set (below_set HB2.out GE.out) GE.out) GE.out⟩
              rw [← hw8]
              clear hw8 hcz8_0 hcz8_1 hcz8_2 hfz8_0 hfz8_1 hfz8_2 BK HB2 GE
              have hc0 : w8.cell? ⟨gb, 0, none⟩ = some (.int .u8 t1) := (blk_cell BK8.out 0).trans rfl
              have hc1 : w8.cell? ⟨gb, 1, none⟩ = some (.int .u8 t2) := (blk_cell BK8.out 1).trans rfl
              have hc2 : w8.cell? ⟨gb, 2, none⟩ = some (.int .u8 t3) := (blk_cell BK8.out 2).trans rfl
              have HR8 : Aside0 (RSt w s g m v2 B2 j w8) := ⟨HRj.out.below HB8.out⟩
              have HRb : Aside0 (RSt w s g m v2 B2 j (w8.alloc (.cells #[.int .i64 y] 3))) := ⟨HR8.out.below (below_alloc (Below.refl _ _) _)⟩
              obtain ⟨u, st, zs, wm, hme, hgm, hown, hzl, hms, hback⟩ := HRb.out.entry (by omega) h3j
              rw [← HT.out.1, ← HT.out.2.1, ← HT.out.2.2] at hme
              rw [← hy.out.1] at hback
              have hmw := HR8.out.mw
              have hcell := Aside0.mk (cell_keep hgm hmw)
              have HME := Aside0.mk hme
              have HOW := Aside0.mk hown
              have HBK := Aside0.mk hback
              have HZL : Aside0 (zs.length ≤ 262144 ∧ m + 1 ≤ wm.heap.size) := ⟨⟨by have := hy.out; have := Hie.out; omega, hms⟩⟩
              clear hme hown hback hgm hzl hms hmw HR8 HRb HRj HB8 HT Hat
              go_wp2_with (first
                | (refine wpList_mapEntry_run rfl (.tmp 66) (.tmp 67) 105 rfl _ _ _ rfl rfl HME.out ?_)
                | ((with_reducible refine gate_builtin (b := .append) (xs := #[.tmp 68, .tmp 70]) rfl ?_); at_builtin; refine wpList_append_own_at _ rfl _ _ 22 rfl (m + 1) 3 i0 (.int .i64 0) 1 8 Try.underlying22 hi hz0 hz1 hz2 rfl (by decide) _ _ _ rfl HOW.out ⟨w8.heap.size, 0, none⟩ 1 1 [.int .i64 y] rfl rfl hcell.out (ints_oneCell .i64 [y]) (by have := HZL.out; unfold maxLen; omega) (by have := HZL.out; omega) HZL.out.2 ?_; intro v' w5 hown' hgrow hnil hloc; obtain ⟨w6, hst, hr6⟩ := HBK.out w5 v' hgrow hown' hloc; have HST := Aside0.mk hst; have HR6 := Aside0.mk hr6; clear hst hr6 hown' hgrow hnil hloc)
                | (refine wpList_entryStore_run rfl (.tmp 66) (.tmp 73) (.tmp 72) 105 rfl _ _ _ rfl rfl rfl HST.out ?_))
              go_roundw
              case rel => exact ⟨_, _, j + 1, rfl, rfl, ⟨by have := hy.out; omega⟩, HR6⟩
              case measure => have := hy.out; simp [intOf]; omega
            · have Hat : Aside0 (deflate_at.f s y = some (0, 0, 0, false)) := ⟨at_no s (by omega) y (.inr (by rw [hy.out.1]; omega))⟩
              go_upto_region 20 with (first
                | (go_at_call 61; (with_reducible refine (deflate_at.calls s y 0 0 0 false _ Hat.out).mono ?_); rintro e w' ⟨rfl, hb⟩; have HB1 := Aside0.mk hb; clear hb)
                | ((with_reducible refine gate_dst (N := 11) rfl ?_); refine box_event ?hg (N := 11) ?hd (cs := #[.int .u8 0, .int .u8 0, .int .u8 0]) (t := 97) ?hr ?_; (case hd => rfl); (case hg => rfl); (case hr => first | (go_simp; done) | (go_simp; rfl)); intro gb hg w7 hbox hb; have HB2 := Aside0.mk (below_step HB1.out hb); have BK := Aside0.mk hbox; have GE := Aside0.mk (by rw [hg]; exact HB1.out.size : wr.heap.size ≤ gb); clear hb hbox hg HB1; have hcz8_0 : w7.cell? ⟨gb, 0, none⟩ = some (.int .u8 0) := (blk_cell BK.out 0).trans rfl; have hcz8_1 : w7.cell? ⟨gb, 1, none⟩ = some (.int .u8 0) := (blk_cell BK.out 1).trans rfl; have hcz8_2 : w7.cell? ⟨gb, 2, none⟩ = some (.int .u8 0) := (blk_cell BK.out 2).trans rfl; have hfz8_0 := blk_frozen BK.out 0; have hfz8_1 := blk_frozen BK.out 1; have hfz8_2 := blk_frozen BK.out 2))
              obtain ⟨w8, hw8⟩ : ∃ w8, w8 = (((w7.setCell ⟨gb, 0, none⟩ (.int .u8 0)).setCell ⟨gb, 1, none⟩ (.int .u8 0)).setCell ⟨gb, 2, none⟩ (.int .u8 0)) := ⟨_, rfl⟩
              have HB8 : Aside0 (Below wr.heap.size wr w8) := ⟨by rw [hw8]; exact below_set (below_set (below_set HB2.out GE.out) GE.out) GE.out⟩
              rw [← hw8]
              clear hw8 hcz8_0 hcz8_1 hcz8_2 hfz8_0 hfz8_1 hfz8_2 BK HB2 GE
              have HR6 : Aside0 (RSt w s g m v2 B2 (j + 1) w8) := ⟨(HRj.out.below HB8.out).skip (by omega)⟩
              clear HB8 Hat HRj
              go_wp2
              go_roundw
              case rel => exact ⟨_, _, j + 1, rfl, rfl, ⟨by have := hy.out; omega⟩, HR6⟩
              case measure => have := hy.out; simp [intOf]; omega
          · have hje : j = e := by have := hy.out; omega
            have hdr : decide (r > 0) = false := decide_eq_false (by have := hy.out; omega)
            go_wp2
            go_roundw
            case rel => exact ⟨y, e, k1, v2, B2, rfl, ⟨by rw [hy.out.1, hje]⟩, ⟨⟨Hie.out.2.1, Hie.out.2.2.1⟩⟩, ⟨hje ▸ HRj.out⟩, HE2, HL2⟩
            case measure => have h1 := hy.out; have h2 := Hie.out; have h3 := hxi.out; simp [intOf]; omega
    · have hie : i = s.size := by have := hik.out; omega
      have hdec : decide (x < (s.size : Int)) = false := decide_eq_false (by have := hxi.out; omega)
      have HF : Aside0 (RB s = B ++ sc 256) := ⟨by
        rw [EB.out.2.2, ← HE.out]
        have e0 : rbits s k i = [] := by
          cases k with
          | zero => rfl
          | succ k => rw [rbits, if_neg (by omega)]
        rw [e0, List.append_nil]⟩
      have N0 : Aside0 ((0 : Int) ≤ 256) := ⟨by decide⟩
      have N1 : Aside0 ((256 : Int) ≤ 300) := ⟨by decide⟩
      have N2 : Aside0 (B.length ≤ 1000000000 - 16) := ⟨by have := HL.out; omega⟩
      go_wp2_with (go_at_call 64; (with_reducible refine (symbol_calls w g v1 B 256 _ HR.out.wr HR.out.bits N0.out N1.out N2.out).mono ?_); rintro e w' ⟨v5, rfl, hw2, hf2⟩; rw [← HF.out] at hw2; have H5 := Aside0.mk hw2; clear hw2 hf2; obtain ⟨A5, c5, e5⟩ := Kd.R_slice H5.out.row; subst e5; have hc5 : w'.cell? ⟨g, 0, none⟩ = some (.slice A5 (pk (RB s)).length c5) := (blk_cell H5.out.blk 0).trans rfl; have hcv := Kd.C_string (P := Try.prog) (A := A5) (n := (pk (RB s)).length) (c := c5) (xs := pk (RB s)) Try.underlying40 Try.underlying5 Try.underlying9 (Kd.R_reads' H5.out.row).2.2)
      go_ret2
      exact ⟨rfl, H5.out.bl⟩
end Go.Proofs.Ytpbhkdamkbopkaa.Wr
