/- The walks of deflate's writer: a bit, a number's bits, a code, a symbol of the fixed code. -/
import Derived.Test.YtpbhkdamkbopkaaBitMath
import Derived.Deep.RegionHeld3
import Derived.Deep.DeepCutAuto
import Derived.Deep.CutBlock
import Derived.StillTailTactics
namespace Go.Proofs.Ytpbhkdamkbopkaa.Wr
set_option linter.unusedSimpArgs false
set_option linter.unusedVariables false
open Go.RowKit Go.Proofs.YtpbhkdamkbopkaaW.PrintWords Go.Proofs.YtpbhkdamkbopkaaW.PrintLast Go.Proofs.YtpbhkdamkbopkaaW.PrintMore

theorem info5w : (Try.prog.info? 5).map (fun i => (i.zero, i.size, i.bytes)) = some (some (.int .u8 0), 1, 1) := by kernel_rfl
/-- A writer in memory. -/
structure WSt (w0 : World) (g : Nat) (v : Value) (o : List Int) (f : Int) (w : World) : Prop where
  blk : w.heap[g]? = some (.cells #[v, .int .i64 f] 103 (0, 0))
  row : Kd.R (Kd.int .u8) 5 w w0.heap.size (fun k => k ≠ g) v o
  hg : w0.heap.size ≤ g
  bl : Below w0.heap.size w0 w
/-- What else is in memory stays. -/
structure Fro (w : World) (g : Nat) (v : Value) (w' : World) (v' : Value) : Prop where
  keep : KeepBut w w' g v.ownBlock
  own : v'.ownBlock = v.ownBlock ∨ ∃ b, v'.ownBlock = some b ∧ w.heap.size ≤ b
theorem Fro.refl (w : World) (g : Nat) (v : Value) : Fro w g v w v := ⟨KeepBut.refl _ _ _, .inl rfl⟩
theorem Fro.trans {w w1 w2 : World} {g : Nat} {v v1 v2 : Value} (h : Fro w g v w1 v1) (k : Fro w1 g v1 w2 v2) : Fro w g v w2 v2 :=
  ⟨h.keep.trans k.keep h.own, by
    rcases k.own with e | ⟨b, e, hb⟩
    · rw [e]; exact h.own
    · exact .inr ⟨b, e, Nat.le_trans h.keep.1 hb⟩⟩

/-- The bytes with room for a bit more. -/
structure Mid (o1 : List Int) (p q : Nat) (C : List Int) (m : Nat) : Prop where
  len : o1.length = p + 1
  rng : 0 ≤ o1.getD p 0 ∧ o1.getD p 0 < 2 ^ q
  put : ∀ b, o1.set p (o1.getD p 0 + b * 2 ^ q) = put1 (pk C) m b
theorem mid_zero {C : List Int} {m : Nat} (h : m % 8 = 0) : Mid (pk C ++ [0]) (pk C).length 0 C m := by
  refine ⟨by simp, by simp, fun b => ?_⟩
  unfold put1
  rw [if_pos h]
  simp
theorem mid_pos {C : List Int} {m p : Nat} (hC : Bits C) (hm : m = C.length) (h : m % 8 ≠ 0) (hp : p + 1 = (pk C).length) : Mid (pk C) p (m % 8) C m := by
  have hr := (pk_rng hC).2 (by rw [← hm]; exact h)
  have e : (pk C).length - 1 = p := by omega
  rw [e, ← hm] at hr
  refine ⟨hp.symm, hr, fun b => ?_⟩
  unfold put1
  rw [if_neg h, e]
theorem or_all : ∀ q : Fin 8, ∀ z : Fin 128, z.val < 2 ^ q.val → Go.bits .or .u8 (z.val : Int) ((2 ^ q.val : Nat) : Int) = (z.val : Int) + ((2 ^ q.val : Nat) : Int) := by decide +kernel
theorem or_none : ∀ z : Fin 128, Go.bits .or .u8 (z.val : Int) 0 = (z.val : Int) := by decide +kernel
/-- What a bit more makes of the last byte. -/
theorem or_bit {v z : Int} {k q : Nat} (hv0 : 0 ≤ v) (hv1 : v ≤ 1000000) (hq : q ≤ 7) (hz0 : 0 ≤ z) (hz1 : z < 2 ^ q) :
    Go.bits .or .u8 z (wrap64 (Go.bits .and .i64 (v / 2 ^ k) 1 * 2 ^ q) % 256) = z + bit v k * 2 ^ q := by
  have hd0 : 0 ≤ v / 2 ^ k := Int.ediv_nonneg hv0 (Int.le_of_lt (Int.pow_pos (by decide)))
  have hd1 : v / 2 ^ k ≤ v := Int.ediv_le_self _ hv0
  have hm : Go.bits .and .i64 (v / 2 ^ k) 1 = bit v k := bits_mask .i64 40 (by decide) (fun n h₀ h₁ => by rw [IntKind.wrap_i64]; omega) 1 (by decide) _ hd0 (by omega)
  have hp := pow_rng q hq
  obtain ⟨zn, rfl⟩ := Int.eq_ofNat_of_zero_le hz0
  have hzn : zn < 128 := by omega
  rw [hm]
  have hb := bit_rng v k
  rcases (show bit v k = 0 ∨ bit v k = 1 by omega) with e | e
  · rw [e, Int.zero_mul, w64 (by decide) (by decide), Int.add_zero]
    exact or_none ⟨zn, hzn⟩
  · rw [e, Int.one_mul, w64 (by omega) (by omega), Int.emod_eq_of_lt (by omega) (by omega)]
    have hc : ((2 ^ q : Nat) : Int) = (2 : Int) ^ q := by norm_cast
    have := or_all ⟨q, by omega⟩ ⟨zn, hzn⟩ (by show zn < 2 ^ q; have : (zn : Int) < ((2 ^ q : Nat) : Int) := by rw [hc]; exact hz1
                                               omega)
    simp only at this
    rw [hc] at this
    exact this
theorem fr_next {m q : Nat} (h : q = m % 8) : (8 - (q : Int)) - 1 = fr (m + 1) := by unfold fr; omega
theorem row_form {w : World} {base : Nat} {ok : Nat → Prop} {v : Value} {xs : List Int} (h : Kd.R (Kd.int .u8) 5 w base ok v xs) (hn : 0 < xs.length) : ∃ go cap, v = .slice (some ⟨go, 0, none⟩) xs.length cap ∧ ok go ∧ base ≤ go := by
  obtain ⟨inner, ho⟩ := Kd.R_own h
  rcases ho.2 with ⟨_, h0⟩ | ⟨g, cap, cur, rfl, hb, _⟩
  · omega
  · exact ⟨g, cap, rfl, h.1 g rfl, hb⟩

set_option maxRecDepth 100000 in
set_option maxHeartbeats 1000000 in
theorem bits_calls (w0 : World) (g : Nat) (v0 : Value) (B : List Int) (v : Int) (n : Nat) (w : World) (h : WSt w0 g v0 (pk B) (fr B.length) w) (hB : Bits B) (hv0 : 0 ≤ v) (hv1 : v ≤ 1000000) (hn : n ≤ 16) (hl : B.length ≤ 1000000000) :
    Calls Try.prog 63 #[.pointer (some ⟨g, 0, none⟩), .int .i64 v, .int .i64 n] w fun e w' => ∃ v1, e = .returned (.tuple #[]) ∧ WSt w0 g v1 (pk (B ++ nb v n)) (fr (B ++ nb v n).length) w' ∧ Fro w g v0 w' v1 := by
  have HH := Aside0.mk h
  have HB := Aside0.mk hB
  clear h hB
  go_enter Try.func63, Try.ntmps63
  go_wp2
  go_loopw [8] (fun v8 w' => ∃ (k : Nat) (v1 : Value), k ≤ n ∧ v8 = .int .i64 k ∧ Aside0 (WSt w0 g v1 (pk (B ++ nb v k)) (fr (B ++ nb v k).length) w') ∧ Aside0 (Fro w g v0 w' v1)) (fun v8 _ => n - (intOf v8).toNat)
  case atStart => exact ⟨0, v0, Nat.zero_le _, rfl, ⟨by simpa [nb] using HH.out⟩, ⟨Fro.refl _ _ _⟩⟩
  case round =>
    clear HH
    obtain ⟨k, v1, hk, rfl, HW, HF⟩ := hrel
    by_cases hlt : k < n
    · have hdec : decide ((k : Int) < n) = true := decide_eq_true (by omega)
      obtain ⟨C, hC⟩ : ∃ C, C = B ++ nb v k := ⟨_, rfl⟩
      obtain ⟨m, hm⟩ : ∃ m, m = C.length := ⟨_, rfl⟩
      have hml : m = B.length + k := by rw [hm, hC, List.length_append, nb_len]
      have HC : Aside0 (Bits C) := ⟨by rw [hC]; exact HB.out.append (nb_bits _ _)⟩
      have HP : Aside0 (pk (B ++ nb v (k + 1)) = put1 (pk C) m (bit v k) ∧ (B ++ nb v (k + 1)).length = m + 1) := ⟨by rw [hC, nb_succ, ← List.append_assoc, pk_snoc, ← hC, hm]; exact ⟨rfl, by simp⟩⟩
      rw [← hC, ← hm] at HW
      have HM := Aside0.mk hm
      clear hC hm
      obtain ⟨q, hq⟩ : ∃ q, q = m % 8 := ⟨_, rfl⟩
      have hq7 : q ≤ 7 := by omega
      have HQ := Aside0.mk hq
      clear hq
      by_cases hz : q = 0
      focus
        have hf : fr m = 0 := by unfold fr; rw [← HQ.out, hz]; rfl
        rw [hf] at HW
        clear hf
        have hc0 : wr.cell? ⟨g, 0, none⟩ = some v1 := (blk_cell HW.out.blk 0).trans rfl
        have hc1 : wr.cell? ⟨g, 1, none⟩ = some (.int .i64 0) := (blk_cell HW.out.blk 1).trans rfl
        go_wp2_with ((with_reducible refine gate_builtin (b := .append) (xs := #[.tmp 20, .tmp 21]) rfl ?_); at_builtin; refine Kd.R_append (Kd.int .u8) (w0 := w0) w0.heap.size rfl (.tmp 20) (.tmp 21) 40 5 (.int .u8 0) 1 rfl Try.underlying40 info5w rfl (by decide) (by decide) v1 (pk C) 0 [.int .u8 0] (fun k => k ≠ g) (fun _ => False) rfl rfl ?aP (fun _ hk => hk.elim) ?aF ?aO ?aB ?aS ?aL ?_; (case aP => exact rfl); (case aF => exact fun k_ hk_ e_ => by have := blk_lt HW.out.blk; omega); (case aO => exact HW.out.row); (case aB => exact HW.out.bl); (case aS => exact below_size HW.out.bl); (case aL => rw [pk_len, ← HM.out]; omega); intro v5 w5 hr5 hb5 hg5 hn5; obtain ⟨go, cp, rfl, hgo, hgb⟩ := row_form hr5 (by simp); have HGO := Aside0.mk hgo; clear hgo; have HR5 := Aside0.mk hr5; have HB5 := Aside0.mk hb5; have HG5 := Aside0.mk hg5; have HN5 := Aside0.mk hn5; have BK5 := Aside0.mk (blk_grown HW.out.blk hg5 (Kd.R_ne HW.out.row HW.out.blk (by decide))); clear hr5 hb5 hg5 hn5; have hc5 : w5.cell? ⟨g, 0, none⟩ = some v1 := (blk_cell BK5.out 0).trans rfl; have hf5 := blk_frozen BK5.out 0; have hc6 : w5.cell? ⟨g, 1, none⟩ = some (.int .i64 0) := (blk_cell BK5.out 1).trans rfl; have hf6 := blk_frozen BK5.out 1)
        obtain ⟨p, hp⟩ : ∃ p, p = (pk C).length := ⟨_, rfl⟩
        have hpb : p ≤ 1000000000 := by have := pk_len C; rw [← HM.out] at this; omega
        have HM1 : Aside0 (Mid (pk C ++ [0]) p q C m) := ⟨by rw [hp, hz]; exact mid_zero (by rw [← HQ.out, hz])⟩
        have e1 : (pk C ++ [0]).length = p + 1 := by rw [hp]; simp
        rw [e1] at HR5 HN5
        rw [← hp] at ⊢
        have HW2 : Aside0 (WSt w0 g (.slice (some ⟨go, 0, none⟩) (p + 1) cp) (pk C ++ [0]) 8 ((w5.setCell ⟨g, 0, none⟩ (.slice (some ⟨go, 0, none⟩) (p + 1) cp)).setCell ⟨g, 1, none⟩ (.int .i64 8))) :=
          ⟨blk_put (blk_put BK5.out 0 _ rfl) 1 _ rfl, Kd.R_far (p := ⟨g, 1, none⟩) (Kd.R_far (p := ⟨g, 0, none⟩) HR5.out (fun _ hk => hk) _) (fun _ hk => hk) _, HW.out.hg, below_set (below_set HB5.out HW.out.hg) HW.out.hg⟩
        have HF2 : Aside0 (Fro w g v0 ((w5.setCell ⟨g, 0, none⟩ (.slice (some ⟨go, 0, none⟩) (p + 1) cp)).setCell ⟨g, 1, none⟩ (.int .i64 8)) (.slice (some ⟨go, 0, none⟩) (p + 1) cp)) := ⟨HF.out.trans ⟨((KeepBut.of_grown HG5.out g).set_ 0 _).set_ 1 _, HN5.out⟩⟩
        obtain ⟨w2, hw2⟩ : ∃ w2, w2 = ((w5.setCell ⟨g, 0, none⟩ (.slice (some ⟨go, 0, none⟩) (p + 1) cp)).setCell ⟨g, 1, none⟩ (.int .i64 8)) := ⟨_, rfl⟩
        rw [← hw2] at HW2 HF2 ⊢
        obtain ⟨f1, hf1⟩ : ∃ f1 : Int, f1 = 8 := ⟨_, rfl⟩
        rw [← hf1] at HW2
        replace hf1 : f1 = 8 - (q : Int) := by rw [hf1, hz]; rfl
        obtain ⟨o1, ho1⟩ : ∃ o1, o1 = pk C ++ [0] := ⟨_, rfl⟩
        rw [← ho1] at HW2 HM1
        clear hw2 ho1 e1 hp HR5 HN5 HB5 HG5 BK5 hc5 hf5 hc6 hf6 hc0 hc1 HW HF hz
      rotate_left
      focus
        have hm1 : 1 ≤ m := by have := HQ.out; omega
        obtain ⟨go, cp, rfl, hgo, hgb⟩ := row_form HW.out.row (by rw [pk_len, ← HM.out]; omega)
        have HGO := Aside0.mk hgo
        clear hgo
        obtain ⟨p, hp⟩ : ∃ p, p + 1 = (pk C).length := ⟨(pk C).length - 1, by have := pk_len C; rw [← HM.out] at this; omega⟩
        have hpb : p ≤ 1000000000 := by have := pk_len C; rw [← HM.out] at this; omega
        have HM1 : Aside0 (Mid (pk C) p q C m) := ⟨by rw [HQ.out]; exact mid_pos HC.out HM.out (by rw [← HQ.out]; exact hz) hp⟩
        rw [← hp] at HW HF
        obtain ⟨f1, hf1⟩ : ∃ f1 : Int, f1 = fr m := ⟨_, rfl⟩
        rw [← hf1] at HW
        replace hf1 : f1 = 8 - (q : Int) := by rw [hf1]; unfold fr; rw [← HQ.out]; omega
        have hb8 : 1 ≤ f1 ∧ f1 ≤ 8 := by omega
        have hb0 : (f1 == 0) = false := beq_eq_false_iff_ne.2 (by omega)
        have HF1 := Aside0.mk hf1
        clear hf1
        have hc1 : wr.cell? ⟨g, 1, none⟩ = some (.int .i64 f1) := (blk_cell HW.out.blk 1).trans rfl
        go_wp2_with fail
        have hf1 := HF1.out
        obtain ⟨w2, hw2⟩ : ∃ w2, w2 = wr := ⟨_, rfl⟩
        subst hw2
        obtain ⟨o1, ho1⟩ : ∃ o1, o1 = pk C := ⟨_, rfl⟩
        have HW2 := HW
        have HF2 := HF
        rw [← ho1] at HW2 HM1
        clear ho1 hp hc1 HW HF hz hm1 HF1 hb0 hb8
      all_goals
        have hb8 : 1 ≤ f1 ∧ f1 ≤ 8 := by omega
        obtain ⟨hb81, hb82⟩ := hb8
        have HF1 := Aside0.mk hf1
        clear hf1
        have hl1 : o1.length = p + 1 := HM1.out.len
        obtain ⟨z, hz⟩ : ∃ z, z = o1.getD p 0 := ⟨_, rfl⟩
        have hcz : w2.cell? ⟨go, p, none⟩ = some (.int .u8 z) ∧ w2.frozen? ⟨go, p, none⟩ = false := by
          have := Kd.R_celln (0 : Int) HW2.out.row (p : Int) (by omega) (by omega)
          rw [Int.toNat_natCast] at this
          rw [hz]
          exact this
        obtain ⟨hcz, hfz⟩ := hcz
        have HZ := Aside0.mk hz
        clear hz hl1
        obtain ⟨L, hL⟩ : ∃ L, L = p + 1 := ⟨_, rfl⟩
        rw [← hL] at HW2 HF2
        have hw1 : IntKind.i64.wrap ((L : Int) - 1) = (p : Int) := by rw [i64_w, hL]; unfold wrap64; omega
        have hs1 : IntKind.i64.wrap (8 - f1) = (q : Int) := by rw [i64_w, HF1.out]; unfold wrap64; omega
        have hp0 : (0 : Int) ≤ (p : Int) := Int.natCast_nonneg p
        have hp1 : (p : Int) < (L : Int) := by omega
        have hp2 : p < L := by omega
        have hq0 : (0 : Int) ≤ (q : Int) := Int.natCast_nonneg q
        have hk0 : (0 : Int) ≤ (k : Int) := Int.natCast_nonneg k
        have HL := Aside0.mk hL
        clear hL
        have hca : w2.cell? ⟨g, 0, none⟩ = some (.slice (some ⟨go, 0, none⟩) L cp) := (blk_cell HW2.out.blk 0).trans rfl
        have hcb : w2.cell? ⟨g, 1, none⟩ = some (.int .i64 f1) := (blk_cell HW2.out.blk 1).trans rfl
        have hne : ¬ go = g := HGO.out
        have hne' : ¬ g = go := fun e => HGO.out e.symm
        go_still_tail 25, (by kernel_rfl)
        change wpList _ _ _ _ _ w2.drew
        have HW3 : Aside0 (WSt w0 g (.slice (some ⟨go, 0, none⟩) L cp) o1 f1 w2.drew) := ⟨⟨HW2.out.blk, HW2.out.row, HW2.out.hg, below_drew1 HW2.out.bl⟩⟩
        have HF3 : Aside0 (Fro w g v0 w2.drew (.slice (some ⟨go, 0, none⟩) L cp)) := ⟨⟨HF2.out.keep, HF2.out.own⟩⟩
        replace hcz : w2.drew.cell? ⟨go, p, none⟩ = some (.int .u8 z) := hcz
        replace hfz : w2.drew.frozen? ⟨go, p, none⟩ = false := hfz
        clear hca hcb HW2 HF2
        generalize w2.drew = w3 at HW3 HF3 hcz hfz ⊢
        have hcb : w3.cell? ⟨g, 1, none⟩ = some (.int .i64 f1) := (blk_cell HW3.out.blk 1).trans rfl
        have hfb : w3.frozen? ⟨g, 1, none⟩ = false := blk_frozen HW3.out.blk 1
        go_wp2
        have hr := HM1.out.rng
        rw [← HZ.out] at hr
        have e1 := or_bit (k := k) hv0 hv1 hq7 hr.1 hr.2
        rw [e1]
        have hset : o1.set p (z + bit v k * 2 ^ q) = pk (B ++ nb v (k + 1)) := by rw [HP.out.1, ← HM1.out.put, HZ.out]
        have hput := Kd.R_putg HW3.out.row (p : Int) (z + bit v k * 2 ^ q)
        rw [Int.toNat_natCast, hset] at hput
        have hfn : f1 - 1 = fr (B ++ nb v (k + 1)).length := by rw [HP.out.2, HF1.out]; exact fr_next HQ.out
        rw [hfn]
        refine ⟨⟨k + 1, _, by omega, by go_num, ⟨⟨blk_put (blk_far HW3.out.blk hne' _) 1 _ rfl, Kd.R_far (p := ⟨g, 1, none⟩) hput.1 (fun _ hk => hk) _, HW3.out.hg, below_set (below_set HW3.out.bl hgb) HW3.out.hg⟩⟩, ⟨HF3.out.trans ⟨(KeepBut.of_grown hput.2 g).set_ 1 _, .inl rfl⟩⟩⟩, ?_⟩
        simp [intOf]
        omega
    · have hdec : decide ((k : Int) < n) = false := decide_eq_false (by omega)
      obtain rfl : k = n := by omega
      go_wp2
      exact bodyPost_end (v := .tuple #[]) (by simp [results, Try.results63, go_sem]) rfl ⟨v1, rfl, HW.out, HF.out⟩
end Go.Proofs.Ytpbhkdamkbopkaa.Wr
