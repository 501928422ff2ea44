/- The walk of inflate's reader.lengthen: lengths with what a symbol says. -/
import Derived.Test.YtpbhkdamkbopkaaExtI6
import Derived.Test.YtpbhkdamkbopkaaExtI4
namespace Go.Proofs.Ytpbhkdamkbopkaa.Inf
set_option linter.unusedSimpArgs false
set_option linter.unusedVariables false
open Go.RowKit Go.Proofs.Ytpbhkdamkbopkaa.Ext Go.Proofs.Ytpbhkdamkbopkaa.RefP Go.Proofs.YtpbhkdamkbopkaaW.PrintWords Go.Proofs.YtpbhkdamkbopkaaW.PrintLast Go.Proofs.YtpbhkdamkbopkaaW.PrintMore

/-- A reader, and a row of lengths of the call's own. -/
structure LSt (w0 : World) (g : Nat) (v : Value) (s : ByteArray) (mx : Int) (x : St) (u : Value) (l : List Int) (w : World) : Prop where
  i : ISt w0 g v s mx x w
  r : Kd.R (Kd.int .i64) 3 w w0.heap.size (fun _ => True) u l
/-- What else is in memory stays. -/
structure Fro2 (w : World) (g : Nat) (v u : Value) (w' : World) (v' u' : Value) : Prop where
  size : w.heap.size ≤ w'.heap.size
  keep : ∀ k, k < w.heap.size → k ≠ g → some k ≠ v.ownBlock → some k ≠ u.ownBlock → w'.heap[k]? = w.heap[k]?
  ov : v'.ownBlock = v.ownBlock ∨ ∃ b, v'.ownBlock = some b ∧ w.heap.size ≤ b
  ou : u'.ownBlock = u.ownBlock ∨ ∃ b, u'.ownBlock = some b ∧ w.heap.size ≤ b
section
variable {w0 w w' w2 : World} {g : Nat} {v v' v2 u u' u2 : Value} {s : ByteArray} {mx : Int} {x x' : St} {l l' : List Int}
theorem Fro2.refl (w : World) (g : Nat) (v u : Value) : Fro2 w g v u w v u := ⟨Nat.le_refl _, fun _ _ _ _ _ => rfl, .inl rfl, .inl rfl⟩
theorem Fro2.trans (h : Fro2 w g v u w' v' u') (k : Fro2 w' g v' u' w2 v2 u2) : Fro2 w g v u w2 v2 u2 := by
  refine ⟨Nat.le_trans h.size k.size, fun i hi h1 h2 h3 => ?_, ?_, ?_⟩
  · rw [← h.keep i hi h1 h2 h3]
    refine k.keep i (Nat.lt_of_lt_of_le hi h.size) h1 (fun e => ?_) (fun e => ?_)
    · rcases h.ov with o | ⟨b, o, hb⟩
      · exact h2 (e.trans o)
      · rw [o] at e; have := Option.some.inj e; omega
    · rcases h.ou with o | ⟨b, o, hb⟩
      · exact h3 (e.trans o)
      · rw [o] at e; have := Option.some.inj e; omega
  · rcases k.ov with e | ⟨b, e, hb⟩
    · rw [e]; exact h.ov
    · exact .inr ⟨b, e, Nat.le_trans h.size hb⟩
  · rcases k.ou with e | ⟨b, e, hb⟩
    · rw [e]; exact h.ou
    · exact .inr ⟨b, e, Nat.le_trans h.size hb⟩
theorem Fro2.step (h : Fro2 w g v u w' v' u') (k : Fro w' g v' w2 v2) : Fro2 w g v u w2 v2 u' :=
  h.trans ⟨k.keep.1, fun i hi h1 h2 _ => k.keep.2 i hi h1 h2, k.own, .inl rfl⟩
theorem Fro2.below (h : Fro2 w g v u w' v' u') (hb : Below w'.heap.size w' w2) : Fro2 w g v u w2 v' u' :=
  h.trans ⟨hb.size, fun i hi _ _ _ => hb.block i hi, .inl rfl, .inl rfl⟩
theorem Fro2.grow (h : Fro2 w g v u w' v' u') (hg : w'.grownBy w2 u'.ownBlock) (hn : u2.ownBlock = u'.ownBlock ∨ ∃ b, u2.ownBlock = some b ∧ w'.heap.size ≤ b) : Fro2 w g v u w2 v' u2 :=
  h.trans ⟨hg.size, fun i hi _ _ h3 => hg.block i hi h3, .inl rfl, hn⟩
theorem typed_ne {e f : Nat} {k j : IntKind} {ok1 ok2 : Nat → Prop} {base : Nat} {xs ys : List Int} (h : Kd.R (Kd.int k) e w base ok1 v xs) (h2 : Kd.R (Kd.int j) f w base ok2 u ys) (hef : e ≠ f) : ∀ q, v.ownBlock = some q → u.ownBlock ≠ some q := fun q hq hu => by
  obtain ⟨c1, h1⟩ := own_typed (R_nums h) q hq
  obtain ⟨c2, h2⟩ := own_typed (R_nums h2) q hu
  rw [h1] at h2
  injection h2 with h2
  injection h2 with _ h2
  exact hef h2
theorem LSt.ug (h : LSt w0 g v s mx x u l w) : u.ownBlock ≠ some g := fun e => by
  obtain ⟨c1, h1⟩ := own_typed (R_nums h.r) g e
  rw [h.i.blk] at h1
  injection h1 with h1
  injection h1 with _ h1
  exact absurd h1 (by decide)
theorem LSt.uv (h : LSt w0 g v s mx x u l w) : ∀ q, u.ownBlock = some q → v.ownBlock ≠ some q := typed_ne h.r h.i.row (by decide)
theorem LSt.below (h : LSt w0 g v s mx x u l w) (hb : Below w.heap.size w w') : LSt w0 g v s mx x u l w' := ⟨h.i.below hb, Kd.R_below h.r hb⟩
theorem LSt.drew (h : LSt w0 g v s mx x u l w) : LSt w0 g v s mx x u l w.drew := h.below (below_drew1 (Below.refl _ _))
theorem LSt.fro (h : LSt w0 g v s mx x u l w) (hf : Fro w g v w' v') (hi : ISt w0 g v' s mx x' w') : LSt w0 g v' s mx x' u l w' :=
  ⟨hi, Kd.R_reok rfl (Kd.R_step (Kd.R_tight rfl h.r) (fun k hk hlt => hf.keep.2 k hlt (fun e => h.ug (by rw [← e]; exact hk.symm)) (fun e => h.uv k hk.symm e.symm))) (fun _ _ => trivial)⟩
theorem LSt.grow (h : LSt w0 g v s mx x u l w) (hr : Kd.R (Kd.int .i64) 3 w' w0.heap.size (fun _ => True) u' l') (hb : Below w0.heap.size w0 w') (hg : w.grownBy w' u.ownBlock) : LSt w0 g v s mx x u' l' w' :=
  ⟨h.i.same (hg.block g h.i.glt (fun e => h.ug e.symm)) (fun k hk => hg.block k (h.i.own k hk).2 (fun e => h.uv k e.symm hk)) hb, hr⟩
theorem LSt.cellq {go q c : Nat} {la : Int} (h : LSt w0 g v s mx x u l w) (hu : u = .slice (some ⟨go, 0, none⟩) l.length c) (hq : q < l.length) (hla : l.getD q 0 = la) : w.cell? ⟨go, q, none⟩ = some (.int .i64 la) := by
  have hr := h.r
  rw [hu] at hr
  have := (Kd.R_celln (0 : Int) hr (q : Int) (by omega) (by omega)).1
  rw [Int.toNat_natCast] at this
  rw [this, ← hla]
  simp [rdOf]
end
/-- What lengthen leaves. -/
def LPost (w0 : World) (g : Nat) (v u : Value) (s : ByteArray) (mx : Int) (w : World) (l : List Int) (y : St) (e : Ending) (w' : World) : Prop :=
  ∃ v1 u1, e = .returned u1 ∧ LSt w0 g v1 s mx y u1 l w' ∧ Fro2 w g v u w' v1 u1

set_option maxRecDepth 100000 in
set_option maxHeartbeats 4000000 in
theorem lengthen_calls (w0 : World) (g : Nat) (v u : Value) (s : ByteArray) (mx : Int) (x : St) (l : List Int) (y : Int) (w : World) (hs : s.size ≤ 17592186044416) (hl : l.length ≤ 100000) (hx : Ok s x) (h : LSt w0 g v s mx x u l w) :
    Calls Try.prog 112 #[.pointer (some ⟨g, 0, none⟩), u, .int .i64 y] w (LPost w0 g v u s mx w (lengthen s l y x).1 (lengthen s l y x).2) := by
  obtain ⟨A, c, rfl⟩ := Kd.R_slice h.r
  have HH := Aside0.mk h
  have HX := Aside0.mk hx
  have hc4 := h.i.c4
  have HSB : Aside0 (s.size ≤ 140737488351232) := ⟨by omega⟩
  have HPB : Aside0 (x.p ≤ 9223372036854775807) := ⟨by have := hx.p1; omega⟩
  clear h
  by_cases c0 : x.e = 0
  · have d0 : (x.e != 0) = false := by rw [c0]; rfl
    by_cases c16 : y = 16
    · have d16 : (y == 16) = true := by rw [c16]; rfl
      by_cases cl : l.length = 0
      · have dl : (((l.length : Nat) : Int) == 0) = true := by rw [cl]; rfl
        have hres : lengthen s l y x = (l, fail x 3) := by unfold lengthen; rw [if_pos c0, if_pos c16, if_pos cl]
        rw [hres]
        have HR0 := Aside0.mk (Fro2.refl w g v (.slice A l.length c))
        go_enter Try.func112, Try.ntmps112
        go_wp2_with (go_at_call 100; (with_reducible refine (fail_calls w0 g v s mx x 3 _ HH.out.i).mono ?_); rintro e w2 ⟨v2, rfl, hi, hf⟩; have HL2 := Aside0.mk (HH.out.fro hf hi); have HF2 := Aside0.mk (HR0.out.step hf); clear hi hf)
        exact bodyPost_ret (v := .slice A l.length c) (by simp [results, Try.results112, go_sem]; omega) rfl ⟨v2, _, rfl, HL2.out, HF2.out⟩
      · have dl : (((l.length : Nat) : Int) == 0) = false := beq_eq_false_iff_ne.2 (by omega)
        obtain ⟨go, cp, hu, _, hgo, hcp⟩ := row_form HH.out.r (by omega)
        injection hu with hu1 hu2 hu3
        subst hu1
        subst hu3
        obtain ⟨q, hq⟩ : ∃ q, l.length = q + 1 := ⟨l.length - 1, by omega⟩
        obtain ⟨la, hla⟩ : ∃ la, la = l.getD q 0 := ⟨_, rfl⟩
        obtain ⟨m, x2, ha⟩ : ∃ m x2, bits s 2 x = (m, x2) := ⟨_, _, rfl⟩
        obtain ⟨hok2, hm0, hm1, -, -, -⟩ := bits_get (n := 2) rfl hx (by decide) ha
        replace hm1 : m < 4 := hm1
        obtain ⟨N, hN⟩ : ∃ N : Nat, 3 + m = (N : Int) := ⟨(3 + m).toNat, by omega⟩
        have HN : Aside0 (1 ≤ N ∧ N ≤ 65536) := ⟨by omega⟩
        have hres : lengthen s l y x = (l ++ List.replicate N la, x2) := by unfold lengthen; rw [if_pos c0, if_pos c16, if_neg cl, ha, hN, Int.toNat_natCast, hq, Nat.add_sub_cancel, ← hla]
        have HRES := Aside0.mk hres
        have HA := Aside0.mk ha
        have HNN := Aside0.mk hN
        have HLA := Aside0.mk hla.symm
        have HQ : Aside0 ((Value.slice (some ⟨go, 0, none⟩) l.length c) = .slice (some ⟨go, 0, none⟩) l.length c) := ⟨rfl⟩
        have hql : q < l.length := by omega
        have hqi : wrap64 (q : Int) = (q : Int) := wrap_in (by omega) (by omega)
        have hqt : ((q : Int) < (q : Int) + 1) = True := eq_true (by omega)
        have hmi : wrap64 (3 + m) = (N : Int) := by rw [hN]; exact wrap_in (by omega) (by omega)
        have HL1 : Aside0 (LSt w0 g v s mx x (.slice (some ⟨go, 0, none⟩) l.length c) l w.drew) := ⟨HH.out.drew⟩
        have HF1 : Aside0 (Fro2 w g v (.slice (some ⟨go, 0, none⟩) l.length c) w.drew v (.slice (some ⟨go, 0, none⟩) l.length c)) := ⟨(Fro2.refl _ _ _ _).below (below_drew1 (Below.refl _ _))⟩
        have hS0 : w.drew.cell? ⟨go, q, none⟩ = some (.int .i64 la) := HL1.out.cellq HQ.out hql HLA.out
        clear ha hN hla hres hok2 hx
        go_enter Try.func112, Try.ntmps112
        go_upto_region 10 with fail
        focus
          refine start_ (n := 11) (S := fun w' => w'.cell? ⟨go, q, none⟩ = some (.int .i64 la)) (ds := []) #[false, false, false, false, false, false, false, false, false, false, false] (by kernel_rfl) rfl rfl hS0 (fun hHeld => ?_)
          generalize w.drew = w1 at hHeld HL1 HF1 ⊢
          refine pure_ (i := 0) (N := some 28) (v := ?_) (a' := ?_) #[true, false, false, false, false, false, false, false, false, false, false] rfl rfl (by kernel_rfl) (fun _ _ _ h => h) (Or.inl ⟨by rfl, ?_⟩) ?_ ?_
          rotate_left
          · intro w'
            go_simp
            with_reducible rfl
          rotate_left
          · simp only [Act.put, List.setIfInBounds_toArray, List.set_cons_zero, List.set_cons_succ, i64_w, i32_w]
            rfl
          refine pure_ (i := 1) (N := some 29) (v := ?_) (a' := ?_) #[true, true, false, false, false, false, false, false, false, false, false] rfl rfl (by kernel_rfl) (fun _ _ _ h => h) (Or.inl ⟨by rfl, ?_⟩) ?_ ?_
          rotate_left
          · intro w'
            go_simp
            with_reducible rfl
          rotate_left
          · simp only [Act.put, List.setIfInBounds_toArray, List.set_cons_zero, List.set_cons_succ, i64_w, i32_w]
            rfl
          refine pure_ (i := 2) (N := some 30) (v := ?_) (a' := ?_) #[true, true, true, false, false, false, false, false, false, false, false] rfl rfl (by kernel_rfl) (fun _ _ _ h => h) (Or.inl ⟨by rfl, ?_⟩) ?_ ?_
          rotate_left
          · intro w'
            go_simp
            with_reducible rfl
          rotate_left
          · simp only [Act.put, List.setIfInBounds_toArray, List.set_cons_zero, List.set_cons_succ, i64_w, i32_w]
            rfl
          refine pure_ (i := 3) (N := some 31) (v := ?_) (a' := ?_) #[true, true, true, true, false, false, false, false, false, false, false] rfl rfl (by kernel_rfl) (fun _ _ _ h => h) (Or.inl ⟨by rfl, ?_⟩) ?_ ?_
          rotate_left
          · intro w'
            go_simp
            with_reducible rfl
          rotate_left
          · simp only [Act.put, List.setIfInBounds_toArray, List.set_cons_zero, List.set_cons_succ, i64_w, i32_w]
            rfl
          refine pure_ (i := 4) (N := some 32) (v := ?_) (a' := ?_) #[true, true, true, true, true, false, false, false, false, false, false] rfl rfl (by kernel_rfl) (fun _ _ _ h => h) (Or.inl ⟨by rfl, ?_⟩) ?_ ?_
          rotate_left
          · intro w'
            go_simp
            with_reducible rfl
          rotate_left
          · simp only [Act.put, List.setIfInBounds_toArray, List.set_cons_zero, List.set_cons_succ, i64_w, i32_w]
            rfl
          refine take_ (i := 5) (N := some 33) (v := ?_) (a' := ?_) #[true, true, true, true, true, true, false, false, false, false, false] rfl rfl (by kernel_rfl) (fun _ _ _ h => h) (Or.inl ⟨by rfl, ?_⟩) hHeld ?_ ?_
          rotate_left
          · rintro w' s0
            go_simp
            with_reducible rfl
          rotate_left
          · simp only [Act.put, List.setIfInBounds_toArray, List.set_cons_zero, List.set_cons_succ, i64_w, i32_w]
            rfl
          refine pure_ (i := 6) (N := some 34) (v := ?_) (a' := ?_) #[true, true, true, true, true, true, true, false, false, false, false] rfl rfl (by kernel_rfl) (fun _ _ _ h => h) (Or.inl ⟨by rfl, ?_⟩) ?_ ?_
          rotate_left
          · intro w'
            go_simp
            with_reducible rfl
          rotate_left
          · simp only [Act.put, List.setIfInBounds_toArray, List.set_cons_zero, List.set_cons_succ, i64_w, i32_w]
            rfl
          refine one_ (i := 7) (N := some 35) #[true, true, true, true, true, true, true, true, false, false, false] rfl rfl (by kernel_rfl) (by decide) (fun K hK => ?_)
          refine goes_ Try.func94 (by kernel_rfl) rfl #[.pointer (some ⟨g, 0, none⟩), .int .i64 2] (by rfl) rfl rfl (by (try simp only [List.map_toArray, List.map_cons, List.map_nil]); first | done | rfl) ?_
          (with_reducible refine (bits_calls w0 g v s mx x 2 _ HSB.out HPB.out HL1.out.i).mono ?_)
          rw [HA.out]
          rintro e w2 ⟨v2, rfl, hi, hf⟩
          have HL2 := Aside0.mk (HL1.out.fro hf hi)
          have HF2 := Aside0.mk (HF1.out.step hf)
          have hS2 : w2.cell? ⟨go, q, none⟩ = some (.int .i64 la) := (HL2.out.cellq HQ.out hql HLA.out)
          refine ⟨_, rfl, ?_⟩
          refine hK.out _ _ hS2 (fun hHeld => ?_)
          clear hK K
          refine norm_ (a' := ?_) ?_ ?_
          rotate_left
          · show Act.put _ (some 35) _ = _
            simp only [Act.put, List.setIfInBounds_toArray, List.set_cons_zero, List.set_cons_succ, i64_w, i32_w]
            rfl
          refine pure_ (i := 8) (N := some 36) (v := ?_) (a' := ?_) #[true, true, true, true, true, true, true, true, true, false, false] rfl rfl (by kernel_rfl) (fun _ _ _ h => h) (Or.inl ⟨by rfl, ?_⟩) ?_ ?_
          rotate_left
          · intro w'
            go_simp
            with_reducible rfl
          rotate_left
          · simp only [Act.put, List.setIfInBounds_toArray, List.set_cons_zero, List.set_cons_succ, i64_w, i32_w]
            rfl
          refine pure_ (i := 9) (N := some 7) (v := ?_) (a' := ?_) #[true, true, true, true, true, true, true, true, true, true, false] rfl rfl (by kernel_rfl) (fun _ _ _ h => h) (Or.inl ⟨by rfl, ?_⟩) ?_ ?_
          rotate_left
          · intro w'
            go_simp
            with_reducible rfl
          rotate_left
          · simp only [Act.put, List.setIfInBounds_toArray, List.set_cons_zero, List.set_cons_succ, i64_w, i32_w]
            rfl
          refine pure_ (i := 10) (N := some 8) (v := ?_) (a' := ?_) #[true, true, true, true, true, true, true, true, true, true, true] rfl rfl (by kernel_rfl) (fun _ _ _ h => h) (Or.inl ⟨by rfl, ?_⟩) ?_ ?_
          rotate_left
          · intro w'
            go_simp
            with_reducible rfl
          rotate_left
          · simp only [Act.put, List.setIfInBounds_toArray, List.set_cons_zero, List.set_cons_succ, i64_w, i32_w]
            rfl
          refine done_ (by kernel_rfl) ?_
          clear hqi hqt hq hmi
          have HSZ : Aside0 ((l.length + N) * 8 ≤ 140737488355328) := ⟨by have := HN.out.2; omega⟩
          have HX1 : Aside0 ((w2.alloc (.cells #[.int .i64 (la)] 3)).cell? ((⟨w2.heap.size, 0, none⟩ : Addr).add 0) = some (.int .i64 (la))) := ⟨by rw [add_at]; exact (blk_cell (blk_new _ _) 0).trans rfl⟩
          go_wp2_with (first
            | (go_at_call 109; (refine (repeat_calls _ 1 (la) N _ HN.out.1 HN.out.2 HX1.out).mono ?_); rintro e w3 ⟨ur, rfl, hru, hb3⟩; have HU3 := Aside0.mk hru; have HB3 := Aside0.mk (below_step (below_alloc (Below.refl w2.heap.size w2) (.cells #[.int .i64 (la)] 3)) hb3); clear hru hb3; obtain ⟨Ar, cr, rfl⟩ := Kd.R_slice HU3.out; have HL3 := Aside0.mk (HL2.out.below HB3.out); have HF3 := Aside0.mk (HF2.out.below HB3.out); have hrd := (Kd.R_reads' HU3.out).2.2; rw [List.length_replicate] at hrd ⊢; have HRD := Aside0.mk hrd; clear hrd)
            | ((with_reducible refine gate_builtin (b := .append) (xs := #[.tmp 47, .tmp 51]) rfl ?_); at_builtin; refine Kd.R_append_rows (Kd.int .i64) (w0 := w0) w0.heap.size rfl (.tmp 47) (.tmp 51) 22 3 (.int .i64 0) 8 rfl Try.underlying22 info3n rfl (by decide) (by decide) (.slice (some ⟨go, 0, none⟩) l.length c) l (List.replicate N (la)) Ar N cr (fun _ => True) (fun _ => False) rfl rfl HL3.out.r HRD.out (fun _ _ hk => hk) (fun _ hk => hk.elim) (fun _ _ => trivial) HL3.out.i.bl HL3.out.i.bl.size HSZ.out ?_; intro v5 w5 hr5 hb5 hg5 hn5; have HL5 := Aside0.mk (HL3.out.grow hr5 hb5 hg5); have HF5 := Aside0.mk (HF3.out.grow hg5 hn5); clear hr5 hb5 hg5 hn5))
          exact bodyPost_ret (v := v5) (by simp [results, Try.results112, go_sem]) rfl ⟨v2, v5, rfl, by rw [HRES.out]; exact HL5.out, HF5.out⟩
    · have d16 : (y == 16) = false := beq_eq_false_iff_ne.2 c16
      by_cases c17 : y = 17
      · have d17 : (y == 17) = true := by rw [c17]; rfl
        obtain ⟨m, x2, ha⟩ : ∃ m x2, bits s 3 x = (m, x2) := ⟨_, _, rfl⟩
        obtain ⟨hok2, hm0, hm1, -, -, -⟩ := bits_get (n := 3) rfl hx (by decide) ha
        replace hm1 : m < 8 := hm1
        obtain ⟨N, hN⟩ : ∃ N : Nat, 3 + m = (N : Int) := ⟨(3 + m).toNat, by omega⟩
        have HN : Aside0 (1 ≤ N ∧ N ≤ 65536) := ⟨by omega⟩
        have hres : lengthen s l y x = (l ++ List.replicate N 0, x2) := by unfold lengthen; rw [if_pos c0, if_neg c16, if_pos c17, ha, hN, Int.toNat_natCast]
        have HRES := Aside0.mk hres
        have HA := Aside0.mk ha
        have HNN := Aside0.mk hN
        have HF0 : Aside0 (Fro2 w g v (.slice A l.length c) w v (.slice A l.length c)) := ⟨Fro2.refl _ _ _ _⟩
        clear ha hN hres hok2
        go_enter Try.func112, Try.ntmps112
        go_upto_region 15 with (go_at_call 94; (with_reducible refine (bits_calls w0 g v s mx x 3 _ HSB.out HPB.out HH.out.i).mono ?_); rw [HA.out]; rintro e w2 ⟨v2, rfl, hi, hf⟩; have HL2 := Aside0.mk (HH.out.fro hf hi); have HF2 := Aside0.mk (HF0.out.step hf); clear hi hf)
        rw [HNN.out]
        clear HNN hm0 hm1
        have HSZ : Aside0 ((l.length + N) * 8 ≤ 140737488355328) := ⟨by have := HN.out.2; omega⟩
        have HX1 : Aside0 ((w2.alloc (.cells #[.int .i64 (0)] 3)).cell? ((⟨w2.heap.size, 0, none⟩ : Addr).add 0) = some (.int .i64 (0))) := ⟨by rw [add_at]; exact (blk_cell (blk_new _ _) 0).trans rfl⟩
        go_wp2_with (first
          | (go_at_call 109; (refine (repeat_calls _ 1 (0) N _ HN.out.1 HN.out.2 HX1.out).mono ?_); rintro e w3 ⟨ur, rfl, hru, hb3⟩; have HU3 := Aside0.mk hru; have HB3 := Aside0.mk (below_step (below_alloc (Below.refl w2.heap.size w2) (.cells #[.int .i64 (0)] 3)) hb3); clear hru hb3; obtain ⟨Ar, cr, rfl⟩ := Kd.R_slice HU3.out; have HL3 := Aside0.mk (HL2.out.below HB3.out); have HF3 := Aside0.mk (HF2.out.below HB3.out); have hrd := (Kd.R_reads' HU3.out).2.2; rw [List.length_replicate] at hrd ⊢; have HRD := Aside0.mk hrd; clear hrd)
          | ((with_reducible refine gate_builtin (b := .append) (xs := #[.tmp 47, .tmp 51]) rfl ?_); at_builtin; refine Kd.R_append_rows (Kd.int .i64) (w0 := w0) w0.heap.size rfl (.tmp 47) (.tmp 51) 22 3 (.int .i64 0) 8 rfl Try.underlying22 info3n rfl (by decide) (by decide) (.slice A l.length c) l (List.replicate N (0)) Ar N cr (fun _ => True) (fun _ => False) rfl rfl HL3.out.r HRD.out (fun _ _ hk => hk) (fun _ hk => hk.elim) (fun _ _ => trivial) HL3.out.i.bl HL3.out.i.bl.size HSZ.out ?_; intro v5 w5 hr5 hb5 hg5 hn5; have HL5 := Aside0.mk (HL3.out.grow hr5 hb5 hg5); have HF5 := Aside0.mk (HF3.out.grow hg5 hn5); clear hr5 hb5 hg5 hn5))
        exact bodyPost_ret (v := v5) (by simp [results, Try.results112, go_sem]) rfl ⟨v2, v5, rfl, by rw [HRES.out]; exact HL5.out, HF5.out⟩
      · have d17 : (y == 17) = false := beq_eq_false_iff_ne.2 c17
        by_cases c18 : y = 18
        · have d18 : (y == 18) = true := by rw [c18]; rfl
          obtain ⟨m, x2, ha⟩ : ∃ m x2, bits s 7 x = (m, x2) := ⟨_, _, rfl⟩
          obtain ⟨hok2, hm0, hm1, -, -, -⟩ := bits_get (n := 7) rfl hx (by decide) ha
          replace hm1 : m < 128 := hm1
          obtain ⟨N, hN⟩ : ∃ N : Nat, 11 + m = (N : Int) := ⟨(11 + m).toNat, by omega⟩
          have HN : Aside0 (1 ≤ N ∧ N ≤ 65536) := ⟨by omega⟩
          have hres : lengthen s l y x = (l ++ List.replicate N 0, x2) := by unfold lengthen; rw [if_pos c0, if_neg c16, if_neg c17, if_pos c18, ha, hN, Int.toNat_natCast]
          have HRES := Aside0.mk hres
          have HA := Aside0.mk ha
          have HNN := Aside0.mk hN
          have HF0 : Aside0 (Fro2 w g v (.slice A l.length c) w v (.slice A l.length c)) := ⟨Fro2.refl _ _ _ _⟩
          clear ha hN hres hok2
          go_enter Try.func112, Try.ntmps112
          go_upto_region 15 with (go_at_call 94; (with_reducible refine (bits_calls w0 g v s mx x 7 _ HSB.out HPB.out HH.out.i).mono ?_); rw [HA.out]; rintro e w2 ⟨v2, rfl, hi, hf⟩; have HL2 := Aside0.mk (HH.out.fro hf hi); have HF2 := Aside0.mk (HF0.out.step hf); clear hi hf)
          rw [HNN.out]
          clear HNN hm0 hm1
          have HSZ : Aside0 ((l.length + N) * 8 ≤ 140737488355328) := ⟨by have := HN.out.2; omega⟩
          have HX1 : Aside0 ((w2.alloc (.cells #[.int .i64 (0)] 3)).cell? ((⟨w2.heap.size, 0, none⟩ : Addr).add 0) = some (.int .i64 (0))) := ⟨by rw [add_at]; exact (blk_cell (blk_new _ _) 0).trans rfl⟩
          go_wp2_with (first
            | (go_at_call 109; (refine (repeat_calls _ 1 (0) N _ HN.out.1 HN.out.2 HX1.out).mono ?_); rintro e w3 ⟨ur, rfl, hru, hb3⟩; have HU3 := Aside0.mk hru; have HB3 := Aside0.mk (below_step (below_alloc (Below.refl w2.heap.size w2) (.cells #[.int .i64 (0)] 3)) hb3); clear hru hb3; obtain ⟨Ar, cr, rfl⟩ := Kd.R_slice HU3.out; have HL3 := Aside0.mk (HL2.out.below HB3.out); have HF3 := Aside0.mk (HF2.out.below HB3.out); have hrd := (Kd.R_reads' HU3.out).2.2; rw [List.length_replicate] at hrd ⊢; have HRD := Aside0.mk hrd; clear hrd)
            | ((with_reducible refine gate_builtin (b := .append) (xs := #[.tmp 47, .tmp 51]) rfl ?_); at_builtin; refine Kd.R_append_rows (Kd.int .i64) (w0 := w0) w0.heap.size rfl (.tmp 47) (.tmp 51) 22 3 (.int .i64 0) 8 rfl Try.underlying22 info3n rfl (by decide) (by decide) (.slice A l.length c) l (List.replicate N (0)) Ar N cr (fun _ => True) (fun _ => False) rfl rfl HL3.out.r HRD.out (fun _ _ hk => hk) (fun _ hk => hk.elim) (fun _ _ => trivial) HL3.out.i.bl HL3.out.i.bl.size HSZ.out ?_; intro v5 w5 hr5 hb5 hg5 hn5; have HL5 := Aside0.mk (HL3.out.grow hr5 hb5 hg5); have HF5 := Aside0.mk (HF3.out.grow hg5 hn5); clear hr5 hb5 hg5 hn5))
          exact bodyPost_ret (v := v5) (by simp [results, Try.results112, go_sem]) rfl ⟨v2, v5, rfl, by rw [HRES.out]; exact HL5.out, HF5.out⟩
        · have d18 : (y == 18) = false := beq_eq_false_iff_ne.2 c18
          have hres : lengthen s l y x = (l ++ [y], x) := by unfold lengthen; rw [if_pos c0, if_neg c16, if_neg c17, if_neg c18]
          have HRES := Aside0.mk hres
          have HSZ : Aside0 ((l.length + 1) * 8 ≤ 140737488355328) := ⟨by omega⟩
          have HF0 : Aside0 (Fro2 w g v (.slice A l.length c) w v (.slice A l.length c)) := ⟨Fro2.refl _ _ _ _⟩
          clear hres
          go_enter Try.func112, Try.ntmps112
          go_wp2_with ((with_reducible refine gate_builtin (b := .append) (xs := #[.tmp 16, .tmp 18]) rfl ?_); at_builtin; refine Kd.R_append (Kd.int .i64) (w0 := w0) w0.heap.size rfl (.tmp 16) (.tmp 18) 22 3 (.int .i64 0) 8 rfl Try.underlying22 info3n rfl (by decide) (by decide) (.slice A l.length c) l y [.int .i64 y] (fun _ => True) (fun _ => False) rfl rfl rfl (fun _ hk => hk.elim) (fun _ _ => trivial) HH.out.r HH.out.i.bl HH.out.i.bl.size HSZ.out ?_; intro v5 w5 hr5 hb5 hg5 hn5; have HL5 := Aside0.mk (HH.out.grow hr5 hb5 hg5); have HF5 := Aside0.mk (HF0.out.grow hg5 hn5); clear hr5 hb5 hg5 hn5)
          exact bodyPost_ret (v := v5) (by simp [results, Try.results112, go_sem]) rfl ⟨v, v5, rfl, by rw [HRES.out]; exact HL5.out, HF5.out⟩
  · have d0 : (x.e != 0) = true := by simpa using c0
    have hres : lengthen s l y x = (l, x) := by unfold lengthen; rw [if_neg c0]
    rw [hres]
    go_enter Try.func112, Try.ntmps112
    go_wp2
    exact bodyPost_ret (v := .slice A l.length c) (by simp [results, Try.results112, go_sem]) rfl ⟨v, _, rfl, HH.out, Fro2.refl _ _ _ _⟩
end Go.Proofs.Ytpbhkdamkbopkaa.Inf
