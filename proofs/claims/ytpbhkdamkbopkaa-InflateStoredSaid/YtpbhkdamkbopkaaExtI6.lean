/- The walk of inflate's reader.stored: a block of plain bytes. -/
import Derived.Test.YtpbhkdamkbopkaaExtI5
namespace Go.Proofs.Ytpbhkdamkbopkaa.Inf
set_option linter.unusedSimpArgs false
set_option linter.unusedVariables false
open Go.RowKit Go.Proofs.Ytpbhkdamkbopkaa.Ext Go.Proofs.Ytpbhkdamkbopkaa.RefP Go.Proofs.YtpbhkdamkbopkaaW.PrintWords Go.Proofs.YtpbhkdamkbopkaaW.PrintLast Go.Proofs.YtpbhkdamkbopkaaW.PrintMore

theorem info5w : (Try.prog.info? 5).map (fun i => (i.zero, i.size, i.bytes)) = some (some (.int .u8 0), 1, 1) := by kernel_rfl
theorem ISt.seto {w0 w w1 : World} {g : Nat} {v v1 : Value} {s : ByteArray} {mx : Int} {x : St} {o1 : List Int} (h : ISt w0 g v s mx x w) (hr : Kd.R (Kd.int .u8) 5 w1 w0.heap.size (fun k => k ≠ g) v1 o1) (hb : Below w0.heap.size w0 w1) (hg : w.grownBy w1 v.ownBlock) :
    ISt w0 g v1 s mx ⟨x.p, o1, x.e⟩ (w1.setCell ⟨g, 2, none⟩ v1) := by
  obtain ⟨A, c, e⟩ := Kd.R_slice hr
  exact ⟨blk_put (blk_grown h.blk hg (Kd.R_ne h.row h.blk (by decide))) 2 _ (by rw [e]; rfl), Kd.R_far (p := ⟨g, 2, none⟩) hr (fun _ hk => hk) _, h.hg, below_set hb h.hg⟩
theorem Fro.seto {w w1 w2 : World} {g : Nat} {v v1 v2 : Value} (h : Fro w g v w1 v1) (hg : w1.grownBy w2 v1.ownBlock) (hn : v2.ownBlock = v1.ownBlock ∨ ∃ b, v2.ownBlock = some b ∧ w1.heap.size ≤ b) : Fro w g v (w2.setCell ⟨g, 2, none⟩ v2) v2 :=
  h.trans ⟨(KeepBut.of_grown hg g).set_ 2 _, hn⟩
theorem wrap_qn {s : ByteArray} {q n : Nat} (hs : s.size ≤ 17592186044416) (h : q + n ≤ s.size) : wrap64 ((q : Int) + (n : Int)) = (q : Int) + (n : Int) := wrap_in (by omega) (by omega)
theorem wrap_8n {s : ByteArray} {q n : Nat} (hs : s.size ≤ 17592186044416) (h : q + n ≤ s.size) : wrap64 (8 * (n : Int)) = 8 * (n : Int) := wrap_in (by omega) (by omega)
theorem wrap_p8n {s : ByteArray} {q n : Nat} {p : Int} (hs : s.size ≤ 17592186044416) (h : q + n ≤ s.size) (h0 : 0 ≤ p) (h1 : p ≤ 8 * s.size) : wrap64 (p + 8 * (n : Int)) = p + 8 * (n : Int) := wrap_in (by omega) (by omega)
theorem cut_run {s : ByteArray} {q n : Nat} (h : q + n ≤ s.size) : ∀ w', (Instr.slice 9 (.string s) (some (.int .i64 (q : Int))) (some (.int .i64 ((q : Int) + (n : Int)))) none).run Try.prog w' = .ok (.string (s.extract q (q + n))) w' := fun w' => by
  have h := run_slice_string (P := Try.prog) w' 9 s .i64 .i64 (q : Int) ((q : Int) + (n : Int)) Try.underlying9 (by omega) (by omega) (by omega)
  rw [show ((q : Int) + (n : Int)).toNat = q + n by omega, Int.toNat_natCast] at h
  exact h
theorem cut_size {s : ByteArray} {q n : Nat} (h : q + n ≤ s.size) : (s.extract q (q + n)).size = n := by rw [ByteArray.size_extract]; omega
theorem cut_bytes {s : ByteArray} {q n : Nat} (h : q + n ≤ s.size) : bytesOf (s.extract q (q + n)) = cut s q n := by
  refine List.ext_getElem? fun i => ?_
  by_cases hi : i < n
  · have h1 : (bytesOf (s.extract q (q + n)))[i]? = some (rd (bytesOf (s.extract q (q + n))) (i : Int)) := by
      unfold rd
      rw [Int.toNat_natCast, List.getD_eq_getElem?_getD, List.getElem?_eq_getElem (by rw [bytesOf_length, cut_size h]; exact hi)]
      rfl
    rw [h1, rd_bytesOf]
    unfold cut
    rw [List.getElem?_map, List.getElem?_range hi, Option.map_some]
    congr 1
    have h2 : (Int.toNat (i : Int)) < (s.extract q (q + n)).size := by rw [cut_size h]; simpa using hi
    have h3 : (Int.toNat ((q + i : Nat) : Int)) < s.size := by rw [Int.toNat_natCast]; omega
    unfold bt
    rw [dif_pos h2, dif_pos h3]
    simp [ByteArray.getElem_extract, show ((q : Int) + (i : Int)).toNat = q + i by omega]
  · rw [List.getElem?_eq_none (by rw [bytesOf_length, cut_size h]; omega), List.getElem?_eq_none (by unfold cut; simpa using hi)]
set_option maxRecDepth 100000 in
set_option maxHeartbeats 4000000 in
theorem stored_calls (w0 : World) (g : Nat) (v : Value) (s : ByteArray) (mx : Int) (x : St) (w : World) (hs : s.size ≤ 17592186044416) (ho : x.o.length ≤ 262144) (hmx : 0 ≤ mx ∧ mx ≤ 262144) (hx : Ok s x) (h : ISt w0 g v s mx x w) :
    Calls Try.prog 95 #[.pointer (some ⟨g, 0, none⟩)] w (Post w0 g v s mx w (.tuple #[]) (stored s mx x)) := by
  have HH := Aside0.mk h
  have hp0 := hx.p0
  have hp1 := hx.p1
  have hc1 := h.c1
  have hf1 := h.f 1
  obtain ⟨P, hP⟩ : ∃ P, P = (x.p + 7) / 8 * 8 := ⟨_, rfl⟩
  have hPr : 0 ≤ P ∧ P ≤ 8 * s.size := by omega
  have HS0 : Aside0 (ISt w0 g v s mx ⟨P, x.o, x.e⟩ (w.setCell ⟨g, 1, none⟩ (.int .i64 P))) := ⟨h.setp P⟩
  have HF0 : Aside0 (Fro w g v (w.setCell ⟨g, 1, none⟩ (.int .i64 P)) v) := ⟨(Fro.refl _ _ _).set 1 _⟩
  have hok0 : Ok s ⟨P, x.o, x.e⟩ := ⟨hPr.1, hPr.2, hx.e⟩
  obtain ⟨n1, x1, ha⟩ : ∃ n1 x1, bits s 16 ⟨P, x.o, x.e⟩ = (n1, x1) := ⟨_, _, rfl⟩
  obtain ⟨m1, x2, hb⟩ : ∃ m1 x2, bits s 16 x1 = (m1, x2) := ⟨_, _, rfl⟩
  obtain ⟨hok1, hn0, hn1, ho1, -, -⟩ := bits_get (n := 16) rfl hok0 (Nat.le_refl _) ha
  obtain ⟨hok2, -, -, ho2, -, -⟩ := bits_get (n := 16) rfl hok1 (Nat.le_refl _) hb
  have hl2 : x2.o.length ≤ 262144 := by rw [ho2, ho1]; exact ho
  replace hn1 : n1 < 65536 := hn1
  have HST : Aside0 (stored s mx x = if x2.e = 0 then (if Go.bits .xor .i64 n1 m1 = 65535 then (if (x2.o.length : Int) + n1 ≤ mx then (if n1 ≤ s.size - x2.p / 8 then ⟨x2.p + 8 * n1, x2.o ++ cut s (x2.p / 8).toNat n1.toNat, x2.e⟩ else fail x2 2) else fail x2 7) else fail x2 3) else x2) := ⟨by unfold stored; rw [← hP, ha]; dsimp only; rw [hb]⟩
  have HA := Aside0.mk ha
  have HB := Aside0.mk hb
  have O1 := Aside0.mk hok1
  have O2 := Aside0.mk hok2
  have hq0 := hok2.p0
  have hq1 := hok2.p1
  clear h ha hb hok0 hok1 hok2 ho1 ho2 hx
  go_enter Try.func95, Try.ntmps95
  go_upto_region 1 with fail
  rw [← hP]
  clear hc1 hf1 hP
  go_upto_region 2 with (first
    | (go_at_call 94; (with_reducible refine (bits_calls w0 g v s mx ⟨P, x.o, x.e⟩ 16 _ (by omega) (by show P ≤ _; omega) HS0.out).mono ?_); rw [HA.out]; rintro e w1 ⟨v1, rfl, hi, hf⟩; have HI1 := Aside0.mk hi; have HF1 := Aside0.mk (HF0.out.trans hf); clear hi hf HS0 HF0)
    | (go_at_call 94; (with_reducible refine (bits_calls w0 g _ s mx x1 16 _ (by omega) (by have := O1.out.p1; omega) HI1.out).mono ?_); rw [HB.out]; rintro e w2 ⟨v2, rfl, hi, hf⟩; have HI2 := Aside0.mk hi; have HF2 := Aside0.mk (HF1.out.trans hf); clear hi hf HI1 HF1))
  obtain ⟨A, c, rfl⟩ := Kd.R_slice HI2.out.row
  have hc4 := HI2.out.c4
  by_cases c0 : x2.e = 0
  · have d0 : (x2.e != 0) = false := by rw [c0]; rfl
    by_cases cx : Go.bits .xor .i64 n1 m1 = 65535
    · have dx : (Go.bits .xor .i64 n1 m1 != 65535) = false := by rw [cx]; rfl
      have hc2 := HI2.out.c2
      have hc3 := HI2.out.c3
      go_upto_region 5 with fail
      go_quiet (fail)
      generalize hw5 : World.drewN _ _ = w5
      have HI5 : Aside0 (ISt w0 g (.slice A x2.o.length c) s mx x2 w5) := ⟨by rw [← hw5]; exact HI2.out.below (pw_below_drewN (Below.refl _ _) _)⟩
      have HF5 : Aside0 (Fro w g v w5 (.slice A x2.o.length c)) := ⟨by rw [← hw5]; exact HF2.out.below (pw_below_drewN (Below.refl _ _) _)⟩
      clear hw5 hc2 hc3 hc4 HI2 HF2
      by_cases cm : (x2.o.length : Int) + n1 ≤ mx
      · have dm : decide ((x2.o.length : Int) + n1 > mx) = false := decide_eq_false (by omega)
        have hc1 := HI5.out.c1
        have hc0 := HI5.out.c0
        have et : Int.tdiv x2.p 8 = x2.p / 8 := Int.tdiv_eq_ediv_of_nonneg hq0
        by_cases cs : n1 ≤ s.size - x2.p / 8
        · have ds : decide ((s.size : Int) - x2.p / 8 < n1) = false := decide_eq_false (by omega)
          go_upto_region 10 with fail
          obtain ⟨q, hq⟩ : ∃ q : Nat, x2.p / 8 = (q : Int) := ⟨(x2.p / 8).toNat, by omega⟩
          obtain ⟨n, rfl⟩ : ∃ n : Nat, n1 = (n : Int) := ⟨n1.toNat, by omega⟩
          rw [hq] at cs ds et ⊢
          have hb2 : (q : Int) + (n : Int) ≤ (s.size : Int) := by omega
          have HQ := Aside0.mk hq
          have hbn : q + n ≤ s.size := by omega
          have HSL := Aside0.mk (cut_run hbn)
          have HEX : Aside0 (x2.o.length + (s.extract q (q + n)).size ≤ 140737488355328) := ⟨by rw [cut_size hbn]; omega⟩
          have hwq := wrap_qn hs hbn
          have HCM := Aside0.mk cm
          have HCS : Aside0 ((n : Int) ≤ s.size - x2.p / 8) := ⟨by rw [HQ.out]; exact cs⟩
          clear hq et ds dm hn0 hn1 cs cm
          refine start_ (n := 18) (S := fun w' => w'.cell? ⟨g, 2, none⟩ = some (.slice A x2.o.length c) ∧ w'.cell? ⟨g, 0, none⟩ = some (.string s)) (ds := [14, 17]) #[false, false, false, false, false, false, false, false, false, false, false, false, false, false, false, false, false, false] (by kernel_rfl) rfl rfl ⟨HI5.out.drew.c2, HI5.out.drew.c0⟩ (fun hHeld => ?_)
          have HI6 : Aside0 (ISt w0 g (.slice A x2.o.length c) s mx x2 w5.drew) := ⟨HI5.out.drew⟩; have HF6 : Aside0 (Fro w g v w5.drew (.slice A x2.o.length c)) := ⟨HF5.out.drew⟩; clear HI5 HF5 hc1 hc0; generalize w5.drew = w6 at HI6 HF6 hHeld ⊢
          refine pure_ (i := 0) (N := some 63) (v := ?_) (a' := ?_) #[true, false, false, false, false, false, false, false, false, false, false, false, false, false, false, false, false, false] rfl rfl (by kernel_rfl) (fun _ _ _ h => h) (Or.inl ⟨by rfl, ?_⟩) ?_ ?_
          rotate_left
          · intro w'
            go_simp
            with_reducible rfl
          rotate_left
          · simp only [Act.put, List.setIfInBounds_toArray, List.set_cons_zero, List.set_cons_succ, i64_w, i32_w]
            rfl
          refine pure_ (i := 1) (N := some 64) (v := ?_) (a' := ?_) #[true, true, false, false, false, false, false, false, false, false, false, false, false, false, false, false, false, false] rfl rfl (by kernel_rfl) (fun _ _ _ h => h) (Or.inl ⟨by rfl, ?_⟩) ?_ ?_
          rotate_left
          · intro w'
            go_simp
            with_reducible rfl
          rotate_left
          · simp only [Act.put, List.setIfInBounds_toArray, List.set_cons_zero, List.set_cons_succ, i64_w, i32_w]
            rfl
          refine pure_ (i := 2) (N := some 65) (v := ?_) (a' := ?_) #[true, true, true, false, false, false, false, false, false, false, false, false, false, false, false, false, false, false] rfl rfl (by kernel_rfl) (fun _ _ _ h => h) (Or.inl ⟨by rfl, ?_⟩) ?_ ?_
          rotate_left
          · intro w'
            go_simp
            with_reducible rfl
          rotate_left
          · simp only [Act.put, List.setIfInBounds_toArray, List.set_cons_zero, List.set_cons_succ, i64_w, i32_w]
            rfl
          refine pure_ (i := 3) (N := some 66) (v := ?_) (a' := ?_) #[true, true, true, true, false, false, false, false, false, false, false, false, false, false, false, false, false, false] rfl rfl (by kernel_rfl) (fun _ _ _ h => h) (Or.inl ⟨by rfl, ?_⟩) ?_ ?_
          rotate_left
          · intro w'
            go_simp
            with_reducible rfl
          rotate_left
          · simp only [Act.put, List.setIfInBounds_toArray, List.set_cons_zero, List.set_cons_succ, i64_w, i32_w]
            rfl
          refine take_ (i := 4) (N := some 67) (v := ?_) (a' := ?_) #[true, true, true, true, true, false, false, false, false, false, false, false, false, false, false, false, false, false] rfl rfl (by kernel_rfl) (fun _ _ _ h => h) (Or.inl ⟨by rfl, ?_⟩) hHeld ?_ ?_
          rotate_left
          · rintro w' ⟨s0, s1⟩
            go_simp
            with_reducible rfl
          rotate_left
          · simp only [Act.put, List.setIfInBounds_toArray, List.set_cons_zero, List.set_cons_succ, i64_w, i32_w]
            rfl
          refine pure_ (i := 5) (N := some 68) (v := ?_) (a' := ?_) #[true, true, true, true, true, true, false, false, false, false, false, false, false, false, false, false, false, false] rfl rfl (by kernel_rfl) (fun _ _ _ h => h) (Or.inl ⟨by rfl, ?_⟩) ?_ ?_
          rotate_left
          · intro w'
            go_simp
            with_reducible rfl
          rotate_left
          · simp only [Act.put, List.setIfInBounds_toArray, List.set_cons_zero, List.set_cons_succ, i64_w, i32_w]
            rfl
          refine pure_ (i := 6) (N := some 69) (v := ?_) (a' := ?_) #[true, true, true, true, true, true, true, false, false, false, false, false, false, false, false, false, false, false] rfl rfl (by kernel_rfl) (fun _ _ _ h => h) (Or.inl ⟨by rfl, ?_⟩) ?_ ?_
          rotate_left
          · intro w'
            go_simp
            with_reducible rfl
          rotate_left
          · simp only [Act.put, List.setIfInBounds_toArray, List.set_cons_zero, List.set_cons_succ, i64_w, i32_w]
            rfl
          refine pure_ (i := 7) (N := some 70) (v := ?_) (a' := ?_) #[true, true, true, true, true, true, true, true, false, false, false, false, false, false, false, false, false, false] rfl rfl (by kernel_rfl) (fun _ _ _ h => h) (Or.inl ⟨by rfl, ?_⟩) ?_ ?_
          rotate_left
          · intro w'
            go_simp
            with_reducible rfl
          rotate_left
          · simp only [Act.put, List.setIfInBounds_toArray, List.set_cons_zero, List.set_cons_succ, i64_w, i32_w]
            rfl
          refine take_ (i := 8) (N := some 71) (v := ?_) (a' := ?_) #[true, true, true, true, true, true, true, true, true, false, false, false, false, false, false, false, false, false] rfl rfl (by kernel_rfl) (fun _ _ _ h => h) (Or.inl ⟨by rfl, ?_⟩) hHeld ?_ ?_
          rotate_left
          · rintro w' ⟨s0, s1⟩
            go_simp
            with_reducible rfl
          rotate_left
          · simp only [Act.put, List.setIfInBounds_toArray, List.set_cons_zero, List.set_cons_succ, i64_w, i32_w]
            rfl
          refine pure_ (i := 9) (N := some 72) (v := ?_) (a' := ?_) #[true, true, true, true, true, true, true, true, true, true, false, false, false, false, false, false, false, false] rfl rfl (by kernel_rfl) (fun _ _ _ h => h) (Or.inl ⟨by rfl, ?_⟩) ?_ ?_
          rotate_left
          · intro w'
            go_simp
            with_reducible rfl
          rotate_left
          · simp only [Act.put, List.setIfInBounds_toArray, List.set_cons_zero, List.set_cons_succ, i64_w, i32_w]
            rfl
          refine pure_ (i := 10) (N := some 73) (v := ?_) (a' := ?_) #[true, true, true, true, true, true, true, true, true, true, true, false, false, false, false, false, false, false] rfl rfl (by kernel_rfl) (fun _ _ _ h => h) (Or.inl ⟨by rfl, ?_⟩) ?_ ?_
          rotate_left
          · intro w'
            go_simp
            with_reducible rfl
          rotate_left
          · simp only [Act.put, List.setIfInBounds_toArray, List.set_cons_zero, List.set_cons_succ, i64_w, i32_w]
            rfl
          refine pure_ (i := 11) (N := some 74) (v := ?_) (a' := ?_) #[true, true, true, true, true, true, true, true, true, true, true, true, false, false, false, false, false, false] rfl rfl (by kernel_rfl) (fun _ _ _ h => h) (Or.inl ⟨by rfl, ?_⟩) ?_ ?_
          rotate_left
          · intro w'
            go_simp
            with_reducible rfl
          rotate_left
          · simp only [Act.put, List.setIfInBounds_toArray, List.set_cons_zero, List.set_cons_succ, i64_w, i32_w]
            rfl
          refine pure_ (i := 12) (N := some 75) (v := ?_) (a' := ?_) #[true, true, true, true, true, true, true, true, true, true, true, true, true, false, false, false, false, false] rfl rfl (by kernel_rfl) (fun _ _ _ h => h) (Or.inl ⟨by rfl, ?_⟩) ?_ ?_
          rotate_left
          · intro w'
            go_simp
            with_reducible rfl
          rotate_left
          · simp only [Act.put, List.setIfInBounds_toArray, List.set_cons_zero, List.set_cons_succ, i64_w, i32_w]
            rfl
          refine pure_ (i := 13) (N := some 76) (v := ?_) (a' := ?_) #[true, true, true, true, true, true, true, true, true, true, true, true, true, true, false, false, false, false] rfl rfl (by kernel_rfl) (fun _ _ _ h => h) (Or.inl ⟨by rfl, ?_⟩) ?_ ?_
          rotate_left
          · intro w'
            go_simp
            rw [HSL.out]; rfl
          rotate_left
          · simp only [Act.put, List.setIfInBounds_toArray, List.set_cons_zero, List.set_cons_succ, i64_w, i32_w]
            rfl
          refine last_ (i := 14) (N := some 77) #[true, true, true, true, true, true, true, true, true, true, true, true, true, true, true, false, false, false] rfl rfl (by kernel_rfl) (by decide) (fun K hK => ?_)
          refine step_append_str (w0 := w0) w0.heap.size rfl (.tmp 67) (.tmp 76) 40 9 5 rfl Try.underlying40 Try.underlying9 info5w (.slice A x2.o.length c) x2.o _ (fun k => k ≠ g) rfl rfl HI6.out.row (fun k hk e => by have := HI6.out.glt; omega) HI6.out.bl HI6.out.bl.size HEX.out ?_
          intro v7 w7 hr7 hb7 hg7 hn7
          obtain ⟨o7, ho7⟩ : ∃ o7, o7 = x2.o ++ bytesOf (s.extract q (q + n)) := ⟨_, rfl⟩
          rw [← ho7] at hr7
          have HO7 := Aside0.mk ho7
          clear ho7
          obtain ⟨A7, c7, rfl⟩ := Kd.R_slice hr7
          have HI7 := Aside0.mk (HI6.out.seto hr7 hb7 hg7)
          have HF7 := Aside0.mk (HF6.out.seto hg7 hn7)
          refine hK.out _ _ ?_
          clear hK K
          refine norm_ (a' := ?_) ?_ ?_
          rotate_left
          · show Act.put _ (some 77) _ = _
            simp only [Act.put, List.setIfInBounds_toArray, List.set_cons_zero, List.set_cons_succ, i64_w, i32_w]
            rfl
          refine pure_ (i := 15) (N := some 78) (v := ?_) (a' := ?_) #[true, true, true, true, true, true, true, true, true, true, true, true, true, true, true, true, false, false] rfl rfl (by kernel_rfl) (fun _ _ _ h => h) (Or.inl ⟨by rfl, ?_⟩) ?_ ?_
          rotate_left
          · intro w'
            go_simp
            with_reducible rfl
          rotate_left
          · simp only [Act.put, List.setIfInBounds_toArray, List.set_cons_zero, List.set_cons_succ, i64_w, i32_w]
            rfl
          refine pure_ (i := 16) (N := some 79) (v := ?_) (a' := ?_) #[true, true, true, true, true, true, true, true, true, true, true, true, true, true, true, true, true, false] rfl rfl (by kernel_rfl) (fun _ _ _ h => h) (Or.inl ⟨by rfl, ?_⟩) ?_ ?_
          rotate_left
          · intro w'
            go_simp
            with_reducible rfl
          rotate_left
          · simp only [Act.put, List.setIfInBounds_toArray, List.set_cons_zero, List.set_cons_succ, i64_w, i32_w]
            rfl
          refine last_ (i := 17) (N := none) #[true, true, true, true, true, true, true, true, true, true, true, true, true, true, true, true, true, true] rfl rfl (by kernel_rfl) (by decide) (fun K hK => ?_)
          have hc7 : w7.cell? ⟨g, 2, none⟩ = some (.slice A x2.o.length c) := (blk_cell (blk_grown HI6.out.blk hg7 (Kd.R_ne HI6.out.row HI6.out.blk (by decide))) 2).trans rfl
          have hf7 := blk_frozen (blk_grown HI6.out.blk hg7 (Kd.R_ne HI6.out.row HI6.out.blk (by decide))) 2
          refine skip_ (w1 := ?_) (by rfl) rfl ?_ ?_
          rotate_left
          · go_simp
            rfl
          refine hK.out _ _ ?_
          clear hK K
          refine done_ (by kernel_rfl) ?_
          generalize w7.setCell ⟨g, 2, none⟩ _ = w8 at HI7 HF7 ⊢
          have hc1 := HI7.out.c1
          have hf1 := HI7.out.f 1
          have HQ2 := HQ.out
          have hw1 : wrap64 (8 * (n : Int)) = 8 * (n : Int) := wrap_8n hs hbn
          have hw2 : wrap64 (x2.p + 8 * (n : Int)) = x2.p + 8 * (n : Int) := wrap_p8n hs hbn hq0 hq1
          clear HQ2 hwq
          go_wp2
          exact bodyPost_end (v := .tuple #[]) (by simp [results, Try.results95, go_sem]) rfl ⟨_, rfl, by rw [HST.out, if_pos c0, if_pos cx, if_pos HCM.out, if_pos HCS.out, HQ.out, Int.toNat_natCast, Int.toNat_natCast, ← cut_bytes hbn, ← HO7.out]; exact HI7.out.setp _, HF7.out.set 1 _⟩
        · have ds : decide ((s.size : Int) - x2.p / 8 < n1) = true := decide_eq_true (by omega)
          go_wp2_with (go_at_call 100; (with_reducible refine (fail_calls w0 g _ s mx x2 2 _ HI5.out).mono ?_); rintro e w3 ⟨v3, rfl, hi, hf⟩; have HI3 := Aside0.mk hi; have HF3 := Aside0.mk (HF5.out.trans hf); clear hi hf)
          exact bodyPost_end (v := .tuple #[]) (by simp [results, Try.results95, go_sem]) rfl ⟨v3, rfl, by rw [HST.out, if_pos c0, if_pos cx, if_pos cm, if_neg (by omega)]; exact HI3.out, HF3.out⟩
      · have dm : decide ((x2.o.length : Int) + n1 > mx) = true := decide_eq_true (by omega)
        go_wp2_with (go_at_call 100; (with_reducible refine (fail_calls w0 g _ s mx x2 7 _ HI5.out).mono ?_); rintro e w3 ⟨v3, rfl, hi, hf⟩; have HI3 := Aside0.mk hi; have HF3 := Aside0.mk (HF5.out.trans hf); clear hi hf)
        exact bodyPost_end (v := .tuple #[]) (by simp [results, Try.results95, go_sem]) rfl ⟨v3, rfl, by rw [HST.out, if_pos c0, if_pos cx, if_neg (by omega)]; exact HI3.out, HF3.out⟩
    · have dx : (Go.bits .xor .i64 n1 m1 != 65535) = true := by simpa using cx
      go_wp2_with (go_at_call 100; (with_reducible refine (fail_calls w0 g _ s mx x2 3 _ HI2.out).mono ?_); rintro e w3 ⟨v3, rfl, hi, hf⟩; have HI3 := Aside0.mk hi; have HF3 := Aside0.mk (HF2.out.trans hf); clear hi hf)
      exact bodyPost_end (v := .tuple #[]) (by simp [results, Try.results95, go_sem]) rfl ⟨v3, rfl, by rw [HST.out, if_pos c0, if_neg cx]; exact HI3.out, HF3.out⟩
  · have d0 : (x2.e != 0) = true := by simpa using c0
    go_wp2
    exact bodyPost_end (v := .tuple #[]) (by simp [results, Try.results95, go_sem]) rfl ⟨_, rfl, by rw [HST.out, if_neg c0]; exact HI2.out, HF2.out⟩
end Go.Proofs.Ytpbhkdamkbopkaa.Inf
