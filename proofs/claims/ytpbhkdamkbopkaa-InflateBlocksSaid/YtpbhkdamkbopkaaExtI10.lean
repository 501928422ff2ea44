/- The walk of inflate's reader.lengths: both codes' lengths of a block. -/
import Derived.Test.YtpbhkdamkbopkaaExtI8
import Derived.Test.YtpbhkdamkbopkaaExtI7
import Derived.Test.YtpbhkdamkbopkaaExtI4
namespace Go.Proofs.Ytpbhkdamkbopkaa.Inf
set_option linter.unusedSimpArgs false
set_option linter.unusedVariables false
open Go.RowKit Go.Proofs.Ytpbhkdamkbopkaa.Ext Go.Proofs.Ytpbhkdamkbopkaa.RefP Go.Proofs.YtpbhkdamkbopkaaW.PrintWords Go.Proofs.YtpbhkdamkbopkaaW.PrintLast Go.Proofs.YtpbhkdamkbopkaaW.PrintMore

/-- Kept, whatever a reader and a row of the call's own turn. -/
def Kep (w : World) (g : Nat) (v u : Value) (P : World → Prop) : Prop := ∀ W' v' u', Fro2 w g v u W' v' u' → P W'
theorem Kep.step {w w' : World} {g : Nat} {v u v' u' : Value} {P : World → Prop} (h : Kep w g v u P) (k : Fro2 w g v u w' v' u') : Kep w' g v' u' P := fun W v2 u2 h2 => h W v2 u2 (k.trans h2)
theorem Kep.now {w : World} {g : Nat} {v u : Value} {P : World → Prop} (h : Kep w g v u P) : P w := h w v u (Fro2.refl _ _ _ _)
/-- A block that is neither. -/
theorem kep_blk {w : World} {g : Nat} {v u : Value} {b : Nat} {o : Obj} (hb : w.heap[b]? = some o) (hg : b ≠ g) (hv : v.ownBlock ≠ some b) (hu : u.ownBlock ≠ some b) : Kep w g v u (fun W => W.heap[b]? = some o) := fun W' v' u' h =>
  (h.keep b (blk_lt hb) hg (fun e => hv e.symm) (fun e => hu e.symm)).trans hb
/-- A foot, the row being nil yet. -/
theorem kep_foot {w : World} {g : Nat} {v : Value} {A : Option Addr} {l : List Int} (h : Foot w g v A l) : Kep w g v (.slice none 0 0) (fun W => Kd.C (Kd.int .i64) W A l.length l) := fun W' v' u' hf =>
  h W' ⟨hf.size, fun i hi h1 h2 => hf.keep i hi h1 h2 (by simp [Value.ownBlock])⟩
def orderL : List Int := [16, 17, 18, 0, 8, 7, 9, 6, 10, 5, 11, 4, 12, 3, 13, 2, 14, 1, 15]
theorem order_at : ∀ i : Nat, i < 19 → orderL.getD i 0 = ((order.getD i 0 : Nat) : Int) ∧ order.getD i 0 < 19 := by decide
theorem owns_next (s : ByteArray) : ∀ (t : List Nat) (i : Nat) (own : List Int) (x : St), owns s (t ++ [i]) own x = ((owns s t own x).1.set i (bits s 3 (owns s t own x).2).1, (bits s 3 (owns s t own x).2).2) := by
  intro t
  induction t with
  | nil => intro i own x; rfl
  | cons a t ih => intro i own x; exact ih i _ _
theorem owns_len (s : ByteArray) : ∀ (t : List Nat) (own : List Int) (x : St), (owns s t own x).1.length = own.length := by
  intro t
  induction t with
  | nil => intro own x; rfl
  | cons a t ih => intro own x; show (owns s t _ _).1.length = _; rw [ih, List.length_set]
theorem owns_ok (s : ByteArray) : ∀ (t : List Nat) (own : List Int) (x : St), Ok s x → Ok s (owns s t own x).2 ∧ (owns s t own x).2.o = x.o := by
  intro t
  induction t with
  | nil => intro own x h; exact ⟨h, rfl⟩
  | cons a t ih =>
    intro own x h
    obtain ⟨h1, _, _, h2, _, _⟩ := bits_get (n := 3) (k := 3) (m := (bits s 3 x).1) (y := (bits s 3 x).2) rfl h (by decide) rfl
    have := ih (own.set a (bits s 3 x).1) (bits s 3 x).2 h1
    exact ⟨this.1, this.2.trans h2⟩
theorem order_take (i : Nat) (h : i < 19) : order.take (i + 1) = order.take i ++ [order.getD i 0] := by
  rw [List.take_succ_eq_append_getElem (show i < order.length from h)]
  simp [List.getD_eq_getElem?_getD, show i < order.length from h]

theorem tak_p {s : ByteArray} {x : St} {lo hi : Int} {r : Int × Int × Int} (hlo : 0 ≤ lo) (hg : Good s x.p lo hi r) : x.p ≤ (tak x r).2.p := by
  unfold tak
  by_cases c : x.e = 0
  · rw [if_pos c]
    rcases hg with ⟨h1, h2, h3, h4, h5, h6⟩ | rfl | rfl
    · rw [if_pos h1]; show x.p ≤ r.2.1; omega
    · exact Int.le_refl _
    · exact Int.le_refl _
  · rw [if_neg c]; exact Int.le_refl _
theorem bits_p {s : ByteArray} {x : St} (n : Nat) (hx : Ok s x) (hn : n ≤ 16) : x.p ≤ (bits s (n : Int) x).2.p := tak_p (Int.natCast_nonneg n) (bits_some s x.p n hx.p0 hn)
theorem next_p {s : ByteArray} {x : St} {l : List Int} (hs : s.size ≤ 140737488351232) (hx : Ok s x) (he : x.e = 0 → errOf l = 0) : x.p ≤ (next l s x).2.p := by
  by_cases c : x.e = 0
  · exact tak_p (by decide) (next_some l (he c) s hs x.p hx.p0 (by have := hx.p1; omega)).2
  · show x.p ≤ (tak x _).2.p
    unfold tak
    rw [if_neg c]
    exact Int.le_refl _
theorem lengthen_spec {s : ByteArray} {l : List Int} {y : Int} {x : St} (hx : Ok s x) : Ok s (lengthen s l y x).2 ∧ x.p ≤ (lengthen s l y x).2.p ∧ (lengthen s l y x).1.length ≤ l.length + 200 := by
  have b2 := bits_get (n := 2) (k := 2) (m := (bits s 2 x).1) (y := (bits s 2 x).2) rfl hx (by decide) rfl
  have b3 := bits_get (n := 3) (k := 3) (m := (bits s 3 x).1) (y := (bits s 3 x).2) rfl hx (by decide) rfl
  have b7 := bits_get (n := 7) (k := 7) (m := (bits s 7 x).1) (y := (bits s 7 x).2) rfl hx (by decide) rfl
  have p2 := bits_p (s := s) 2 hx (by decide)
  have p3 := bits_p (s := s) 3 hx (by decide)
  have p7 := bits_p (s := s) 7 hx (by decide)
  have r2 : (bits s 2 x).1 < 4 := b2.2.2.1
  have r3 : (bits s 3 x).1 < 8 := b3.2.2.1
  have r7 : (bits s 7 x).1 < 128 := b7.2.2.1
  have fp : (fail x 3).p = x.p := by unfold fail; split <;> rfl
  unfold lengthen
  by_cases c0 : x.e = 0
  · rw [if_pos c0]
    by_cases c16 : y = 16
    · rw [if_pos c16]
      by_cases cl : l.length = 0
      · rw [if_pos cl]; exact ⟨fail_ok hx (by decide), by rw [fp]; exact Int.le_refl _, by simp⟩
      · rw [if_neg cl]; exact ⟨b2.1, p2, by simp only [List.length_append, List.length_replicate]; omega⟩
    · rw [if_neg c16]
      by_cases c17 : y = 17
      · rw [if_pos c17]; exact ⟨b3.1, p3, by simp only [List.length_append, List.length_replicate]; omega⟩
      · rw [if_neg c17]
        by_cases c18 : y = 18
        · rw [if_pos c18]; exact ⟨b7.1, p7, by simp only [List.length_append, List.length_replicate]; omega⟩
        · rw [if_neg c18]; exact ⟨hx, Int.le_refl _, by simp⟩
  · rw [if_neg c0]; exact ⟨hx, Int.le_refl _, by simp⟩
theorem ISt.ne3 {w0 w : World} {g : Nat} {v : Value} {s : ByteArray} {mx : Int} {x : St} (h : ISt w0 g v s mx x w) {b : Nat} {cs : Array Value} (hb : w.heap[b]? = some (.cells cs 3 (0, 0))) : v.ownBlock ≠ some b := fun e => by
  obtain ⟨c1, h1⟩ := own_typed (R_nums h.row) b e
  rw [hb] at h1
  injection h1 with h1
  injection h1 with _ h1
  exact absurd h1 (by decide)
theorem Fro.far {w w' : World} {g : Nat} {v v' : Value} (h : Fro w g v w' v') {a : Addr} (hb : w.heap.size ≤ a.block) (u : Value) : Fro w g v (w'.setCell a u) v' :=
  ⟨⟨by rw [World.size_setCell]; exact h.keep.1, fun i hi h1 h2 => (Below.heap_setCell w' a u i (by omega)).trans (h.keep.2 i hi h1 h2)⟩, h.own⟩
theorem kep_fro {w w' : World} {g : Nat} {v v' u' : Value} (h : Fro2 w g v (.slice none 0 0) w' v' u') : Fro w g v w' v' :=
  ⟨⟨h.size, fun i hi h1 h2 => h.keep i hi h1 h2 (by simp [Value.ownBlock])⟩, h.ov⟩
theorem meas_less2 {w0 w w' : World} {g : Nat} {v v' : Value} {s : ByteArray} {mx : Int} {y z : St} (h : ISt w0 g v s mx y w) (h' : ISt w0 g v' s mx z w') (he : y.e = 0) (h1 : y.p ≤ z.p) (h3 : z.e = 0 → y.p + 1 ≤ z.p) (h2 : y.p ≤ 8 * s.size) : imeas s g w' < imeas s g w := by
  rw [h.meas, h'.meas, if_pos he]
  by_cases c : z.e = 0
  · have := h3 c
    rw [if_pos c]; omega
  · rw [if_neg c]; omega
theorem kep_to_foot {w : World} {g : Nat} {v u : Value} {A : Option Addr} {l : List Int} (h : Kep w g v u (fun W => Kd.C (Kd.int .i64) W A l.length l)) : Foot w g v A l := fun W' hk => h W' v u ⟨hk.1, fun i h1 h2 h3 _ => hk.2 i h1 h2 h3, .inl rfl, .inl rfl⟩
theorem many_stop {s : ByteArray} {own : List Int} {all : Int} {l : List Int} {z : St} (k : Nat) (h : ¬ ((l.length : Int) < all) ∨ z.e ≠ 0) : many s own all k l z = (l, z) := by
  cases k with
  | zero => rfl
  | succ k =>
    show (if (l.length : Int) < all then (if z.e = 0 then _ else _) else _) = _
    by_cases c : (l.length : Int) < all
    · rw [if_pos c]
      rcases h with h | h
      · exact absurd c h
      · rw [if_neg h]
    · rw [if_neg c]
theorem lengthen_same {s : ByteArray} {l : List Int} {y : Int} {x : St} (h : x.e ≠ 0) : lengthen s l y x = (l, x) := by unfold lengthen; rw [if_neg h]
theorem foot_nil (w : World) (g : Nat) (v : Value) : Foot w g v none [] := fun W' _ => Kd.C_nil _ W'
theorem LSt.foot {w0 w : World} {g : Nat} {v : Value} {s : ByteArray} {mx : Int} {x : St} {A : Option Addr} {n c : Nat} {l : List Int} (h : LSt w0 g v s mx x (.slice A n c) l w) : Foot w g v A l := fun W' hW => by
  have h2 := Kd.R_step (Kd.R_tight rfl h.r) (fun k hk hlt => hW.2 k hlt (fun e => h.ug (by rw [← e]; exact hk.symm)) (fun e => h.uv k hk.symm e.symm))
  have h3 := Kd.R_reads' h2
  obtain ⟨A', c', e⟩ := Kd.R_slice h2
  cases e
  exact h3.2.2
theorem foot_take {w : World} {g : Nat} {v : Value} {A : Option Addr} {l : List Int} (h : Foot w g v A l) (i : Nat) (hi : i ≤ l.length) : Foot w g v A (l.take i) := fun W' hW => by
  rw [List.length_take, Nat.min_eq_left hi]
  exact Kd.C_of_reads ((Kd.reads_of_C (d := 0) (h W' hW)).take_ i hi)
theorem foot_drop {w : World} {g : Nat} {v : Value} {A : Option Addr} {l : List Int} {c : Nat} (h : Foot w g v A l) (i : Nat) (hi : i ≤ l.length) (hc : l.length ≤ c) : Foot w g v (if c = i then A else A.map (·.add i)) (l.drop i) := fun W' hW => by
  rw [List.length_drop]
  exact Kd.C_of_reads ((Kd.reads_of_C (d := 0) (h W' hW)).drop_ i hi hc)
def ordC : Array Value := #[.int .i64 16, .int .i64 17, .int .i64 18, .int .i64 0, .int .i64 8, .int .i64 7, .int .i64 9, .int .i64 6, .int .i64 10, .int .i64 5, .int .i64 11, .int .i64 4, .int .i64 12, .int .i64 3, .int .i64 13, .int .i64 2, .int .i64 14, .int .i64 1, .int .i64 15]
theorem ordC_at : ∀ i : Nat, i < 19 → ordC[i]? = some (.int .i64 ((order.getD i 0 : Nat) : Int)) ∧ order.getD i 0 < 19 := by
  intro i hi
  match i, hi with
  | 0, _ | 1, _ | 2, _ | 3, _ | 4, _ | 5, _ | 6, _ | 7, _ | 8, _ | 9, _ | 10, _ | 11, _ | 12, _ | 13, _ | 14, _ | 15, _ | 16, _ | 17, _ | 18, _ => exact ⟨rfl, by decide⟩
  | n + 19, h => exact absurd h (by omega)

/-- What lengths leaves. -/
def NPost (w0 : World) (g : Nat) (v : Value) (s : ByteArray) (mx : Int) (w : World) (la lb : List Int) (y : St) (e : Ending) (w' : World) : Prop :=
  ∃ v1 A B c d, e = .returned (.tuple #[.slice A la.length c, .slice B lb.length d]) ∧ ISt w0 g v1 s mx y w' ∧ Fro w g v w' v1 ∧ Foot w' g v1 A la ∧ Foot w' g v1 B lb

set_option maxRecDepth 100000 in
set_option maxHeartbeats 8000000 in
theorem lengths_calls (w0 : World) (g : Nat) (v : Value) (s : ByteArray) (mx : Int) (x : St) (w : World) (hs : s.size ≤ 17592186044416) (hx : Ok s x) (h : ISt w0 g v s mx x w) :
    Calls Try.prog 99 #[.pointer (some ⟨g, 0, none⟩)] w (NPost w0 g v s mx w (lengths s x).1 (lengths s x).2.1 (lengths s x).2.2) := by
  have HH := Aside0.mk h
  have HF := Aside0.mk (Fro.refl w g v)
  have HSB : Aside0 (s.size ≤ 140737488351232) := ⟨by omega⟩
  clear h
  obtain ⟨a, x1, ha⟩ : ∃ a x1, bits s 5 x = (a, x1) := ⟨_, _, rfl⟩
  obtain ⟨b, x2, hb⟩ : ∃ b x2, bits s 5 x1 = (b, x2) := ⟨_, _, rfl⟩
  obtain ⟨c, x3, hc⟩ : ∃ c x3, bits s 4 x2 = (c, x3) := ⟨_, _, rfl⟩
  obtain ⟨hok1, ha0, ha1, -, -, -⟩ := bits_get (n := 5) rfl hx (by decide) ha
  obtain ⟨hok2, hb0, hb1, -, -, -⟩ := bits_get (n := 5) rfl hok1 (by decide) hb
  obtain ⟨hok3, hc0, hc1, -, -, -⟩ := bits_get (n := 4) rfl hok2 (by decide) hc
  replace ha1 : a < 32 := ha1
  replace hb1 : b < 32 := hb1
  replace hc1 : c < 16 := hc1
  obtain ⟨x4, hx4⟩ : ∃ x4, x4 = if x3.e = 0 ∧ (a + 257 > 286 ∨ b + 1 > 30) then fail x3 3 else x3 := ⟨_, rfl⟩
  have hok4 : Ok s x4 := by rw [hx4]; split; exact fail_ok hok3 (by decide); exact hok3
  obtain ⟨fw, hfw⟩ : ∃ fw : Nat, c + 4 = (fw : Int) := ⟨(c + 4).toNat, by omega⟩
  have hfw1 : fw ≤ 19 := by omega
  have HA := Aside0.mk ha
  have HB := Aside0.mk hb
  have HC := Aside0.mk hc
  have HX4 := Aside0.mk hx4
  have HFW := Aside0.mk hfw
  have HP0 : Aside0 (x.p ≤ 9223372036854775807) := ⟨by have := hx.p1; omega⟩
  have HP1 : Aside0 (x1.p ≤ 9223372036854775807) := ⟨by have := hok1.p1; omega⟩
  have HP2 : Aside0 (x2.p ≤ 9223372036854775807) := ⟨by have := hok2.p1; omega⟩
  have HOK4 := Aside0.mk hok4
  clear ha hb hc hx4 hok1 hok2 hok3 hok4 hx
  go_enter Try.func99, Try.ntmps99
  go_upto_region 2 with (first
    | (go_at_call 94; (with_reducible refine (bits_calls w0 g v s mx x 5 _ HSB.out HP0.out HH.out).mono ?_); rw [HA.out]; rintro e w1 ⟨v1, rfl, hi, hf⟩; have HI1 := Aside0.mk hi; have HF1 := Aside0.mk (HF.out.trans hf); clear hi hf HF)
    | (go_at_call 94; (with_reducible refine (bits_calls w0 g v1 s mx x1 5 _ HSB.out HP1.out HI1.out).mono ?_); rw [HB.out]; rintro e w2 ⟨v2, rfl, hi, hf⟩; have HI2 := Aside0.mk hi; have HF2 := Aside0.mk (HF1.out.trans hf); clear hi hf HI1 HF1)
    | (go_at_call 94; (with_reducible refine (bits_calls w0 g v2 s mx x2 4 _ HSB.out HP2.out HI2.out).mono ?_); rw [HC.out]; rintro e w3 ⟨v3, rfl, hi, hf⟩; have HI3 := Aside0.mk hi; have HF3 := Aside0.mk (HF2.out.trans hf); clear hi hf HI2 HF2))
  have hc4 := HI3.out.c4
  have sorry_ : True := trivial
  by_cases c1 : x3.e = 0
  rotate_left
  focus
    have d1 : (x3.e == 0) = false := beq_eq_false_iff_ne.2 c1
    have hX := HX4.out
    rw [if_neg (fun h => c1 h.1)] at hX
    have HX := Aside0.mk hX
    clear hX
    have HI3X : Aside0 (ISt w0 g v3 s mx x4 w3) := ⟨by rw [HX.out]; exact HI3.out⟩
    go_upto_region 4 with fail
    obtain ⟨v4, hv4⟩ : ∃ v4, v4 = v3 := ⟨_, rfl⟩
    obtain ⟨w4, hw4⟩ : ∃ w4, w4 = w3 := ⟨_, rfl⟩
    subst hv4
    subst hw4
    have HI4 := HI3X
    have HF4 := HF3
    clear d1 HX HI3X c1
  rotate_left
  have d1 : (x3.e == 0) = true := by rw [c1]; rfl
  by_cases c2 : a + 257 > 286
  focus
    have d2 : decide (a + 257 > 286) = true := decide_eq_true c2
    have hX := HX4.out
    rw [if_pos ⟨c1, .inl c2⟩] at hX
    have HX := Aside0.mk hX
    clear hX
    go_upto_region 4 with (go_at_call 100; (with_reducible refine (fail_calls w0 g v3 s mx x3 3 _ HI3.out).mono ?_); rintro e w4 ⟨v4, rfl, hi, hf⟩; rw [← HX.out] at hi; have HI4 := Aside0.mk hi; have HF4 := Aside0.mk (HF3.out.trans hf); clear hi hf)
    clear d1 d2 HX c1 c2
  rotate_left
  have d2 : decide (a + 257 > 286) = false := decide_eq_false c2
  by_cases c3 : b + 1 > 30
  focus
    have d3 : decide (b + 1 > 30) = true := decide_eq_true c3
    have hX := HX4.out
    rw [if_pos ⟨c1, .inr c3⟩] at hX
    have HX := Aside0.mk hX
    clear hX
    go_upto_region 4 with (go_at_call 100; (with_reducible refine (fail_calls w0 g v3 s mx x3 3 _ HI3.out).mono ?_); rintro e w4 ⟨v4, rfl, hi, hf⟩; rw [← HX.out] at hi; have HI4 := Aside0.mk hi; have HF4 := Aside0.mk (HF3.out.trans hf); clear hi hf)
    clear d1 d2 d3 HX c1 c2 c3
  rotate_left
  focus
    have d3 : decide (b + 1 > 30) = false := decide_eq_false c3
    have hX := HX4.out
    rw [if_neg (fun h => h.2.elim c2 c3)] at hX
    have HX := Aside0.mk hX
    clear hX
    have HI3X : Aside0 (ISt w0 g v3 s mx x4 w3) := ⟨by rw [HX.out]; exact HI3.out⟩
    go_upto_region 4 with fail
    obtain ⟨v4, hv4⟩ : ∃ v4, v4 = v3 := ⟨_, rfl⟩
    obtain ⟨w4, hw4⟩ : ∃ w4, w4 = w3 := ⟨_, rfl⟩
    subst hv4
    subst hw4
    have HI4 := HI3X
    have HF4 := HF3
    clear d1 d2 d3 HX HI3X c1 c2 c3
  all_goals
    (try clear hc4 HI3 HF3)
    obtain ⟨b7, hb7⟩ : ∃ b7, b7 = w4.heap.size := ⟨_, rfl⟩
    obtain ⟨W5, hW5⟩ : ∃ W5, W5 = w4.alloc (.cells ordC 3) := ⟨_, rfl⟩
    have hW5s : W5.heap.size = w4.heap.size + 1 := by rw [hW5]; show (w4.heap.push _).size = _; simp
    have HI5 : Aside0 (ISt w0 g v4 s mx x4 W5) := ⟨by rw [hW5]; exact HI4.out.below (below_alloc (Below.refl _ _) _)⟩
    have HF5 : Aside0 (Fro w g v W5 v4) := ⟨by rw [hW5]; exact HF4.out.below (below_alloc (Below.refl _ _) _)⟩
    have HO5 : Aside0 (W5.heap[b7]? = some (.cells ordC 3 (0, 0))) := ⟨by rw [hW5, hb7]; exact heap_alloc_new _ _⟩
    go_upto_region 5 with fail
    rw [show (World.alloc w4 (Obj.cells #[.int .i64 16, .int .i64 17, .int .i64 18, .int .i64 0, .int .i64 8, .int .i64 7, .int .i64 9, .int .i64 6, .int .i64 10, .int .i64 5, .int .i64 11, .int .i64 4, .int .i64 12, .int .i64 3, .int .i64 13, .int .i64 2, .int .i64 14, .int .i64 1, .int .i64 15] 3)) = W5 from hW5.symm, ← hb7]
    have HB7 : Aside0 (b7 = w4.heap.size ∧ W5.heap.size = b7 + 1) := ⟨hb7, by omega⟩
    clear hb7 hW5 hW5s
    go_upto_region 6 with ((with_reducible refine gate_dst (N := 40) rfl ?_); refine Kd.R_make (Kd.int .i64) (w0 := W5) W5.heap.size 3 rfl (N := 40) rfl 22 _ _ rfl (19 : Int) rfl rfl Try.underlying22 (.int .i64 0) 8 info3n rfl (by decide) (by decide) 0 (ok := fun _ => True) (okp := fun _ => True) (rfl) (fun _ hk => hk) trivial (by decide) (by decide) (Below.refl _ _) (Nat.le_refl _) ?_; intro v6 w6 hr6 hb6 hg6 hn6; have HR6 := Aside0.mk hr6; have HB6 := Aside0.mk hb6; clear hr6 hb6 hg6 hn6)
    rw [show (19 : Int).toNat = 19 from rfl] at HR6
    obtain ⟨go8, cp8, hv8, _, hgo8, hcp8⟩ := row_form HR6.out (by rw [List.length_replicate]; decide)
    rw [List.length_replicate] at hv8 hcp8
    subst hv8
    have HI6 := Aside0.mk (HI5.out.below HB6.out)
    have HF6 := Aside0.mk (HF5.out.below HB6.out)
    have HO6 : Aside0 (w6.heap[b7]? = some (.cells ordC 3 (0, 0))) := ⟨(HB6.out.block b7 (by have := HB7.out.2; omega)).trans HO5.out⟩
    have hw45 : w.heap.size ≤ w4.heap.size := HF4.out.keep.1
    have HG8 : Aside0 (b7 ≠ go8 ∧ w.heap.size ≤ go8 ∧ b7 ≠ g ∧ w.heap.size ≤ b7) := ⟨by have h1 := HB7.out.1; have h2 := HB7.out.2; have h3 := HI4.out.glt; omega⟩
    have HL6 : Aside0 (LSt w0 g v4 s mx x4 (.slice (some ⟨go8, 0, none⟩) 19 cp8) (List.replicate 19 0) w6) := ⟨⟨HI6.out, Kd.R_lower HR6.out HI5.out.bl.size⟩⟩
    clear HR6 HB6 HI5 HF5 HO5 hgo8 HI6 HF4 HI4 hw45
    have hfwl : ((fw : Int) ≤ 19) = True := eq_true (by omega)
    go_wp2
    go_loopw [45] (fun v45 w' => ∃ (i : Nat) (L : List Int) (y : St) (v1 : Value), i ≤ fw ∧ v45 = .int .i64 (i : Int) ∧ Aside0 (owns s (order.take i) (List.replicate 19 0) x4 = (L, y)) ∧ Aside0 (LSt w0 g v1 s mx y (.slice (some ⟨go8, 0, none⟩) 19 cp8) L w') ∧ Aside0 (w'.heap[b7]? = some (.cells ordC 3 (0, 0))) ∧ Aside0 (Fro w g v w' v1)) (fun v45 _ => fw - (intOf v45).toNat)
    case atStart => exact ⟨0, _, _, v4, Nat.zero_le _, rfl, ⟨rfl⟩, HL6, HO6, HF6⟩
    case round =>
      clear HL6 HO6 HF6
      obtain ⟨i, L, y, v1, hi, rfl, HW, HL, HO, HF⟩ := hrel
      have hL19 : L.length = 19 := by have h := owns_len s (order.take i) (List.replicate 19 0) x4; rw [HW.out] at h; exact h
      have hoky : Ok s y := by have h := (owns_ok s (order.take i) (List.replicate 19 0) x4 HOK4.out).1; rw [HW.out] at h; exact h
      have HOKY := Aside0.mk hoky
      by_cases hlt : i < fw
      · have hdec : decide ((i : Int) < (fw : Int)) = true := decide_eq_true (by omega)
        obtain ⟨oc1, oc2⟩ := ordC_at i (by omega)
        obtain ⟨oi, hoi⟩ : ∃ oi, oi = order.getD i 0 := ⟨_, rfl⟩
        rw [← hoi] at oc1 oc2
        have hco : wr.cell? ⟨b7, i, none⟩ = some (.int .i64 (oi : Int)) := (blk_cell HO.out i).trans oc1
        obtain ⟨m, y1, hm⟩ : ∃ m y1, bits s 3 y = (m, y1) := ⟨_, _, rfl⟩
        have HM := Aside0.mk hm
        have HPY : Aside0 (y.p ≤ 9223372036854775807) := ⟨by have := hoky.p1; omega⟩
        have HNX : Aside0 (owns s (order.take (i + 1)) (List.replicate 19 0) x4 = (L.set oi m, y1)) := ⟨by rw [order_take i (by omega), owns_next, HW.out, ← hoi, hm]⟩
        have hil : ((i : Int) < (fw : Int)) = True := eq_true (by omega)
        have hol : ((oi : Int) < 19) = True := eq_true (by omega)
        have HOL : Aside0 (oi < 19) := ⟨oc2⟩
        have HL19 := Aside0.mk hL19
        clear hm hoi oc1 oc2 hoky hL19
        go_upto_region 10 with (go_at_call 94; (with_reducible refine (bits_calls w0 g v1 s mx y 3 _ HSB.out HPY.out HL.out.i).mono ?_); rw [HM.out]; rintro e w7 ⟨v7, rfl, hi7, hf7⟩; have HL7 := Aside0.mk (HL.out.fro hf7 hi7); have HF7 := Aside0.mk (HF.out.trans hf7); have HO7 : Aside0 (w7.heap[b7]? = some (.cells ordC 3 (0, 0))) := ⟨(hf7.keep.2 b7 (blk_lt HO.out) HG8.out.2.2.1 (fun e => HL.out.i.ne3 HO.out e.symm)).trans HO.out⟩; clear hi7 hf7 hco; have hc7 : w7.cell? ⟨go8, oi, none⟩ = some (.int .i64 (L.getD oi 0)) ∧ w7.frozen? ⟨go8, oi, none⟩ = false := (by have h := Kd.R_celln (0 : Int) HL7.out.r (oi : Int) (by omega) (by have := HOL.out; omega); rw [Int.toNat_natCast] at h; simpa [rdOf] using h); have hc71 := hc7.1; have hc72 := hc7.2; clear hc7)
        have h8 := Kd.R_putg HL7.out.r (oi : Int) m
        rw [Int.toNat_natCast] at h8
        have HG0 : Aside0 (w0.heap.size ≤ go8) := ⟨Nat.le_trans HH.out.bl.size HG8.out.2.1⟩
        have HL8 : Aside0 (LSt w0 g v7 s mx y1 (.slice (some ⟨go8, 0, none⟩) 19 cp8) (L.set oi m) (w7.setCell ⟨go8, oi, none⟩ (.int .i64 m))) := ⟨HL7.out.grow h8.1 (below_set HL7.out.i.bl HG0.out) h8.2⟩
        have HO8 : Aside0 ((w7.setCell ⟨go8, oi, none⟩ (.int .i64 m)).heap[b7]? = some (.cells ordC 3 (0, 0))) := ⟨(Below.heap_setCell w7 ⟨go8, oi, none⟩ _ b7 HG8.out.1).trans HO7.out⟩
        have HF8 : Aside0 (Fro w g v (w7.setCell ⟨go8, oi, none⟩ (.int .i64 m)) v7) := ⟨HF7.out.far HG8.out.2.1 _⟩
        clear h8 hc71 hc72 HL7 HO7 HF7
        generalize w7.setCell ⟨go8, oi, none⟩ (.int .i64 m) = w8 at HL8 HO8 HF8 ⊢
        go_wp2
        go_roundw
        case rel => exact ⟨i + 1, _, _, v7, by omega, by go_num, HNX, HL8, HO8, HF8⟩
        case measure => simp [intOf]; omega
      · have hdec : decide ((i : Int) < (fw : Int)) = false := decide_eq_false (by omega)
        obtain rfl : i = fw := by omega
        have HRL := Aside0.mk (Kd.R_reads' HL.out.r).2.2
        have htab := table_calls w0 g v1 s mx y (some ⟨go8, 0, none⟩) cp8 L wr HL.out.i HRL.out
        rw [hL19] at htab
        have HTAB := Aside0.mk htab
        clear htab
        go_upto_region 12 with (first
          | (go_at_call 98; (with_reducible refine HTAB.out.mono ?_); rintro e w7 ⟨tv, v7, rfl, ⟨cs, ss, A, cc, rfl, hcl, hft, hcs⟩, hi7, hf7⟩; have HI7 := Aside0.mk hi7; have HF7 := Aside0.mk (HF.out.trans hf7); have HFT := Aside0.mk hft; have HCL := Aside0.mk hcl; have HCS := Aside0.mk hcs; clear hi7 hf7 hft hcl hcs)
          | (refine wpList_store_row rfl 26 _ _ rfl w7.heap.size (tab cs (.slice A ss.length cc)) rfl rfl 26 (tab zero16 (.slice none 0 0)) (heap_alloc_new _ _) (by rw [tab_size, HCL.out]; exact info26) (by rw [tab_size, tab_size, HCL.out]; rfl) (tab_one _ _ _ _) ?_; rw [World.setRow_alloc_new]))
        obtain ⟨b11, hb11⟩ : ∃ b11, b11 = w7.heap.size := ⟨_, rfl⟩
        have HI8 : Aside0 (ISt w0 g v7 s mx (table L y) (w7.alloc (.cells (tab cs (.slice A ss.length cc)) 26))) := ⟨HI7.out.below (below_alloc (Below.refl _ _) _)⟩
        have HF8 : Aside0 (Fro w g v (w7.alloc (.cells (tab cs (.slice A ss.length cc)) 26)) v7) := ⟨HF7.out.below (below_alloc (Below.refl _ _) _)⟩
        have K1 : Aside0 (Kep (w7.alloc (.cells (tab cs (.slice A ss.length cc)) 26)) g v7 (.slice none 0 0) (fun W => W.heap[b11]? = some (.cells (tab cs (.slice A ss.length cc)) 26 (0, 0)))) := ⟨kep_blk (by rw [hb11]; exact heap_alloc_new _ _) (fun e => by have := HI7.out.glt; omega) (fun e => by have := (HI7.out.own _ e).2; omega) (by simp [Value.ownBlock])⟩
        have K2 : Aside0 (Kep (w7.alloc (.cells (tab cs (.slice A ss.length cc)) 26)) g v7 (.slice none 0 0) (fun W => Kd.C (Kd.int .i64) W A ss.length ss)) := ⟨kep_foot (HFT.out.fro ((Fro.refl _ _ _).below (below_alloc (Below.refl _ _) _)))⟩
        rw [← hb11]
        generalize w7.alloc _ = W8 at HI8 HF8 K1 K2 ⊢
        obtain ⟨x5, hx5⟩ : ∃ x5, x5 = table L y := ⟨_, rfl⟩
        rw [← hx5] at HI8
        have HX5 : Aside0 (x5.e = 0 → y.e = 0 ∧ errOf L = 0) := ⟨fun h => by
          rw [hx5] at h
          unfold table fail at h
          by_cases cy : y.e = 0
          · rw [if_pos cy] at h; exact ⟨cy, h⟩
          · rw [if_neg cy] at h; exact absurd h cy⟩
        have HOK5 : Aside0 (Ok s x5) := ⟨by rw [hx5]; exact table_ok hoky L⟩
        obtain ⟨R, hR⟩ : ∃ R, R = many s L (a + 257 + (b + 1)) (left s x5) [] x5 := ⟨_, rfl⟩
        have HRES : Aside0 (lengths s x = if R.2.e = 0 then (if (R.1.length : Int) > a + 257 + (b + 1) ∨ R.1.getD 256 0 = 0 then ([], [], fail R.2 3) else (R.1.take (a + 257).toNat, R.1.drop (a + 257).toNat, R.2)) else ([], [], R.2)) := ⟨by
          unfold lengths
          simp only [HA.out, HB.out, HC.out]
          rw [← HX4.out, HFW.out, Int.toNat_natCast, HW.out]
          simp only
          rw [← hx5, ← hR]⟩
        have HL8 : Aside0 (LSt w0 g v7 s mx x5 (.slice none 0 0) [] W8) := ⟨⟨HI8.out, Kd.R_nil _ _ _ _ _⟩⟩
        have HFF : Aside0 (Fro2 W8 g v7 (.slice none 0 0) W8 v7 (.slice none 0 0)) := ⟨Fro2.refl _ _ _ _⟩
        have HR := Aside0.mk hR
        have HSZ17 : Aside0 ((tab cs (.slice A ss.length cc)).size = 17) := ⟨by rw [tab_size, HCL.out]⟩
        have hu26 := Aside0.mk Try.underlying26
        clear hR hx5 hb11 HRL HL HO HF HFT HI7 HF7 HTAB HOKY hoky HOK4 HI8
        go_wp2
        go_loopw [12] (fun v12 w' => ∃ (l : List Int) (z : St) (v1 : Value) (k : Nat), Aside0 (many s L (a + 257 + (b + 1)) k l z = R) ∧ Aside0 (z.e = 0 → left s z ≤ k) ∧ Aside0 (Ok s z) ∧ Aside0 (l.length ≤ 800) ∧ Aside0 (z.e = 0 → x5.e = 0) ∧ Aside0 (LSt w0 g v1 s mx z v12 l w') ∧ Aside0 (Kep w' g v1 v12 (fun W => W.heap[b11]? = some (.cells (tab cs (.slice A ss.length cc)) 26 (0, 0)))) ∧ Aside0 (Kep w' g v1 v12 (fun W => Kd.C (Kd.int .i64) W A ss.length ss)) ∧ Aside0 (Fro2 W8 g v7 (.slice none 0 0) w' v1 v12)) (fun v12 w' => imeas s g w')
        case atStart => exact ⟨[], x5, v7, left s x5, ⟨HR.out.symm⟩, ⟨fun _ => Nat.le_refl _⟩, HOK5, ⟨by decide⟩, ⟨fun h => h⟩, HL8, K1, K2, HFF⟩
        case round =>
          clear HR HOK5 HL8 K1 K2 HFF
          obtain ⟨l, z, v1_, k, HM, HK, HOZ, HLL, HXZ, HLS, K1, K2, HFF⟩ := hrel
          obtain ⟨Al, cl, hvl⟩ := Kd.R_slice HLS.out.r
          subst hvl
          have hc4 := HLS.out.i.c4
          have hl8 := HLL.out
          have hwr : wrap64 ((l.length : Int) + 0) = (l.length : Int) := by rw [Int.add_zero]; exact wrap_in (by omega) (by omega)
          by_cases c7 : (l.length : Int) < a + 257 + (b + 1)
          · have d7 : decide ((l.length : Int) < a + 257 + (b + 1)) = true := decide_eq_true c7
            by_cases c8 : z.e = 0
            · have d8 : (z.e == 0) = true := by rw [c8]; rfl
              have HTv : Aside0 (Tv wr g v1_ (.agg (tab cs (.slice A ss.length cc))) L (z.e = 0)) := ⟨⟨cs, ss, A, cc, rfl, HCL.out, kep_to_foot K2.out, fun h => HCS.out (HX5.out (HXZ.out h)).1⟩⟩
              obtain ⟨n, z1, hn⟩ : ∃ n z1, next L s z = (n, z1) := ⟨_, _, rfl⟩
              obtain ⟨l2, z2, hl2⟩ : ∃ l2 z2, lengthen s l n z1 = (l2, z2) := ⟨_, _, rfl⟩
              have heL := (HX5.out (HXZ.out c8)).2
              obtain ⟨hok1, -, -, -, hgo1, -⟩ := next_get HSB.out HOZ.out (fun _ => heL) hn
              have hp1 := next_p (x := z) HSB.out HOZ.out (fun _ => heL)
              rw [hn] at hp1
              obtain ⟨hok2, hp2, hll2⟩ := lengthen_spec (l := l) (y := n) hok1
              rw [hl2] at hok2 hp2 hll2
              have hz2 : z2.e = 0 → z.p + 1 ≤ z2.p := fun h => by
                by_cases cz : z1.e = 0
                · have := (hgo1 cz).2.1; simp only at hp2; omega
                · have e := lengthen_same (s := s) (l := l) (y := n) cz
                  rw [hl2] at e
                  injection e with e1 e2
                  rw [e2] at h
                  exact absurd h cz
              have hkk := HK.out c8
              obtain ⟨k1, hk1⟩ : ∃ k1, k = k1 + 1 := ⟨k - 1, by unfold left at hkk; omega⟩
              have HM2 : Aside0 (many s L (a + 257 + (b + 1)) k1 l2 z2 = R) := ⟨by
                rw [← HM.out, hk1]
                show _ = (if (l.length : Int) < a + 257 + (b + 1) then (if z.e = 0 then _ else _) else _)
                rw [if_pos c7, if_pos c8, hn]
                simp only
                rw [hl2]⟩
              have HN := Aside0.mk hn
              have HL2 := Aside0.mk hl2
              have HEL := Aside0.mk heL
              have HOK1 := Aside0.mk hok1
              have HOK2 : Aside0 (Ok s z2) := ⟨hok2⟩
              have HZ2 := Aside0.mk hz2
              have HP2 : Aside0 (z.p ≤ z2.p) := ⟨by simp only at hp1 hp2; omega⟩
              have HLN : Aside0 (l2.length ≤ 800) := ⟨by simp only at hll2; omega⟩
              have HLF : Aside0 (z2.e = 0 → left s z2 ≤ k1) := ⟨fun h => by have h1 := hz2 h; have h2 := HOZ.out.p1; unfold left at hkk ⊢; omega⟩
              have HPZ : Aside0 (z.p ≤ 4611686018427387904) := ⟨by have := HOZ.out.p1; omega⟩
              have HL1 : Aside0 (l.length ≤ 100000) := ⟨by omega⟩
              have HI0 := Aside0.mk HLS.out.i
              clear hn hl2 heL hok1 hgo1 hp1 hok2 hp2 hll2 hz2 hkk HM HK
              go_wp2_with (first
                | ((with_reducible refine gate_load (t := 26) rfl ?_); refine wpList_load_row rfl 26 _ rfl b11 rfl 26 _ (0, 0) _ K1.out.now hu26.out rfl (by rw [HSZ17.out]; exact info26) ?_)
                | (go_at_call 111; (with_reducible refine (Inf.next_calls w0 g v1_ s mx z _ L _ HSB.out HOZ.out.p0 HPZ.out HLS.out.i HTv.out (fun _ => HEL.out)).mono ?_); rw [HN.out]; rintro e w9 ⟨v9, rfl, hi, hf⟩; have HL9 := Aside0.mk (HLS.out.fro hf hi); have HF9 := Aside0.mk ((Fro2.refl wr g v1_ (.slice Al l.length cl)).step hf); clear hi hf)
                | (go_at_call 112; (with_reducible refine (lengthen_calls w0 g v9 (.slice Al l.length cl) s mx z1 l n _ hs HL1.out HOK1.out HL9.out).mono ?_); rw [HL2.out]; rintro e w10 ⟨v10, u10, rfl, hi, hf⟩; have HL10 := Aside0.mk hi; have HF10 := Aside0.mk (HF9.out.trans hf); clear hi hf))
              go_roundw
              case rel => exact ⟨l2, z2, v10, k1, HM2, HLF, HOK2, HLN, ⟨fun _ => HXZ.out c8⟩, HL10, ⟨K1.out.step HF10.out⟩, ⟨K2.out.step HF10.out⟩, ⟨HFF.out.trans HF10.out⟩⟩
              case measure => exact meas_less2 HI0.out HL10.out.i c8 HP2.out HZ2.out HOZ.out.p1
            · have d8 : (z.e == 0) = false := beq_eq_false_iff_ne.2 c8
              have d9 : (z.e != 0) = true := by simpa using c8
              have hR2 : R = (l, z) := by rw [← HM.out]; exact many_stop k (.inr c8)
              have hres : lengths s x = ([], [], z) := by rw [HRES.out, hR2]; exact if_neg c8
              have HRS := Aside0.mk hres
              clear hR2 hres
              go_wp2
              exact bodyPost_ret (v := .tuple #[.slice none 0 0, .slice none 0 0]) (by simp [results, Try.results99, go_sem]) rfl ⟨v1_, none, none, 0, 0, by rw [HRS.out]; rfl, by rw [HRS.out]; exact HLS.out.i, HF8.out.trans (kep_fro HFF.out), by rw [HRS.out]; exact foot_nil _ _ _, by rw [HRS.out]; exact foot_nil _ _ _⟩
          · have d7 : decide ((l.length : Int) < a + 257 + (b + 1)) = false := decide_eq_false c7
            by_cases c8 : z.e = 0
            · have d9 : (z.e != 0) = false := by rw [c8]; rfl
              have hR2 : R = (l, z) := by rw [← HM.out]; exact many_stop k (.inl c7)
              by_cases c9 : (l.length : Int) > a + 257 + (b + 1)
              · have d10 : decide ((l.length : Int) > a + 257 + (b + 1)) = true := decide_eq_true c9
                have hres : lengths s x = ([], [], fail z 3) := by rw [HRES.out, hR2]; show (if z.e = 0 then _ else _) = _; rw [if_pos c8, if_pos (.inl c9)]
                have HRS := Aside0.mk hres
                clear hR2 hres
                go_wp2_with (go_at_call 100; (with_reducible refine (fail_calls w0 g v1_ s mx z 3 _ HLS.out.i).mono ?_); rintro e w9 ⟨v9, rfl, hi, hf⟩; have HI9 := Aside0.mk hi; have HF9 := Aside0.mk ((kep_fro HFF.out).trans hf); clear hi hf)
                exact bodyPost_ret (v := .tuple #[.slice none 0 0, .slice none 0 0]) (by simp [results, Try.results99, go_sem]) rfl ⟨v9, none, none, 0, 0, by rw [HRS.out]; rfl, by rw [HRS.out]; exact HI9.out, HF8.out.trans HF9.out, by rw [HRS.out]; exact foot_nil _ _ _, by rw [HRS.out]; exact foot_nil _ _ _⟩
              · have d10 : decide ((l.length : Int) > a + 257 + (b + 1)) = false := decide_eq_false c9
                obtain ⟨gl, cpl, hvl, _, hgl, hcpl⟩ := row_form HLS.out.r (by omega)
                injection hvl with hvl1 hvl2 hvl3
                subst hvl1
                subst hvl3
                have hc11 : wr.cell? ⟨gl, 256, none⟩ = some (.int .i64 (l.getD 256 0)) := HLS.out.cellq rfl (by omega) rfl
                obtain ⟨q, hq⟩ : ∃ q, q = l.getD 256 0 := ⟨_, rfl⟩
                rw [← hq] at hc11
                have hl256 : ((256 : Int) < (l.length : Int)) = True := eq_true (by omega)
                by_cases c10 : q = 0
                · have d11 : (q == 0) = true := by rw [c10]; rfl
                  have hres : lengths s x = ([], [], fail z 3) := by rw [HRES.out, hR2]; show (if z.e = 0 then _ else _) = _; rw [if_pos c8, if_pos (.inr (hq.symm.trans c10))]
                  have HRS := Aside0.mk hres
                  clear hR2 hres hq
                  go_wp2_with (go_at_call 100; (with_reducible refine (fail_calls w0 g v1_ s mx z 3 _ HLS.out.i).mono ?_); rintro e w9 ⟨v9, rfl, hi, hf⟩; have HI9 := Aside0.mk hi; have HF9 := Aside0.mk ((kep_fro HFF.out).trans hf); clear hi hf)
                  exact bodyPost_ret (v := .tuple #[.slice none 0 0, .slice none 0 0]) (by simp [results, Try.results99, go_sem]) rfl ⟨v9, none, none, 0, 0, by rw [HRS.out]; rfl, by rw [HRS.out]; exact HI9.out, HF8.out.trans HF9.out, by rw [HRS.out]; exact foot_nil _ _ _, by rw [HRS.out]; exact foot_nil _ _ _⟩
                · have d11 : (q == 0) = false := beq_eq_false_iff_ne.2 c10
                  obtain ⟨na, hna⟩ : ∃ na : Nat, a + 257 = (na : Int) := ⟨(a + 257).toNat, by omega⟩
                  have hres : lengths s x = (l.take na, l.drop na, z) := by rw [HRES.out, hR2]; show (if z.e = 0 then _ else _) = _; rw [if_pos c8, if_neg (fun h => h.elim c9 (fun h => c10 (hq.trans h))), hna]; rfl
                  have hnl : na ≤ l.length := by omega
                  have hnl1 : ((na : Int) ≤ (l.length : Int)) = True := eq_true (by omega)
                  have hnl2 : ((na : Int) ≤ (cl : Int)) = True := eq_true (by omega)
                  have HRS := Aside0.mk hres
                  have HFT := Aside0.mk HLS.out.foot
                  have HNL := Aside0.mk hnl
                  have HNA := Aside0.mk hna
                  clear hR2 hres hq
                  go_upto_region 20 with fail
                  go_quiet (fail)
                  generalize hw9 : World.drewN _ _ = w9
                  have HI9 : Aside0 (ISt w0 g v1_ s mx z w9) := ⟨by rw [← hw9]; exact HLS.out.i.below (pw_below_drewN (Below.refl _ _) _)⟩
                  have HF9 : Aside0 (Fro _ g v7 w9 v1_) := ⟨by rw [← hw9]; exact (kep_fro HFF.out).below (pw_below_drewN (Below.refl _ _) _)⟩
                  have HT9 : Aside0 (Foot w9 g v1_ (some ⟨gl, 0, none⟩) l) := ⟨by rw [← hw9]; exact HFT.out.fro ((Fro.refl _ _ _).below (pw_below_drewN (Below.refl _ _) _))⟩
                  clear hw9
                  go_wp2
                  have hncl : ¬ cl = na := by have := HNL.out; have := HNA.out; omega
                  have hfd : Foot w9 g v1_ (some ⟨gl, na, none⟩) (l.drop na) := by
                    have h := foot_drop (c := cl) HT9.out na HNL.out hcpl
                    rw [if_neg hncl] at h
                    have hn0 : ¬ na = 0 := by have := HNA.out; omega
                    simpa [Addr.add, hn0] using h
                  exact bodyPost_ret (v := .tuple #[.slice (some ⟨gl, 0, none⟩) na cl, .slice (some ⟨gl, na, none⟩) (l.length - na) (cl - na)]) (by simp [results, Try.results99, go_sem]) rfl ⟨v1_, some ⟨gl, 0, none⟩, some ⟨gl, na, none⟩, cl, cl - na, by rw [HRS.out]; simp only [List.length_take, List.length_drop, Nat.min_eq_left HNL.out], by rw [HRS.out]; exact HI9.out, HF8.out.trans HF9.out, by rw [HRS.out]; exact foot_take HT9.out na HNL.out, by rw [HRS.out]; exact hfd⟩
            · have d9 : (z.e != 0) = true := by simpa using c8
              have hR2 : R = (l, z) := by rw [← HM.out]; exact many_stop k (.inl c7)
              have hres : lengths s x = ([], [], z) := by rw [HRES.out, hR2]; exact if_neg c8
              have HRS := Aside0.mk hres
              clear hR2 hres
              go_wp2
              exact bodyPost_ret (v := .tuple #[.slice none 0 0, .slice none 0 0]) (by simp [results, Try.results99, go_sem]) rfl ⟨v1_, none, none, 0, 0, by rw [HRS.out]; rfl, by rw [HRS.out]; exact HLS.out.i, HF8.out.trans (kep_fro HFF.out), by rw [HRS.out]; exact foot_nil _ _ _, by rw [HRS.out]; exact foot_nil _ _ _⟩
end Go.Proofs.Ytpbhkdamkbopkaa.Inf
