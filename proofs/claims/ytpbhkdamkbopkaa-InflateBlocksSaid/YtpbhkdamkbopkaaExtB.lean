/- The walk of huff.New: the table that it makes of lengths, or its error. -/
import Derived.Test.YtpbhkdamkbopkaaExtA
import Derived.Test.YtpbhkdamkbopkaaHuffDef
import Derived.Laws.Tables
import Derived.Laws.Rows
import Derived.Deep.MidRow
import Derived.Outline
import Derived.Deep.DeepCutAuto
namespace Go.Proofs.Ytpbhkdamkbopkaa.Ext
set_option linter.unusedSimpArgs false
set_option linter.unusedVariables false
open Go.RowKit Go.Proofs.YtpbhkdamkbopkaaW.PrintWords Go.Proofs.YtpbhkdamkbopkaaW.PrintLast Go.Proofs.YtpbhkdamkbopkaaW.PrintMore

/-- A table's cells. -/
def tab (cs : List Int) (v : Value) : Array Value := (cs.map (Value.int .i64) ++ [v]).toArray
def zero16 : List Int := List.replicate 16 0
theorem tab0 (v : Value) : tab zero16 v = #[.int .i64 0, .int .i64 0, .int .i64 0, .int .i64 0, .int .i64 0, .int .i64 0, .int .i64 0, .int .i64 0, .int .i64 0, .int .i64 0, .int .i64 0, .int .i64 0, .int .i64 0, .int .i64 0, .int .i64 0, .int .i64 0, v] := rfl
theorem tab_size (cs : List Int) (v : Value) : (tab cs v).size = cs.length + 1 := by simp [tab]
theorem tab_one (cs : List Int) (a : Option Addr) (n c : Nat) : (tab cs (.slice a n c)).all (·.oneCell') = true := by
  rw [Array.all_eq_true_iff_forall_mem]
  intro x hx
  simp [tab] at hx
  rcases hx with ⟨y, _, rfl⟩ | rfl <;> rfl
theorem tab_get (cs : List Int) (v : Value) (i : Nat) (h : i < cs.length) : (tab cs v)[i]? = some (.int .i64 (cs.getD i 0)) := by
  simp [tab, List.getElem?_append, h, List.getD_eq_getElem?_getD]
theorem tab_last (cs : List Int) (v : Value) : (tab cs v)[cs.length]? = some v := by
  simp [tab, List.getElem?_append]
theorem tab_set (cs : List Int) (v : Value) (i : Nat) (h : i < cs.length) (x : Int) : (tab cs v).setIfInBounds i (.int .i64 x) = tab (cs.set i x) v := by
  simp [tab, List.set_append, h, List.map_set]
theorem tab_setLast (cs : List Int) (v u : Value) : (tab cs v).setIfInBounds cs.length u = tab cs u := by
  simp [tab, List.set_append]

theorem inf3 : ∃ i, Try.prog.info? 3 = some i ∧ i.size = 1 := by
  have h : (Try.prog.info? 3).map (·.size) = some 1 := by kernel_rfl
  cases hq : Try.prog.info? 3 with
  | none => rw [hq] at h; cases h
  | some i => rw [hq] at h; exact ⟨i, rfl, by simpa using h⟩
theorem run_isAgg3 (W : World) : (isAgg 3).run Try.prog W = .ok false W := by
  unfold isAgg
  rw [Sem.run_bind, run_underlying Try.underlying3]
  rfl
theorem info26 : (Try.prog.info? 26).map (·.size) = some 17 := by kernel_rfl
theorem below_setRow {B : Nat} {w W : World} (h : Below B w W) {g : Nat} (hg : B ≤ g) (cs : Array Value) : Below B w (W.setRow g cs) :=
  ⟨h.os, h.tape, h.output, by have := h.size; simpa [World.setRow] using this, fun i hi => by
    rw [← h.block i hi]
    simp only [World.setRow]
    rw [Array.getElem?_modify, if_neg (by omega)]⟩
theorem results_cell_tmp {P : Program} {fn : Func} {p q : Tmp} {ty : TypeId} (h : fn.results = #[.cell p ty, .tmp q]) (tmps : Array Value) (w : World) (g : Nat) (t : TypeId) (cs : Array Value) (fr : Nat × Nat) (d : TypeDesc)
    (hp : tmps.getD p undef = .pointer (some ⟨g, 0, none⟩)) (hg : w.heap[g]? = some (.cells cs t fr))
    (hu : P.underlying ty = some d) (hd : (match d with | .struct _ | .array _ _ => true | _ => false) = true) (hi : (P.info? ty).map (·.size) = some cs.size) :
    (results fn tmps).run P w = .ok (.tuple #[.agg cs, tmps.getD q undef]) w := by
  have hp' : tmps[p]?.getD undef = .pointer (some ⟨g, 0, none⟩) := by simpa using hp
  simp [results, h, hp', asAddr, run_loadVar_row w g t ty cs fr d hg hu hd hi]

/-- What New answers: the counts, the symbols, the error. -/
def NewIs (w : World) (cs : List Int) (ss : List Int) (er : Int) (e : Ending) (w' : World) : Prop :=
  ∃ v : Value, e = .returned (.tuple #[.agg (tab cs v), .int .i64 er]) ∧ Kd.R (Kd.int .i64) 3 w' w.heap.size (fun _ => True) v ss ∧ Below w.heap.size w w'

set_option maxHeartbeats 1000000 in
theorem new_long (A : Option Addr) (c : Nat) (l : List Int) (w : World) (h : 320 < l.length) : Calls Try.prog 26 #[.slice A l.length c] w (NewIs w zero16 [] 1) := by
  have c1 : decide (320 < (l.length : Int)) = true := decide_eq_true (by omega)
  have c2 : decide (320 < l.length) = true := decide_eq_true (by omega)
  clear h
  have hb0 : (w.alloc (.cells (tab zero16 (.slice none 0 0)) 26)).heap[w.heap.size]? = some (.cells (tab zero16 (.slice none 0 0)) 26 (0, 0)) := heap_alloc_new _ _
  have HB0 := Aside0.mk hb0
  clear hb0
  go_enter Try.func26, Try.ntmps26
  go_wp2_with (refine wpList_store_row rfl 26 _ _ rfl w.heap.size (tab zero16 (.slice none 0 0)) rfl (by rw [tab0]; rfl) 26 (tab zero16 (.slice none 0 0)) HB0.out info26 rfl (tab_one _ _ _ _) ?_)
  exact bodyPost_ret (v := .tuple #[.agg (tab zero16 (.slice none 0 0)), .int .i64 1]) (results_cell_tmp (p := 2) (q := 3) rfl _ _ w.heap.size 26 _ (0, 0) _ rfl (setRow_heap _ _ _ _ _ _ HB0.out) Try.underlying26 rfl info26) rfl ⟨_, rfl, Kd.R_nil _ _ _ _ _, below_setRow ((Below.refl _ _).alloc (Nat.le_refl _) _) (Nat.le_refl _) _⟩

set_option maxHeartbeats 1000000 in
theorem new_bad (A : Option Addr) (c : Nat) (l : List Int) (w : World) (hr : Kd.C (Kd.int .i64) w A l.length l) (h : l.length ≤ 320) (hb : ¬ ∀ i : Nat, i < l.length → badLen (rd l i) = false) :
    Calls Try.prog 26 #[.slice A l.length c] w (NewIs w zero16 [] 1) := by
  have c1 : decide (320 < (l.length : Int)) = false := decide_eq_false (by omega)
  have c2 : decide (320 < l.length) = false := decide_eq_false (by omega)
  have HR := Aside0.mk hr
  have HB := Aside0.mk hb
  have hb0 : (w.alloc (.cells (tab zero16 (.slice none 0 0)) 26)).heap[w.heap.size]? = some (.cells (tab zero16 (.slice none 0 0)) 26 (0, 0)) := heap_alloc_new _ _
  have HB0 := Aside0.mk hb0
  clear h hr hb hb0
  go_enter Try.func26, Try.ntmps26
  go_wp2_with (first
    | (go_at_call 59; refine (contains_yes A c l _ (Kd.C_alloc HR.out _) HB.out).mono ?_; rintro e w' ⟨rfl, rfl⟩)
    | (refine wpList_store_row rfl 26 _ _ rfl w.heap.size (tab zero16 (.slice none 0 0)) rfl (by rw [tab0]; rfl) 26 (tab zero16 (.slice none 0 0)) HB0.out info26 rfl (tab_one _ _ _ _) ?_))
  exact bodyPost_ret (v := .tuple #[.agg (tab zero16 (.slice none 0 0)), .int .i64 1]) (results_cell_tmp (p := 2) (q := 3) rfl _ _ w.heap.size 26 _ (0, 0) _ rfl (setRow_heap _ _ _ _ _ _ HB0.out) Try.underlying26 rfl info26) rfl ⟨_, rfl, Kd.R_nil _ _ _ _ _, below_setRow ((Below.refl _ _).alloc (Nat.le_refl _) _) (Nat.le_refl _) _⟩

/-- What New answers for lengths that may be. -/
def NewPost (l : List Int) (w : World) (e : Ending) (w' : World) : Prop := NewIs w (if badSum l = true then zero16 else cnts l) (if badSum l = true then [] else syms l) (if badSum l = true then 4 else 0) e w'
/-- A block that is a table. -/
def Tb (cs : List Int) (v : Value) (g : Nat) (w : World) : Prop := w.heap[g]? = some (.cells (tab cs v) 26 (0, 0))
theorem Tb.cell {cs : List Int} {v : Value} {g : Nat} {w : World} (h : Tb cs v g w) (i : Nat) (hi : i < cs.length) : w.cell? ⟨g, i, none⟩ = some (.int .i64 (cs.getD i 0)) ∧ w.frozen? ⟨g, i, none⟩ = false :=
  ⟨by rw [blk_cell h, tab_get _ _ _ hi], blk_frozen h i⟩
theorem Tb.set {cs : List Int} {v : Value} {g : Nat} {w : World} (h : Tb cs v g w) (i : Nat) (hi : i < cs.length) (x : Int) : Tb (cs.set i x) v g (w.setCell ⟨g, i, none⟩ (.int .i64 x)) := by
  have := blk_set h i (.int .i64 x)
  rw [tab_set _ _ _ hi] at this
  exact this
theorem Tb.far {cs : List Int} {v : Value} {g : Nat} {w : World} (h : Tb cs v g w) {p : Addr} (hp : g ≠ p.block) (u : Value) : Tb cs v g (w.setCell p u) := blk_far h hp u
theorem Tb.range {cs : List Int} {v : Value} {g : Nat} {w : World} (h : Tb cs v g w) : w.rangeAt g 0 (cs.map (Value.int .i64)) := fun j u hj => by
  rw [List.getElem?_map] at hj
  cases hc : cs[j]? with
  | none => rw [hc] at hj; cases hj
  | some x =>
    rw [hc] at hj
    have hl : j < cs.length := (List.getElem?_eq_some_iff.1 hc).1
    rw [Nat.zero_add, (h.cell j hl).1, List.getD_eq_getElem?_getD, hc]
    exact hj
/-- What holds while the symbols are gathered. -/
structure Gather (l : List Int) (w : World) (v : Value) (ss : List Int) (w' : World) : Prop where
  t1 : Tb (cnts l) v (w.heap.size + 1) w'
  t0 : Tb zero16 (.slice none 0 0) w.heap.size w'
  r : Kd.R (Kd.int .i64) 3 w' w.heap.size (fun _ => True) v ss
  b : Below w.heap.size w w'
theorem Gather.cell {l : List Int} {w : World} {v : Value} {ss : List Int} {w' : World} (h : Gather l w v ss w') : w'.cell? ⟨w.heap.size + 1, 16, none⟩ = some v := by
  have := tab_last (cnts l) v
  rw [cnts_length] at this
  rw [blk_cell h.t1, this]
theorem Tb.cell16 {l : List Int} {v : Value} {g : Nat} {w' : World} (h : Tb (cnts l) v g w') : w'.cell? ⟨g, 16, none⟩ = some v := by
  have := tab_last (cnts l) v
  rw [cnts_length] at this
  rw [blk_cell h, this]
theorem own_ne {w' : World} {base g : Nat} {v : Value} {ss cs : List Int} {u : Value} (hr : Kd.R (Kd.int .i64) 3 w' base (fun _ => True) v ss) (ht : Tb cs u g w') : some g ≠ v.ownBlock := by
  intro he
  obtain ⟨cells, hc⟩ := Kd.R_typed hr g he.symm
  have ht' : w'.heap[g]? = some (.cells (tab cs u) 26 (0, 0)) := ht
  rw [hc] at ht'
  injection ht' with h'
  injection h' with _ h2
  exact absurd h2 (by decide)
theorem R_setRow {w' : World} {base g : Nat} {v : Value} {ss cs : List Int} {u : Value} (hr : Kd.R (Kd.int .i64) 3 w' base (fun _ => True) v ss) (ht : Tb cs u g w') (xs : Array Value) : Kd.R (Kd.int .i64) 3 (w'.setRow g xs) base (fun _ => True) v ss := by
  refine Kd.R_mono (Kd.R_move (Kd.R_bound hr) (fun k hk => ?_)) (fun _ _ => trivial)
  obtain ⟨_, _, _, q, hq, cells, hc⟩ := hk
  have hne : g ≠ k := by
    rintro rfl
    have ht' : w'.heap[g]? = some (.cells (tab cs u) 26 (0, 0)) := ht
    rw [hc] at ht'
    injection ht' with h'
    injection h' with _ h2
    subst h2
    revert hq
    decide
  simp only [World.setRow]
  rw [Array.getElem?_modify, if_neg hne]
theorem R_form {w' : World} {base : Nat} {ok : Nat → Prop} {v : Value} {ss : List Int} (hr : Kd.R (Kd.int .i64) 3 w' base ok v ss) : ∃ A n c, v = .slice A n c := by
  obtain ⟨a, c', e⟩ := Kd.R_slice hr
  exact ⟨a, _, c', e⟩
/-- Behind an append, ahead of its store. -/
theorem Gather.grown {l : List Int} {w : World} {v v1 : Value} {ss ss1 : List Int} {w' w1 : World} (h : Gather l w v ss w') (hg : w'.grownBy w1 v.ownBlock) :
    Tb (cnts l) v (w.heap.size + 1) w1 ∧ Tb zero16 (.slice none 0 0) w.heap.size w1 :=
  ⟨blk_grown h.t1 hg (own_ne h.r h.t1), blk_grown h.t0 hg (own_ne h.r h.t0)⟩
theorem Gather.stored {l : List Int} {w : World} {v v1 : Value} {ss1 : List Int} {w1 : World} (h1 : Tb (cnts l) v (w.heap.size + 1) w1) (h0 : Tb zero16 (.slice none 0 0) w.heap.size w1)
    (hr : Kd.R (Kd.int .i64) 3 w1 w.heap.size (fun _ => True) v1 ss1) (hb : Below w.heap.size w w1) : Gather l w v1 ss1 (w1.setCell ⟨w.heap.size + 1, 16, none⟩ v1) where
  t1 := by
    have := blk_set h1 16 v1
    have e : (tab (cnts l) v).setIfInBounds 16 v1 = tab (cnts l) v1 := by have := tab_setLast (cnts l) v v1; rwa [cnts_length] at this
    rw [e] at this
    exact this
  t0 := h0.far (Nat.ne_of_lt (Nat.lt_succ_self _)) _
  r := Kd.R_set hr h1 (by decide) 16 v1
  b := below_set hb (Nat.le_succ _)
theorem info3 : (Try.prog.info? 3).map (fun i => (i.zero, i.size, i.bytes)) = some (some (.int .i64 0), 1, 8) := by kernel_rfl
theorem good_is (l : List Int) (k : Nat) (h : badLen (rd l k) = false) : ∃ n : Nat, rd l k = n ∧ n < 16 := by
  simp [badLen] at h
  exact ⟨(rd l k).toNat, by omega, by omega⟩
theorem rd_nat (l : List Int) (k : Nat) : rd l k = l.getD k 0 := by unfold rd; rw [Int.toNat_natCast]

set_option maxRecDepth 100000 in
set_option maxHeartbeats 4000000 in
theorem new_main (A : Option Addr) (c : Nat) (l : List Int) (w : World) (hr : Kd.C (Kd.int .i64) w A l.length l) (h : l.length ≤ 320) (hb : ∀ i : Nat, i < l.length → badLen (rd l i) = false) :
    Calls Try.prog 26 #[.slice A l.length c] w (NewPost l w) := by
  have c1 : decide (320 < (l.length : Int)) = false := decide_eq_false (by omega)
  have c2 : decide (320 < l.length) = false := decide_eq_false (by omega)
  have HR := Aside0.mk hr
  have HG := Aside0.mk hb
  clear hr hb
  have HB := Aside0.mk (Below.refl w.heap.size w)
  go_enter Try.func26, Try.ntmps26
  go_wp2_with (go_at_call 59; refine (contains_no A c l _ (Kd.C_alloc HR.out _) HG.out).mono ?_; rintro e w' ⟨rfl, rfl⟩)
  go_loopw [24] (fun v24 w' => ∃ k : Nat, k ≤ l.length ∧ v24 = .int .i64 k ∧ Aside0 (Tb (cntsAll (l.take k)) (.slice none 0 0) (w.heap.size + 1) w') ∧ Aside0 (Tb zero16 (.slice none 0 0) w.heap.size w') ∧ Aside0 (Below w.heap.size w w')) (fun v24 _ => l.length - (intOf v24).toNat)
  case atStart => exact ⟨0, Nat.zero_le _, rfl, ⟨heap_alloc2_new _ _ _⟩, ⟨heap_alloc2_old _ _ _⟩, ⟨below_alloc (below_alloc (Below.refl _ _) _) _⟩⟩
  case round =>
    obtain ⟨k, hk, rfl, HT1, HT0, HBr⟩ := hrel
    by_cases hlt : k < l.length
    · obtain ⟨ad, ead, hx⟩ := Kd.at_int (Kd.C_below HR.out HBr.out) k (by omega) (by omega)
      cases ead
      obtain ⟨n, en, hn⟩ := good_is l k (HG.out k hlt)
      rw [Int.toNat_natCast, en] at hx
      obtain ⟨hc, hf⟩ := HT1.out.cell n (by rw [cntsAll_length]; exact hn)
      rw [List.getD_eq_getElem?_getD, cntsAll_get _ _ hn] at hc
      have hb0 := cnt_nonneg (l.take k) n
      have hb1 : cnt (l.take k) n ≤ 320 := Int.le_trans (cnt_le _ _) (by rw [List.length_take]; omega)
      have HS := Aside0.mk (HT1.out.set n (by rw [cntsAll_length]; exact hn) (cnt (l.take k) n + 1))
      have en' := Aside0.mk en
      clear en
      simp only [Option.getD_some] at hc
      generalize em' : cnt (l.take k) n = m at hc hb0 hb1 HS
      have em := Aside0.mk em'
      clear em'
      go_wp2
      go_roundw
      case rel =>
        refine ⟨k + 1, by omega, by go_num, ?_, ⟨HT0.out.far (Nat.ne_of_lt (Nat.lt_succ_self _)) _⟩, ⟨below_set HBr.out (Nat.le_succ _)⟩⟩
        have hs : cntsAll (l.take (k + 1)) = (cntsAll (l.take k)).set n (m + 1) := by
          rw [take_snoc' l k hlt, ← rd_nat, en'.out, cntsAll_snoc _ _ hn, em.out]
        exact ⟨by rw [hs]; exact HS.out⟩
      case measure => simp [intOf]; omega
    · obtain rfl : k = l.length := by omega
      rw [List.take_length] at HT1
      have HS0 := Aside0.mk (HT1.out.set 0 (by rw [cntsAll_length]; decide) 0)
      obtain ⟨hc0, hf0⟩ := HT1.out.cell 0 (by rw [cntsAll_length]; decide)
      clear c1 c2
      go_wp2_with (refine wpList_load_mid rfl 24 _ rfl (w.heap.size + 1) 0 rfl ((cnts l).map (Value.int .i64)) _ (HS0.out.range) Try.underlying24 rfl (by rw [List.length_map, cnts_length]; kernel_rfl) ?_)
      have HT := Aside0.mk (show Tb (cnts l) (.slice none 0 0) (w.heap.size + 1) _ from HS0.out)
      have HT0' := Aside0.mk (HT0.out.far (p := ⟨w.heap.size + 1, 0, none⟩) (Nat.ne_of_lt (Nat.lt_succ_self _)) (.int .i64 0))
      have HB' := Aside0.mk (below_set (g := w.heap.size + 1) (j := 0) (v := .int .i64 0) HBr.out (Nat.le_succ _))
      clear HS0 HT0 HBr hc0 hf0 HT1
      generalize wr.setCell ⟨w.heap.size + 1, 0, none⟩ (.int .i64 0) = w1 at HT HT0' HB' ⊢
      go_loop [7, 8, 40] (fun v7 v8 v40 => ∃ n : Nat, n ≤ 16 ∧ v7 = .int .i64 (roomN (cnts l) n) ∧ v8 = .int .i64 (manyN (cnts l) n) ∧ v40 = .int .i64 n) (fun _ _ v40 => 16 - (intOf v40).toNat)
      case atStart => exact ⟨0, by decide, rfl, rfl, rfl⟩
      case round =>
        obtain ⟨n, hn, rfl, rfl, rfl⟩ := hrel
        by_cases hlt : n < 16
        · have hidx : ∀ W, (Instr.index 24 (.agg (List.map (Value.int .i64) (cnts l)).toArray) (.int .i64 n)).run Try.prog W = .ok (.int .i64 ((cnts l).getD n 0)) W := fun W => by
            have h1 : 0 ≤ (n : Int) ∧ (n : Int) < (16 : Nat) := ⟨by omega, by omega⟩
            have h2 : (List.map (Value.int .i64) (cnts l)).toArray[n]? = some (.int .i64 ((cnts l).getD n 0)) := by
              simp [List.getD_eq_getElem?_getD, cnts_length, hlt]
            simp only [Instr.index, Sem.run_bind, run_underlying Try.underlying24]
            obtain ⟨i3, e3, s3⟩ := inf3
            simp [asIntOf, sizeOf, typeInfo, part, hlt, e3, s3, run_isAgg3, cnts_length]
            intro hx
            omega
          have hcn := cnts_rng l n
          have hpw := pow_rng n
          have hrr := roomN_rng (cnts l) l.length (cnts_rng l) (by omega) n
          have hmm := manyN_rng (cnts l) l.length (cnts_rng l) (by omega) n
          have HX : Aside0 (wrap64 (roomN (cnts l) n - wrap64 ((cnts l).getD n 0 * 2 ^ (15 - n))) = roomN (cnts l) (n + 1) ∧ wrap64 (manyN (cnts l) n + (cnts l).getD n 0) = manyN (cnts l) (n + 1)) := by
            have h1 : 0 ≤ (cnts l).getD n 0 * 2 ^ (15 - n) := Int.mul_nonneg hcn.1 (by omega)
            have h2 : (cnts l).getD n 0 * 2 ^ (15 - n) ≤ 320 * 32768 := Int.mul_le_mul (by omega) hpw.2 (by omega) (by omega)
            refine ⟨⟨?_, ?_⟩⟩
            · simp only [roomN]
              generalize (cnts l).getD n 0 * 2 ^ (15 - n) = y at h1 h2 ⊢
              unfold wrap64; omega
            · simp only [manyN]; unfold wrap64; omega
          clear hcn hpw hrr hmm
          go_wp2
          go_round
          case rel =>
            have := HX.out
            simp only [List.getD_eq_getElem?_getD] at this
            exact ⟨n + 1, by omega, by rw [← this.1], by rw [← this.2], by go_num⟩
          case measure => simp [intOf]; omega
        · obtain rfl : n = 16 := by omega
          clear hlt hn
          obtain ⟨hc1, hf1⟩ := HT.out.cell 1 (by rw [cnts_length]; decide)
          rw [List.getD_eq_getElem?_getD, cnts_get _ _ (by decide), if_neg (by decide), Option.getD_some] at hc1
          generalize hR : roomN (cnts l) 16 = r
          generalize hM : manyN (cnts l) 16 = m
          generalize hC : cnt l 1 = c1 at hc1
          have HE : Aside0 (badSum l = (decide (r < 0) || (decide (0 < r) && decide (0 < m) && (decide (m ≠ 1) || decide (c1 ≠ 1))))) := ⟨by unfold badSum; rw [hR, hM, hC]⟩
          clear hR hM hC
          go_upto_region 17 with (fail)
          go_cut [73] (fun v73 wx => v73 = .bool (badSum l) ∧ wx = w1)
          case first =>
            by_cases h1 : r < 0
            · go_wp2_with fail
              go_meet
              exact ⟨by rw [HE.out]; simp [h1], rfl⟩
            have h1' : 0 ≤ r := by omega
            by_cases h2 : 0 < r
            · by_cases h3 : 0 < m
              · by_cases h4 : m = 1
                · by_cases h5 : c1 = 1
                  · subst h5
                    subst h4
                    go_wp2_with fail
                    go_meet
                    exact ⟨by rw [HE.out]; simp [h1, h2, h3], rfl⟩
                  · have h5' : (c1 != 1) = true := by simpa using h5
                    subst h4
                    go_wp2_with fail
                    go_meet
                    exact ⟨by rw [HE.out]; simp [h1, h2, h3, h5], rfl⟩
                · have h4' : (m != 1) = true := by simpa using h4
                  go_wp2_with fail
                  go_meet
                  exact ⟨by rw [HE.out]; simp [h1, h2, h3, h4], rfl⟩
              · have h3' : m ≤ 0 := by omega
                go_wp2_with fail
                go_meet
                exact ⟨by rw [HE.out]; simp [h1, h2, h3]; omega, rfl⟩
            · have h2' : r ≤ 0 := by omega
              go_wp2_with fail
              go_meet
              exact ⟨by rw [HE.out]; simp [h1, h2]; omega, rfl⟩
          case rest =>
            obtain ⟨rfl, rfl⟩ := hcut
            clear HE hc1 hf1
            by_cases hbs : badSum l = true
            · have HBS := Aside0.mk hbs
              rw [hbs]
              clear hbs
              go_wp2_with (refine wpList_store_row rfl 26 _ _ rfl w.heap.size (tab zero16 (.slice none 0 0)) rfl (by rw [tab0]; rfl) 26 (tab zero16 (.slice none 0 0)) HT0'.out info26 rfl (tab_one _ _ _ _) ?_)
              refine bodyPost_ret (v := .tuple #[.agg (tab zero16 (.slice none 0 0)), .int .i64 4]) (results_cell_tmp (p := 2) (q := 3) rfl _ _ w.heap.size 26 _ (0, 0) _ rfl (setRow_heap _ _ _ _ _ _ HT0'.out) Try.underlying26 rfl info26) rfl ?_
              unfold NewPost
              rw [if_pos HBS.out, if_pos HBS.out, if_pos HBS.out]
              exact ⟨_, rfl, Kd.R_nil _ _ _ _ _, below_setRow HB'.out (Nat.le_refl _) _⟩
            · have hbs' : badSum l = false := by simpa using hbs
              have HBS := Aside0.mk hbs
              rw [hbs']
              clear hbs hbs'
              have HGa : Aside0 (∃ v, Gather l w v (symsN l 0) wc) := ⟨_, HT.out, HT0'.out, Kd.R_nil _ _ _ _ _, HB'.out⟩
              clear HT HT0' HB'
              go_wp2
              go_loopw [11] (fun v11 w' => ∃ n : Nat, n ≤ 15 ∧ v11 = .int .i64 ((n : Int) + 1) ∧ Aside0 (∃ v, Gather l w v (symsN l n) w')) (fun v11 _ => 16 - (intOf v11).toNat)
              case atStart => exact ⟨0, by decide, rfl, HGa⟩
              case round =>
                clear HGa
                obtain ⟨n, hn, rfl, HGn⟩ := hrel
                by_cases hlt : n < 15
                · have hdec : decide ((n : Int) + 1 ≤ 15) = true := decide_eq_true (by omega)
                  go_wp2
                  obtain ⟨wo, rfl⟩ : ∃ wo : World, wo = wr := ⟨_, rfl⟩
                  go_loopw [81] (fun v81 w' => ∃ k : Nat, k ≤ l.length ∧ v81 = .int .i64 k ∧ Aside0 (∃ v, Gather l w v (symsN l n ++ idxN l (n + 1) k) w')) (fun v81 _ => l.length - (intOf v81).toNat)
                  case atStart => exact ⟨0, Nat.zero_le _, rfl, by rw [show symsN l n ++ idxN l (n + 1) 0 = symsN l n from List.append_nil _]; exact HGn⟩
                  case round =>
                    clear HGn
                    obtain ⟨k, hk, rfl, HGk⟩ := hrel
                    by_cases hlk : k < l.length
                    · obtain ⟨v, hv⟩ := HGk.out
                      have HV := Aside0.mk hv
                      clear hv HGk
                      obtain ⟨ad, ead, hx⟩ := Kd.at_int (Kd.C_below HR.out HV.out.b) k (by omega) (by omega)
                      cases ead
                      obtain ⟨m, en, hm⟩ := good_is l k (HG.out k hlk)
                      rw [Int.toNat_natCast, en] at hx
                      have EN := Aside0.mk en
                      clear en
                      by_cases hmn : m = n + 1
                      · subst hmn
                        have hcell := HV.out.cell
                        have hfro := blk_frozen HV.out.t1 16
                        have hlen : (symsN l n ++ idxN l (n + 1) k).length ≤ 6000 := by
                          have h1 := symsN_length l n
                          have h2 := idxN_length l (n + 1) k
                          have h3 : n * l.length ≤ 15 * 320 := Nat.mul_le_mul (by omega) h
                          rw [List.length_append]
                          omega
                        have HL := Aside0.mk hlen
                        clear hlen
                        go_wp2_with ((with_reducible refine gate_builtin (b := .append) (xs := #[.tmp 90, .tmp 92]) rfl ?_); at_builtin; refine Kd.R_append (Kd.int .i64) (w0 := w) w.heap.size rfl (.tmp 90) (.tmp 92) 22 3 (.int .i64 0) 8 rfl Try.underlying22 info3 rfl (by decide) (by omega) v (symsN l n ++ idxN l (n + 1) k) k [.int .i64 k] (fun _ => True) (fun _ => False) rfl rfl ?aP (fun _ hk => hk.elim) ?aF ?aO ?aB ?aS ?aL ?_; (case aP => exact rfl); (case aF => exact (fun _ _ => trivial)); (case aO => exact HV.out.r); (case aB => exact HV.out.b); (case aS => exact below_size HV.out.b); (case aL => have := HL.out; omega); intro v1 w2 ho hb hg hat; obtain ⟨A1, n1, ca1, rfl⟩ : ∃ A n c, v1 = .slice A n c := R_form ho; have hgr := HV.out.grown (v1 := .nilFunc) (ss1 := []) hg; have hcell := hgr.1.cell16; have hfro := blk_frozen hgr.1 16; have HS := Aside0.mk (Gather.stored hgr.1 hgr.2 ho hb); clear ho hb hg hat hgr)
                        go_roundw
                        case rel =>
                          refine ⟨k + 1, by omega, by go_num, ?_⟩
                          have hs : symsN l n ++ idxN l (n + 1) (k + 1) = (symsN l n ++ idxN l (n + 1) k) ++ [(k : Int)] := by
                            rw [idxN_succ, ← rd_nat, EN.out, if_pos rfl, List.append_assoc]
                          rw [hs]
                          exact ⟨_, HS.out⟩
                        case measure => simp [intOf]; omega
                      · have hne : ((m : Int) == (n : Int) + 1) = false := by simp; omega
                        have HN := Aside0.mk hmn
                        clear hmn
                        go_wp2
                        go_roundw
                        case rel =>
                          refine ⟨k + 1, by omega, by go_num, ?_⟩
                          have hs : symsN l n ++ idxN l (n + 1) (k + 1) = symsN l n ++ idxN l (n + 1) k := by
                            rw [idxN_succ, ← rd_nat, EN.out, if_neg (by have := HN.out; omega), List.append_nil]
                          rw [hs]
                          exact ⟨_, HV.out⟩
                        case measure => simp [intOf]; omega
                    · obtain rfl : k = l.length := by omega
                      go_wp2
                      go_roundw
                      case rel =>
                        refine ⟨n + 1, by omega, by go_num, ?_⟩
                        exact HGk
                      case measure => simp [intOf]; omega
                · obtain rfl : n = 15 := by omega
                  obtain ⟨v, hv⟩ := HGn.out
                  have HV := Aside0.mk hv
                  clear hv HGn
                  obtain ⟨va, vn, vc, rfl⟩ : ∃ a n c, v = .slice a n c := by obtain ⟨a, c', e⟩ := Kd.R_slice HV.out.r; exact ⟨a, _, c', e⟩
                  go_wp2_with (first
                    | (refine wpList_load_row rfl 26 _ rfl (w.heap.size + 1) rfl 26 (tab (cnts l) (.slice va vn vc)) (0, 0) _ HV.out.t1 Try.underlying26 rfl (by rw [tab_size, cnts_length]; exact info26) ?_)
                    | (refine wpList_store_row rfl 26 _ _ rfl w.heap.size (tab (cnts l) (.slice va vn vc)) rfl rfl 26 (tab zero16 (.slice none 0 0)) HV.out.t0 (by rw [tab_size, cnts_length]; exact info26) (by rw [tab_size, tab_size, cnts_length]; rfl) (tab_one _ _ _ _) ?_))
                  refine bodyPost_ret (v := .tuple #[.agg (tab (cnts l) (.slice va vn vc)), .int .i64 0]) (results_cell_tmp (p := 2) (q := 3) rfl _ _ w.heap.size 26 _ (0, 0) _ rfl (setRow_heap _ _ _ _ _ _ HV.out.t0) Try.underlying26 rfl (by rw [tab_size, cnts_length]; exact info26)) rfl ?_
                  unfold NewPost
                  rw [if_neg HBS.out, if_neg HBS.out, if_neg HBS.out]
                  refine ⟨_, rfl, ?_, below_setRow HV.out.b (Nat.le_refl _) _⟩
                  exact R_setRow HV.out.r HV.out.t0 _

def newCs (l : List Int) : List Int := if errOf l = 0 then cnts l else zero16
def newSs (l : List Int) : List Int := if errOf l = 0 then syms l else []
theorem bad_is (n : Int) : badLen n = false ↔ (decide (0 ≤ n) && decide (n ≤ 15)) = true := by
  simp [badLen]
theorem ok_is (l : List Int) : (∀ i : Nat, i < l.length → badLen (rd l i) = false) ↔ okL l = true := by
  unfold okL
  rw [List.all_eq_true]
  constructor
  · intro h x hx
    obtain ⟨i, hi, rfl⟩ := List.getElem_of_mem hx
    have := h i hi
    rw [rd_nat, List.getD_eq_getElem?_getD, List.getElem?_eq_getElem hi, Option.getD_some, bad_is] at this
    exact this
  · intro h i hi
    rw [rd_nat, List.getD_eq_getElem?_getD, List.getElem?_eq_getElem hi, Option.getD_some, bad_is]
    exact h _ (List.getElem_mem hi)
theorem new_calls (A : Option Addr) (c : Nat) (l : List Int) (w : World) (hr : Kd.C (Kd.int .i64) w A l.length l) :
    Calls Try.prog 26 #[.slice A l.length c] w (NewIs w (newCs l) (newSs l) (errOf l)) := by
  unfold newCs newSs
  by_cases h : 320 < l.length
  · have e : errOf l = 1 := by unfold errOf; rw [if_pos h]
    rw [e]
    exact new_long A c l w h
  by_cases hb : ∀ i : Nat, i < l.length → badLen (rd l i) = false
  · have hok := (ok_is l).1 hb
    refine (new_main A c l w hr (by omega) hb).mono fun e w' hn => ?_
    unfold NewPost at hn
    by_cases hs : badSum l = true
    · have e : errOf l = 4 := by unfold errOf; rw [if_neg h, hok, if_neg (by decide), if_pos hs]
      rw [if_pos hs, if_pos hs, if_pos hs] at hn
      rw [e]
      exact hn
    · have e : errOf l = 0 := by unfold errOf; rw [if_neg h, hok, if_neg (by decide), if_neg hs]
      rw [if_neg hs, if_neg hs, if_neg hs] at hn
      rw [e]
      exact hn
  · have hok : okL l = false := by
      cases h' : okL l with
      | true => exact absurd ((ok_is l).2 h') hb
      | false => rfl
    have e : errOf l = 1 := by unfold errOf; rw [if_neg h, hok, if_pos rfl]
    rw [e]
    exact new_bad A c l w hr (by omega) hb
theorem newCs_length (l : List Int) : (newCs l).length = 16 := by
  unfold newCs
  split
  · exact cnts_length l
  · rfl
end Go.Proofs.Ytpbhkdamkbopkaa.Ext
