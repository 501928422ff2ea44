/- The walk of inflate's reader.table. -/
import Derived.Test.YtpbhkdamkbopkaaExtI1
namespace Go.Proofs.Ytpbhkdamkbopkaa.Inf
set_option linter.unusedSimpArgs false
set_option linter.unusedVariables false
open Go.RowKit Go.Proofs.Ytpbhkdamkbopkaa.Ext Go.Proofs.Ytpbhkdamkbopkaa.RefP Go.Proofs.YtpbhkdamkbopkaaW.PrintWords Go.Proofs.YtpbhkdamkbopkaaW.PrintLast Go.Proofs.YtpbhkdamkbopkaaW.PrintMore

theorem setRow_far (w : World) (b : Nat) (c : Array Value) (i : Nat) (h : i ≠ b) : (w.setRow b c).heap[i]? = w.heap[i]? := by
  simp only [World.setRow]
  rw [Array.getElem?_modify, if_neg (fun e => h e.symm)]
theorem setRow_size (w : World) (b : Nat) (c : Array Value) : (w.setRow b c).heap.size = w.heap.size := by
  simp [World.setRow]
section
variable {w0 w w' : World} {g : Nat} {v v' : Value} {s : ByteArray} {mx : Int} {x : St}
theorem ISt.own (h : ISt w0 g v s mx x w) : ∀ k, v.ownBlock = some k → w0.heap.size ≤ k ∧ k < w.heap.size := by
  obtain ⟨inner, ho⟩ := Kd.R_own h.row
  exact fun k hk => ⟨(ho.lt k hk).1, (ho.lt k hk).2⟩
theorem ISt.glt (h : ISt w0 g v s mx x w) : g < w.heap.size := blk_lt h.blk
theorem ISt.same (h : ISt w0 g v s mx x w) (hg : w'.heap[g]? = w.heap[g]?) (hv : ∀ k, v.ownBlock = some k → w'.heap[k]? = w.heap[k]?) (hb : Below w0.heap.size w0 w') : ISt w0 g v s mx x w' :=
  ⟨hg.trans h.blk, Kd.R_reok rfl (Kd.R_step (Kd.R_tight rfl h.row) (fun k hk _ => hv k hk.symm)) h.row.1, h.hg, hb⟩
/-- A row beyond all that the reader has is written. -/
theorem ISt.setRow (h : ISt w0 g v s mx x w) (b : Nat) (c : Array Value) (hg : b ≠ g) (hv : v.ownBlock ≠ some b) (hb : w0.heap.size ≤ b) : ISt w0 g v s mx x (w.setRow b c) :=
  h.same (setRow_far w b c g (fun e => hg e.symm)) (fun k hk => setRow_far w b c k (fun e => hv (by rw [hk, e]))) (below_setRow h.bl hb c)
theorem Fro.setRow (h : Fro w g v w' v') (b : Nat) (c : Array Value) (hb : w.heap.size ≤ b) : Fro w g v (w'.setRow b c) v' :=
  ⟨⟨by rw [setRow_size]; exact h.keep.1, fun i hi h1 h2 => (setRow_far w' b c i (by omega)).trans (h.keep.2 i hi h1 h2)⟩, h.own⟩
end
/-- A row apart from the reader is a foot. -/
theorem foot_of {w1 W : World} {g : Nat} {v : Value} {A : Option Addr} {n c : Nat} {l : List Int} {base : Nat} (hr : Kd.R (Kd.int .i64) 3 w1 base (fun _ => True) (.slice A n c) l) (hsz : w1.heap.size ≤ W.heap.size)
    (hk : ∀ k, base ≤ k → k < w1.heap.size → W.heap[k]? = w1.heap[k]? ∧ k ≠ g ∧ some k ≠ v.ownBlock) : Foot W g v A l := fun W' hW => by
  have h2 : Kd.R (Kd.int .i64) 3 W' base (fun _ => True) (.slice A n c) l := Kd.R_mono (Kd.R_step (Kd.R_bound hr) (fun k ho hlt => by
    obtain ⟨h1, h2, h3⟩ := hk k ho.2.1 hlt
    exact (hW.2 k (by omega) h2 h3).trans h1)) (fun _ _ => trivial)
  exact (Kd.R_reads' h2).2.2

/-- What table leaves. -/
def TPost (w0 : World) (g : Nat) (v : Value) (s : ByteArray) (mx : Int) (w : World) (l : List Int) (x : St) (e : Ending) (w' : World) : Prop :=
  ∃ tv v1, e = .returned tv ∧ Tv w' g v1 tv l (x.e = 0) ∧ ISt w0 g v1 s mx (table l x) w' ∧ Fro w g v w' v1

set_option maxRecDepth 100000 in
set_option maxHeartbeats 4000000 in
theorem table_calls (w0 : World) (g : Nat) (v : Value) (s : ByteArray) (mx : Int) (x : St) (A : Option Addr) (c : Nat) (l : List Int) (w : World) (h : ISt w0 g v s mx x w) (hr : Kd.C (Kd.int .i64) w A l.length l) :
    Calls Try.prog 98 #[.pointer (some ⟨g, 0, none⟩), .slice A l.length c] w (TPost w0 g v s mx w l x) := by
  have HH := Aside0.mk h
  have HR := Aside0.mk hr
  clear h hr
  have hu26 := Aside0.mk Try.underlying26
  have HW : ISt w0 g v s mx x (w.alloc (.cells (tab zero16 (.slice none 0 0)) 26)) := HH.out.below (below_alloc (Below.refl _ _) _)
  have HFW : Fro w g v (w.alloc (.cells (tab zero16 (.slice none 0 0)) 26)) v := (Fro.refl _ _ _).below (below_alloc (Below.refl _ _) _)
  have hblk := heap_alloc_new w (.cells (tab zero16 (.slice none 0 0)) 26)
  have hc4 := HW.c4
  rw [tab0] at HW HFW hblk hc4
  have hv0 : v.ownBlock ≠ some w.heap.size := fun e => by have := (HH.out.own _ e).2; omega
  have hg0 : w.heap.size ≠ g := fun e => by have := HH.out.glt; omega
  have hw00 : w0.heap.size ≤ w.heap.size := HH.out.bl.size
  have BN := Aside0.mk (And.intro hv0 (And.intro hg0 hw00))
  clear hv0 hg0 hw00
  have hra := Kd.C_alloc HR.out (.cells (tab zero16 (.slice none 0 0)) 26)
  rw [tab0] at hra
  by_cases cx : x.e = 0
  · have hd : (x.e != 0) = false := by rw [cx]; rfl
    go_enter Try.func98, Try.ntmps98
    go_upto_region 3 with fail
    generalize w.alloc _ = W at HW HFW hblk hc4 hra ⊢
    have HRA := Aside0.mk hra
    clear hra
    rw [← tab0] at hblk
    obtain ⟨b, hb⟩ : ∃ b, b = w.heap.size := ⟨_, rfl⟩
    rw [← hb] at hblk BN ⊢
    have HWA := Aside0.mk HW
    have HFA := Aside0.mk HFW
    have HBA := Aside0.mk hblk
    have HBE := Aside0.mk hb
    clear HW HFW hblk hc4 hb hd
    have HRW : Aside0 (Kd.C (Kd.int .i64) W A l.length l) := HRA
    go_wp2_with (first
      | (go_at_call 26; (with_reducible refine (new_calls A c l _ HRW.out).mono ?_); rintro e w1 ⟨u, rfl, hru, hb1⟩; have HU := Aside0.mk hru; have HI1 := Aside0.mk (HWA.out.below hb1); have HF1 := Aside0.mk (HFA.out.below hb1); have HB1 := Aside0.mk ((hb1.block b (blk_lt HBA.out)).trans HBA.out); have HS1 := Aside0.mk hb1.size; obtain ⟨ua, un, uc, rfl⟩ := R_form hru; clear hru hb1)
      | (refine wpList_store_row rfl 26 _ _ rfl w1.heap.size (tab (newCs l) (.slice ua un uc)) rfl rfl 26 (tab zero16 (.slice none 0 0)) (heap_alloc_new _ _) (by rw [tab_size, newCs_length]; exact info26) (by rw [tab_size, tab_size, newCs_length]; rfl) (tab_one _ _ _ _) ?_; rw [World.setRow_alloc_new])
      | fail)
    refine (fail_calls w0 g v s mx x (errOf l) _ (HI1.out.below (below_alloc (Below.refl _ _) _))).mono ?_
    rintro e w3 ⟨v1, rfl, hi, hf⟩
    have HI3 := Aside0.mk hi
    have HF3 := Aside0.mk hf
    clear hi hf
    have hB5 : Aside0 (w3.heap[w1.heap.size]? = some (.cells (tab (newCs l) (.slice ua un uc)) 26 (0, 0))) := ⟨(HF3.out.keep.2 w1.heap.size (by show w1.heap.size < (w1.heap.push _).size; simp) (fun e => by have := HI1.out.glt; omega) (fun e => by have := (HI1.out.own _ e.symm).2; omega)).trans (heap_alloc_new _ _)⟩
    have hBb : Aside0 (w3.heap[b]? = some (.cells (tab zero16 (.slice none 0 0)) 26 (0, 0))) := ⟨(HF3.out.keep.2 b (by have := blk_lt HB1.out; show b < (w1.heap.push _).size; simp; omega) BN.out.2.1 (fun e => BN.out.1 e.symm)).trans ((heap_alloc_old _ _ (blk_lt HB1.out)).trans HB1.out)⟩
    go_wp2_with (first
      | (refine wpList_load_row rfl 26 _ rfl w1.heap.size rfl 26 _ (0, 0) _ hB5.out hu26.out rfl (by rw [tab_size, newCs_length]; exact info26) ?_)
      | (refine wpList_store_row rfl 26 _ _ rfl b (tab (newCs l) (.slice ua un uc)) rfl rfl 26 (tab zero16 (.slice none 0 0)) hBb.out (by rw [tab_size, newCs_length]; exact info26) (by rw [tab_size, tab_size, newCs_length]; rfl) (tab_one _ _ _ _) ?_))
    have hrow4 : (w3.setRow b (tab (newCs l) (.slice ua un uc))).heap[b]? = some (.cells (tab (newCs l) (.slice ua un uc)) 26 (0, 0)) := setRow_heap w3 b _ _ 26 (0, 0) hBb.out
    obtain ⟨rfl, hcap, _⟩ := Kd.R_reads' HU.out
    have hbW : b < W.heap.size := blk_lt HBA.out
    have hbw : w.heap.size ≤ b := Nat.le_of_eq HBE.out.symm
    have hw1 : W.heap.size ≤ w1.heap.size := HS1.out
    have hw3 : w1.heap.size + 1 ≤ w3.heap.size := by have h := HF3.out.keep.1; have e : (w1.alloc (.cells (tab (newCs l) (.slice ua (newSs l).length uc)) 26)).heap.size = w1.heap.size + 1 := by show (w1.heap.push _).size = _; simp
                                                     omega
    have hI4 : ISt w0 g v1 s mx (table l x) (w3.setRow b (tab (newCs l) (.slice ua (newSs l).length uc))) := HI3.out.setRow b _ BN.out.2.1 (fun e => by
      rcases HF3.out.own with h | ⟨q, h, hq⟩
      · exact BN.out.1 (by rw [← h]; exact e)
      · rw [h] at e
        have e2 := Option.some.inj e
        have e3 : (w1.alloc (.cells (tab (newCs l) (.slice ua (newSs l).length uc)) 26)).heap.size = w1.heap.size + 1 := by show (w1.heap.push _).size = _; simp
        omega) BN.out.2.2
    have hF4 : Fro w g v (w3.setRow b (tab (newCs l) (.slice ua (newSs l).length uc))) v1 := (((HF1.out.below (below_alloc (Below.refl _ _) _)).trans HF3.out)).setRow b _ hbw
    have hfoot : Foot (w3.setRow b (tab (newCs l) (.slice ua (newSs l).length uc))) g v1 ua (newSs l) := foot_of HU.out (by rw [setRow_size]; omega) (fun k hk hk2 => by
      have hkg : k ≠ g := fun e => by have := HWA.out.glt; omega
      have hkv : some k ≠ v.ownBlock := fun e => by have := (HWA.out.own _ e.symm).2; omega
      refine ⟨?_, hkg, fun e => ?_⟩
      · rw [setRow_far _ _ _ _ (by omega), HF3.out.keep.2 k (by show k < (w1.heap.push _).size; simp; omega) hkg hkv, heap_alloc_old _ _ hk2]
      · rcases HF3.out.own with h | ⟨q, h, hq⟩
        · exact hkv (by rw [← h]; exact e)
        · rw [h] at e
          have e2 := Option.some.inj e
          have e3 : (w1.alloc (.cells (tab (newCs l) (.slice ua (newSs l).length uc)) 26)).heap.size = w1.heap.size + 1 := by show (w1.heap.push _).size = _; simp
          omega)
    refine bodyPost_ret (results_cell_row rfl _ _ b 26 _ (0, 0) _ rfl hrow4 hu26.out rfl (by rw [tab_size, newCs_length]; exact info26)) rfl ?_
    exact ⟨_, v1, rfl, ⟨newCs l, newSs l, ua, uc, rfl, newCs_length l, hfoot, fun _ => ⟨rfl, rfl⟩⟩, hI4, hF4⟩
  · have hd : (x.e != 0) = true := by simpa using cx
    go_enter Try.func98, Try.ntmps98
    go_wp2
    have hx : table l x = x := by unfold table fail; rw [if_neg cx]
    refine bodyPost_ret (results_cell_row rfl _ _ w.heap.size 26 _ (0, 0) _ rfl hblk hu26.out rfl (by exact info26)) rfl ?_
    exact ⟨_, v, rfl, ⟨zero16, [], none, 0, (congrArg Value.agg (tab0 (.slice none 0 0))).symm, rfl, fun W' _ => Kd.C_nil _ W', fun h => absurd h cx⟩, by rw [hx]; exact HW, HFW⟩
end Go.Proofs.Ytpbhkdamkbopkaa.Inf
