/- The walk of inflate's plain: the fixed lengths. -/
import Derived.Test.YtpbhkdamkbopkaaExtI3
namespace Go.Proofs.Ytpbhkdamkbopkaa.Inf
set_option linter.unusedSimpArgs false
set_option linter.unusedVariables false
open Go.RowKit Go.Proofs.Ytpbhkdamkbopkaa.Ext Go.Proofs.Ytpbhkdamkbopkaa.RefP Go.Proofs.YtpbhkdamkbopkaaW.PrintWords Go.Proofs.YtpbhkdamkbopkaaW.PrintLast Go.Proofs.YtpbhkdamkbopkaaW.PrintMore

theorem row_form {e : Nat} {k : IntKind} {w : World} {base : Nat} {ok : Nat → Prop} {v : Value} {xs : List Int} (h : Kd.R (Kd.int k) e w base ok v xs) (hn : 0 < xs.length) : ∃ go cap, v = .slice (some ⟨go, 0, none⟩) xs.length cap ∧ ok go ∧ base ≤ go ∧ xs.length ≤ cap := by
  obtain ⟨inner, ho⟩ := Kd.R_own h
  rcases ho.2 with ⟨_, h0⟩ | ⟨g, cap, cur, rfl, hbg, hgc, hnc, hcm, hcs, htk⟩
  · omega
  · exact ⟨g, cap, rfl, h.1 g rfl, hbg, hnc⟩
/-- The fixed lengths, as far as k. -/
def La (k : Nat) : List Int := (List.range 288).map fun i => if i < 144 then 8 else if i < k then (if i < 256 then 9 else 7) else 8
theorem La_len (k : Nat) : (La k).length = 288 := by unfold La; simp
theorem La_start : La 144 = List.replicate 288 8 := by decide +kernel
theorem La_end : La 280 = plainA := by decide +kernel
theorem La_step (k : Nat) (h0 : 144 ≤ k) (h1 : k < 280) : (La k).set k (if k < 256 then 9 else 7) = La (k + 1) := by
  refine List.ext_getElem? fun i => ?_
  rw [List.getElem?_set, La_len]
  unfold La
  rw [List.getElem?_map, List.getElem?_map]
  by_cases hi : i < 288
  · rw [List.getElem?_range hi]
    by_cases e : k = i
    · subst e
      rw [if_pos rfl, if_pos hi]
      simp only [Option.map_some]
      congr 1
      (repeat' split) <;> omega
    · rw [if_neg e]
      simp only [Option.map_some]
      congr 1
      (repeat' split) <;> omega
  · rw [List.getElem?_eq_none (by simpa using hi), if_neg (by omega)]
    rfl

set_option maxRecDepth 100000 in
set_option maxHeartbeats 2000000 in
theorem plain_calls (w : World) : Calls Try.prog 96 #[] w fun e w' => ∃ v0 v1 : Value, e = .returned (.tuple #[v0, v1]) ∧ Kd.R (Kd.int .i64) 3 w' w.heap.size (fun _ => True) v0 plainA ∧ Kd.R (Kd.int .i64) 3 w' w.heap.size (fun _ => True) v1 plainB ∧ Below w.heap.size w w' := by
  have HB0 := Aside0.mk (Below.refl w.heap.size w)
  have R1 : Aside0 (1 ≤ 288 ∧ 288 ≤ 65536) := ⟨by decide⟩
  go_enter Try.func96, Try.ntmps96
  have hx8 : (w.alloc (.cells #[.int .i64 8] 3)).cell? ((⟨w.heap.size, 0, none⟩ : Addr).add 0) = some (.int .i64 8) := by rw [add_at]; exact (blk_cell (blk_new _ _) 0).trans rfl
  have HX8 := Aside0.mk hx8
  clear hx8
  go_upto_region 2 with (go_at_call 109; (refine (repeat_calls _ 1 8 288 _ R1.out.1 R1.out.2 HX8.out).mono ?_); rintro e w1 ⟨u, rfl, hru, hb1⟩; have HU := Aside0.mk hru; have HB1 := Aside0.mk (below_step (below_alloc (Below.refl w.heap.size w) (.cells #[.int .i64 8] 3)) hb1); clear hru hb1)
  rw [← La_start] at HU
  obtain ⟨go, cp, rfl, _, hgo, hcp⟩ := row_form HU.out (by rw [La_len]; decide)
  rw [La_len] at HU hcp ⊢
  have HU2 : Aside0 (Kd.R (Kd.int .i64) 3 w1 w.heap.size (fun _ => True) (.slice (some ⟨go, 0, none⟩) 288 cp) (La 144)) := ⟨Kd.R_lower HU.out (by show _ ≤ (w.heap.push _).size; simp)⟩
  have hgo2 : w.heap.size ≤ go := by
    have e : (w.alloc (.cells #[.int .i64 8] 3)).heap.size = w.heap.size + 1 := by show (w.heap.push _).size = _; simp
    omega
  clear HU HX8 hgo
  go_wp2
  go_loopw [3] (fun v3 w' => ∃ k : Nat, 144 ≤ k ∧ k ≤ 280 ∧ v3 = .int .i64 (k : Int) ∧ Aside0 (Kd.R (Kd.int .i64) 3 w' w.heap.size (fun _ => True) (.slice (some ⟨go, 0, none⟩) 288 cp) (La k)) ∧ Aside0 (Below w.heap.size w w')) (fun v3 _ => 280 - (intOf v3).toNat)
  case atStart => exact ⟨144, Nat.le_refl _, by decide, rfl, HU2, HB1⟩
  case round =>
    clear HU2 HB1
    obtain ⟨k, hk0, hk1, rfl, HR, HB⟩ := hrel
    by_cases hlt : k < 280
    · have hdec : decide ((k : Int) < 280) = true := decide_eq_true (by omega)
      have hc : wr.cell? ⟨go, k, none⟩ = some (.int .i64 ((La k).getD k 0)) ∧ wr.frozen? ⟨go, k, none⟩ = false := by
        have := Kd.R_celln (0 : Int) HR.out (k : Int) (by omega) (by omega)
        rw [Int.toNat_natCast] at this
        exact this
      obtain ⟨hc, hf⟩ := hc
      have h7 := Kd.R_putg HR.out (k : Int) 7
      rw [Int.toNat_natCast] at h7
      have H7 := Aside0.mk h7
      clear h7
      by_cases c : k < 256
      · have hd2 : decide ((k : Int) < 256) = true := decide_eq_true (by omega)
        have h9 := Kd.R_putg H7.out.1 (k : Int) 9
        rw [Int.toNat_natCast, List.set_set, show (9 : Int) = (if k < 256 then 9 else 7) from (if_pos c).symm, La_step k hk0 hlt, if_pos c] at h9
        have H9 := Aside0.mk h9
        clear h9
        go_wp2
        go_roundw
        case rel => exact ⟨k + 1, by omega, by omega, by go_num, ⟨H9.out.1⟩, ⟨below_set (below_set HB.out hgo2) hgo2⟩⟩
        case measure => simp [intOf]; omega
      · have hd2 : decide ((k : Int) < 256) = false := decide_eq_false (by omega)
        have h7 := H7.out.1
        rw [show (7 : Int) = (if k < 256 then 9 else 7) from (if_neg c).symm, La_step k hk0 hlt, if_neg c] at h7
        have H8 := Aside0.mk h7
        clear h7
        go_wp2
        go_roundw
        case rel => exact ⟨k + 1, by omega, by omega, by go_num, ⟨H8.out⟩, ⟨below_set HB.out hgo2⟩⟩
        case measure => simp [intOf]; omega
    · have hdec : decide ((k : Int) < 280) = false := decide_eq_false (by omega)
      obtain rfl : k = 280 := by omega
      have hx5 : (wr.alloc (.cells #[.int .i64 5] 3)).cell? ((⟨wr.heap.size, 0, none⟩ : Addr).add 0) = some (.int .i64 5) := by rw [add_at]; exact (blk_cell (blk_new _ _) 0).trans rfl
      have HX5 := Aside0.mk hx5
      clear hx5
      have R2 : Aside0 (1 ≤ 32 ∧ 32 ≤ 65536) := ⟨by decide⟩
      go_wp2_with (go_at_call 109; (refine (repeat_calls _ 1 5 32 _ R2.out.1 R2.out.2 HX5.out).mono ?_); rintro e w2 ⟨u2, rfl, hru, hb1⟩; have HU := Aside0.mk hru; have HB1 := Aside0.mk hb1; clear hru hb1)
      go_ret2
      rw [La_end] at HR
      exact ⟨_, _, rfl, Kd.R_below HR.out (below_step (below_alloc (Below.refl _ _) _) HB1.out), Kd.R_lower HU.out (by have := HB.out.size; show _ ≤ (wr.heap.push _).size; simp; omega), below_step HB.out (below_step (below_alloc (Below.refl _ _) _) HB1.out)⟩
end Go.Proofs.Ytpbhkdamkbopkaa.Inf
