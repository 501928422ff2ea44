/- The walk of AdlerByte: it returns true wherever the sums that it asks for are as told. -/
import Derived.Test.YtljnhbhboecjdaaPAdlerGoesx1
import Derived.Deep.RegionWith
import Derived.Deep.DeepCutAuto
namespace Go.Proofs.Ytljnhbhboecjdaa.ByteWalk
open Go.RowKit Go.Proofs.Ytljnhbhboecjdaa.PAdlerGoes Go.Proofs.YtljnhbhboecjdaaW.PrintWords Go.Proofs.YtljnhbhboecjdaaW.PrintLast Go.Proofs.YtljnhbhboecjdaaW.PrintMore

set_option maxHeartbeats 1000000 in
theorem big (k : Nat) (a0 : ByteArray) (a1 : Int) (w : World) (h : 8192 < a0.size) (hm : a0.size ≤ 140737488351232) (ha : celluloidlaw03_awake.f k = some true) :
    Calls Try.prog 5 #[.string a0, .int .u8 a1] w fun e w' => e = .returned (.bool true) ∧ Below w.heap.size w w' := by
  have c : decide (8192 < (a0.size : Int)) = true := decide_eq_true (by omega)
  have c' : decide (8192 < a0.size) = true := decide_eq_true h
  go_enter Try.func5, Try.ntmps5
  go_wp2_with (go_at_call 8; refine (celluloidlaw03_awake.calls k true _ ha).mono ?_; rintro e w' ⟨rfl, ⟨nd, rfl⟩⟩)
  go_ret
  exact ⟨rfl, by repeat (first | exact Below.refl _ _ | apply pw_below_drewN)⟩

set_option maxHeartbeats 4000000 in
theorem small (k : Nat) (a0 : ByteArray) (a1 x y : Int) (w : World) (h : a0.size ≤ 8192) (h0 : 0 ≤ a1) (h1 : a1 ≤ 255)
    (h2 : adler_Sum.f k a0 = some x) (h3 : adler_Sum.f k (a0 ++ strOfNums [a1]) = some y) (ha : celluloidlaw03_awake.f k = some true)
    (b0 : (y == bits .or .i64 (wrap64 ((wrap64 (x / 65536 + (wrap64 (bits .and .i64 x 65535 + a1)).tmod 65521)).tmod 65521 * 65536)) ((wrap64 (bits .and .i64 x 65535 + a1)).tmod 65521)) = true) :
    Calls Try.prog 5 #[.string a0, .int .u8 a1] w fun e w' => e = .returned (.bool true) ∧ Below w.heap.size w w' := by
  have c : decide (8192 < (a0.size : Int)) = false := decide_eq_false (by omega)
  have c' : decide (8192 < a0.size) = false := decide_eq_false (by omega)
  have hsz : a0.size + (strOfNums [a1]).size ≤ 9223372036854775807 := by rw [strOfNums_size]; simp; omega
  have hconv : ∀ W : World, W.cell? ⟨w.heap.size, 0, none⟩ = some (.int .u8 a1) → (convert 27 9 (.slice (some ⟨w.heap.size, 0, none⟩) 1 1)).run Try.prog W = .ok (.string (strOfNums [a1])) W := by
    intro W hW
    refine run_convert_bytes_arg W 27 5 Try.underlying27 Try.underlying5 w.heap.size 0 1 1 [a1] rfl (fun i hi => ?_) 9 Try.underlying9
    obtain rfl : i = 0 := by omega
    exact hW
  have hc1 : ∀ n, (convert 27 9 (.slice (some ⟨w.heap.size, 0, none⟩) 1 1)).run Try.prog ((w.drewN n).alloc (.cells #[.int .u8 a1] 5)) = .ok (.string (strOfNums [a1])) ((w.drewN n).alloc (.cells #[.int .u8 a1] 5)) := fun n => hconv _ (by rw [World.cell?_alloc_at _ _ _ _ (by rfl)]; rfl)
  have hc2 : ∀ n, (convert 27 9 (.slice (some ⟨w.heap.size, 0, none⟩) 1 1)).run Try.prog ((w.alloc (.cells #[.int .u8 a1] 5)).drewN n) = .ok (.string (strOfNums [a1])) ((w.alloc (.cells #[.int .u8 a1] 5)).drewN n) := fun n => hconv _ (by rw [World.cell?_drewN, World.cell?_alloc_at _ _ _ _ (by rfl)]; rfl)
  have hc3 : (convert 27 9 (.slice (some ⟨w.heap.size, 0, none⟩) 1 1)).run Try.prog ((w.alloc (.cells #[.int .u8 a1] 5)).drew) = .ok (.string (strOfNums [a1])) ((w.alloc (.cells #[.int .u8 a1] 5)).drew) := hc2 1
  have hc4 : (convert 27 9 (.slice (some ⟨w.heap.size, 0, none⟩) 1 1)).run Try.prog (w.drew.alloc (.cells #[.int .u8 a1] 5)) = .ok (.string (strOfNums [a1])) (w.drew.alloc (.cells #[.int .u8 a1] 5)) := hc1 1
  clear hconv
  go_enter Try.func5, Try.ntmps5
  go_upto_region 3 with (fail)
  go_cut [5, 6] (fun u v wx => u = .int .i64 x ∧ v = .int .i64 y ∧ Below w.heap.size w wx)
  case first =>
    go_region_with (first
      | (go_at_call 9; refine (adler_Sum.calls k a0 x _ h2).mono ?_; rintro e w' ⟨rfl, ⟨nd, rfl⟩⟩)
      | (go_at_call 9; refine (adler_Sum.calls k (a0 ++ strOfNums [a1]) y _ h3).mono ?_; rintro e w' ⟨rfl, ⟨nd, rfl⟩⟩))
    all_goals go_wp2_with fail
    all_goals go_meet
    all_goals refine ⟨rfl, rfl, ?_⟩
    all_goals (repeat (first | exact Below.refl _ _ | refine pw_below_drewN ?_ _ | refine below_drew1 ?_ | refine below_alloc ?_ _))
  case rest =>
    obtain ⟨rfl, rfl, hb⟩ := hcut
    go_wp2_with (go_at_call 8; refine (celluloidlaw03_awake.calls k true _ ha).mono ?_; rintro e w' ⟨rfl, ⟨nd, rfl⟩⟩)
    go_ret
    exact ⟨rfl, pw_below_drewN hb _⟩
end Go.Proofs.Ytljnhbhboecjdaa.ByteWalk
