/- Bytes behind the end turn nothing of Raw; with less room there is none. -/
import Derived.Test.YtpbhkdamkbopkaaGEndsx2
import Derived.Test.YtpbhkdamkbopkaaInfByte
namespace Go.Proofs.Ytpbhkdamkbopkaa.Pure
open Go.RowKit Go.Proofs.Ytpbhkdamkbopkaa.Ext Go.Proofs.Ytpbhkdamkbopkaa.GEnds Go.Proofs.Ytpbhkdamkbopkaa.Wr2 Go.Proofs.Ytpbhkdamkbopkaa.Inf Go.Proofs.YtpbhkdamkbopkaaW.PrintWords Go.Proofs.YtpbhkdamkbopkaaW.PrintLast

theorem ends_awake20 : celluloidlaw05_awake.f 20 = some true := by kernel_rfl
theorem ends_awake (k : Nat) : celluloidlaw05_awake.f (20 + k) = some true := by
  induction k with
  | zero => exact ends_awake20
  | succ k ih => exact celluloidlaw05_awake.mono _ _ ih
theorem raw_f (s : ByteArray) (mx : Int) (hs : s.size ≤ 17592186044416) : inflate_Raw.f s mx = some (raw s mx) := by unfold inflate_Raw.f; rw [if_pos hs]
theorem agr_append (s t : ByteArray) (h : (s ++ t).size ≤ 140737488351232) : Agr s (s ++ t) s.size :=
  ⟨Nat.le_refl _, by rw [ByteArray.size_append]; omega, fun j h0 h1 => bt_left s t j h0 h1, by rw [ByteArray.size_append] at h; omega, h⟩
theorem bt_extract (s : ByteArray) (n : Nat) (hn : n ≤ s.size) (j : Int) (h0 : 0 ≤ j) (h1 : j < n) : bt (s.extract 0 n) j = bt s j := by
  have h := cut_bytes (s := s) (q := 0) (n := n) (by omega)
  rw [Nat.zero_add] at h
  rw [← rd_bytesOf, h]
  unfold rd cut
  obtain ⟨i, rfl⟩ := Int.eq_ofNat_of_zero_le h0
  rw [List.getD_eq_getElem?_getD, List.getElem?_map, List.getElem?_range (by omega)]
  simp
theorem agr_extract (s : ByteArray) (n : Nat) (hn : n ≤ s.size) (h : s.size ≤ 140737488351232) : Agr s (s.extract 0 n) n :=
  ⟨hn, by rw [ByteArray.size_extract]; omega, fun j h0 h1 => bt_extract s n hn j h0 h1, h, by rw [ByteArray.size_extract]; omega⟩
theorem ends_big (k : Nat) (a0 a1 : ByteArray) (a2 : Int) : celluloidlaw05_InflateEnds.j0 (20 + k + 1) a0 a1 a2 true = some true := by
  rw [celluloidlaw05_InflateEnds.j0, if_pos rfl, ends_awake k]; rfl
theorem ends_last (k : Nat) (s a : ByteArray) (h : 0 < a.size → (raw s ((a.size : Int) - 1)).2.2 = 7) (hs : s.size ≤ 17592186044416) (ha : a.size ≤ 262144) : celluloidlaw05_InflateEnds.j2 (20 + k + 1) s a false = some true := by
  rw [celluloidlaw05_InflateEnds.j2, if_neg (by decide)]
  by_cases c : (a.size : Int) > 0
  · rw [if_pos c, raw_f s _ hs, Option.bind_some, show wrap64 ((a.size : Int) - 1) = (a.size : Int) - 1 from wrap_in (by omega) (by omega), if_pos (h (by omega)), ends_awake k]; rfl
  · rw [if_neg c, ends_awake k]; rfl
theorem nil_list : (⟨#[]⟩ : ByteArray).toList = ([] : List UInt8) := by kernel_rfl
theorem InflateEnds : celluloidlaw05_InflateEnds.Pure := by
  intro a0 a1 a2 h0 h1 hw
  refine ⟨20 + 2 + 1 + 1, ?_⟩
  unfold celluloidlaw05_InflateEnds.f
  by_cases c0 : (a0.size : Int) > 1024
  · rw [if_pos c0]; exact ends_big 3 _ _ _
  rw [if_neg c0]
  by_cases c1 : (a1.size : Int) > 100
  · rw [decide_eq_true c1]; exact ends_big 3 _ _ _
  rw [decide_eq_false c1, celluloidlaw05_InflateEnds.j0, if_neg (by decide), raw_f a0 a2 (by omega), Option.bind_some]
  by_cases cm : 0 ≤ a2 ∧ a2 ≤ 262144
  · by_cases ce : (run0 a0 a2).e = 0
    · have hr := raw_is a0 a2 cm
      rw [if_pos ce] at hr
      have af := run_aft a0 (by omega) a2
      have hp1 := run_pos a0 (by omega) a2 ce
      have hp2 := af.ok.p1
      have ho := af.o cm.1
      obtain ⟨n, hn⟩ : ∃ n : Nat, ((run0 a0 a2).p + 7) / 8 = (n : Int) := ⟨(((run0 a0 a2).p + 7) / 8).toNat, by omega⟩
      rw [hn] at hr
      have hsz : (strOfNums (run0 a0 a2).o).size = (run0 a0 a2).o.length := strOfNums_size _
      have e1 := (raw_same (mz := a2) (agr_append a0 a1 (by rw [ByteArray.size_append]; omega)) cm cm ce hp2).1 ho
      have e2 := (raw_same (mz := ((run0 a0 a2).o.length : Int)) (agr_extract a0 n (by omega) (by omega)) cm ⟨by omega, by omega⟩ ce (by omega)).1 (Int.le_refl _)
      have e3 : 0 < (run0 a0 a2).o.length → (raw a0 (((run0 a0 a2).o.length : Int) - 1)).2.2 = 7 := fun h => (raw_same (mz := ((run0 a0 a2).o.length : Int) - 1) ⟨Nat.le_refl _, Nat.le_refl _, fun _ _ _ => rfl, by omega, by omega⟩ cm ⟨by omega, by omega⟩ ce hp2).2 (by omega)
      have eA : inflate_Raw.f (a0 ++ a1) a2 = some (raw a0 a2) := by rw [raw_f _ a2 (by rw [ByteArray.size_append]; omega), e1]
      have eB : inflate_Raw.f (a0.extract 0 n) ((strOfNums (run0 a0 a2).o).size : Int) = some (raw a0 a2) := by rw [raw_f _ _ (by rw [ByteArray.size_extract]; omega), hsz, e2]
      rw [hr] at eA eB ⊢
      rw [← hsz] at e3 ho
      generalize strOfNums (run0 a0 a2).o = u at *
      simp only
      rw [if_pos trivial, if_neg (by omega), decide_eq_false (by omega), celluloidlaw05_InflateEnds.j1, if_neg (by decide), if_pos (by omega), eA, Option.bind_some, if_pos (by omega), if_pos (by omega), Int.toNat_natCast, eB, Option.bind_some]
      simp only
      rw [if_neg (by omega), if_pos trivial, if_pos trivial, if_pos trivial, if_pos trivial, if_pos trivial]
      exact ends_last 1 a0 u e3 (by omega) (by omega)
    · have hr := raw_is a0 a2 cm
      rw [if_neg ce] at hr
      rw [hr]
      simp only
      rw [if_neg ce, if_pos nil_list, if_pos trivial]
      rw [show (20 + 2 + 1 : Nat) = 20 + 3 from rfl, ends_awake 3]; rfl
  · have hr : raw a0 a2 = (⟨#[]⟩, 0, 1) := by unfold raw; rw [if_pos (by omega)]
    rw [hr]
    simp only
    rw [if_neg (by decide), if_pos nil_list, if_pos trivial]
    rw [show (20 + 2 + 1 : Nat) = 20 + 3 from rfl, ends_awake 3]; rfl
end Go.Proofs.Ytpbhkdamkbopkaa.Pure
