/- The walk of deflate.Raw of no bytes. -/
import Derived.Test.YtpbhkdamkbopkaaExtW2
import Derived.Carry
namespace Go.Proofs.Ytpbhkdamkbopkaa.Wr
set_option linter.unusedSimpArgs false
set_option linter.unusedVariables false
open Go.RowKit Go.Proofs.YtpbhkdamkbopkaaW.PrintWords Go.Proofs.YtpbhkdamkbopkaaW.PrintLast Go.Proofs.YtpbhkdamkbopkaaW.PrintMore

theorem raw0_bits : pk ((([] ++ [1]) ++ nb 1 2) ++ sc 256) = [3, 0] := by decide +kernel
theorem WSt.below {w0 : World} {g : Nat} {v : Value} {o : List Int} {f : Int} {w w' : World} (h : WSt w0 g v o f w) (hb : Below w.heap.size w w') : WSt w0 g v o f w' :=
  ⟨blk_below h.blk hb, Kd.R_below h.row hb, h.hg, below_step h.bl hb⟩
theorem bits_two (w0 : World) (g : Nat) (v0 : Value) (B : List Int) (v : Int) (w : World) (h : WSt w0 g v0 (pk B) (fr B.length) w) (hB : Bits B) (hv0 : 0 ≤ v) (hv1 : v ≤ 1000000) (hl : B.length ≤ 1000000000) :
    Calls Try.prog 63 #[.pointer (some ⟨g, 0, none⟩), .int .i64 v, .int .i64 2] w fun e w' => ∃ v1, e = .returned (.tuple #[]) ∧ WSt w0 g v1 (pk (B ++ nb v 2)) (fr (B ++ nb v 2).length) w' ∧ Fro w g v0 w' v1 :=
  bits_calls w0 g v0 B v 2 w h hB hv0 hv1 (by decide) hl
set_option maxRecDepth 100000 in
set_option maxHeartbeats 1000000 in
theorem raw0_calls (w : World) : Calls Try.prog 39 #[.string ⟨#[]⟩] w fun e w' => e = .returned (.tuple #[.string (strOfNums [3, 0]), .int .i64 0]) ∧ Below w.heap.size w w' := by
  have E0 : Aside0 (Bits []) := ⟨fun b hb => absurd hb (by simp)⟩
  have E1 : Aside0 (Bits ([] ++ [1])) := ⟨fun b hb => by simp at hb; omega⟩
  have E2 : Aside0 ((0 : Int) ≤ 1 ∧ (1 : Int) ≤ 1) := ⟨by decide⟩
  have E3 : Aside0 (([] : List Int).length ≤ 1000000000) := ⟨by decide⟩
  have E4 : Aside0 ((0 : Int) ≤ 1) := ⟨by decide⟩
  have E5 : Aside0 ((1 : Int) ≤ 1000000) := ⟨by decide⟩
  have E6 : Aside0 ((([] : List Int) ++ [1]).length ≤ 1000000000) := ⟨by decide⟩
  have hmm := @run_makeMap Try.prog
  go_enter Try.func39, Try.ntmps39
  go_upto_region 8 with (first
    | ((with_reducible refine gate_dst (N := 17) rfl ?_); refine box_event ?hg (N := 17) ?hd (cs := #[.slice none 0 0, .int .i64 0]) (t := 103) ?hr ?_; (case hd => rfl); (case hg => rfl); (case hr => first | (go_simp; done) | (go_simp; rfl)); intro g hg w1 hx hb; have H0 : Aside0 (WSt w g (.slice none 0 0) (pk []) (fr ([] : List Int).length) w1) := ⟨⟨hx, Kd.R_nil _ _ _ _ _, Nat.le_of_eq hg.symm, hb⟩⟩; clear hx hb hg)
    | (go_at_call 63; (with_reducible refine (bits_one w g _ [] 1 _ H0.out E0.out E2.out E3.out).mono ?_); rintro e w' ⟨v2, rfl, hw2, hf2⟩; have H1 := Aside0.mk hw2; clear hw2 hf2)
    | (go_at_call 63; (with_reducible refine (bits_two w g _ ([] ++ [1]) 1 _ H1.out E1.out E4.out E5.out E6.out).mono ?_); rintro e w' ⟨v3, rfl, hw2, hf2⟩; have H2 := Aside0.mk hw2; clear hw2 hf2))
  have H3 : Aside0 (WSt w g v3 _ _ _) := ⟨H2.out.below (below_alloc (Below.refl _ _) (.map #[] 0))⟩
  generalize World.alloc _ (.map #[] 0) = w4 at H3 ⊢
  go_wp2
  go_loopw [6] (fun v6 w' => v6 = .int .i64 0 ∧ Aside0 (WSt w g v3 (pk (([] ++ [1]) ++ nb 1 2)) (fr (([] ++ [1]) ++ nb 1 2).length) w')) (fun v6 _ => 0)
  case atStart => exact ⟨rfl, H3⟩
  case round =>
    obtain ⟨rfl, H4⟩ := hrel
    have E7 : Aside0 (Bits (([] ++ [1]) ++ nb 1 2)) := ⟨E1.out.append (nb_bits _ _)⟩
    have E8 : Aside0 ((0 : Int) ≤ 256) := ⟨by decide⟩
    have E9 : Aside0 ((256 : Int) ≤ 300) := ⟨by decide⟩
    have E10 : Aside0 ((([] ++ [1]) ++ nb 1 2).length ≤ 1000000000 - 16) := ⟨by decide⟩
    go_wp2_with (go_at_call 64; (with_reducible refine (symbol_calls w g _ (([] ++ [1]) ++ nb 1 2) 256 _ H4.out E7.out E8.out E9.out E10.out).mono ?_); rintro e w' ⟨v5, rfl, hw2, hf2⟩; rw [raw0_bits] at hw2; have H5 := Aside0.mk hw2; clear hw2 hf2; obtain ⟨A5, c5, e5⟩ := Kd.R_slice H5.out.row; subst e5; have hc5 : w'.cell? ⟨g, 0, none⟩ = some (.slice A5 2 c5) := (blk_cell H5.out.blk 0).trans rfl; have hcv := Kd.C_string (P := Try.prog) (A := A5) (n := 2) (c := c5) (xs := [3, 0]) Try.underlying40 Try.underlying5 Try.underlying9 (Kd.R_reads' H5.out.row).2.2)
    go_ret2
    exact ⟨rfl, H5.out.bl⟩
end Go.Proofs.Ytpbhkdamkbopkaa.Wr
