/- Any bitmap of at most 500 pixels is written as the document says, or refused, and taken back. -/
import Derived.Test.YtpbhkdamkbopkaaRows
import Derived.Test.YtpbhkdamkbopkaaMPPI
import Derived.WalkKit
import Derived.ProofKit
import Derived.OpenShut
import Derived.ShutString
import Derived.ChangeOld
import Derived.Below
import Derived.SizedLaws
import Derived.Carry
namespace Go.Proofs.Ytpbhkdamkbopkaa.pixelPuts
open Go.ChangeShapes Go.WideShapes Go.ChangeAt Go.RowKit Go.Proofs.Ytpbhkdamkbopkaa.Opens Go.Proofs.Ytpbhkdamkbopkaa.GPix Go.Proofs.Ytpbhkdamkbopkaa.GPixb Go.Proofs.Ytpbhkdamkbopkaa.PR Go.Proofs.Ytpbhkdamkbopkaa.GPxp Go.Proofs.YtpbhkdamkbopkaaW.PrintWords Go.Proofs.YtpbhkdamkbopkaaW.PrintLast Go.Proofs.YtpbhkdamkbopkaaW.PrintMore Go.Proofs.Ytpbhkdamkbopkaa.Opens
open Go.ChangeMaps (open_string shut_string)
set_option linter.unusedVariables false
set_option linter.unusedSimpArgs false
theorem own : ownKnob Try.prog.godebug = none := by kernel_rfl
theorem laidOut : laidOutB Try.prog = true := by kernel_rfl
set_option maxRecDepth 100000 in
theorem lifted (os : Os) (started : os.Started) (H : Type) (enc : TypeId × Value → H) :
    ReturnsInHanded {} Try.checked os 19 .any (Rows.pixelPutsSpec.pre6 enc Try.prog Try.f19 Rows.pixelPutsRow.domain false) (Rows.pixelPutsSpec.post enc Try.prog Try.f19 false true false false) := by
  refine returnsInHanded_of_change_sized (C := Try.checked) own started (by kernel_rfl) Try.func19
    (ChangeSpec.witness6 (enc := enc) (C := Try.checked) false ⟨#[], #[.agg #[.int .i64 0, .int .i64 0, .int .i64 0, .slice none 0 0]], []⟩ 8 (by kernel_rfl) (by kernel_rfl) (by kernel_rfl) (by kernel_rfl)) ?_
  intro W base args ds gs before hval0 hW hcnd hsz0 _
  have hsz : (DataW.weightsEach Try.prog (Try.f19.params.toList ++ Rows.pixelPutsSpec.plain.varTypes Try.prog) (ds ++ gs)).all (· ≤ reachBytes) = true := hsz0
  have hval : ∀ (j : Nat) t v, Try.f19.params[j]? = some t → args[j]? = some v → Value.okWide Try.prog W .any base t v := hval0
  have hW' := hW
  obtain ⟨p, q, hA0, hV, rfl, hfz, hnd⟩ := hW
  have hA : DataW.TrodAll enc Try.prog W 0 (fun _ => true) true Try.f19.params.toList args.toList ds p := hA0
  rw [Try.params19] at hA hval hsz
  obtain ⟨v0, vs0, d0, ds0, p0, q0, hargs, rfl, rfl, h0, r0⟩ := trodAll_cons hA
  obtain ⟨rfl, rfl, rfl⟩ := trodAll_nil r0
  obtain rfl : args = #[v0] := by cases args; simp_all
  obtain ⟨rfl, rfl⟩ := trodVars_none hV
  obtain ⟨cs0, rfl, _⟩ := okWide_struct Try.underlying76 (hval 0 76 v0 rfl rfl)
  have k0 := h0
  have lt0 : ∀ x ∈ p0, x.block < W.heap.size := by obtain ⟨m, hm⟩ := k0; exact DataW.trod_lt m _ _ _ hm
  obtain ⟨y0, K0, g0⟩ := Opens.arg P76 h0
  obtain ⟨L0⟩ := cs0
  obtain ⟨a0_0, ⟨a0_1, ⟨a0_2, l0_3⟩⟩⟩ := y0
  obtain ⟨w0_0, ⟨w0_1, ⟨w0_2, w0_3⟩⟩⟩ := g0
  obtain ⟨M0, eM0⟩ : ∃ M, M = (Value.agg (Array.mk L0)).cells.toList := ⟨_, rfl⟩
  rw [← eM0] at K0
  have eL0 : M0 = L0 := eM0.trans (by simp [Value.cells])
  rw [eL0] at K0
  obtain ⟨_, _, rfl, rfl, ⟨_, _, rfl, rfl, ⟨_, _, rfl, rfl, ⟨A0_3, c0_3, rfl, hc0_3, hC0_3⟩⟩⟩⟩ := K0
  clear eL0 eM0
  clear hA0 hval0 hsz0 hsz
  obtain ⟨k, hp⟩ := Pure.PixelPuts a0_0 a0_1 a0_2 l0_3 w0_0 w0_1 w0_2 w0_3
  have hcall := celluloidlaw11_PixelPuts.calls k a0_0 a0_1 a0_2 _ _ l0_3 true W hC0_3 hc0_3 hp ⟨rfl⟩
  refine hcall.mono fun e W' ⟨he, bel⟩ => ?_
  subst he
  exact ⟨_, rfl, _, _, _, [], _, [], hW', trodAll_mk1 (shut_bool Try.underlying4 _), (trodAll_cons_mk (Below.trod laidOut (by kernel_rfl) (of_decide_eq_true (by kernel_rfl)) k0 bel lt0) trodAll_mk0), rfl, bel.frame _, fun h => by cases h⟩
theorem over : Rows.pixelPutsRow.holds Try.pinned (OpenSpec.ofChange Rows.pixelPutsSpec) :=
  OpenClaim.holds_of_wide 19 Try.f19 rfl rfl rfl rfl rfl rfl rfl ⟨rfl, rfl, rfl, rfl, rfl⟩ rfl rfl rfl rfl rfl (by kernel_rfl) Try.func19
    (by show joinedFacts Try.prog 19 Try.f19 Rows.pixelPutsSpec Rows.pixelPutsRow = true; unfold joinedFacts; rw [Head.enters, Head.final, Head.make]; kernel_rfl)
    (of_decide_eq_true (by kernel_rfl)) (by unfold Func.isWrapper; first | (rw [if_pos (by decide +kernel)]; kernel_rfl) | (rw [if_neg (by decide +kernel)]; exact ⟨rfl, rfl⟩))
    (fun os started H enc _ => lifted os started H enc)
theorem proved : Rows.PixelPutsSaid := over
#print axioms proved
end Go.Proofs.Ytpbhkdamkbopkaa.pixelPuts
namespace Go.Proofs.Ytpbhkdamkbopkaa
/-- The row, under a short name, for the claim. -/
theorem pixelPuts_holds : Rows.PixelPutsSaid := pixelPuts.proved
end Go.Proofs.Ytpbhkdamkbopkaa
