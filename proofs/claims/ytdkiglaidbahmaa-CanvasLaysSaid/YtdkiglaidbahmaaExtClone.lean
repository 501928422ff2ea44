/- The walk of slices.Clone over colours. -/
import Derived.Test.YtdkiglaidbahmaaExtL
import Derived.Lib.SliceRun
namespace Go.Proofs.Ytdkiglaidbahmaa.Ext
set_option linter.unusedSimpArgs false
set_option linter.unusedVariables false
open Go.RowKit Go.Proofs.Ytdkiglaidbahmaa.PCanvasLays Go.Proofs.YtdkiglaidbahmaaW.PrintWords Go.Proofs.YtdkiglaidbahmaaW.PrintLast Go.Proofs.YtdkiglaidbahmaaW.PrintMore

theorem info23b : (Try.prog.info? 23).map (fun i => (i.zero, i.size, i.bytes)) = some (some (.agg #[.int .i64 0, .int .i64 0, .int .i64 0, .int .i64 0]), 4, 32) := by kernel_rfl
theorem k23_KM {w W : World} {base : Nat} {ok : Nat → Prop} {x : S23} {cs : List Value} (h : k23.K w x cs) : k23.M W base ok x cs := by
  obtain rfl := k23_open h
  exact k23_mkM W base ok x
/-- A copy of a slice that is not empty. -/
def api_RGBA_30.f (l0 : List S23) : Option (List S23) := if l0.length = 0 then none else if l0.length * 32 ≤ 140737488355328 then some l0 else none
theorem api_RGBA_30.calls (A0 : Option Addr) (c0 : Nat) (l0 : List S23) (r : List S23) (w : World) (hr0 : Kd.C k23 w A0 l0.length l0) (hc0 : l0.length ≤ c0) (h : api_RGBA_30.f l0 = some r) :
    Calls Try.prog 30 #[.slice A0 l0.length c0] w fun e w' => ∃ v0_ : Value, e = .returned v0_ ∧ Kd.R k23 23 w' w.heap.size (fun _ => True) v0_ r ∧ Below w.heap.size w w' := by
  unfold api_RGBA_30.f at h
  by_cases h0 : l0.length = 0
  · rw [if_pos h0] at h; cases h
  rw [if_neg h0] at h
  by_cases h1 : ¬ l0.length * 32 ≤ 140737488355328
  · rw [if_neg h1] at h; cases h
  replace h1 : l0.length * 32 ≤ 140737488355328 := Decidable.not_not.1 h1
  rw [if_pos h1] at h
  injection h with h
  subst h
  obtain ⟨ad, ead, _⟩ := at_T23 hr0 0 (by omega) (by omega)
  subst ead
  have HR := Aside0.mk hr0
  clear hr0
  have hnil : ∀ W, (binOp .eql 24 (.slice (some ad) l0.length c0) (.slice none 0 0)).run Try.prog W = .ok (.bool false) W := fun W => Lib.run_eql_slice_nil W _ _ _ _ _ _ _ Try.underlying24
  go_enter Try.func30, Try.ntmps30
  go_wp2_with (first
    | ((with_reducible refine gate_dst (N := 5) rfl ?_); refine Kd.R_lit k23 (w0 := w) w.heap.size 23 rfl (N := 5) rfl (xs := []) (inner := []) (ok := fun _ => True) (okp := fun _ => True) ?hr (⟨rfl, by simp⟩) (fun _ hk => hk) trivial (Below.refl _ _) (Nat.le_refl _) (by decide) ?_; (case hr => first | (go_simp; done) | (go_simp; rfl)); intro v1 w1 hr1 hb1 hg1 hn1; have H1 := Aside0.mk hr1; have B1 := Aside0.mk hb1; clear hr1 hb1 hg1 hn1)
    | ((with_reducible refine gate_dst (N := 7) rfl ?_); refine Kd.R_append_rows k23 (w0 := w) w.heap.size rfl (.tmp 5) (.tmp 6) 24 23 _ 32 rfl Try.underlying24 info23b rfl (by decide) (by decide) v1 [] l0 (some ad) l0.length c0 (fun _ => True) (fun k => False) rfl rfl H1.out (Kd.C_below HR.out B1.out) (fun x cs hk => k23_KM hk) (fun k hk => hk.elim) (fun _ _ => trivial) B1.out (below_size B1.out) (by simpa using h1) ?_; intro v2 w2 hr2 hb2 hg2 hn2))
  go_ret
  exact ⟨v2, rfl, hr2, hb2⟩
end Go.Proofs.Ytdkiglaidbahmaa.Ext
