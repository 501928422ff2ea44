/- The kinds of this seat's parameters, opened: colours, parts, canvases. -/
import Derived.Test.YtdkiglaidbahmaaOpens
import Derived.Test.YtdkiglaidbahmaaPCanvasLaysx0
namespace Go.Proofs.Ytdkiglaidbahmaa.Opens
open Go.RowKit Go.Proofs.Ytdkiglaidbahmaa.PCanvasLays Go.Proofs.YtdkiglaidbahmaaW.PrintWords
/-- The numbers of a colour are Go's. -/
def G23 (x : S23) : Prop := (Lit.int .i64 x.f0).wf = true ∧ (Lit.int .i64 x.f1).wf = true ∧ (Lit.int .i64 x.f2).wf = true ∧ (Lit.int .i64 x.f3).wf = true
def G50 (x : S50) : Prop := G23 x.f0 ∧ (Lit.int .i64 x.f1).wf = true
theorem P23 : Opens Try.prog (Kd.pair (Kd.int .i64) (Kd.pair (Kd.int .i64) (Kd.pair (Kd.int .i64) (Kd.int .i64)))) 23 (fun p => (Lit.int .i64 p.1).wf = true ∧ (Lit.int .i64 p.2.1).wf = true ∧ (Lit.int .i64 p.2.2.1).wf = true ∧ (Lit.int .i64 p.2.2.2).wf = true) := Opens.good (
  Opens.fields Try.underlying23 (by kernel_rfl) (OpensF.cons rfl (by kernel_rfl) (Opens.int Try.underlying3) (OpensF.cons rfl (by kernel_rfl) (Opens.int Try.underlying3) (OpensF.cons rfl (by kernel_rfl) (Opens.int Try.underlying3) (OpensF.one rfl (by kernel_rfl) (Opens.int Try.underlying3)))))) (fun _ h => h)
theorem opens23 : Opens Try.prog k23 23 G23 := Opens.good (Opens.iso P23 (fun x : S23 => (x.f0, x.f1, x.f2, x.f3)) (fun p => (⟨p.1, p.2.1, p.2.2.1, p.2.2.2⟩ : S23)) (fun _ => rfl)) (fun _ h => h)
theorem opens50 : Opens Try.prog k50 50 G50 :=
  Opens.good (Opens.iso (Opens.fields Try.underlying50 (by kernel_rfl) (OpensF.cons rfl (by kernel_rfl) opens23 (OpensF.one rfl (by kernel_rfl) (Opens.int Try.underlying3)))) (fun x : S50 => (x.f0, x.f1)) (fun p => (⟨p.1, p.2⟩ : S50)) (fun _ => rfl)) (fun _ h => h)
theorem opens35 : Opens Try.prog (Kd.slice 50 k50) 35 (fun l => l.length ≤ maxLen ∧ ∀ x ∈ l, G50 x) := Opens.slice Try.underlying35 (by kernel_rfl) opens50
theorem opens24 : Opens Try.prog (Kd.slice 23 k23) 24 (fun l => l.length ≤ maxLen ∧ ∀ x ∈ l, G23 x) := Opens.slice Try.underlying24 (by kernel_rfl) opens23
theorem P26 : Opens Try.prog (Kd.pair (Kd.int .i64) (Kd.pair (Kd.int .i64) (Kd.slice 23 k23))) 26 (fun p => (Lit.int .i64 p.1).wf = true ∧ (Lit.int .i64 p.2.1).wf = true ∧ (p.2.2.length ≤ maxLen ∧ ∀ x ∈ p.2.2, G23 x)) := Opens.good (
  Opens.fields Try.underlying26 (by kernel_rfl) (OpensF.cons rfl (by kernel_rfl) (Opens.int Try.underlying3) (OpensF.cons rfl (by kernel_rfl) (Opens.int Try.underlying3) (OpensF.one rfl (by kernel_rfl) opens24)))) (fun _ h => h)
end Go.Proofs.Ytdkiglaidbahmaa.Opens
