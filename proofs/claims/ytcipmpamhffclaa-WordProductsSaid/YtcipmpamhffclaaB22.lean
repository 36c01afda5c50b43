/- The document's sums, differences, comparisons: for callers. -/
import Derived.Test.YtcipmpamhffclaaB21
namespace Go.Proofs.Ytcipmpamhffclaa
open Go.Sx Go.Pl Go.RowKit
theorem gRSub2_ok (rvs : List RV) (r : Res) (p : Prop) (vs : List Value) (w : World) (hg : gSub rvs = some (r, p)) (hp : p) (hv : RVs (wmem w) rvs vs) : Calls Try.prog 15 vs.toArray w (fun E w' => ∃ v, E = .returned v ∧ r.ok w w' v ∧ Below w.heap.size w w') := by
  unfold gSub at hg
  split at hg
  · split at hg
    · simp only [Option.some.injEq, Prod.mk.injEq] at hg
      obtain ⟨rfl, rfl⟩ := hg
      obtain ⟨h1, h2, h3, h4⟩ := hp
      rw [rvs2 hv, h1, h2]
      exact rsub_ok _ _ h3 h4 w
    · cases hg
  · cases hg
theorem gRLess2_ok (rvs : List RV) (r : Res) (p : Prop) (vs : List Value) (w : World) (hg : gLess rvs = some (r, p)) (hp : p) (hv : RVs (wmem w) rvs vs) : Calls Try.prog 17 vs.toArray w (fun E w' => ∃ v, E = .returned v ∧ r.ok w w' v ∧ Below w.heap.size w w') := by
  unfold gLess at hg
  split at hg
  · split at hg
    · simp only [Option.some.injEq, Prod.mk.injEq] at hg
      obtain ⟨rfl, rfl⟩ := hg
      obtain ⟨h1, h2, h3, h4⟩ := hp
      rw [rvs2 hv, h1, h2]
      exact rless_ok _ _ h3 h4 w
    · cases hg
  · cases hg
noncomputable def CI : Con Try.prog := ((CH.add 13 gRAdd2 gRAdd2_ok).add 15 gSub gRSub2_ok).add 17 gLess gRLess2_ok
end Go.Proofs.Ytcipmpamhffclaa
