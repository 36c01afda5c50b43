/- The steps of nodes: for callers. -/
import Derived.Test.YtpghmnpbfaichaaE4
namespace Go.Pl
open Go.Sx
/-- The nodes of cells. -/
def unNds : List Value → List Nd
  | a :: b :: c :: d :: e :: f :: g :: r => ⟨unI a, unI b, unI c, nv (unI d).toNat (unI e).toNat (unI f).toNat (unI g).toNat⟩ :: unNds r
  | _ => []
theorem unNds_nodesC : ∀ (l : List Nd), (∀ x ∈ l, x.v < top) → unNds (nodesC l) = l
  | [], _ => rfl
  | x :: r, h => by
    rw [nodesC_cons]
    simp only [ndC, List.cons_append, List.nil_append, unNds, unI, Int.toNat_natCast]
    rw [nv_limb, Nat.mod_eq_of_lt (h x List.mem_cons_self), unNds_nodesC r fun y hy => h y (List.mem_cons_of_mem _ hy)]
noncomputable def stB (cs : List Value) : Bool := hidQ (ordN 0 (unNds cs))
noncomputable def stN (cs : List Value) : Nat := hide (if ordN 0 (unNds cs) then (unNds cs).length else 0)
noncomputable def stC (cs : List Value) : List Value := if ordN 0 (unNds cs) then (unNds cs).map stV else []
end Go.Pl
namespace Go.Proofs.Ytpghmnpbfaichaa
open Go.Sx Go.Pl Go.RowKit
noncomputable def gSteps : List RV → Option (Res × Prop)
  | [.r n cs] => some (.rt 82 1 (stN cs) (stC cs) [.bool (stB cs)], cs = nodesC (unNds cs) ∧ (unNds cs).length = n ∧ n ≤ 4398046511104)
  | _ => none
theorem gSteps_ok (rvs : List RV) (r : Res) (p : Prop) (vs : List Value) (w : World) (hg : gSteps rvs = some (r, p)) (hp : p) (hv : RVs (wmem w) rvs vs) : Calls Try.prog 50 vs.toArray w (fun E w' => ∃ v, E = .returned v ∧ r.ok w w' v ∧ Below w.heap.size w w') := by
  unfold gSteps at hg
  split at hg
  · rename_i n cs
    simp only [Option.some.injEq, Prod.mk.injEq] at hg
    obtain ⟨rfl, rfl⟩ := hg
    obtain ⟨hc, hn, hb⟩ := hp
    match vs, hv with
    | [x], ⟨⟨oa, cap, h1, h2⟩, _⟩ =>
      rw [h1]
      rw [hc] at h2
      have h := steps_ok oa n cap (unNds cs) hn hb w h2
      have e : stepsR (unNds cs) (ordN 0 (unNds cs)) = .rt 82 1 (stN cs) (stC cs) [.bool (stB cs)] := by
        rw [stepsR, stN, stC, stB, hidQ_eq, hide_eq]
        cases ordN 0 (unNds cs) <;> rfl
      rw [e] at h
      exact h
  · cases hg
noncomputable def K5 : Con Try.prog := K3.add 50 gSteps gSteps_ok
/-- A step in a row of steps. -/
theorem stC_get {l : List Nd} (hw : ∀ x ∈ l, x.v < top) (ho : ordN 0 l = true) (i : Nat) (h : i < l.length) : (mapv (stC (nodesC l)))[(i : Int).toNat * 1]? = some (SV.v (stV l[i])) := by
  rw [stC, unNds_nodesC l hw, if_pos ho, Int.toNat_natCast, Nat.mul_one, mapv_get _ _ (by rw [List.length_map]; exact h)]
  simp
end Go.Proofs.Ytpghmnpbfaichaa
