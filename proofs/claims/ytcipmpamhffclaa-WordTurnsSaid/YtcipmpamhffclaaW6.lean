/- What is known of sums, differences and shifts, for callers. -/
import Derived.Test.YtcipmpamhffclaaW5
namespace Go.Proofs.Ytcipmpamhffclaa
open Go.Sx Go.Pl Go.RowKit
noncomputable def gAdd : List RV → Option (Res × Prop)
  | [.v x, .v y] => match unEl x, unEl y with
    | some a, some b => some (.v (.tuple #[el (a + b), .bool (decide (top ≤ a + b))]), x = el a ∧ y = el b ∧ a < top ∧ b < top)
    | _, _ => none
  | _ => none
noncomputable def gSub : List RV → Option (Res × Prop)
  | [.v x, .v y] => match unEl x, unEl y with
    | some a, some b => some (.v (.tuple #[el (a + top - b), .bool (decide (a < b))]), x = el a ∧ y = el b ∧ a < top ∧ b < top)
    | _, _ => none
  | _ => none
noncomputable def gShift : List RV → Option (Res × Prop)
  | [.v x, .v y] => match unEl x, unU y with
    | some a, some b => some (.v (.tuple #[el (2 * a + b), .int .u64 ((limb a 3 / 9223372036854775808 : Nat) : Int)]), x = el a ∧ y = .int .u64 (b : Int) ∧ a < top ∧ b ≤ 1)
    | _, _ => none
  | _ => none
theorem rvs2 {M : Mem} {x y : Value} {vs : List Value} (h : RVs M [.v x, .v y] vs) : vs = [x, y] := by
  match vs, h with
  | [a, b], ⟨h1, h2, _⟩ => rw [h1, h2]
theorem gAdd_ok (rvs : List RV) (r : Res) (p : Prop) (vs : List Value) (w : World) (hg : gAdd rvs = some (r, p)) (hp : p) (hv : RVs (wmem w) rvs vs) : Calls Try.prog 12 vs.toArray w (fun E w' => ∃ v, E = .returned v ∧ r.ok w w' v ∧ Below w.heap.size w w') := by
  unfold gAdd at hg
  split at hg
  · split at hg
    · simp only [Option.some.injEq, Prod.mk.injEq] at hg
      obtain ⟨rfl, rfl⟩ := hg
      obtain ⟨h1, h2, h3, h4⟩ := hp
      rw [rvs2 hv, h1, h2]
      exact add_ok _ _ h3 h4 w
    · cases hg
  · cases hg
theorem gSub_ok (rvs : List RV) (r : Res) (p : Prop) (vs : List Value) (w : World) (hg : gSub rvs = some (r, p)) (hp : p) (hv : RVs (wmem w) rvs vs) : Calls Try.prog 14 vs.toArray w (fun E w' => ∃ v, E = .returned v ∧ r.ok w w' v ∧ Below w.heap.size w w') := by
  unfold gSub at hg
  split at hg
  · split at hg
    · simp only [Option.some.injEq, Prod.mk.injEq] at hg
      obtain ⟨rfl, rfl⟩ := hg
      obtain ⟨h1, h2, h3, h4⟩ := hp
      rw [rvs2 hv, h1, h2]
      exact sub_ok _ _ h3 h4 w
    · cases hg
  · cases hg
theorem gShift_ok (rvs : List RV) (r : Res) (p : Prop) (vs : List Value) (w : World) (hg : gShift rvs = some (r, p)) (hp : p) (hv : RVs (wmem w) rvs vs) : Calls Try.prog 35 vs.toArray w (fun E w' => ∃ v, E = .returned v ∧ r.ok w w' v ∧ Below w.heap.size w w') := by
  unfold gShift at hg
  split at hg
  · split at hg
    · simp only [Option.some.injEq, Prod.mk.injEq] at hg
      obtain ⟨rfl, rfl⟩ := hg
      obtain ⟨h1, h2, h3, h4⟩ := hp
      rw [rvs2 hv, h1, h2]
      exact shift_ok _ _ h3 h4 w
    · cases hg
  · cases hg
noncomputable def CA : Con Try.prog := ((C0.add 12 gAdd gAdd_ok).add 14 gSub gSub_ok).add 35 gShift gShift_ok
/-- What a caller pays: its numbers are words. -/
theorem unEl_pay (a : Nat) (ha : a < top) : el a = el (nv (Int.toNat (limb a 0 : Nat)) (Int.toNat (limb a 1 : Nat)) (Int.toNat (limb a 2 : Nat)) (Int.toNat (limb a 3 : Nat))) ∧ nv (Int.toNat (limb a 0 : Nat)) (Int.toNat (limb a 1 : Nat)) (Int.toNat (limb a 2 : Nat)) (Int.toNat (limb a 3 : Nat)) = a := by
  simp only [Int.toNat_natCast]
  rw [nv_self a ha]
  exact ⟨rfl, rfl⟩
end Go.Proofs.Ytcipmpamhffclaa
