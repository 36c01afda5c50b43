/- Products: for callers. -/
import Derived.Test.YtcipmpamhffclaaV4
namespace Go.Pl
noncomputable def elN (n : Nat) : Nat := nv (Int.toNat (limb n 0 : Nat)) (Int.toNat (limb n 1 : Nat)) (Int.toNat (limb n 2 : Nat)) (Int.toNat (limb n 3 : Nat))
noncomputable def elL (n : Nat) : List Int := [((limb n 0 : Nat) : Int), ((limb n 1 : Nat) : Int), ((limb n 2 : Nat) : Int), ((limb n 3 : Nat) : Int)]
theorem elN_eq {n : Nat} (h : n < top) : elN n = n := by
  simp only [elN, Int.toNat_natCast]
  rw [nv_limb, Nat.mod_eq_of_lt h]
theorem elL_inj {a b : Nat} (ha : a < top) (hb : b < top) (h : elL a = elL b) : a = b := by
  simp only [elL, List.cons.injEq, and_true] at h
  exact eq_of_limbs ha hb (by omega) (by omega) (by omega) (by omega)
theorem elL_zero : elL 0 = [(0 : Int), (0 : Int), (0 : Int), (0 : Int)] := by
  simp [elL, limb0, limb1, limb2, limb3]
theorem elL_isZero {a : Nat} (ha : a < top) (h : elL a = [(0 : Int), (0 : Int), (0 : Int), (0 : Int)]) : a = 0 :=
  elL_inj ha (by simp only [top]; omega) (h.trans elL_zero.symm)
end Go.Pl
namespace Go.Proofs.Ytcipmpamhffclaa
open Go.Sx Go.Pl Go.RowKit
noncomputable def gMul : List RV → Option (Res × Prop)
  | [.v x, .v y] => match unEl x, unEl y with
    | some a, some b => some (.v (.tuple #[el (a * b % top), el (a * b / top)]), x = el a ∧ y = el b ∧ a < top ∧ b < top)
    | _, _ => none
  | _ => none
theorem gMul_ok (rvs : List RV) (r : Res) (p : Prop) (vs : List Value) (w : World) (hg : gMul rvs = some (r, p)) (hp : p) (hv : RVs (wmem w) rvs vs) : Calls Try.prog 18 vs.toArray w (fun E w' => ∃ v, E = .returned v ∧ r.ok w w' v ∧ Below w.heap.size w w') := by
  unfold gMul at hg
  split at hg
  · split at hg
    · simp only [Option.some.injEq, Prod.mk.injEq] at hg
      obtain ⟨rfl, rfl⟩ := hg
      obtain ⟨h1, h2, h3, h4⟩ := hp
      rw [rvs2 hv, h1, h2]
      exact mul_ok _ _ h3 h4 w
    · cases hg
  · cases hg
noncomputable def CG : Con Try.prog := CF.add 18 gMul gMul_ok
end Go.Proofs.Ytcipmpamhffclaa
