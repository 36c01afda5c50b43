/- The document's product by a base and a digit more. -/
import Derived.Test.YtcipmpamhffclaaP4
namespace Go.Pl
open Go.Sx
noncomputable def tLo (x y c : Int) : Int := IntKind.wrap .u64 (IntKind.wrap .u64 (Int.tmod x 4294967296 * y) + c)
noncomputable def tHi (x y c : Int) : Int := IntKind.wrap .u64 (IntKind.wrap .u64 (IntKind.wrap .u64 (Int.tdiv x 4294967296) * y) + IntKind.wrap .u64 (Int.tdiv (tLo x y c) 4294967296))
noncomputable def tOut (x y c : Int) : Int := IntKind.wrap .u64 (IntKind.wrap .u64 (Int.tmod (tHi x y c) 4294967296 * 4294967296) + Int.tmod (tLo x y c) 4294967296)
noncomputable def tC (x y c : Int) : Int := IntKind.wrap .u64 (Int.tdiv (tHi x y c) 4294967296)
end Go.Pl
namespace Go.Proofs.Ytcipmpamhffclaa
open Go.Sx Go.Pl Go.RowKit
theorem tdivN (a : Nat) : Int.tdiv (a : Int) 4294967296 = ((a / 4294967296 : Nat) : Int) := by rw [Int.tdiv_eq_ediv_of_nonneg (by omega)]; omega
theorem tmodN (a : Nat) : Int.tmod (a : Int) 4294967296 = ((a % 4294967296 : Nat) : Int) := by rw [Int.tmod_eq_emod_of_nonneg (by omega)]; omega
theorem t_eq (x y c : Nat) (hx : x < 18446744073709551616) (hy : y ≤ 16) (hc : c < 4294967296) :
    ∃ (l : Nat) (h : Nat), tOut x y c = ((l : Nat) : Int) ∧ tC x y c = ((h : Nat) : Int) ∧ l < 18446744073709551616 ∧ h < 4294967296 ∧ x * y + c = l + 18446744073709551616 * h := by
  have hp : x / 4294967296 * y ≤ 4294967295 * 16 := Nat.mul_le_mul (by omega) hy
  have hq : x % 4294967296 * y ≤ 4294967295 * 16 := Nat.mul_le_mul (by omega) hy
  have hxy : x * y = 4294967296 * (x / 4294967296 * y) + x % 4294967296 * y := by
    have : x = 4294967296 * (x / 4294967296) + x % 4294967296 := by omega
    conv => lhs; rw [this]
    rw [Nat.add_mul, Nat.mul_assoc]
  have e1 : tLo x y c = ((x % 4294967296 * y + c : Nat) : Int) := by
    rw [tLo, tmodN, mulN, wrapN _ (by omega), addN, wrapN _ (by omega)]
  have e2 : tHi x y c = ((x / 4294967296 * y + (x % 4294967296 * y + c) / 4294967296 : Nat) : Int) := by
    rw [tHi, e1, tdivN, tdivN, wrapN _ (by omega), mulN, wrapN _ (by omega), wrapN _ (by omega), addN, wrapN _ (by omega)]
  refine ⟨(x / 4294967296 * y + (x % 4294967296 * y + c) / 4294967296) % 4294967296 * 4294967296 + (x % 4294967296 * y + c) % 4294967296, (x / 4294967296 * y + (x % 4294967296 * y + c) / 4294967296) / 4294967296, ?_, ?_, ?_⟩
  · rw [tOut, e1, e2, tmodN, tmodN, show (4294967296 : Int) = ((4294967296 : Nat) : Int) from rfl, mulN, wrapN _ (by omega), addN, wrapN _ (by omega)]
  · rw [tC, e2, tdivN, wrapN _ (by omega)]
  · rw [hxy]
    generalize x / 4294967296 * y = p at *
    generalize x % 4294967296 * y = q at *
    omega
theorem times_num (a y d : Nat) (ha : a < top) (hy : y ≤ 16) (hd : d < 4294967296) :
    ∃ l0 l1 l2 l3 c1 c2 c3 c4 : Nat,
      tOut (limb a 0 : Nat) y d = ((l0 : Nat) : Int) ∧ tC (limb a 0 : Nat) y d = ((c1 : Nat) : Int) ∧
      tOut (limb a 1 : Nat) y c1 = ((l1 : Nat) : Int) ∧ tC (limb a 1 : Nat) y c1 = ((c2 : Nat) : Int) ∧
      tOut (limb a 2 : Nat) y c2 = ((l2 : Nat) : Int) ∧ tC (limb a 2 : Nat) y c2 = ((c3 : Nat) : Int) ∧
      tOut (limb a 3 : Nat) y c3 = ((l3 : Nat) : Int) ∧ tC (limb a 3 : Nat) y c3 = ((c4 : Nat) : Int) ∧
      (l0 < 18446744073709551616 ∧ l1 < 18446744073709551616 ∧ l2 < 18446744073709551616 ∧ l3 < 18446744073709551616) ∧ a * y + d = nv l0 l1 l2 l3 + top * c4 := by
  have a0 := limb_lt a 0; have a1 := limb_lt a 1; have a2 := limb_lt a 2; have a3 := limb_lt a 3
  obtain ⟨l0, c1, e0, f0, u0, v0, w0⟩ := t_eq (limb a 0) y d a0 hy hd
  obtain ⟨l1, c2, e1, f1, u1, v1, w1⟩ := t_eq (limb a 1) y c1 a1 hy v0
  obtain ⟨l2, c3, e2, f2, u2, v2, w2⟩ := t_eq (limb a 2) y c2 a2 hy v1
  obtain ⟨l3, c4, e3, f3, u3, v3, w3⟩ := t_eq (limb a 3) y c3 a3 hy v2
  refine ⟨l0, l1, l2, l3, c1, c2, c3, c4, e0, f0, e1, f1, e2, f2, e3, f3, ⟨u0, u1, u2, u3⟩, ?_⟩
  have e3 : a * y = nv (limb a 0) (limb a 1) (limb a 2) (limb a 3) * y := congrArg (· * y) (nv_self a ha).symm
  rw [e3, Go.Pl.nv_mul]
  clear e0 f0 e1 f1 e2 f2 e3 f3 ha
  generalize limb a 0 * y = P0 at *
  generalize limb a 1 * y = P1 at *
  generalize limb a 2 * y = P2 at *
  generalize limb a 3 * y = P3 at *
  simp only [nv, top] at *
  omega
theorem run43 (a d : Nat) (y : Nat) : (((xgo Try.prog X (bodyOf Try.f43) 47 TJ [([0,1,0,1,1],5)] 100 [Dec.t, Dec.t, Dec.t, Dec.t, Dec.f] (Tree.nil) [.at []] ⟨argsTm 0 [el a, .int .u64 (y : Int), .int .u64 (d : Int)], []⟩ [] []).bind (ends Try.prog Try.f43.results.toList)).bind plainE) =
  some [EndP.mk [] [fun _ => (4 : Nat) ≤ (4 : Nat),
    fun _ => true = true,
    fun _ => (0 : Int) ≤ (0 : Int) ∧ (0 : Int) < (4 : Int),
    fun _ => ¬(4294967296 : Int) = (0 : Int),
    fun _ => (0 : Int) ≤ (0 : Int) ∧ (0 : Int) < (4 : Int),
    fun _ => ¬(4294967296 : Int) = (0 : Int),
    fun _ => ¬(4294967296 : Int) = (0 : Int),
    fun _ => ¬(4294967296 : Int) = (0 : Int),
    fun _ => ¬(4294967296 : Int) = (0 : Int),
    fun _ => (0 : Int) ≤ (0 : Int) ∧ (0 : Int) < (4 : Int),
    fun _ => (0 : Nat) + (1 : Nat) ≤ (4 : Nat),
    fun _ => ¬(4294967296 : Int) = (0 : Int),
    fun _ => true = true,
    fun _ => (0 : Int) ≤ (1 : Int) ∧ (1 : Int) < (4 : Int),
    fun _ => ¬(4294967296 : Int) = (0 : Int),
    fun _ => (0 : Int) ≤ (1 : Int) ∧ (1 : Int) < (4 : Int),
    fun _ => ¬(4294967296 : Int) = (0 : Int),
    fun _ => ¬(4294967296 : Int) = (0 : Int),
    fun _ => ¬(4294967296 : Int) = (0 : Int),
    fun _ => ¬(4294967296 : Int) = (0 : Int),
    fun _ => (0 : Int) ≤ (1 : Int) ∧ (1 : Int) < (4 : Int),
    fun _ => (1 : Nat) + (1 : Nat) ≤ (4 : Nat),
    fun _ => ¬(4294967296 : Int) = (0 : Int),
    fun _ => true = true,
    fun _ => (0 : Int) ≤ (2 : Int) ∧ (2 : Int) < (4 : Int),
    fun _ => ¬(4294967296 : Int) = (0 : Int),
    fun _ => (0 : Int) ≤ (2 : Int) ∧ (2 : Int) < (4 : Int),
    fun _ => ¬(4294967296 : Int) = (0 : Int),
    fun _ => ¬(4294967296 : Int) = (0 : Int),
    fun _ => ¬(4294967296 : Int) = (0 : Int),
    fun _ => ¬(4294967296 : Int) = (0 : Int),
    fun _ => (0 : Int) ≤ (2 : Int) ∧ (2 : Int) < (4 : Int),
    fun _ => (2 : Nat) + (1 : Nat) ≤ (4 : Nat),
    fun _ => ¬(4294967296 : Int) = (0 : Int),
    fun _ => true = true,
    fun _ => (0 : Int) ≤ (3 : Int) ∧ (3 : Int) < (4 : Int),
    fun _ => ¬(4294967296 : Int) = (0 : Int),
    fun _ => (0 : Int) ≤ (3 : Int) ∧ (3 : Int) < (4 : Int),
    fun _ => ¬(4294967296 : Int) = (0 : Int),
    fun _ => ¬(4294967296 : Int) = (0 : Int),
    fun _ => ¬(4294967296 : Int) = (0 : Int),
    fun _ => ¬(4294967296 : Int) = (0 : Int),
    fun _ => (0 : Int) ≤ (3 : Int) ∧ (3 : Int) < (4 : Int),
    fun _ => (3 : Nat) + (1 : Nat) ≤ (4 : Nat),
    fun _ => ¬(4294967296 : Int) = (0 : Int),
    fun _ => false = false,
    fun _ => (0 : Nat) + (4 : Nat) ≤ (4 : Nat)] (Res.v (Value.tuple (Array.mk [Value.agg (Array.mk [Value.int IntKind.u64 (IntKind.wrap IntKind.u64 (IntKind.wrap IntKind.u64 (Int.tmod (IntKind.wrap IntKind.u64 (IntKind.wrap IntKind.u64 (IntKind.wrap IntKind.u64 (Int.tdiv (↑(limb a (0 : Nat)) : Int) (4294967296 : Int)) * (↑y : Int)) + IntKind.wrap IntKind.u64 (Int.tdiv (IntKind.wrap IntKind.u64 (IntKind.wrap IntKind.u64 (Int.tmod (↑(limb a (0 : Nat)) : Int) (4294967296 : Int) * (↑y : Int)) + (↑d : Int))) (4294967296 : Int)))) (4294967296 : Int) * (4294967296 : Int)) + Int.tmod (IntKind.wrap IntKind.u64 (IntKind.wrap IntKind.u64 (Int.tmod (↑(limb a (0 : Nat)) : Int) (4294967296 : Int) * (↑y : Int)) + (↑d : Int))) (4294967296 : Int))), Value.int IntKind.u64 (IntKind.wrap IntKind.u64 (IntKind.wrap IntKind.u64 (Int.tmod (IntKind.wrap IntKind.u64 (IntKind.wrap IntKind.u64 (IntKind.wrap IntKind.u64 (Int.tdiv (↑(limb a (1 : Nat)) : Int) (4294967296 : Int)) * (↑y : Int)) + IntKind.wrap IntKind.u64 (Int.tdiv (IntKind.wrap IntKind.u64 (IntKind.wrap IntKind.u64 (Int.tmod (↑(limb a (1 : Nat)) : Int) (4294967296 : Int) * (↑y : Int)) + IntKind.wrap IntKind.u64 (Int.tdiv (IntKind.wrap IntKind.u64 (IntKind.wrap IntKind.u64 (IntKind.wrap IntKind.u64 (Int.tdiv (↑(limb a (0 : Nat)) : Int) (4294967296 : Int)) * (↑y : Int)) + IntKind.wrap IntKind.u64 (Int.tdiv (IntKind.wrap IntKind.u64 (IntKind.wrap IntKind.u64 (Int.tmod (↑(limb a (0 : Nat)) : Int) (4294967296 : Int) * (↑y : Int)) + (↑d : Int))) (4294967296 : Int)))) (4294967296 : Int)))) (4294967296 : Int)))) (4294967296 : Int) * (4294967296 : Int)) + Int.tmod (IntKind.wrap IntKind.u64 (IntKind.wrap IntKind.u64 (Int.tmod (↑(limb a (1 : Nat)) : Int) (4294967296 : Int) * (↑y : Int)) + IntKind.wrap IntKind.u64 (Int.tdiv (IntKind.wrap IntKind.u64 (IntKind.wrap IntKind.u64 (IntKind.wrap IntKind.u64 (Int.tdiv (↑(limb a (0 : Nat)) : Int) (4294967296 : Int)) * (↑y : Int)) + IntKind.wrap IntKind.u64 (Int.tdiv (IntKind.wrap IntKind.u64 (IntKind.wrap IntKind.u64 (Int.tmod (↑(limb a (0 : Nat)) : Int) (4294967296 : Int) * (↑y : Int)) + (↑d : Int))) (4294967296 : Int)))) (4294967296 : Int)))) (4294967296 : Int))), Value.int IntKind.u64 (IntKind.wrap IntKind.u64 (IntKind.wrap IntKind.u64 (Int.tmod (IntKind.wrap IntKind.u64 (IntKind.wrap IntKind.u64 (IntKind.wrap IntKind.u64 (Int.tdiv (↑(limb a (2 : Nat)) : Int) (4294967296 : Int)) * (↑y : Int)) + IntKind.wrap IntKind.u64 (Int.tdiv (IntKind.wrap IntKind.u64 (IntKind.wrap IntKind.u64 (Int.tmod (↑(limb a (2 : Nat)) : Int) (4294967296 : Int) * (↑y : Int)) + IntKind.wrap IntKind.u64 (Int.tdiv (IntKind.wrap IntKind.u64 (IntKind.wrap IntKind.u64 (IntKind.wrap IntKind.u64 (Int.tdiv (↑(limb a (1 : Nat)) : Int) (4294967296 : Int)) * (↑y : Int)) + IntKind.wrap IntKind.u64 (Int.tdiv (IntKind.wrap IntKind.u64 (IntKind.wrap IntKind.u64 (Int.tmod (↑(limb a (1 : Nat)) : Int) (4294967296 : Int) * (↑y : Int)) + IntKind.wrap IntKind.u64 (Int.tdiv (IntKind.wrap IntKind.u64 (IntKind.wrap IntKind.u64 (IntKind.wrap IntKind.u64 (Int.tdiv (↑(limb a (0 : Nat)) : Int) (4294967296 : Int)) * (↑y : Int)) + IntKind.wrap IntKind.u64 (Int.tdiv (IntKind.wrap IntKind.u64 (IntKind.wrap IntKind.u64 (Int.tmod (↑(limb a (0 : Nat)) : Int) (4294967296 : Int) * (↑y : Int)) + (↑d : Int))) (4294967296 : Int)))) (4294967296 : Int)))) (4294967296 : Int)))) (4294967296 : Int)))) (4294967296 : Int)))) (4294967296 : Int) * (4294967296 : Int)) + Int.tmod (IntKind.wrap IntKind.u64 (IntKind.wrap IntKind.u64 (Int.tmod (↑(limb a (2 : Nat)) : Int) (4294967296 : Int) * (↑y : Int)) + IntKind.wrap IntKind.u64 (Int.tdiv (IntKind.wrap IntKind.u64 (IntKind.wrap IntKind.u64 (IntKind.wrap IntKind.u64 (Int.tdiv (↑(limb a (1 : Nat)) : Int) (4294967296 : Int)) * (↑y : Int)) + IntKind.wrap IntKind.u64 (Int.tdiv (IntKind.wrap IntKind.u64 (IntKind.wrap IntKind.u64 (Int.tmod (↑(limb a (1 : Nat)) : Int) (4294967296 : Int) * (↑y : Int)) + IntKind.wrap IntKind.u64 (Int.tdiv (IntKind.wrap IntKind.u64 (IntKind.wrap IntKind.u64 (IntKind.wrap IntKind.u64 (Int.tdiv (↑(limb a (0 : Nat)) : Int) (4294967296 : Int)) * (↑y : Int)) + IntKind.wrap IntKind.u64 (Int.tdiv (IntKind.wrap IntKind.u64 (IntKind.wrap IntKind.u64 (Int.tmod (↑(limb a (0 : Nat)) : Int) (4294967296 : Int) * (↑y : Int)) + (↑d : Int))) (4294967296 : Int)))) (4294967296 : Int)))) (4294967296 : Int)))) (4294967296 : Int)))) (4294967296 : Int))), Value.int IntKind.u64 (IntKind.wrap IntKind.u64 (IntKind.wrap IntKind.u64 (Int.tmod (IntKind.wrap IntKind.u64 (IntKind.wrap IntKind.u64 (IntKind.wrap IntKind.u64 (Int.tdiv (↑(limb a (3 : Nat)) : Int) (4294967296 : Int)) * (↑y : Int)) + IntKind.wrap IntKind.u64 (Int.tdiv (IntKind.wrap IntKind.u64 (IntKind.wrap IntKind.u64 (Int.tmod (↑(limb a (3 : Nat)) : Int) (4294967296 : Int) * (↑y : Int)) + IntKind.wrap IntKind.u64 (Int.tdiv (IntKind.wrap IntKind.u64 (IntKind.wrap IntKind.u64 (IntKind.wrap IntKind.u64 (Int.tdiv (↑(limb a (2 : Nat)) : Int) (4294967296 : Int)) * (↑y : Int)) + IntKind.wrap IntKind.u64 (Int.tdiv (IntKind.wrap IntKind.u64 (IntKind.wrap IntKind.u64 (Int.tmod (↑(limb a (2 : Nat)) : Int) (4294967296 : Int) * (↑y : Int)) + IntKind.wrap IntKind.u64 (Int.tdiv (IntKind.wrap IntKind.u64 (IntKind.wrap IntKind.u64 (IntKind.wrap IntKind.u64 (Int.tdiv (↑(limb a (1 : Nat)) : Int) (4294967296 : Int)) * (↑y : Int)) + IntKind.wrap IntKind.u64 (Int.tdiv (IntKind.wrap IntKind.u64 (IntKind.wrap IntKind.u64 (Int.tmod (↑(limb a (1 : Nat)) : Int) (4294967296 : Int) * (↑y : Int)) + IntKind.wrap IntKind.u64 (Int.tdiv (IntKind.wrap IntKind.u64 (IntKind.wrap IntKind.u64 (IntKind.wrap IntKind.u64 (Int.tdiv (↑(limb a (0 : Nat)) : Int) (4294967296 : Int)) * (↑y : Int)) + IntKind.wrap IntKind.u64 (Int.tdiv (IntKind.wrap IntKind.u64 (IntKind.wrap IntKind.u64 (Int.tmod (↑(limb a (0 : Nat)) : Int) (4294967296 : Int) * (↑y : Int)) + (↑d : Int))) (4294967296 : Int)))) (4294967296 : Int)))) (4294967296 : Int)))) (4294967296 : Int)))) (4294967296 : Int)))) (4294967296 : Int)))) (4294967296 : Int)))) (4294967296 : Int) * (4294967296 : Int)) + Int.tmod (IntKind.wrap IntKind.u64 (IntKind.wrap IntKind.u64 (Int.tmod (↑(limb a (3 : Nat)) : Int) (4294967296 : Int) * (↑y : Int)) + IntKind.wrap IntKind.u64 (Int.tdiv (IntKind.wrap IntKind.u64 (IntKind.wrap IntKind.u64 (IntKind.wrap IntKind.u64 (Int.tdiv (↑(limb a (2 : Nat)) : Int) (4294967296 : Int)) * (↑y : Int)) + IntKind.wrap IntKind.u64 (Int.tdiv (IntKind.wrap IntKind.u64 (IntKind.wrap IntKind.u64 (Int.tmod (↑(limb a (2 : Nat)) : Int) (4294967296 : Int) * (↑y : Int)) + IntKind.wrap IntKind.u64 (Int.tdiv (IntKind.wrap IntKind.u64 (IntKind.wrap IntKind.u64 (IntKind.wrap IntKind.u64 (Int.tdiv (↑(limb a (1 : Nat)) : Int) (4294967296 : Int)) * (↑y : Int)) + IntKind.wrap IntKind.u64 (Int.tdiv (IntKind.wrap IntKind.u64 (IntKind.wrap IntKind.u64 (Int.tmod (↑(limb a (1 : Nat)) : Int) (4294967296 : Int) * (↑y : Int)) + IntKind.wrap IntKind.u64 (Int.tdiv (IntKind.wrap IntKind.u64 (IntKind.wrap IntKind.u64 (IntKind.wrap IntKind.u64 (Int.tdiv (↑(limb a (0 : Nat)) : Int) (4294967296 : Int)) * (↑y : Int)) + IntKind.wrap IntKind.u64 (Int.tdiv (IntKind.wrap IntKind.u64 (IntKind.wrap IntKind.u64 (Int.tmod (↑(limb a (0 : Nat)) : Int) (4294967296 : Int) * (↑y : Int)) + (↑d : Int))) (4294967296 : Int)))) (4294967296 : Int)))) (4294967296 : Int)))) (4294967296 : Int)))) (4294967296 : Int)))) (4294967296 : Int)))) (4294967296 : Int)))]), Value.bool (decide ((0 : Int) < IntKind.wrap IntKind.u64 (Int.tdiv (IntKind.wrap IntKind.u64 (IntKind.wrap IntKind.u64 (IntKind.wrap IntKind.u64 (Int.tdiv (↑(limb a (3 : Nat)) : Int) (4294967296 : Int)) * (↑y : Int)) + IntKind.wrap IntKind.u64 (Int.tdiv (IntKind.wrap IntKind.u64 (IntKind.wrap IntKind.u64 (Int.tmod (↑(limb a (3 : Nat)) : Int) (4294967296 : Int) * (↑y : Int)) + IntKind.wrap IntKind.u64 (Int.tdiv (IntKind.wrap IntKind.u64 (IntKind.wrap IntKind.u64 (IntKind.wrap IntKind.u64 (Int.tdiv (↑(limb a (2 : Nat)) : Int) (4294967296 : Int)) * (↑y : Int)) + IntKind.wrap IntKind.u64 (Int.tdiv (IntKind.wrap IntKind.u64 (IntKind.wrap IntKind.u64 (Int.tmod (↑(limb a (2 : Nat)) : Int) (4294967296 : Int) * (↑y : Int)) + IntKind.wrap IntKind.u64 (Int.tdiv (IntKind.wrap IntKind.u64 (IntKind.wrap IntKind.u64 (IntKind.wrap IntKind.u64 (Int.tdiv (↑(limb a (1 : Nat)) : Int) (4294967296 : Int)) * (↑y : Int)) + IntKind.wrap IntKind.u64 (Int.tdiv (IntKind.wrap IntKind.u64 (IntKind.wrap IntKind.u64 (Int.tmod (↑(limb a (1 : Nat)) : Int) (4294967296 : Int) * (↑y : Int)) + IntKind.wrap IntKind.u64 (Int.tdiv (IntKind.wrap IntKind.u64 (IntKind.wrap IntKind.u64 (IntKind.wrap IntKind.u64 (Int.tdiv (↑(limb a (0 : Nat)) : Int) (4294967296 : Int)) * (↑y : Int)) + IntKind.wrap IntKind.u64 (Int.tdiv (IntKind.wrap IntKind.u64 (IntKind.wrap IntKind.u64 (Int.tmod (↑(limb a (0 : Nat)) : Int) (4294967296 : Int) * (↑y : Int)) + (↑d : Int))) (4294967296 : Int)))) (4294967296 : Int)))) (4294967296 : Int)))) (4294967296 : Int)))) (4294967296 : Int)))) (4294967296 : Int)))) (4294967296 : Int)))) (4294967296 : Int))))])))]
  := by kernel_rfl

theorem times_ok (a y d : Nat) (ha : a < top) (hy : y ≤ 16) (hd : d < 4294967296) (w : World) : Calls Try.prog 43 [el a, .int .u64 (y : Int), .int .u64 (d : Int)].toArray w (fun E w' => ∃ v, E = .returned v ∧ Res.ok w w' (.v (.tuple #[el ((a * y + d) % top), .bool (decide (top ≤ a * y + d))])) v ∧ Below w.heap.size w w') := by
  obtain ⟨l0, l1, l2, l3, c1, c2, c3, c4, e0, f0, e1, f1, e2, f2, e3, f3, ⟨u0, u1, u2, u3⟩, E⟩ := times_num a y d ha hy hd
  have hlo := nv_lt u0 u1 u2 u3
  have h1 : (a * y + d) % top = nv l0 l1 l2 l3 := by rw [E, Nat.add_mul_mod_self_left, Nat.mod_eq_of_lt hlo]
  have h2 : (top ≤ a * y + d) ↔ c4 ≠ 0 := by
    rw [E]
    generalize nv l0 l1 l2 l3 = n at hlo
    simp only [top] at hlo ⊢
    omega
  have h3 : decide ((0 : Int) < ((c4 : Nat) : Int)) = decide (top ≤ a * y + d) := by
    rw [Bool.eq_iff_iff, decide_eq_true_iff, decide_eq_true_iff, h2]
    omega
  refine con_end (calls_plain hm Try.func43 (by kernel_rfl) rfl rfl 100 _ _ (run43 a d y) ⟨fun _ => ⟨?_, ?_⟩, trivial⟩)
  · simp only [hold_cons, hold_nil, and_true]
    exact ⟨fun _ _ => by omega, fun _ _ => trivial, fun _ _ => ⟨by omega, by omega⟩, fun _ _ => by omega, fun _ _ => ⟨by omega, by omega⟩, fun _ _ => by omega, fun _ _ => by omega, fun _ _ => by omega, fun _ _ => by omega, fun _ _ => ⟨by omega, by omega⟩, fun _ _ => by omega, fun _ _ => by omega, fun _ _ => trivial, fun _ _ => ⟨by omega, by omega⟩, fun _ _ => by omega, fun _ _ => ⟨by omega, by omega⟩, fun _ _ => by omega, fun _ _ => by omega, fun _ _ => by omega, fun _ _ => by omega, fun _ _ => ⟨by omega, by omega⟩, fun _ _ => by omega, fun _ _ => by omega, fun _ _ => trivial, fun _ _ => ⟨by omega, by omega⟩, fun _ _ => by omega, fun _ _ => ⟨by omega, by omega⟩, fun _ _ => by omega, fun _ _ => by omega, fun _ _ => by omega, fun _ _ => by omega, fun _ _ => ⟨by omega, by omega⟩, fun _ _ => by omega, fun _ _ => by omega, fun _ _ => trivial, fun _ _ => ⟨by omega, by omega⟩, fun _ _ => by omega, fun _ _ => ⟨by omega, by omega⟩, fun _ _ => by omega, fun _ _ => by omega, fun _ _ => by omega, fun _ _ => by omega, fun _ _ => ⟨by omega, by omega⟩, fun _ _ => by omega, fun _ _ => by omega, fun _ _ => trivial, fun _ _ => by omega⟩
  · rw [h1, ← h3, el_nv u0 u1 u2 u3, ← e0, ← e1, ← e2, ← e3, ← f3, ← f2, ← f1, ← f0]
    rfl
noncomputable def gTimes : List RV → Option (Res × Prop)
  | [.v x, .v (.int .u64 y), .v (.int .u64 d)] => match unEl x with
    | some a => some (.v (.tuple #[el ((a * y.toNat + d.toNat) % top), .bool (decide (top ≤ a * y.toNat + d.toNat))]), x = el a ∧ a < top ∧ y = (y.toNat : Int) ∧ d = (d.toNat : Int) ∧ y.toNat ≤ 16 ∧ d.toNat < 4294967296)
    | _ => none
  | _ => none
theorem gTimes_ok (rvs : List RV) (r : Res) (p : Prop) (vs : List Value) (w : World) (hg : gTimes rvs = some (r, p)) (hp : p) (hv : RVs (wmem w) rvs vs) : Calls Try.prog 43 vs.toArray w (fun E w' => ∃ v, E = .returned v ∧ r.ok w w' v ∧ Below w.heap.size w w') := by
  unfold gTimes at hg
  split at hg
  · rename_i x y d
    split at hg
    · simp only [Option.some.injEq, Prod.mk.injEq] at hg
      obtain ⟨rfl, rfl⟩ := hg
      obtain ⟨h1, h2, h3, h4, h5, h6⟩ := hp
      rw [rvs3 hv, h1]
      have := times_ok _ _ _ h2 h5 h6 w
      rw [← h3, ← h4] at this
      exact this
    · cases hg
  · cases hg
end Go.Proofs.Ytcipmpamhffclaa

namespace Go.Pl
open Go.Sx
/-- A whole number that the kernel does not look into. -/
noncomputable def hidZ (a : Int) : Int := Classical.choose (⟨a, rfl⟩ : ∃ x : Int, x = a)
theorem hidZ_eq (a : Int) : hidZ a = a := Classical.choose_spec (⟨a, rfl⟩ : ∃ x : Int, x = a)
def digD : Option (Nat × Nat) → Int
  | some (d, _) => (d : Int)
  | none => -1
def digK : Option (Nat × Nat) → Nat
  | some (_, n) => n
  | none => 0
noncomputable def vD (y : Nat) (s : ByteArray) (i : Nat) : Int := hidZ (digD (dig y s i))
noncomputable def vK (y : Nat) (s : ByteArray) (i : Nat) : Nat := hide (digK (dig y s i))
end Go.Pl
namespace Go.Proofs.Ytcipmpamhffclaa
open Go.Sx Go.Pl Go.RowKit
theorem wrap_up (c k : Nat) (hk : k ≤ c) (hc : c < 256) : IntKind.wrap .i64 (IntKind.wrap .i64 (c : Int) - (k : Int)) = ((c - k : Nat) : Int) := by
  rw [wrap_i64 c (by omega), show (c : Int) - (k : Int) = ((c - k : Nat) : Int) by omega, wrap_i64 _ (by omega)]
theorem run42dg (s : ByteArray) (i c : Nat) : (((xgo Try.prog X (bodyOf Try.f42) 81 TJ [] 60 [.as 11 (.v (.int .u8 (c : Int))), .t, .t] (.nil) [.at []] ⟨argsTm 0 [.string s, .int .i64 (i : Int), .bool true], []⟩ [] []).bind (ends Try.prog Try.f42.results.toList)).bind plainE) =
  some [EndP.mk [] [fun _ => (0 : Int) ≤ (↑i : Int) ∧ (↑i : Int) < (↑(ByteArray.size s) : Int),
    fun _ => Value.int IntKind.u8 (sbyte s (Int.toNat (↑i : Int))) = Value.int IntKind.u8 (↑c : Int),
    fun _ => decide ((48 : Int) ≤ (↑c : Int)) = true,
    fun _ => decide ((↑c : Int) ≤ (57 : Int)) = true] (Res.v (Value.tuple (Array.mk [Value.int IntKind.i64 (IntKind.wrap IntKind.i64 (IntKind.wrap IntKind.i64 (↑c : Int) - (48 : Int))), Value.int IntKind.i64 (1 : Int)])))]
  := by kernel_rfl

theorem run42lw (s : ByteArray) (i c : Nat) : (((xgo Try.prog X (bodyOf Try.f42) 81 TJ [] 60 [.as 11 (.v (.int .u8 (c : Int))), .t, .f, .t, .t, .t] (.nil) [.at []] ⟨argsTm 0 [.string s, .int .i64 (i : Int), .bool true], []⟩ [] []).bind (ends Try.prog Try.f42.results.toList)).bind plainE) =
  some [EndP.mk [] [fun _ => (0 : Int) ≤ (↑i : Int) ∧ (↑i : Int) < (↑(ByteArray.size s) : Int),
    fun _ => Value.int IntKind.u8 (sbyte s (Int.toNat (↑i : Int))) = Value.int IntKind.u8 (↑c : Int),
    fun _ => decide ((48 : Int) ≤ (↑c : Int)) = true,
    fun _ => decide ((↑c : Int) ≤ (57 : Int)) = false,
    fun _ => true = true,
    fun _ => decide ((97 : Int) ≤ (↑c : Int)) = true,
    fun _ => decide ((↑c : Int) ≤ (102 : Int)) = true] (Res.v (Value.tuple (Array.mk [Value.int IntKind.i64 (IntKind.wrap IntKind.i64 (IntKind.wrap IntKind.i64 (↑c : Int) - (87 : Int))), Value.int IntKind.i64 (1 : Int)])))]
  := by kernel_rfl

theorem run42up (s : ByteArray) (i c : Nat) : (((xgo Try.prog X (bodyOf Try.f42) 81 TJ [] 60 [.as 11 (.v (.int .u8 (c : Int))), .t, .f, .t, .f, .f, .t, .t, .t] (.nil) [.at []] ⟨argsTm 0 [.string s, .int .i64 (i : Int), .bool true], []⟩ [] []).bind (ends Try.prog Try.f42.results.toList)).bind plainE) =
  some [EndP.mk [] [fun _ => (0 : Int) ≤ (↑i : Int) ∧ (↑i : Int) < (↑(ByteArray.size s) : Int),
    fun _ => Value.int IntKind.u8 (sbyte s (Int.toNat (↑i : Int))) = Value.int IntKind.u8 (↑c : Int),
    fun _ => decide ((48 : Int) ≤ (↑c : Int)) = true,
    fun _ => decide ((↑c : Int) ≤ (57 : Int)) = false,
    fun _ => true = true,
    fun _ => decide ((97 : Int) ≤ (↑c : Int)) = false,
    fun _ => false = false,
    fun _ => true = true,
    fun _ => decide ((65 : Int) ≤ (↑c : Int)) = true,
    fun _ => decide ((↑c : Int) ≤ (70 : Int)) = true] (Res.v (Value.tuple (Array.mk [Value.int IntKind.i64 (IntKind.wrap IntKind.i64 (IntKind.wrap IntKind.i64 (↑c : Int) - (55 : Int))), Value.int IntKind.i64 (1 : Int)])))]
  := by kernel_rfl

theorem run42dh (s : ByteArray) (i c : Nat) : (((xgo Try.prog X (bodyOf Try.f42) 81 TJ [] 60 [.as 11 (.v (.int .u8 (c : Int))), .t, .t] (.nil) [.at []] ⟨argsTm 0 [.string s, .int .i64 (i : Int), .bool false], []⟩ [] []).bind (ends Try.prog Try.f42.results.toList)).bind plainE) =
  some [EndP.mk [] [fun _ => (0 : Int) ≤ (↑i : Int) ∧ (↑i : Int) < (↑(ByteArray.size s) : Int),
    fun _ => Value.int IntKind.u8 (sbyte s (Int.toNat (↑i : Int))) = Value.int IntKind.u8 (↑c : Int),
    fun _ => decide ((48 : Int) ≤ (↑c : Int)) = true,
    fun _ => decide ((↑c : Int) ≤ (57 : Int)) = true] (Res.v (Value.tuple (Array.mk [Value.int IntKind.i64 (IntKind.wrap IntKind.i64 (IntKind.wrap IntKind.i64 (↑c : Int) - (48 : Int))), Value.int IntKind.i64 (1 : Int)])))]
  := by kernel_rfl

theorem run42z1b1 (s : ByteArray) (i c : Nat) : (((xgo Try.prog X (bodyOf Try.f42) 81 TJ [] 60 [.as 11 (.v (.int .u8 (c : Int))), .f, .f, .t, .f, .f, .t, .f, .f, .f, .f, .f, .f, .f] (.nil) [.at []] ⟨argsTm 0 [.string s, .int .i64 (i : Int), .bool true], []⟩ [] []).bind (ends Try.prog Try.f42.results.toList)).bind plainE) =
  some [EndP.mk [] [fun _ => (0 : Int) ≤ (↑i : Int) ∧ (↑i : Int) < (↑(ByteArray.size s) : Int),
    fun _ => Value.int IntKind.u8 (sbyte s (Int.toNat (↑i : Int))) = Value.int IntKind.u8 (↑c : Int),
    fun _ => decide ((48 : Int) ≤ (↑c : Int)) = false,
    fun _ => false = false,
    fun _ => true = true,
    fun _ => decide ((97 : Int) ≤ (↑c : Int)) = false,
    fun _ => false = false,
    fun _ => true = true,
    fun _ => decide ((65 : Int) ≤ (↑c : Int)) = false,
    fun _ => false = false,
    fun _ => decide (IntKind.wrap IntKind.i64 ((↑i : Int) + (2 : Int)) < (↑(ByteArray.size s) : Int)) = false,
    fun _ => false = false,
    fun _ => false = false,
    fun _ => false = false,
    fun _ => false = false] (Res.v (Value.tuple (Array.mk [Value.int IntKind.i64 (-1 : Int), Value.int IntKind.i64 (0 : Int)])))]
  := by kernel_rfl

theorem run42z1b2 (s : ByteArray) (i c : Nat) : (((xgo Try.prog X (bodyOf Try.f42) 81 TJ [] 60 [.as 11 (.v (.int .u8 (c : Int))), .f, .f, .t, .f, .f, .t, .f, .f, .t, .f, .f, .f, .f] (.nil) [.at []] ⟨argsTm 0 [.string s, .int .i64 (i : Int), .bool true], []⟩ [] []).bind (ends Try.prog Try.f42.results.toList)).bind plainE) =
  some [EndP.mk [] [fun _ => (0 : Int) ≤ (↑i : Int) ∧ (↑i : Int) < (↑(ByteArray.size s) : Int),
    fun _ => Value.int IntKind.u8 (sbyte s (Int.toNat (↑i : Int))) = Value.int IntKind.u8 (↑c : Int),
    fun _ => decide ((48 : Int) ≤ (↑c : Int)) = false,
    fun _ => false = false,
    fun _ => true = true,
    fun _ => decide ((97 : Int) ≤ (↑c : Int)) = false,
    fun _ => false = false,
    fun _ => true = true,
    fun _ => decide ((65 : Int) ≤ (↑c : Int)) = false,
    fun _ => false = false,
    fun _ => decide (IntKind.wrap IntKind.i64 ((↑i : Int) + (2 : Int)) < (↑(ByteArray.size s) : Int)) = true,
    fun _ => ((↑c : Int) == (239 : Int)) = false,
    fun _ => false = false,
    fun _ => false = false,
    fun _ => false = false] (Res.v (Value.tuple (Array.mk [Value.int IntKind.i64 (-1 : Int), Value.int IntKind.i64 (0 : Int)])))]
  := by kernel_rfl

theorem run42z2b1 (s : ByteArray) (i c : Nat) : (((xgo Try.prog X (bodyOf Try.f42) 81 TJ [] 60 [.as 11 (.v (.int .u8 (c : Int))), .t, .f, .t, .f, .f, .t, .f, .f, .f, .f, .f, .f, .f] (.nil) [.at []] ⟨argsTm 0 [.string s, .int .i64 (i : Int), .bool true], []⟩ [] []).bind (ends Try.prog Try.f42.results.toList)).bind plainE) =
  some [EndP.mk [] [fun _ => (0 : Int) ≤ (↑i : Int) ∧ (↑i : Int) < (↑(ByteArray.size s) : Int),
    fun _ => Value.int IntKind.u8 (sbyte s (Int.toNat (↑i : Int))) = Value.int IntKind.u8 (↑c : Int),
    fun _ => decide ((48 : Int) ≤ (↑c : Int)) = true,
    fun _ => decide ((↑c : Int) ≤ (57 : Int)) = false,
    fun _ => true = true,
    fun _ => decide ((97 : Int) ≤ (↑c : Int)) = false,
    fun _ => false = false,
    fun _ => true = true,
    fun _ => decide ((65 : Int) ≤ (↑c : Int)) = false,
    fun _ => false = false,
    fun _ => decide (IntKind.wrap IntKind.i64 ((↑i : Int) + (2 : Int)) < (↑(ByteArray.size s) : Int)) = false,
    fun _ => false = false,
    fun _ => false = false,
    fun _ => false = false,
    fun _ => false = false] (Res.v (Value.tuple (Array.mk [Value.int IntKind.i64 (-1 : Int), Value.int IntKind.i64 (0 : Int)])))]
  := by kernel_rfl

theorem run42z2b2 (s : ByteArray) (i c : Nat) : (((xgo Try.prog X (bodyOf Try.f42) 81 TJ [] 60 [.as 11 (.v (.int .u8 (c : Int))), .t, .f, .t, .f, .f, .t, .f, .f, .t, .f, .f, .f, .f] (.nil) [.at []] ⟨argsTm 0 [.string s, .int .i64 (i : Int), .bool true], []⟩ [] []).bind (ends Try.prog Try.f42.results.toList)).bind plainE) =
  some [EndP.mk [] [fun _ => (0 : Int) ≤ (↑i : Int) ∧ (↑i : Int) < (↑(ByteArray.size s) : Int),
    fun _ => Value.int IntKind.u8 (sbyte s (Int.toNat (↑i : Int))) = Value.int IntKind.u8 (↑c : Int),
    fun _ => decide ((48 : Int) ≤ (↑c : Int)) = true,
    fun _ => decide ((↑c : Int) ≤ (57 : Int)) = false,
    fun _ => true = true,
    fun _ => decide ((97 : Int) ≤ (↑c : Int)) = false,
    fun _ => false = false,
    fun _ => true = true,
    fun _ => decide ((65 : Int) ≤ (↑c : Int)) = false,
    fun _ => false = false,
    fun _ => decide (IntKind.wrap IntKind.i64 ((↑i : Int) + (2 : Int)) < (↑(ByteArray.size s) : Int)) = true,
    fun _ => ((↑c : Int) == (239 : Int)) = false,
    fun _ => false = false,
    fun _ => false = false,
    fun _ => false = false] (Res.v (Value.tuple (Array.mk [Value.int IntKind.i64 (-1 : Int), Value.int IntKind.i64 (0 : Int)])))]
  := by kernel_rfl

theorem run42z3b1 (s : ByteArray) (i c : Nat) : (((xgo Try.prog X (bodyOf Try.f42) 81 TJ [] 60 [.as 11 (.v (.int .u8 (c : Int))), .t, .f, .t, .f, .f, .t, .t, .f, .f, .f, .f, .f, .f] (.nil) [.at []] ⟨argsTm 0 [.string s, .int .i64 (i : Int), .bool true], []⟩ [] []).bind (ends Try.prog Try.f42.results.toList)).bind plainE) =
  some [EndP.mk [] [fun _ => (0 : Int) ≤ (↑i : Int) ∧ (↑i : Int) < (↑(ByteArray.size s) : Int),
    fun _ => Value.int IntKind.u8 (sbyte s (Int.toNat (↑i : Int))) = Value.int IntKind.u8 (↑c : Int),
    fun _ => decide ((48 : Int) ≤ (↑c : Int)) = true,
    fun _ => decide ((↑c : Int) ≤ (57 : Int)) = false,
    fun _ => true = true,
    fun _ => decide ((97 : Int) ≤ (↑c : Int)) = false,
    fun _ => false = false,
    fun _ => true = true,
    fun _ => decide ((65 : Int) ≤ (↑c : Int)) = true,
    fun _ => decide ((↑c : Int) ≤ (70 : Int)) = false,
    fun _ => decide (IntKind.wrap IntKind.i64 ((↑i : Int) + (2 : Int)) < (↑(ByteArray.size s) : Int)) = false,
    fun _ => false = false,
    fun _ => false = false,
    fun _ => false = false,
    fun _ => false = false] (Res.v (Value.tuple (Array.mk [Value.int IntKind.i64 (-1 : Int), Value.int IntKind.i64 (0 : Int)])))]
  := by kernel_rfl

theorem run42z3b2 (s : ByteArray) (i c : Nat) : (((xgo Try.prog X (bodyOf Try.f42) 81 TJ [] 60 [.as 11 (.v (.int .u8 (c : Int))), .t, .f, .t, .f, .f, .t, .t, .f, .t, .f, .f, .f, .f] (.nil) [.at []] ⟨argsTm 0 [.string s, .int .i64 (i : Int), .bool true], []⟩ [] []).bind (ends Try.prog Try.f42.results.toList)).bind plainE) =
  some [EndP.mk [] [fun _ => (0 : Int) ≤ (↑i : Int) ∧ (↑i : Int) < (↑(ByteArray.size s) : Int),
    fun _ => Value.int IntKind.u8 (sbyte s (Int.toNat (↑i : Int))) = Value.int IntKind.u8 (↑c : Int),
    fun _ => decide ((48 : Int) ≤ (↑c : Int)) = true,
    fun _ => decide ((↑c : Int) ≤ (57 : Int)) = false,
    fun _ => true = true,
    fun _ => decide ((97 : Int) ≤ (↑c : Int)) = false,
    fun _ => false = false,
    fun _ => true = true,
    fun _ => decide ((65 : Int) ≤ (↑c : Int)) = true,
    fun _ => decide ((↑c : Int) ≤ (70 : Int)) = false,
    fun _ => decide (IntKind.wrap IntKind.i64 ((↑i : Int) + (2 : Int)) < (↑(ByteArray.size s) : Int)) = true,
    fun _ => ((↑c : Int) == (239 : Int)) = false,
    fun _ => false = false,
    fun _ => false = false,
    fun _ => false = false] (Res.v (Value.tuple (Array.mk [Value.int IntKind.i64 (-1 : Int), Value.int IntKind.i64 (0 : Int)])))]
  := by kernel_rfl

theorem run42z4b1 (s : ByteArray) (i c : Nat) : (((xgo Try.prog X (bodyOf Try.f42) 81 TJ [] 60 [.as 11 (.v (.int .u8 (c : Int))), .t, .f, .t, .t, .f, .t, .t, .f, .f, .f, .f, .f, .f] (.nil) [.at []] ⟨argsTm 0 [.string s, .int .i64 (i : Int), .bool true], []⟩ [] []).bind (ends Try.prog Try.f42.results.toList)).bind plainE) =
  some [EndP.mk [] [fun _ => (0 : Int) ≤ (↑i : Int) ∧ (↑i : Int) < (↑(ByteArray.size s) : Int),
    fun _ => Value.int IntKind.u8 (sbyte s (Int.toNat (↑i : Int))) = Value.int IntKind.u8 (↑c : Int),
    fun _ => decide ((48 : Int) ≤ (↑c : Int)) = true,
    fun _ => decide ((↑c : Int) ≤ (57 : Int)) = false,
    fun _ => true = true,
    fun _ => decide ((97 : Int) ≤ (↑c : Int)) = true,
    fun _ => decide ((↑c : Int) ≤ (102 : Int)) = false,
    fun _ => true = true,
    fun _ => decide ((65 : Int) ≤ (↑c : Int)) = true,
    fun _ => decide ((↑c : Int) ≤ (70 : Int)) = false,
    fun _ => decide (IntKind.wrap IntKind.i64 ((↑i : Int) + (2 : Int)) < (↑(ByteArray.size s) : Int)) = false,
    fun _ => false = false,
    fun _ => false = false,
    fun _ => false = false,
    fun _ => false = false] (Res.v (Value.tuple (Array.mk [Value.int IntKind.i64 (-1 : Int), Value.int IntKind.i64 (0 : Int)])))]
  := by kernel_rfl

theorem run42z4b2 (s : ByteArray) (i c : Nat) : (((xgo Try.prog X (bodyOf Try.f42) 81 TJ [] 60 [.as 11 (.v (.int .u8 (c : Int))), .t, .f, .t, .t, .f, .t, .t, .f, .t, .f, .f, .f, .f] (.nil) [.at []] ⟨argsTm 0 [.string s, .int .i64 (i : Int), .bool true], []⟩ [] []).bind (ends Try.prog Try.f42.results.toList)).bind plainE) =
  some [EndP.mk [] [fun _ => (0 : Int) ≤ (↑i : Int) ∧ (↑i : Int) < (↑(ByteArray.size s) : Int),
    fun _ => Value.int IntKind.u8 (sbyte s (Int.toNat (↑i : Int))) = Value.int IntKind.u8 (↑c : Int),
    fun _ => decide ((48 : Int) ≤ (↑c : Int)) = true,
    fun _ => decide ((↑c : Int) ≤ (57 : Int)) = false,
    fun _ => true = true,
    fun _ => decide ((97 : Int) ≤ (↑c : Int)) = true,
    fun _ => decide ((↑c : Int) ≤ (102 : Int)) = false,
    fun _ => true = true,
    fun _ => decide ((65 : Int) ≤ (↑c : Int)) = true,
    fun _ => decide ((↑c : Int) ≤ (70 : Int)) = false,
    fun _ => decide (IntKind.wrap IntKind.i64 ((↑i : Int) + (2 : Int)) < (↑(ByteArray.size s) : Int)) = true,
    fun _ => ((↑c : Int) == (239 : Int)) = false,
    fun _ => false = false,
    fun _ => false = false,
    fun _ => false = false] (Res.v (Value.tuple (Array.mk [Value.int IntKind.i64 (-1 : Int), Value.int IntKind.i64 (0 : Int)])))]
  := by kernel_rfl

theorem run42z4b3 (s : ByteArray) (i c d : Nat) : (((xgo Try.prog X (bodyOf Try.f42) 81 TJ [] 60 [.as 11 (.v (.int .u8 (c : Int))), .t, .f, .t, .t, .f, .t, .t, .f, .t, .t, .as 58 (.v (.int .u8 (d : Int))), .f, .f, .f] (.nil) [.at []] ⟨argsTm 0 [.string s, .int .i64 (i : Int), .bool true], []⟩ [] []).bind (ends Try.prog Try.f42.results.toList)).bind plainE) =
  some [EndP.mk [] [fun _ => (0 : Int) ≤ (↑i : Int) ∧ (↑i : Int) < (↑(ByteArray.size s) : Int),
    fun _ => Value.int IntKind.u8 (sbyte s (Int.toNat (↑i : Int))) = Value.int IntKind.u8 (↑c : Int),
    fun _ => decide ((48 : Int) ≤ (↑c : Int)) = true,
    fun _ => decide ((↑c : Int) ≤ (57 : Int)) = false,
    fun _ => true = true,
    fun _ => decide ((97 : Int) ≤ (↑c : Int)) = true,
    fun _ => decide ((↑c : Int) ≤ (102 : Int)) = false,
    fun _ => true = true,
    fun _ => decide ((65 : Int) ≤ (↑c : Int)) = true,
    fun _ => decide ((↑c : Int) ≤ (70 : Int)) = false,
    fun _ => decide (IntKind.wrap IntKind.i64 ((↑i : Int) + (2 : Int)) < (↑(ByteArray.size s) : Int)) = true,
    fun _ => ((↑c : Int) == (239 : Int)) = true,
    fun _ => (0 : Int) ≤ IntKind.wrap IntKind.i64 ((↑i : Int) + (1 : Int)) ∧ IntKind.wrap IntKind.i64 ((↑i : Int) + (1 : Int)) < (↑(ByteArray.size s) : Int),
    fun _ => Value.int IntKind.u8 (sbyte s (Int.toNat (IntKind.wrap IntKind.i64 ((↑i : Int) + (1 : Int))))) = Value.int IntKind.u8 (↑d : Int),
    fun _ => ((↑d : Int) == (188 : Int)) = false,
    fun _ => false = false,
    fun _ => false = false] (Res.v (Value.tuple (Array.mk [Value.int IntKind.i64 (-1 : Int), Value.int IntKind.i64 (0 : Int)])))]
  := by kernel_rfl

theorem run42z4b4 (s : ByteArray) (i c d e : Nat) : (((xgo Try.prog X (bodyOf Try.f42) 81 TJ [] 60 [.as 11 (.v (.int .u8 (c : Int))), .t, .f, .t, .t, .f, .t, .t, .f, .t, .t, .as 58 (.v (.int .u8 (d : Int))), .t, .as 65 (.v (.int .u8 (e : Int))), .f, .f] (.nil) [.at []] ⟨argsTm 0 [.string s, .int .i64 (i : Int), .bool true], []⟩ [] []).bind (ends Try.prog Try.f42.results.toList)).bind plainE) =
  some [EndP.mk [] [fun _ => (0 : Int) ≤ (↑i : Int) ∧ (↑i : Int) < (↑(ByteArray.size s) : Int),
    fun _ => Value.int IntKind.u8 (sbyte s (Int.toNat (↑i : Int))) = Value.int IntKind.u8 (↑c : Int),
    fun _ => decide ((48 : Int) ≤ (↑c : Int)) = true,
    fun _ => decide ((↑c : Int) ≤ (57 : Int)) = false,
    fun _ => true = true,
    fun _ => decide ((97 : Int) ≤ (↑c : Int)) = true,
    fun _ => decide ((↑c : Int) ≤ (102 : Int)) = false,
    fun _ => true = true,
    fun _ => decide ((65 : Int) ≤ (↑c : Int)) = true,
    fun _ => decide ((↑c : Int) ≤ (70 : Int)) = false,
    fun _ => decide (IntKind.wrap IntKind.i64 ((↑i : Int) + (2 : Int)) < (↑(ByteArray.size s) : Int)) = true,
    fun _ => ((↑c : Int) == (239 : Int)) = true,
    fun _ => (0 : Int) ≤ IntKind.wrap IntKind.i64 ((↑i : Int) + (1 : Int)) ∧ IntKind.wrap IntKind.i64 ((↑i : Int) + (1 : Int)) < (↑(ByteArray.size s) : Int),
    fun _ => Value.int IntKind.u8 (sbyte s (Int.toNat (IntKind.wrap IntKind.i64 ((↑i : Int) + (1 : Int))))) = Value.int IntKind.u8 (↑d : Int),
    fun _ => ((↑d : Int) == (188 : Int)) = true,
    fun _ => (0 : Int) ≤ IntKind.wrap IntKind.i64 ((↑i : Int) + (2 : Int)) ∧ IntKind.wrap IntKind.i64 ((↑i : Int) + (2 : Int)) < (↑(ByteArray.size s) : Int),
    fun _ => Value.int IntKind.u8 (sbyte s (Int.toNat (IntKind.wrap IntKind.i64 ((↑i : Int) + (2 : Int))))) = Value.int IntKind.u8 (↑e : Int),
    fun _ => decide ((144 : Int) ≤ (↑e : Int)) = false,
    fun _ => false = false] (Res.v (Value.tuple (Array.mk [Value.int IntKind.i64 (-1 : Int), Value.int IntKind.i64 (0 : Int)])))]
  := by kernel_rfl

theorem run42z4b5 (s : ByteArray) (i c d e : Nat) : (((xgo Try.prog X (bodyOf Try.f42) 81 TJ [] 60 [.as 11 (.v (.int .u8 (c : Int))), .t, .f, .t, .t, .f, .t, .t, .f, .t, .t, .as 58 (.v (.int .u8 (d : Int))), .t, .as 65 (.v (.int .u8 (e : Int))), .t, .as 72 (.v (.int .u8 (e : Int))), .f] (.nil) [.at []] ⟨argsTm 0 [.string s, .int .i64 (i : Int), .bool true], []⟩ [] []).bind (ends Try.prog Try.f42.results.toList)).bind plainE) =
  some [EndP.mk [] [fun _ => (0 : Int) ≤ (↑i : Int) ∧ (↑i : Int) < (↑(ByteArray.size s) : Int),
    fun _ => Value.int IntKind.u8 (sbyte s (Int.toNat (↑i : Int))) = Value.int IntKind.u8 (↑c : Int),
    fun _ => decide ((48 : Int) ≤ (↑c : Int)) = true,
    fun _ => decide ((↑c : Int) ≤ (57 : Int)) = false,
    fun _ => true = true,
    fun _ => decide ((97 : Int) ≤ (↑c : Int)) = true,
    fun _ => decide ((↑c : Int) ≤ (102 : Int)) = false,
    fun _ => true = true,
    fun _ => decide ((65 : Int) ≤ (↑c : Int)) = true,
    fun _ => decide ((↑c : Int) ≤ (70 : Int)) = false,
    fun _ => decide (IntKind.wrap IntKind.i64 ((↑i : Int) + (2 : Int)) < (↑(ByteArray.size s) : Int)) = true,
    fun _ => ((↑c : Int) == (239 : Int)) = true,
    fun _ => (0 : Int) ≤ IntKind.wrap IntKind.i64 ((↑i : Int) + (1 : Int)) ∧ IntKind.wrap IntKind.i64 ((↑i : Int) + (1 : Int)) < (↑(ByteArray.size s) : Int),
    fun _ => Value.int IntKind.u8 (sbyte s (Int.toNat (IntKind.wrap IntKind.i64 ((↑i : Int) + (1 : Int))))) = Value.int IntKind.u8 (↑d : Int),
    fun _ => ((↑d : Int) == (188 : Int)) = true,
    fun _ => (0 : Int) ≤ IntKind.wrap IntKind.i64 ((↑i : Int) + (2 : Int)) ∧ IntKind.wrap IntKind.i64 ((↑i : Int) + (2 : Int)) < (↑(ByteArray.size s) : Int),
    fun _ => Value.int IntKind.u8 (sbyte s (Int.toNat (IntKind.wrap IntKind.i64 ((↑i : Int) + (2 : Int))))) = Value.int IntKind.u8 (↑e : Int),
    fun _ => decide ((144 : Int) ≤ (↑e : Int)) = true,
    fun _ => (0 : Int) ≤ IntKind.wrap IntKind.i64 ((↑i : Int) + (2 : Int)) ∧ IntKind.wrap IntKind.i64 ((↑i : Int) + (2 : Int)) < (↑(ByteArray.size s) : Int),
    fun _ => Value.int IntKind.u8 (sbyte s (Int.toNat (IntKind.wrap IntKind.i64 ((↑i : Int) + (2 : Int))))) = Value.int IntKind.u8 (↑e : Int),
    fun _ => decide ((↑e : Int) ≤ (153 : Int)) = false] (Res.v (Value.tuple (Array.mk [Value.int IntKind.i64 (-1 : Int), Value.int IntKind.i64 (0 : Int)])))]
  := by kernel_rfl

theorem run42z4w (s : ByteArray) (i c d e : Nat) : (((xgo Try.prog X (bodyOf Try.f42) 81 TJ [] 60 [.as 11 (.v (.int .u8 (c : Int))), .t, .f, .t, .t, .f, .t, .t, .f, .t, .t, .as 58 (.v (.int .u8 (d : Int))), .t, .as 65 (.v (.int .u8 (e : Int))), .t, .as 72 (.v (.int .u8 (e : Int))), .t, .as 78 (.v (.int .u8 (e : Int)))] (.nil) [.at []] ⟨argsTm 0 [.string s, .int .i64 (i : Int), .bool true], []⟩ [] []).bind (ends Try.prog Try.f42.results.toList)).bind plainE) =
  some [EndP.mk [] [fun _ => (0 : Int) ≤ (↑i : Int) ∧ (↑i : Int) < (↑(ByteArray.size s) : Int),
    fun _ => Value.int IntKind.u8 (sbyte s (Int.toNat (↑i : Int))) = Value.int IntKind.u8 (↑c : Int),
    fun _ => decide ((48 : Int) ≤ (↑c : Int)) = true,
    fun _ => decide ((↑c : Int) ≤ (57 : Int)) = false,
    fun _ => true = true,
    fun _ => decide ((97 : Int) ≤ (↑c : Int)) = true,
    fun _ => decide ((↑c : Int) ≤ (102 : Int)) = false,
    fun _ => true = true,
    fun _ => decide ((65 : Int) ≤ (↑c : Int)) = true,
    fun _ => decide ((↑c : Int) ≤ (70 : Int)) = false,
    fun _ => decide (IntKind.wrap IntKind.i64 ((↑i : Int) + (2 : Int)) < (↑(ByteArray.size s) : Int)) = true,
    fun _ => ((↑c : Int) == (239 : Int)) = true,
    fun _ => (0 : Int) ≤ IntKind.wrap IntKind.i64 ((↑i : Int) + (1 : Int)) ∧ IntKind.wrap IntKind.i64 ((↑i : Int) + (1 : Int)) < (↑(ByteArray.size s) : Int),
    fun _ => Value.int IntKind.u8 (sbyte s (Int.toNat (IntKind.wrap IntKind.i64 ((↑i : Int) + (1 : Int))))) = Value.int IntKind.u8 (↑d : Int),
    fun _ => ((↑d : Int) == (188 : Int)) = true,
    fun _ => (0 : Int) ≤ IntKind.wrap IntKind.i64 ((↑i : Int) + (2 : Int)) ∧ IntKind.wrap IntKind.i64 ((↑i : Int) + (2 : Int)) < (↑(ByteArray.size s) : Int),
    fun _ => Value.int IntKind.u8 (sbyte s (Int.toNat (IntKind.wrap IntKind.i64 ((↑i : Int) + (2 : Int))))) = Value.int IntKind.u8 (↑e : Int),
    fun _ => decide ((144 : Int) ≤ (↑e : Int)) = true,
    fun _ => (0 : Int) ≤ IntKind.wrap IntKind.i64 ((↑i : Int) + (2 : Int)) ∧ IntKind.wrap IntKind.i64 ((↑i : Int) + (2 : Int)) < (↑(ByteArray.size s) : Int),
    fun _ => Value.int IntKind.u8 (sbyte s (Int.toNat (IntKind.wrap IntKind.i64 ((↑i : Int) + (2 : Int))))) = Value.int IntKind.u8 (↑e : Int),
    fun _ => decide ((↑e : Int) ≤ (153 : Int)) = true,
    fun _ => (0 : Int) ≤ IntKind.wrap IntKind.i64 ((↑i : Int) + (2 : Int)) ∧ IntKind.wrap IntKind.i64 ((↑i : Int) + (2 : Int)) < (↑(ByteArray.size s) : Int),
    fun _ => Value.int IntKind.u8 (sbyte s (Int.toNat (IntKind.wrap IntKind.i64 ((↑i : Int) + (2 : Int))))) = Value.int IntKind.u8 (↑e : Int)] (Res.v (Value.tuple (Array.mk [Value.int IntKind.i64 (IntKind.wrap IntKind.i64 (IntKind.wrap IntKind.i64 (↑e : Int) - (144 : Int))), Value.int IntKind.i64 (3 : Int)])))]
  := by kernel_rfl

theorem run42z5b1 (s : ByteArray) (i c : Nat) : (((xgo Try.prog X (bodyOf Try.f42) 81 TJ [] 60 [.as 11 (.v (.int .u8 (c : Int))), .f, .f, .f, .f, .f, .f, .f, .f, .f, .f, .f, .f, .f] (.nil) [.at []] ⟨argsTm 0 [.string s, .int .i64 (i : Int), .bool false], []⟩ [] []).bind (ends Try.prog Try.f42.results.toList)).bind plainE) =
  some [EndP.mk [] [fun _ => (0 : Int) ≤ (↑i : Int) ∧ (↑i : Int) < (↑(ByteArray.size s) : Int),
    fun _ => Value.int IntKind.u8 (sbyte s (Int.toNat (↑i : Int))) = Value.int IntKind.u8 (↑c : Int),
    fun _ => decide ((48 : Int) ≤ (↑c : Int)) = false,
    fun _ => false = false,
    fun _ => false = false,
    fun _ => false = false,
    fun _ => false = false,
    fun _ => false = false,
    fun _ => false = false,
    fun _ => false = false,
    fun _ => decide (IntKind.wrap IntKind.i64 ((↑i : Int) + (2 : Int)) < (↑(ByteArray.size s) : Int)) = false,
    fun _ => false = false,
    fun _ => false = false,
    fun _ => false = false,
    fun _ => false = false] (Res.v (Value.tuple (Array.mk [Value.int IntKind.i64 (-1 : Int), Value.int IntKind.i64 (0 : Int)])))]
  := by kernel_rfl

theorem run42z5b2 (s : ByteArray) (i c : Nat) : (((xgo Try.prog X (bodyOf Try.f42) 81 TJ [] 60 [.as 11 (.v (.int .u8 (c : Int))), .f, .f, .f, .f, .f, .f, .f, .f, .t, .f, .f, .f, .f] (.nil) [.at []] ⟨argsTm 0 [.string s, .int .i64 (i : Int), .bool false], []⟩ [] []).bind (ends Try.prog Try.f42.results.toList)).bind plainE) =
  some [EndP.mk [] [fun _ => (0 : Int) ≤ (↑i : Int) ∧ (↑i : Int) < (↑(ByteArray.size s) : Int),
    fun _ => Value.int IntKind.u8 (sbyte s (Int.toNat (↑i : Int))) = Value.int IntKind.u8 (↑c : Int),
    fun _ => decide ((48 : Int) ≤ (↑c : Int)) = false,
    fun _ => false = false,
    fun _ => false = false,
    fun _ => false = false,
    fun _ => false = false,
    fun _ => false = false,
    fun _ => false = false,
    fun _ => false = false,
    fun _ => decide (IntKind.wrap IntKind.i64 ((↑i : Int) + (2 : Int)) < (↑(ByteArray.size s) : Int)) = true,
    fun _ => ((↑c : Int) == (239 : Int)) = false,
    fun _ => false = false,
    fun _ => false = false,
    fun _ => false = false] (Res.v (Value.tuple (Array.mk [Value.int IntKind.i64 (-1 : Int), Value.int IntKind.i64 (0 : Int)])))]
  := by kernel_rfl

theorem run42z6b1 (s : ByteArray) (i c : Nat) : (((xgo Try.prog X (bodyOf Try.f42) 81 TJ [] 60 [.as 11 (.v (.int .u8 (c : Int))), .t, .f, .f, .f, .f, .f, .f, .f, .f, .f, .f, .f, .f] (.nil) [.at []] ⟨argsTm 0 [.string s, .int .i64 (i : Int), .bool false], []⟩ [] []).bind (ends Try.prog Try.f42.results.toList)).bind plainE) =
  some [EndP.mk [] [fun _ => (0 : Int) ≤ (↑i : Int) ∧ (↑i : Int) < (↑(ByteArray.size s) : Int),
    fun _ => Value.int IntKind.u8 (sbyte s (Int.toNat (↑i : Int))) = Value.int IntKind.u8 (↑c : Int),
    fun _ => decide ((48 : Int) ≤ (↑c : Int)) = true,
    fun _ => decide ((↑c : Int) ≤ (57 : Int)) = false,
    fun _ => false = false,
    fun _ => false = false,
    fun _ => false = false,
    fun _ => false = false,
    fun _ => false = false,
    fun _ => false = false,
    fun _ => decide (IntKind.wrap IntKind.i64 ((↑i : Int) + (2 : Int)) < (↑(ByteArray.size s) : Int)) = false,
    fun _ => false = false,
    fun _ => false = false,
    fun _ => false = false,
    fun _ => false = false] (Res.v (Value.tuple (Array.mk [Value.int IntKind.i64 (-1 : Int), Value.int IntKind.i64 (0 : Int)])))]
  := by kernel_rfl

theorem run42z6b2 (s : ByteArray) (i c : Nat) : (((xgo Try.prog X (bodyOf Try.f42) 81 TJ [] 60 [.as 11 (.v (.int .u8 (c : Int))), .t, .f, .f, .f, .f, .f, .f, .f, .t, .f, .f, .f, .f] (.nil) [.at []] ⟨argsTm 0 [.string s, .int .i64 (i : Int), .bool false], []⟩ [] []).bind (ends Try.prog Try.f42.results.toList)).bind plainE) =
  some [EndP.mk [] [fun _ => (0 : Int) ≤ (↑i : Int) ∧ (↑i : Int) < (↑(ByteArray.size s) : Int),
    fun _ => Value.int IntKind.u8 (sbyte s (Int.toNat (↑i : Int))) = Value.int IntKind.u8 (↑c : Int),
    fun _ => decide ((48 : Int) ≤ (↑c : Int)) = true,
    fun _ => decide ((↑c : Int) ≤ (57 : Int)) = false,
    fun _ => false = false,
    fun _ => false = false,
    fun _ => false = false,
    fun _ => false = false,
    fun _ => false = false,
    fun _ => false = false,
    fun _ => decide (IntKind.wrap IntKind.i64 ((↑i : Int) + (2 : Int)) < (↑(ByteArray.size s) : Int)) = true,
    fun _ => ((↑c : Int) == (239 : Int)) = false,
    fun _ => false = false,
    fun _ => false = false,
    fun _ => false = false] (Res.v (Value.tuple (Array.mk [Value.int IntKind.i64 (-1 : Int), Value.int IntKind.i64 (0 : Int)])))]
  := by kernel_rfl

theorem run42z6b3 (s : ByteArray) (i c d : Nat) : (((xgo Try.prog X (bodyOf Try.f42) 81 TJ [] 60 [.as 11 (.v (.int .u8 (c : Int))), .t, .f, .f, .f, .f, .f, .f, .f, .t, .t, .as 58 (.v (.int .u8 (d : Int))), .f, .f, .f] (.nil) [.at []] ⟨argsTm 0 [.string s, .int .i64 (i : Int), .bool false], []⟩ [] []).bind (ends Try.prog Try.f42.results.toList)).bind plainE) =
  some [EndP.mk [] [fun _ => (0 : Int) ≤ (↑i : Int) ∧ (↑i : Int) < (↑(ByteArray.size s) : Int),
    fun _ => Value.int IntKind.u8 (sbyte s (Int.toNat (↑i : Int))) = Value.int IntKind.u8 (↑c : Int),
    fun _ => decide ((48 : Int) ≤ (↑c : Int)) = true,
    fun _ => decide ((↑c : Int) ≤ (57 : Int)) = false,
    fun _ => false = false,
    fun _ => false = false,
    fun _ => false = false,
    fun _ => false = false,
    fun _ => false = false,
    fun _ => false = false,
    fun _ => decide (IntKind.wrap IntKind.i64 ((↑i : Int) + (2 : Int)) < (↑(ByteArray.size s) : Int)) = true,
    fun _ => ((↑c : Int) == (239 : Int)) = true,
    fun _ => (0 : Int) ≤ IntKind.wrap IntKind.i64 ((↑i : Int) + (1 : Int)) ∧ IntKind.wrap IntKind.i64 ((↑i : Int) + (1 : Int)) < (↑(ByteArray.size s) : Int),
    fun _ => Value.int IntKind.u8 (sbyte s (Int.toNat (IntKind.wrap IntKind.i64 ((↑i : Int) + (1 : Int))))) = Value.int IntKind.u8 (↑d : Int),
    fun _ => ((↑d : Int) == (188 : Int)) = false,
    fun _ => false = false,
    fun _ => false = false] (Res.v (Value.tuple (Array.mk [Value.int IntKind.i64 (-1 : Int), Value.int IntKind.i64 (0 : Int)])))]
  := by kernel_rfl

theorem run42z6b4 (s : ByteArray) (i c d e : Nat) : (((xgo Try.prog X (bodyOf Try.f42) 81 TJ [] 60 [.as 11 (.v (.int .u8 (c : Int))), .t, .f, .f, .f, .f, .f, .f, .f, .t, .t, .as 58 (.v (.int .u8 (d : Int))), .t, .as 65 (.v (.int .u8 (e : Int))), .f, .f] (.nil) [.at []] ⟨argsTm 0 [.string s, .int .i64 (i : Int), .bool false], []⟩ [] []).bind (ends Try.prog Try.f42.results.toList)).bind plainE) =
  some [EndP.mk [] [fun _ => (0 : Int) ≤ (↑i : Int) ∧ (↑i : Int) < (↑(ByteArray.size s) : Int),
    fun _ => Value.int IntKind.u8 (sbyte s (Int.toNat (↑i : Int))) = Value.int IntKind.u8 (↑c : Int),
    fun _ => decide ((48 : Int) ≤ (↑c : Int)) = true,
    fun _ => decide ((↑c : Int) ≤ (57 : Int)) = false,
    fun _ => false = false,
    fun _ => false = false,
    fun _ => false = false,
    fun _ => false = false,
    fun _ => false = false,
    fun _ => false = false,
    fun _ => decide (IntKind.wrap IntKind.i64 ((↑i : Int) + (2 : Int)) < (↑(ByteArray.size s) : Int)) = true,
    fun _ => ((↑c : Int) == (239 : Int)) = true,
    fun _ => (0 : Int) ≤ IntKind.wrap IntKind.i64 ((↑i : Int) + (1 : Int)) ∧ IntKind.wrap IntKind.i64 ((↑i : Int) + (1 : Int)) < (↑(ByteArray.size s) : Int),
    fun _ => Value.int IntKind.u8 (sbyte s (Int.toNat (IntKind.wrap IntKind.i64 ((↑i : Int) + (1 : Int))))) = Value.int IntKind.u8 (↑d : Int),
    fun _ => ((↑d : Int) == (188 : Int)) = true,
    fun _ => (0 : Int) ≤ IntKind.wrap IntKind.i64 ((↑i : Int) + (2 : Int)) ∧ IntKind.wrap IntKind.i64 ((↑i : Int) + (2 : Int)) < (↑(ByteArray.size s) : Int),
    fun _ => Value.int IntKind.u8 (sbyte s (Int.toNat (IntKind.wrap IntKind.i64 ((↑i : Int) + (2 : Int))))) = Value.int IntKind.u8 (↑e : Int),
    fun _ => decide ((144 : Int) ≤ (↑e : Int)) = false,
    fun _ => false = false] (Res.v (Value.tuple (Array.mk [Value.int IntKind.i64 (-1 : Int), Value.int IntKind.i64 (0 : Int)])))]
  := by kernel_rfl

theorem run42z6b5 (s : ByteArray) (i c d e : Nat) : (((xgo Try.prog X (bodyOf Try.f42) 81 TJ [] 60 [.as 11 (.v (.int .u8 (c : Int))), .t, .f, .f, .f, .f, .f, .f, .f, .t, .t, .as 58 (.v (.int .u8 (d : Int))), .t, .as 65 (.v (.int .u8 (e : Int))), .t, .as 72 (.v (.int .u8 (e : Int))), .f] (.nil) [.at []] ⟨argsTm 0 [.string s, .int .i64 (i : Int), .bool false], []⟩ [] []).bind (ends Try.prog Try.f42.results.toList)).bind plainE) =
  some [EndP.mk [] [fun _ => (0 : Int) ≤ (↑i : Int) ∧ (↑i : Int) < (↑(ByteArray.size s) : Int),
    fun _ => Value.int IntKind.u8 (sbyte s (Int.toNat (↑i : Int))) = Value.int IntKind.u8 (↑c : Int),
    fun _ => decide ((48 : Int) ≤ (↑c : Int)) = true,
    fun _ => decide ((↑c : Int) ≤ (57 : Int)) = false,
    fun _ => false = false,
    fun _ => false = false,
    fun _ => false = false,
    fun _ => false = false,
    fun _ => false = false,
    fun _ => false = false,
    fun _ => decide (IntKind.wrap IntKind.i64 ((↑i : Int) + (2 : Int)) < (↑(ByteArray.size s) : Int)) = true,
    fun _ => ((↑c : Int) == (239 : Int)) = true,
    fun _ => (0 : Int) ≤ IntKind.wrap IntKind.i64 ((↑i : Int) + (1 : Int)) ∧ IntKind.wrap IntKind.i64 ((↑i : Int) + (1 : Int)) < (↑(ByteArray.size s) : Int),
    fun _ => Value.int IntKind.u8 (sbyte s (Int.toNat (IntKind.wrap IntKind.i64 ((↑i : Int) + (1 : Int))))) = Value.int IntKind.u8 (↑d : Int),
    fun _ => ((↑d : Int) == (188 : Int)) = true,
    fun _ => (0 : Int) ≤ IntKind.wrap IntKind.i64 ((↑i : Int) + (2 : Int)) ∧ IntKind.wrap IntKind.i64 ((↑i : Int) + (2 : Int)) < (↑(ByteArray.size s) : Int),
    fun _ => Value.int IntKind.u8 (sbyte s (Int.toNat (IntKind.wrap IntKind.i64 ((↑i : Int) + (2 : Int))))) = Value.int IntKind.u8 (↑e : Int),
    fun _ => decide ((144 : Int) ≤ (↑e : Int)) = true,
    fun _ => (0 : Int) ≤ IntKind.wrap IntKind.i64 ((↑i : Int) + (2 : Int)) ∧ IntKind.wrap IntKind.i64 ((↑i : Int) + (2 : Int)) < (↑(ByteArray.size s) : Int),
    fun _ => Value.int IntKind.u8 (sbyte s (Int.toNat (IntKind.wrap IntKind.i64 ((↑i : Int) + (2 : Int))))) = Value.int IntKind.u8 (↑e : Int),
    fun _ => decide ((↑e : Int) ≤ (153 : Int)) = false] (Res.v (Value.tuple (Array.mk [Value.int IntKind.i64 (-1 : Int), Value.int IntKind.i64 (0 : Int)])))]
  := by kernel_rfl

theorem run42z6w (s : ByteArray) (i c d e : Nat) : (((xgo Try.prog X (bodyOf Try.f42) 81 TJ [] 60 [.as 11 (.v (.int .u8 (c : Int))), .t, .f, .f, .f, .f, .f, .f, .f, .t, .t, .as 58 (.v (.int .u8 (d : Int))), .t, .as 65 (.v (.int .u8 (e : Int))), .t, .as 72 (.v (.int .u8 (e : Int))), .t, .as 78 (.v (.int .u8 (e : Int)))] (.nil) [.at []] ⟨argsTm 0 [.string s, .int .i64 (i : Int), .bool false], []⟩ [] []).bind (ends Try.prog Try.f42.results.toList)).bind plainE) =
  some [EndP.mk [] [fun _ => (0 : Int) ≤ (↑i : Int) ∧ (↑i : Int) < (↑(ByteArray.size s) : Int),
    fun _ => Value.int IntKind.u8 (sbyte s (Int.toNat (↑i : Int))) = Value.int IntKind.u8 (↑c : Int),
    fun _ => decide ((48 : Int) ≤ (↑c : Int)) = true,
    fun _ => decide ((↑c : Int) ≤ (57 : Int)) = false,
    fun _ => false = false,
    fun _ => false = false,
    fun _ => false = false,
    fun _ => false = false,
    fun _ => false = false,
    fun _ => false = false,
    fun _ => decide (IntKind.wrap IntKind.i64 ((↑i : Int) + (2 : Int)) < (↑(ByteArray.size s) : Int)) = true,
    fun _ => ((↑c : Int) == (239 : Int)) = true,
    fun _ => (0 : Int) ≤ IntKind.wrap IntKind.i64 ((↑i : Int) + (1 : Int)) ∧ IntKind.wrap IntKind.i64 ((↑i : Int) + (1 : Int)) < (↑(ByteArray.size s) : Int),
    fun _ => Value.int IntKind.u8 (sbyte s (Int.toNat (IntKind.wrap IntKind.i64 ((↑i : Int) + (1 : Int))))) = Value.int IntKind.u8 (↑d : Int),
    fun _ => ((↑d : Int) == (188 : Int)) = true,
    fun _ => (0 : Int) ≤ IntKind.wrap IntKind.i64 ((↑i : Int) + (2 : Int)) ∧ IntKind.wrap IntKind.i64 ((↑i : Int) + (2 : Int)) < (↑(ByteArray.size s) : Int),
    fun _ => Value.int IntKind.u8 (sbyte s (Int.toNat (IntKind.wrap IntKind.i64 ((↑i : Int) + (2 : Int))))) = Value.int IntKind.u8 (↑e : Int),
    fun _ => decide ((144 : Int) ≤ (↑e : Int)) = true,
    fun _ => (0 : Int) ≤ IntKind.wrap IntKind.i64 ((↑i : Int) + (2 : Int)) ∧ IntKind.wrap IntKind.i64 ((↑i : Int) + (2 : Int)) < (↑(ByteArray.size s) : Int),
    fun _ => Value.int IntKind.u8 (sbyte s (Int.toNat (IntKind.wrap IntKind.i64 ((↑i : Int) + (2 : Int))))) = Value.int IntKind.u8 (↑e : Int),
    fun _ => decide ((↑e : Int) ≤ (153 : Int)) = true,
    fun _ => (0 : Int) ≤ IntKind.wrap IntKind.i64 ((↑i : Int) + (2 : Int)) ∧ IntKind.wrap IntKind.i64 ((↑i : Int) + (2 : Int)) < (↑(ByteArray.size s) : Int),
    fun _ => Value.int IntKind.u8 (sbyte s (Int.toNat (IntKind.wrap IntKind.i64 ((↑i : Int) + (2 : Int))))) = Value.int IntKind.u8 (↑e : Int)] (Res.v (Value.tuple (Array.mk [Value.int IntKind.i64 (IntKind.wrap IntKind.i64 (IntKind.wrap IntKind.i64 (↑e : Int) - (144 : Int))), Value.int IntKind.i64 (3 : Int)])))]
  := by kernel_rfl

theorem val42dg (s : ByteArray) (i : Nat) (hi : i < s.size) (hs : s.size ≤ 100000) (q : 48 ≤ at8 s i ∧ at8 s i ≤ 57) (w : World) : Calls Try.prog 42 [.string s, .int .i64 (i : Int), .bool true].toArray w (fun E w' => ∃ v, E = .returned v ∧ Res.ok w w' (.v (.tuple #[.int .i64 (vD 16 s i), .int .i64 ((vK 16 s i : Nat) : Int)])) v ∧ Below w.heap.size w w') := by
  have l0 := at8_lt s i
  have l2 := at8_lt s (i + 2)
  have w1 : IntKind.wrap .i64 ((i : Int) + 1) = ((i + 1 : Nat) : Int) := by rw [show (i : Int) + 1 = ((i + 1 : Nat) : Int) by omega, wrap_i64 _ (by omega)]
  have w2 : IntKind.wrap .i64 ((i : Int) + 2) = ((i + 2 : Nat) : Int) := by rw [show (i : Int) + 2 = ((i + 2 : Nat) : Int) by omega, wrap_i64 _ (by omega)]
  have hg : dig 16 s i = some (at8 s i - 48, 1) := by
    unfold dig
    rw [if_pos (by omega)]
  refine con_end (calls_plain hm Try.func42 (by kernel_rfl) rfl rfl 60 _ _ (run42dg s i (at8 s i)) ⟨fun _ => ⟨?_, ?_⟩, trivial⟩)
  · simp only [hold_cons, hold_nil, and_true, Int.toNat_natCast, sbyte_at]
    repeat' apply And.intro
    all_goals (intro _ _; first | exact trivial | exact ⟨by omega, by omega⟩ | exact decide_eq_true (by omega) | exact decide_eq_false (by omega) | exact beq_iff_eq.2 (by omega) | exact beq_eq_false_iff_ne.2 (by omega))
  · have hw : IntKind.wrap .i64 (IntKind.wrap .i64 ((at8 s i : Nat) : Int) - 48) = ((at8 s i - 48 : Nat) : Int) := by
      rw [show (48 : Int) = ((48 : Nat) : Int) by omega]
      exact wrap_up _ 48 (by omega) (by omega)
    rw [hw, vD, vK, hidZ_eq, hide_eq, hg, digD, digK]
    rfl
theorem val42lw (s : ByteArray) (i : Nat) (hi : i < s.size) (hs : s.size ≤ 100000) (q : 97 ≤ at8 s i ∧ at8 s i ≤ 102) (w : World) : Calls Try.prog 42 [.string s, .int .i64 (i : Int), .bool true].toArray w (fun E w' => ∃ v, E = .returned v ∧ Res.ok w w' (.v (.tuple #[.int .i64 (vD 16 s i), .int .i64 ((vK 16 s i : Nat) : Int)])) v ∧ Below w.heap.size w w') := by
  have l0 := at8_lt s i
  have l2 := at8_lt s (i + 2)
  have w1 : IntKind.wrap .i64 ((i : Int) + 1) = ((i + 1 : Nat) : Int) := by rw [show (i : Int) + 1 = ((i + 1 : Nat) : Int) by omega, wrap_i64 _ (by omega)]
  have w2 : IntKind.wrap .i64 ((i : Int) + 2) = ((i + 2 : Nat) : Int) := by rw [show (i : Int) + 2 = ((i + 2 : Nat) : Int) by omega, wrap_i64 _ (by omega)]
  have hg : dig 16 s i = some (at8 s i - 87, 1) := by
    unfold dig
    rw [if_neg (by omega), if_pos (by omega)]
  refine con_end (calls_plain hm Try.func42 (by kernel_rfl) rfl rfl 60 _ _ (run42lw s i (at8 s i)) ⟨fun _ => ⟨?_, ?_⟩, trivial⟩)
  · simp only [hold_cons, hold_nil, and_true, Int.toNat_natCast, sbyte_at]
    repeat' apply And.intro
    all_goals (intro _ _; first | exact trivial | exact ⟨by omega, by omega⟩ | exact decide_eq_true (by omega) | exact decide_eq_false (by omega) | exact beq_iff_eq.2 (by omega) | exact beq_eq_false_iff_ne.2 (by omega))
  · have hw : IntKind.wrap .i64 (IntKind.wrap .i64 ((at8 s i : Nat) : Int) - 87) = ((at8 s i - 87 : Nat) : Int) := by
      rw [show (87 : Int) = ((87 : Nat) : Int) by omega]
      exact wrap_up _ 87 (by omega) (by omega)
    rw [hw, vD, vK, hidZ_eq, hide_eq, hg, digD, digK]
    rfl
theorem val42up (s : ByteArray) (i : Nat) (hi : i < s.size) (hs : s.size ≤ 100000) (q : 65 ≤ at8 s i ∧ at8 s i ≤ 70) (w : World) : Calls Try.prog 42 [.string s, .int .i64 (i : Int), .bool true].toArray w (fun E w' => ∃ v, E = .returned v ∧ Res.ok w w' (.v (.tuple #[.int .i64 (vD 16 s i), .int .i64 ((vK 16 s i : Nat) : Int)])) v ∧ Below w.heap.size w w') := by
  have l0 := at8_lt s i
  have l2 := at8_lt s (i + 2)
  have w1 : IntKind.wrap .i64 ((i : Int) + 1) = ((i + 1 : Nat) : Int) := by rw [show (i : Int) + 1 = ((i + 1 : Nat) : Int) by omega, wrap_i64 _ (by omega)]
  have w2 : IntKind.wrap .i64 ((i : Int) + 2) = ((i + 2 : Nat) : Int) := by rw [show (i : Int) + 2 = ((i + 2 : Nat) : Int) by omega, wrap_i64 _ (by omega)]
  have hg : dig 16 s i = some (at8 s i - 55, 1) := by
    unfold dig
    rw [if_neg (by omega), if_neg (by omega), if_pos (by omega)]
  refine con_end (calls_plain hm Try.func42 (by kernel_rfl) rfl rfl 60 _ _ (run42up s i (at8 s i)) ⟨fun _ => ⟨?_, ?_⟩, trivial⟩)
  · simp only [hold_cons, hold_nil, and_true, Int.toNat_natCast, sbyte_at]
    repeat' apply And.intro
    all_goals (intro _ _; first | exact trivial | exact ⟨by omega, by omega⟩ | exact decide_eq_true (by omega) | exact decide_eq_false (by omega) | exact beq_iff_eq.2 (by omega) | exact beq_eq_false_iff_ne.2 (by omega))
  · have hw : IntKind.wrap .i64 (IntKind.wrap .i64 ((at8 s i : Nat) : Int) - 55) = ((at8 s i - 55 : Nat) : Int) := by
      rw [show (55 : Int) = ((55 : Nat) : Int) by omega]
      exact wrap_up _ 55 (by omega) (by omega)
    rw [hw, vD, vK, hidZ_eq, hide_eq, hg, digD, digK]
    rfl
theorem val42dh (s : ByteArray) (i : Nat) (hi : i < s.size) (hs : s.size ≤ 100000) (q : 48 ≤ at8 s i ∧ at8 s i ≤ 57) (w : World) : Calls Try.prog 42 [.string s, .int .i64 (i : Int), .bool false].toArray w (fun E w' => ∃ v, E = .returned v ∧ Res.ok w w' (.v (.tuple #[.int .i64 (vD 10 s i), .int .i64 ((vK 10 s i : Nat) : Int)])) v ∧ Below w.heap.size w w') := by
  have l0 := at8_lt s i
  have l2 := at8_lt s (i + 2)
  have w1 : IntKind.wrap .i64 ((i : Int) + 1) = ((i + 1 : Nat) : Int) := by rw [show (i : Int) + 1 = ((i + 1 : Nat) : Int) by omega, wrap_i64 _ (by omega)]
  have w2 : IntKind.wrap .i64 ((i : Int) + 2) = ((i + 2 : Nat) : Int) := by rw [show (i : Int) + 2 = ((i + 2 : Nat) : Int) by omega, wrap_i64 _ (by omega)]
  have hg : dig 10 s i = some (at8 s i - 48, 1) := by
    unfold dig
    rw [if_pos (by omega)]
  refine con_end (calls_plain hm Try.func42 (by kernel_rfl) rfl rfl 60 _ _ (run42dh s i (at8 s i)) ⟨fun _ => ⟨?_, ?_⟩, trivial⟩)
  · simp only [hold_cons, hold_nil, and_true, Int.toNat_natCast, sbyte_at]
    repeat' apply And.intro
    all_goals (intro _ _; first | exact trivial | exact ⟨by omega, by omega⟩ | exact decide_eq_true (by omega) | exact decide_eq_false (by omega) | exact beq_iff_eq.2 (by omega) | exact beq_eq_false_iff_ne.2 (by omega))
  · have hw : IntKind.wrap .i64 (IntKind.wrap .i64 ((at8 s i : Nat) : Int) - 48) = ((at8 s i - 48 : Nat) : Int) := by
      rw [show (48 : Int) = ((48 : Nat) : Int) by omega]
      exact wrap_up _ 48 (by omega) (by omega)
    rw [hw, vD, vK, hidZ_eq, hide_eq, hg, digD, digK]
    rfl
theorem val42z1b1 (s : ByteArray) (i : Nat) (hi : i < s.size) (hs : s.size ≤ 100000) (q : at8 s i < 48 ∧ ¬ i + 2 < s.size) (w : World) : Calls Try.prog 42 [.string s, .int .i64 (i : Int), .bool true].toArray w (fun E w' => ∃ v, E = .returned v ∧ Res.ok w w' (.v (.tuple #[.int .i64 (vD 16 s i), .int .i64 ((vK 16 s i : Nat) : Int)])) v ∧ Below w.heap.size w w') := by
  have l0 := at8_lt s i
  have l2 := at8_lt s (i + 2)
  have w1 : IntKind.wrap .i64 ((i : Int) + 1) = ((i + 1 : Nat) : Int) := by rw [show (i : Int) + 1 = ((i + 1 : Nat) : Int) by omega, wrap_i64 _ (by omega)]
  have w2 : IntKind.wrap .i64 ((i : Int) + 2) = ((i + 2 : Nat) : Int) := by rw [show (i : Int) + 2 = ((i + 2 : Nat) : Int) by omega, wrap_i64 _ (by omega)]
  have hg : dig 16 s i = none := by
    unfold dig
    rw [if_neg (by omega), if_neg (by omega), if_neg (by omega), if_neg (by omega)]
  refine con_end (calls_plain hm Try.func42 (by kernel_rfl) rfl rfl 60 _ _ (run42z1b1 s i (at8 s i)) ⟨fun _ => ⟨?_, ?_⟩, trivial⟩)
  · simp only [hold_cons, hold_nil, and_true, w2, Int.toNat_natCast, sbyte_at]
    repeat' apply And.intro
    all_goals (intro _ _; first | exact trivial | exact ⟨by omega, by omega⟩ | exact decide_eq_true (by omega) | exact decide_eq_false (by omega) | exact beq_iff_eq.2 (by omega) | exact beq_eq_false_iff_ne.2 (by omega))
  · rw [vD, vK, hidZ_eq, hide_eq, hg, digD, digK]; rfl
theorem val42z1b2 (s : ByteArray) (i : Nat) (_hi : i < s.size) (hs : s.size ≤ 100000) (q : at8 s i < 48 ∧ i + 2 < s.size ∧ at8 s i ≠ 239) (w : World) : Calls Try.prog 42 [.string s, .int .i64 (i : Int), .bool true].toArray w (fun E w' => ∃ v, E = .returned v ∧ Res.ok w w' (.v (.tuple #[.int .i64 (vD 16 s i), .int .i64 ((vK 16 s i : Nat) : Int)])) v ∧ Below w.heap.size w w') := by
  have l0 := at8_lt s i
  have l2 := at8_lt s (i + 2)
  have w1 : IntKind.wrap .i64 ((i : Int) + 1) = ((i + 1 : Nat) : Int) := by rw [show (i : Int) + 1 = ((i + 1 : Nat) : Int) by omega, wrap_i64 _ (by omega)]
  have w2 : IntKind.wrap .i64 ((i : Int) + 2) = ((i + 2 : Nat) : Int) := by rw [show (i : Int) + 2 = ((i + 2 : Nat) : Int) by omega, wrap_i64 _ (by omega)]
  have hg : dig 16 s i = none := by
    unfold dig
    rw [if_neg (by omega), if_neg (by omega), if_neg (by omega), if_neg (by omega)]
  refine con_end (calls_plain hm Try.func42 (by kernel_rfl) rfl rfl 60 _ _ (run42z1b2 s i (at8 s i)) ⟨fun _ => ⟨?_, ?_⟩, trivial⟩)
  · simp only [hold_cons, hold_nil, and_true, w2, Int.toNat_natCast, sbyte_at]
    repeat' apply And.intro
    all_goals (intro _ _; first | exact trivial | exact ⟨by omega, by omega⟩ | exact decide_eq_true (by omega) | exact decide_eq_false (by omega) | exact beq_iff_eq.2 (by omega) | exact beq_eq_false_iff_ne.2 (by omega))
  · rw [vD, vK, hidZ_eq, hide_eq, hg, digD, digK]; rfl
theorem val42z2b1 (s : ByteArray) (i : Nat) (hi : i < s.size) (hs : s.size ≤ 100000) (q : 58 ≤ at8 s i ∧ at8 s i ≤ 64 ∧ ¬ i + 2 < s.size) (w : World) : Calls Try.prog 42 [.string s, .int .i64 (i : Int), .bool true].toArray w (fun E w' => ∃ v, E = .returned v ∧ Res.ok w w' (.v (.tuple #[.int .i64 (vD 16 s i), .int .i64 ((vK 16 s i : Nat) : Int)])) v ∧ Below w.heap.size w w') := by
  have l0 := at8_lt s i
  have l2 := at8_lt s (i + 2)
  have w1 : IntKind.wrap .i64 ((i : Int) + 1) = ((i + 1 : Nat) : Int) := by rw [show (i : Int) + 1 = ((i + 1 : Nat) : Int) by omega, wrap_i64 _ (by omega)]
  have w2 : IntKind.wrap .i64 ((i : Int) + 2) = ((i + 2 : Nat) : Int) := by rw [show (i : Int) + 2 = ((i + 2 : Nat) : Int) by omega, wrap_i64 _ (by omega)]
  have hg : dig 16 s i = none := by
    unfold dig
    rw [if_neg (by omega), if_neg (by omega), if_neg (by omega), if_neg (by omega)]
  refine con_end (calls_plain hm Try.func42 (by kernel_rfl) rfl rfl 60 _ _ (run42z2b1 s i (at8 s i)) ⟨fun _ => ⟨?_, ?_⟩, trivial⟩)
  · simp only [hold_cons, hold_nil, and_true, w2, Int.toNat_natCast, sbyte_at]
    repeat' apply And.intro
    all_goals (intro _ _; first | exact trivial | exact ⟨by omega, by omega⟩ | exact decide_eq_true (by omega) | exact decide_eq_false (by omega) | exact beq_iff_eq.2 (by omega) | exact beq_eq_false_iff_ne.2 (by omega))
  · rw [vD, vK, hidZ_eq, hide_eq, hg, digD, digK]; rfl
theorem val42z2b2 (s : ByteArray) (i : Nat) (_hi : i < s.size) (hs : s.size ≤ 100000) (q : 58 ≤ at8 s i ∧ at8 s i ≤ 64 ∧ i + 2 < s.size ∧ at8 s i ≠ 239) (w : World) : Calls Try.prog 42 [.string s, .int .i64 (i : Int), .bool true].toArray w (fun E w' => ∃ v, E = .returned v ∧ Res.ok w w' (.v (.tuple #[.int .i64 (vD 16 s i), .int .i64 ((vK 16 s i : Nat) : Int)])) v ∧ Below w.heap.size w w') := by
  have l0 := at8_lt s i
  have l2 := at8_lt s (i + 2)
  have w1 : IntKind.wrap .i64 ((i : Int) + 1) = ((i + 1 : Nat) : Int) := by rw [show (i : Int) + 1 = ((i + 1 : Nat) : Int) by omega, wrap_i64 _ (by omega)]
  have w2 : IntKind.wrap .i64 ((i : Int) + 2) = ((i + 2 : Nat) : Int) := by rw [show (i : Int) + 2 = ((i + 2 : Nat) : Int) by omega, wrap_i64 _ (by omega)]
  have hg : dig 16 s i = none := by
    unfold dig
    rw [if_neg (by omega), if_neg (by omega), if_neg (by omega), if_neg (by omega)]
  refine con_end (calls_plain hm Try.func42 (by kernel_rfl) rfl rfl 60 _ _ (run42z2b2 s i (at8 s i)) ⟨fun _ => ⟨?_, ?_⟩, trivial⟩)
  · simp only [hold_cons, hold_nil, and_true, w2, Int.toNat_natCast, sbyte_at]
    repeat' apply And.intro
    all_goals (intro _ _; first | exact trivial | exact ⟨by omega, by omega⟩ | exact decide_eq_true (by omega) | exact decide_eq_false (by omega) | exact beq_iff_eq.2 (by omega) | exact beq_eq_false_iff_ne.2 (by omega))
  · rw [vD, vK, hidZ_eq, hide_eq, hg, digD, digK]; rfl
theorem val42z3b1 (s : ByteArray) (i : Nat) (hi : i < s.size) (hs : s.size ≤ 100000) (q : 71 ≤ at8 s i ∧ at8 s i ≤ 96 ∧ ¬ i + 2 < s.size) (w : World) : Calls Try.prog 42 [.string s, .int .i64 (i : Int), .bool true].toArray w (fun E w' => ∃ v, E = .returned v ∧ Res.ok w w' (.v (.tuple #[.int .i64 (vD 16 s i), .int .i64 ((vK 16 s i : Nat) : Int)])) v ∧ Below w.heap.size w w') := by
  have l0 := at8_lt s i
  have l2 := at8_lt s (i + 2)
  have w1 : IntKind.wrap .i64 ((i : Int) + 1) = ((i + 1 : Nat) : Int) := by rw [show (i : Int) + 1 = ((i + 1 : Nat) : Int) by omega, wrap_i64 _ (by omega)]
  have w2 : IntKind.wrap .i64 ((i : Int) + 2) = ((i + 2 : Nat) : Int) := by rw [show (i : Int) + 2 = ((i + 2 : Nat) : Int) by omega, wrap_i64 _ (by omega)]
  have hg : dig 16 s i = none := by
    unfold dig
    rw [if_neg (by omega), if_neg (by omega), if_neg (by omega), if_neg (by omega)]
  refine con_end (calls_plain hm Try.func42 (by kernel_rfl) rfl rfl 60 _ _ (run42z3b1 s i (at8 s i)) ⟨fun _ => ⟨?_, ?_⟩, trivial⟩)
  · simp only [hold_cons, hold_nil, and_true, w2, Int.toNat_natCast, sbyte_at]
    repeat' apply And.intro
    all_goals (intro _ _; first | exact trivial | exact ⟨by omega, by omega⟩ | exact decide_eq_true (by omega) | exact decide_eq_false (by omega) | exact beq_iff_eq.2 (by omega) | exact beq_eq_false_iff_ne.2 (by omega))
  · rw [vD, vK, hidZ_eq, hide_eq, hg, digD, digK]; rfl
theorem val42z3b2 (s : ByteArray) (i : Nat) (_hi : i < s.size) (hs : s.size ≤ 100000) (q : 71 ≤ at8 s i ∧ at8 s i ≤ 96 ∧ i + 2 < s.size ∧ at8 s i ≠ 239) (w : World) : Calls Try.prog 42 [.string s, .int .i64 (i : Int), .bool true].toArray w (fun E w' => ∃ v, E = .returned v ∧ Res.ok w w' (.v (.tuple #[.int .i64 (vD 16 s i), .int .i64 ((vK 16 s i : Nat) : Int)])) v ∧ Below w.heap.size w w') := by
  have l0 := at8_lt s i
  have l2 := at8_lt s (i + 2)
  have w1 : IntKind.wrap .i64 ((i : Int) + 1) = ((i + 1 : Nat) : Int) := by rw [show (i : Int) + 1 = ((i + 1 : Nat) : Int) by omega, wrap_i64 _ (by omega)]
  have w2 : IntKind.wrap .i64 ((i : Int) + 2) = ((i + 2 : Nat) : Int) := by rw [show (i : Int) + 2 = ((i + 2 : Nat) : Int) by omega, wrap_i64 _ (by omega)]
  have hg : dig 16 s i = none := by
    unfold dig
    rw [if_neg (by omega), if_neg (by omega), if_neg (by omega), if_neg (by omega)]
  refine con_end (calls_plain hm Try.func42 (by kernel_rfl) rfl rfl 60 _ _ (run42z3b2 s i (at8 s i)) ⟨fun _ => ⟨?_, ?_⟩, trivial⟩)
  · simp only [hold_cons, hold_nil, and_true, w2, Int.toNat_natCast, sbyte_at]
    repeat' apply And.intro
    all_goals (intro _ _; first | exact trivial | exact ⟨by omega, by omega⟩ | exact decide_eq_true (by omega) | exact decide_eq_false (by omega) | exact beq_iff_eq.2 (by omega) | exact beq_eq_false_iff_ne.2 (by omega))
  · rw [vD, vK, hidZ_eq, hide_eq, hg, digD, digK]; rfl
theorem val42z4b1 (s : ByteArray) (i : Nat) (hi : i < s.size) (hs : s.size ≤ 100000) (q : 103 ≤ at8 s i ∧ ¬ i + 2 < s.size) (w : World) : Calls Try.prog 42 [.string s, .int .i64 (i : Int), .bool true].toArray w (fun E w' => ∃ v, E = .returned v ∧ Res.ok w w' (.v (.tuple #[.int .i64 (vD 16 s i), .int .i64 ((vK 16 s i : Nat) : Int)])) v ∧ Below w.heap.size w w') := by
  have l0 := at8_lt s i
  have l2 := at8_lt s (i + 2)
  have w1 : IntKind.wrap .i64 ((i : Int) + 1) = ((i + 1 : Nat) : Int) := by rw [show (i : Int) + 1 = ((i + 1 : Nat) : Int) by omega, wrap_i64 _ (by omega)]
  have w2 : IntKind.wrap .i64 ((i : Int) + 2) = ((i + 2 : Nat) : Int) := by rw [show (i : Int) + 2 = ((i + 2 : Nat) : Int) by omega, wrap_i64 _ (by omega)]
  have hg : dig 16 s i = none := by
    unfold dig
    rw [if_neg (by omega), if_neg (by omega), if_neg (by omega), if_neg (by omega)]
  refine con_end (calls_plain hm Try.func42 (by kernel_rfl) rfl rfl 60 _ _ (run42z4b1 s i (at8 s i)) ⟨fun _ => ⟨?_, ?_⟩, trivial⟩)
  · simp only [hold_cons, hold_nil, and_true, w2, Int.toNat_natCast, sbyte_at]
    repeat' apply And.intro
    all_goals (intro _ _; first | exact trivial | exact ⟨by omega, by omega⟩ | exact decide_eq_true (by omega) | exact decide_eq_false (by omega) | exact beq_iff_eq.2 (by omega) | exact beq_eq_false_iff_ne.2 (by omega))
  · rw [vD, vK, hidZ_eq, hide_eq, hg, digD, digK]; rfl
theorem val42z4b2 (s : ByteArray) (i : Nat) (_hi : i < s.size) (hs : s.size ≤ 100000) (q : 103 ≤ at8 s i ∧ i + 2 < s.size ∧ at8 s i ≠ 239) (w : World) : Calls Try.prog 42 [.string s, .int .i64 (i : Int), .bool true].toArray w (fun E w' => ∃ v, E = .returned v ∧ Res.ok w w' (.v (.tuple #[.int .i64 (vD 16 s i), .int .i64 ((vK 16 s i : Nat) : Int)])) v ∧ Below w.heap.size w w') := by
  have l0 := at8_lt s i
  have l2 := at8_lt s (i + 2)
  have w1 : IntKind.wrap .i64 ((i : Int) + 1) = ((i + 1 : Nat) : Int) := by rw [show (i : Int) + 1 = ((i + 1 : Nat) : Int) by omega, wrap_i64 _ (by omega)]
  have w2 : IntKind.wrap .i64 ((i : Int) + 2) = ((i + 2 : Nat) : Int) := by rw [show (i : Int) + 2 = ((i + 2 : Nat) : Int) by omega, wrap_i64 _ (by omega)]
  have hg : dig 16 s i = none := by
    unfold dig
    rw [if_neg (by omega), if_neg (by omega), if_neg (by omega), if_neg (by omega)]
  refine con_end (calls_plain hm Try.func42 (by kernel_rfl) rfl rfl 60 _ _ (run42z4b2 s i (at8 s i)) ⟨fun _ => ⟨?_, ?_⟩, trivial⟩)
  · simp only [hold_cons, hold_nil, and_true, w2, Int.toNat_natCast, sbyte_at]
    repeat' apply And.intro
    all_goals (intro _ _; first | exact trivial | exact ⟨by omega, by omega⟩ | exact decide_eq_true (by omega) | exact decide_eq_false (by omega) | exact beq_iff_eq.2 (by omega) | exact beq_eq_false_iff_ne.2 (by omega))
  · rw [vD, vK, hidZ_eq, hide_eq, hg, digD, digK]; rfl
theorem val42z4b3 (s : ByteArray) (i : Nat) (_hi : i < s.size) (hs : s.size ≤ 100000) (q : 103 ≤ at8 s i ∧ i + 2 < s.size ∧ at8 s i = 239 ∧ at8 s (i + 1) ≠ 188) (w : World) : Calls Try.prog 42 [.string s, .int .i64 (i : Int), .bool true].toArray w (fun E w' => ∃ v, E = .returned v ∧ Res.ok w w' (.v (.tuple #[.int .i64 (vD 16 s i), .int .i64 ((vK 16 s i : Nat) : Int)])) v ∧ Below w.heap.size w w') := by
  have l0 := at8_lt s i
  have l2 := at8_lt s (i + 2)
  have w1 : IntKind.wrap .i64 ((i : Int) + 1) = ((i + 1 : Nat) : Int) := by rw [show (i : Int) + 1 = ((i + 1 : Nat) : Int) by omega, wrap_i64 _ (by omega)]
  have w2 : IntKind.wrap .i64 ((i : Int) + 2) = ((i + 2 : Nat) : Int) := by rw [show (i : Int) + 2 = ((i + 2 : Nat) : Int) by omega, wrap_i64 _ (by omega)]
  have hg : dig 16 s i = none := by
    unfold dig
    rw [if_neg (by omega), if_neg (by omega), if_neg (by omega), if_neg (by omega)]
  refine con_end (calls_plain hm Try.func42 (by kernel_rfl) rfl rfl 60 _ _ (run42z4b3 s i (at8 s i) (at8 s (i + 1))) ⟨fun _ => ⟨?_, ?_⟩, trivial⟩)
  · simp only [hold_cons, hold_nil, and_true, w1, w2, Int.toNat_natCast, sbyte_at]
    repeat' apply And.intro
    all_goals (intro _ _; first | exact trivial | exact ⟨by omega, by omega⟩ | exact decide_eq_true (by omega) | exact decide_eq_false (by omega) | exact beq_iff_eq.2 (by omega) | exact beq_eq_false_iff_ne.2 (by omega))
  · rw [vD, vK, hidZ_eq, hide_eq, hg, digD, digK]; rfl
theorem val42z4b4 (s : ByteArray) (i : Nat) (_hi : i < s.size) (hs : s.size ≤ 100000) (q : 103 ≤ at8 s i ∧ i + 2 < s.size ∧ at8 s i = 239 ∧ at8 s (i + 1) = 188 ∧ at8 s (i + 2) < 144) (w : World) : Calls Try.prog 42 [.string s, .int .i64 (i : Int), .bool true].toArray w (fun E w' => ∃ v, E = .returned v ∧ Res.ok w w' (.v (.tuple #[.int .i64 (vD 16 s i), .int .i64 ((vK 16 s i : Nat) : Int)])) v ∧ Below w.heap.size w w') := by
  have l0 := at8_lt s i
  have l2 := at8_lt s (i + 2)
  have w1 : IntKind.wrap .i64 ((i : Int) + 1) = ((i + 1 : Nat) : Int) := by rw [show (i : Int) + 1 = ((i + 1 : Nat) : Int) by omega, wrap_i64 _ (by omega)]
  have w2 : IntKind.wrap .i64 ((i : Int) + 2) = ((i + 2 : Nat) : Int) := by rw [show (i : Int) + 2 = ((i + 2 : Nat) : Int) by omega, wrap_i64 _ (by omega)]
  have hg : dig 16 s i = none := by
    unfold dig
    rw [if_neg (by omega), if_neg (by omega), if_neg (by omega), if_neg (by omega)]
  refine con_end (calls_plain hm Try.func42 (by kernel_rfl) rfl rfl 60 _ _ (run42z4b4 s i (at8 s i) (at8 s (i + 1)) (at8 s (i + 2))) ⟨fun _ => ⟨?_, ?_⟩, trivial⟩)
  · simp only [hold_cons, hold_nil, and_true, w1, w2, Int.toNat_natCast, sbyte_at]
    repeat' apply And.intro
    all_goals (intro _ _; first | exact trivial | exact ⟨by omega, by omega⟩ | exact decide_eq_true (by omega) | exact decide_eq_false (by omega) | exact beq_iff_eq.2 (by omega) | exact beq_eq_false_iff_ne.2 (by omega))
  · rw [vD, vK, hidZ_eq, hide_eq, hg, digD, digK]; rfl
theorem val42z4b5 (s : ByteArray) (i : Nat) (_hi : i < s.size) (hs : s.size ≤ 100000) (q : 103 ≤ at8 s i ∧ i + 2 < s.size ∧ at8 s i = 239 ∧ at8 s (i + 1) = 188 ∧ 153 < at8 s (i + 2)) (w : World) : Calls Try.prog 42 [.string s, .int .i64 (i : Int), .bool true].toArray w (fun E w' => ∃ v, E = .returned v ∧ Res.ok w w' (.v (.tuple #[.int .i64 (vD 16 s i), .int .i64 ((vK 16 s i : Nat) : Int)])) v ∧ Below w.heap.size w w') := by
  have l0 := at8_lt s i
  have l2 := at8_lt s (i + 2)
  have w1 : IntKind.wrap .i64 ((i : Int) + 1) = ((i + 1 : Nat) : Int) := by rw [show (i : Int) + 1 = ((i + 1 : Nat) : Int) by omega, wrap_i64 _ (by omega)]
  have w2 : IntKind.wrap .i64 ((i : Int) + 2) = ((i + 2 : Nat) : Int) := by rw [show (i : Int) + 2 = ((i + 2 : Nat) : Int) by omega, wrap_i64 _ (by omega)]
  have hg : dig 16 s i = none := by
    unfold dig
    rw [if_neg (by omega), if_neg (by omega), if_neg (by omega), if_neg (by omega)]
  refine con_end (calls_plain hm Try.func42 (by kernel_rfl) rfl rfl 60 _ _ (run42z4b5 s i (at8 s i) (at8 s (i + 1)) (at8 s (i + 2))) ⟨fun _ => ⟨?_, ?_⟩, trivial⟩)
  · simp only [hold_cons, hold_nil, and_true, w1, w2, Int.toNat_natCast, sbyte_at]
    repeat' apply And.intro
    all_goals (intro _ _; first | exact trivial | exact ⟨by omega, by omega⟩ | exact decide_eq_true (by omega) | exact decide_eq_false (by omega) | exact beq_iff_eq.2 (by omega) | exact beq_eq_false_iff_ne.2 (by omega))
  · rw [vD, vK, hidZ_eq, hide_eq, hg, digD, digK]; rfl
theorem val42z4w (s : ByteArray) (i : Nat) (_hi : i < s.size) (hs : s.size ≤ 100000) (q : 103 ≤ at8 s i ∧ i + 2 < s.size ∧ at8 s i = 239 ∧ at8 s (i + 1) = 188 ∧ 144 ≤ at8 s (i + 2) ∧ at8 s (i + 2) ≤ 153) (w : World) : Calls Try.prog 42 [.string s, .int .i64 (i : Int), .bool true].toArray w (fun E w' => ∃ v, E = .returned v ∧ Res.ok w w' (.v (.tuple #[.int .i64 (vD 16 s i), .int .i64 ((vK 16 s i : Nat) : Int)])) v ∧ Below w.heap.size w w') := by
  have l0 := at8_lt s i
  have l2 := at8_lt s (i + 2)
  have w1 : IntKind.wrap .i64 ((i : Int) + 1) = ((i + 1 : Nat) : Int) := by rw [show (i : Int) + 1 = ((i + 1 : Nat) : Int) by omega, wrap_i64 _ (by omega)]
  have w2 : IntKind.wrap .i64 ((i : Int) + 2) = ((i + 2 : Nat) : Int) := by rw [show (i : Int) + 2 = ((i + 2 : Nat) : Int) by omega, wrap_i64 _ (by omega)]
  have hg : dig 16 s i = some (at8 s (i + 2) - 144, 3) := by
    unfold dig
    rw [if_neg (by omega), if_neg (by omega), if_neg (by omega), if_pos (by omega)]
  refine con_end (calls_plain hm Try.func42 (by kernel_rfl) rfl rfl 60 _ _ (run42z4w s i (at8 s i) (at8 s (i + 1)) (at8 s (i + 2))) ⟨fun _ => ⟨?_, ?_⟩, trivial⟩)
  · simp only [hold_cons, hold_nil, and_true, w1, w2, Int.toNat_natCast, sbyte_at]
    repeat' apply And.intro
    all_goals (intro _ _; first | exact trivial | exact ⟨by omega, by omega⟩ | exact decide_eq_true (by omega) | exact decide_eq_false (by omega) | exact beq_iff_eq.2 (by omega) | exact beq_eq_false_iff_ne.2 (by omega))
  · have hw : IntKind.wrap .i64 (IntKind.wrap .i64 ((at8 s (i + 2) : Nat) : Int) - 144) = ((at8 s (i + 2) - 144 : Nat) : Int) := by
      rw [show (144 : Int) = ((144 : Nat) : Int) by omega]
      exact wrap_up _ 144 (by omega) (by omega)
    rw [hw, vD, vK, hidZ_eq, hide_eq, hg, digD, digK]
    rfl
theorem val42z5b1 (s : ByteArray) (i : Nat) (hi : i < s.size) (hs : s.size ≤ 100000) (q : at8 s i < 48 ∧ ¬ i + 2 < s.size) (w : World) : Calls Try.prog 42 [.string s, .int .i64 (i : Int), .bool false].toArray w (fun E w' => ∃ v, E = .returned v ∧ Res.ok w w' (.v (.tuple #[.int .i64 (vD 10 s i), .int .i64 ((vK 10 s i : Nat) : Int)])) v ∧ Below w.heap.size w w') := by
  have l0 := at8_lt s i
  have l2 := at8_lt s (i + 2)
  have w1 : IntKind.wrap .i64 ((i : Int) + 1) = ((i + 1 : Nat) : Int) := by rw [show (i : Int) + 1 = ((i + 1 : Nat) : Int) by omega, wrap_i64 _ (by omega)]
  have w2 : IntKind.wrap .i64 ((i : Int) + 2) = ((i + 2 : Nat) : Int) := by rw [show (i : Int) + 2 = ((i + 2 : Nat) : Int) by omega, wrap_i64 _ (by omega)]
  have hg : dig 10 s i = none := by
    unfold dig
    rw [if_neg (by omega), if_neg (by omega), if_neg (by omega), if_neg (by omega)]
  refine con_end (calls_plain hm Try.func42 (by kernel_rfl) rfl rfl 60 _ _ (run42z5b1 s i (at8 s i)) ⟨fun _ => ⟨?_, ?_⟩, trivial⟩)
  · simp only [hold_cons, hold_nil, and_true, w2, Int.toNat_natCast, sbyte_at]
    repeat' apply And.intro
    all_goals (intro _ _; first | exact trivial | exact ⟨by omega, by omega⟩ | exact decide_eq_true (by omega) | exact decide_eq_false (by omega) | exact beq_iff_eq.2 (by omega) | exact beq_eq_false_iff_ne.2 (by omega))
  · rw [vD, vK, hidZ_eq, hide_eq, hg, digD, digK]; rfl
theorem val42z5b2 (s : ByteArray) (i : Nat) (_hi : i < s.size) (hs : s.size ≤ 100000) (q : at8 s i < 48 ∧ i + 2 < s.size ∧ at8 s i ≠ 239) (w : World) : Calls Try.prog 42 [.string s, .int .i64 (i : Int), .bool false].toArray w (fun E w' => ∃ v, E = .returned v ∧ Res.ok w w' (.v (.tuple #[.int .i64 (vD 10 s i), .int .i64 ((vK 10 s i : Nat) : Int)])) v ∧ Below w.heap.size w w') := by
  have l0 := at8_lt s i
  have l2 := at8_lt s (i + 2)
  have w1 : IntKind.wrap .i64 ((i : Int) + 1) = ((i + 1 : Nat) : Int) := by rw [show (i : Int) + 1 = ((i + 1 : Nat) : Int) by omega, wrap_i64 _ (by omega)]
  have w2 : IntKind.wrap .i64 ((i : Int) + 2) = ((i + 2 : Nat) : Int) := by rw [show (i : Int) + 2 = ((i + 2 : Nat) : Int) by omega, wrap_i64 _ (by omega)]
  have hg : dig 10 s i = none := by
    unfold dig
    rw [if_neg (by omega), if_neg (by omega), if_neg (by omega), if_neg (by omega)]
  refine con_end (calls_plain hm Try.func42 (by kernel_rfl) rfl rfl 60 _ _ (run42z5b2 s i (at8 s i)) ⟨fun _ => ⟨?_, ?_⟩, trivial⟩)
  · simp only [hold_cons, hold_nil, and_true, w2, Int.toNat_natCast, sbyte_at]
    repeat' apply And.intro
    all_goals (intro _ _; first | exact trivial | exact ⟨by omega, by omega⟩ | exact decide_eq_true (by omega) | exact decide_eq_false (by omega) | exact beq_iff_eq.2 (by omega) | exact beq_eq_false_iff_ne.2 (by omega))
  · rw [vD, vK, hidZ_eq, hide_eq, hg, digD, digK]; rfl
theorem val42z6b1 (s : ByteArray) (i : Nat) (hi : i < s.size) (hs : s.size ≤ 100000) (q : 58 ≤ at8 s i ∧ ¬ i + 2 < s.size) (w : World) : Calls Try.prog 42 [.string s, .int .i64 (i : Int), .bool false].toArray w (fun E w' => ∃ v, E = .returned v ∧ Res.ok w w' (.v (.tuple #[.int .i64 (vD 10 s i), .int .i64 ((vK 10 s i : Nat) : Int)])) v ∧ Below w.heap.size w w') := by
  have l0 := at8_lt s i
  have l2 := at8_lt s (i + 2)
  have w1 : IntKind.wrap .i64 ((i : Int) + 1) = ((i + 1 : Nat) : Int) := by rw [show (i : Int) + 1 = ((i + 1 : Nat) : Int) by omega, wrap_i64 _ (by omega)]
  have w2 : IntKind.wrap .i64 ((i : Int) + 2) = ((i + 2 : Nat) : Int) := by rw [show (i : Int) + 2 = ((i + 2 : Nat) : Int) by omega, wrap_i64 _ (by omega)]
  have hg : dig 10 s i = none := by
    unfold dig
    rw [if_neg (by omega), if_neg (by omega), if_neg (by omega), if_neg (by omega)]
  refine con_end (calls_plain hm Try.func42 (by kernel_rfl) rfl rfl 60 _ _ (run42z6b1 s i (at8 s i)) ⟨fun _ => ⟨?_, ?_⟩, trivial⟩)
  · simp only [hold_cons, hold_nil, and_true, w2, Int.toNat_natCast, sbyte_at]
    repeat' apply And.intro
    all_goals (intro _ _; first | exact trivial | exact ⟨by omega, by omega⟩ | exact decide_eq_true (by omega) | exact decide_eq_false (by omega) | exact beq_iff_eq.2 (by omega) | exact beq_eq_false_iff_ne.2 (by omega))
  · rw [vD, vK, hidZ_eq, hide_eq, hg, digD, digK]; rfl
theorem val42z6b2 (s : ByteArray) (i : Nat) (_hi : i < s.size) (hs : s.size ≤ 100000) (q : 58 ≤ at8 s i ∧ i + 2 < s.size ∧ at8 s i ≠ 239) (w : World) : Calls Try.prog 42 [.string s, .int .i64 (i : Int), .bool false].toArray w (fun E w' => ∃ v, E = .returned v ∧ Res.ok w w' (.v (.tuple #[.int .i64 (vD 10 s i), .int .i64 ((vK 10 s i : Nat) : Int)])) v ∧ Below w.heap.size w w') := by
  have l0 := at8_lt s i
  have l2 := at8_lt s (i + 2)
  have w1 : IntKind.wrap .i64 ((i : Int) + 1) = ((i + 1 : Nat) : Int) := by rw [show (i : Int) + 1 = ((i + 1 : Nat) : Int) by omega, wrap_i64 _ (by omega)]
  have w2 : IntKind.wrap .i64 ((i : Int) + 2) = ((i + 2 : Nat) : Int) := by rw [show (i : Int) + 2 = ((i + 2 : Nat) : Int) by omega, wrap_i64 _ (by omega)]
  have hg : dig 10 s i = none := by
    unfold dig
    rw [if_neg (by omega), if_neg (by omega), if_neg (by omega), if_neg (by omega)]
  refine con_end (calls_plain hm Try.func42 (by kernel_rfl) rfl rfl 60 _ _ (run42z6b2 s i (at8 s i)) ⟨fun _ => ⟨?_, ?_⟩, trivial⟩)
  · simp only [hold_cons, hold_nil, and_true, w2, Int.toNat_natCast, sbyte_at]
    repeat' apply And.intro
    all_goals (intro _ _; first | exact trivial | exact ⟨by omega, by omega⟩ | exact decide_eq_true (by omega) | exact decide_eq_false (by omega) | exact beq_iff_eq.2 (by omega) | exact beq_eq_false_iff_ne.2 (by omega))
  · rw [vD, vK, hidZ_eq, hide_eq, hg, digD, digK]; rfl
theorem val42z6b3 (s : ByteArray) (i : Nat) (_hi : i < s.size) (hs : s.size ≤ 100000) (q : 58 ≤ at8 s i ∧ i + 2 < s.size ∧ at8 s i = 239 ∧ at8 s (i + 1) ≠ 188) (w : World) : Calls Try.prog 42 [.string s, .int .i64 (i : Int), .bool false].toArray w (fun E w' => ∃ v, E = .returned v ∧ Res.ok w w' (.v (.tuple #[.int .i64 (vD 10 s i), .int .i64 ((vK 10 s i : Nat) : Int)])) v ∧ Below w.heap.size w w') := by
  have l0 := at8_lt s i
  have l2 := at8_lt s (i + 2)
  have w1 : IntKind.wrap .i64 ((i : Int) + 1) = ((i + 1 : Nat) : Int) := by rw [show (i : Int) + 1 = ((i + 1 : Nat) : Int) by omega, wrap_i64 _ (by omega)]
  have w2 : IntKind.wrap .i64 ((i : Int) + 2) = ((i + 2 : Nat) : Int) := by rw [show (i : Int) + 2 = ((i + 2 : Nat) : Int) by omega, wrap_i64 _ (by omega)]
  have hg : dig 10 s i = none := by
    unfold dig
    rw [if_neg (by omega), if_neg (by omega), if_neg (by omega), if_neg (by omega)]
  refine con_end (calls_plain hm Try.func42 (by kernel_rfl) rfl rfl 60 _ _ (run42z6b3 s i (at8 s i) (at8 s (i + 1))) ⟨fun _ => ⟨?_, ?_⟩, trivial⟩)
  · simp only [hold_cons, hold_nil, and_true, w1, w2, Int.toNat_natCast, sbyte_at]
    repeat' apply And.intro
    all_goals (intro _ _; first | exact trivial | exact ⟨by omega, by omega⟩ | exact decide_eq_true (by omega) | exact decide_eq_false (by omega) | exact beq_iff_eq.2 (by omega) | exact beq_eq_false_iff_ne.2 (by omega))
  · rw [vD, vK, hidZ_eq, hide_eq, hg, digD, digK]; rfl
theorem val42z6b4 (s : ByteArray) (i : Nat) (_hi : i < s.size) (hs : s.size ≤ 100000) (q : 58 ≤ at8 s i ∧ i + 2 < s.size ∧ at8 s i = 239 ∧ at8 s (i + 1) = 188 ∧ at8 s (i + 2) < 144) (w : World) : Calls Try.prog 42 [.string s, .int .i64 (i : Int), .bool false].toArray w (fun E w' => ∃ v, E = .returned v ∧ Res.ok w w' (.v (.tuple #[.int .i64 (vD 10 s i), .int .i64 ((vK 10 s i : Nat) : Int)])) v ∧ Below w.heap.size w w') := by
  have l0 := at8_lt s i
  have l2 := at8_lt s (i + 2)
  have w1 : IntKind.wrap .i64 ((i : Int) + 1) = ((i + 1 : Nat) : Int) := by rw [show (i : Int) + 1 = ((i + 1 : Nat) : Int) by omega, wrap_i64 _ (by omega)]
  have w2 : IntKind.wrap .i64 ((i : Int) + 2) = ((i + 2 : Nat) : Int) := by rw [show (i : Int) + 2 = ((i + 2 : Nat) : Int) by omega, wrap_i64 _ (by omega)]
  have hg : dig 10 s i = none := by
    unfold dig
    rw [if_neg (by omega), if_neg (by omega), if_neg (by omega), if_neg (by omega)]
  refine con_end (calls_plain hm Try.func42 (by kernel_rfl) rfl rfl 60 _ _ (run42z6b4 s i (at8 s i) (at8 s (i + 1)) (at8 s (i + 2))) ⟨fun _ => ⟨?_, ?_⟩, trivial⟩)
  · simp only [hold_cons, hold_nil, and_true, w1, w2, Int.toNat_natCast, sbyte_at]
    repeat' apply And.intro
    all_goals (intro _ _; first | exact trivial | exact ⟨by omega, by omega⟩ | exact decide_eq_true (by omega) | exact decide_eq_false (by omega) | exact beq_iff_eq.2 (by omega) | exact beq_eq_false_iff_ne.2 (by omega))
  · rw [vD, vK, hidZ_eq, hide_eq, hg, digD, digK]; rfl
theorem val42z6b5 (s : ByteArray) (i : Nat) (_hi : i < s.size) (hs : s.size ≤ 100000) (q : 58 ≤ at8 s i ∧ i + 2 < s.size ∧ at8 s i = 239 ∧ at8 s (i + 1) = 188 ∧ 153 < at8 s (i + 2)) (w : World) : Calls Try.prog 42 [.string s, .int .i64 (i : Int), .bool false].toArray w (fun E w' => ∃ v, E = .returned v ∧ Res.ok w w' (.v (.tuple #[.int .i64 (vD 10 s i), .int .i64 ((vK 10 s i : Nat) : Int)])) v ∧ Below w.heap.size w w') := by
  have l0 := at8_lt s i
  have l2 := at8_lt s (i + 2)
  have w1 : IntKind.wrap .i64 ((i : Int) + 1) = ((i + 1 : Nat) : Int) := by rw [show (i : Int) + 1 = ((i + 1 : Nat) : Int) by omega, wrap_i64 _ (by omega)]
  have w2 : IntKind.wrap .i64 ((i : Int) + 2) = ((i + 2 : Nat) : Int) := by rw [show (i : Int) + 2 = ((i + 2 : Nat) : Int) by omega, wrap_i64 _ (by omega)]
  have hg : dig 10 s i = none := by
    unfold dig
    rw [if_neg (by omega), if_neg (by omega), if_neg (by omega), if_neg (by omega)]
  refine con_end (calls_plain hm Try.func42 (by kernel_rfl) rfl rfl 60 _ _ (run42z6b5 s i (at8 s i) (at8 s (i + 1)) (at8 s (i + 2))) ⟨fun _ => ⟨?_, ?_⟩, trivial⟩)
  · simp only [hold_cons, hold_nil, and_true, w1, w2, Int.toNat_natCast, sbyte_at]
    repeat' apply And.intro
    all_goals (intro _ _; first | exact trivial | exact ⟨by omega, by omega⟩ | exact decide_eq_true (by omega) | exact decide_eq_false (by omega) | exact beq_iff_eq.2 (by omega) | exact beq_eq_false_iff_ne.2 (by omega))
  · rw [vD, vK, hidZ_eq, hide_eq, hg, digD, digK]; rfl
theorem val42z6w (s : ByteArray) (i : Nat) (_hi : i < s.size) (hs : s.size ≤ 100000) (q : 58 ≤ at8 s i ∧ i + 2 < s.size ∧ at8 s i = 239 ∧ at8 s (i + 1) = 188 ∧ 144 ≤ at8 s (i + 2) ∧ at8 s (i + 2) ≤ 153) (w : World) : Calls Try.prog 42 [.string s, .int .i64 (i : Int), .bool false].toArray w (fun E w' => ∃ v, E = .returned v ∧ Res.ok w w' (.v (.tuple #[.int .i64 (vD 10 s i), .int .i64 ((vK 10 s i : Nat) : Int)])) v ∧ Below w.heap.size w w') := by
  have l0 := at8_lt s i
  have l2 := at8_lt s (i + 2)
  have w1 : IntKind.wrap .i64 ((i : Int) + 1) = ((i + 1 : Nat) : Int) := by rw [show (i : Int) + 1 = ((i + 1 : Nat) : Int) by omega, wrap_i64 _ (by omega)]
  have w2 : IntKind.wrap .i64 ((i : Int) + 2) = ((i + 2 : Nat) : Int) := by rw [show (i : Int) + 2 = ((i + 2 : Nat) : Int) by omega, wrap_i64 _ (by omega)]
  have hg : dig 10 s i = some (at8 s (i + 2) - 144, 3) := by
    unfold dig
    rw [if_neg (by omega), if_neg (by omega), if_neg (by omega), if_pos (by omega)]
  refine con_end (calls_plain hm Try.func42 (by kernel_rfl) rfl rfl 60 _ _ (run42z6w s i (at8 s i) (at8 s (i + 1)) (at8 s (i + 2))) ⟨fun _ => ⟨?_, ?_⟩, trivial⟩)
  · simp only [hold_cons, hold_nil, and_true, w1, w2, Int.toNat_natCast, sbyte_at]
    repeat' apply And.intro
    all_goals (intro _ _; first | exact trivial | exact ⟨by omega, by omega⟩ | exact decide_eq_true (by omega) | exact decide_eq_false (by omega) | exact beq_iff_eq.2 (by omega) | exact beq_eq_false_iff_ne.2 (by omega))
  · have hw : IntKind.wrap .i64 (IntKind.wrap .i64 ((at8 s (i + 2) : Nat) : Int) - 144) = ((at8 s (i + 2) - 144 : Nat) : Int) := by
      rw [show (144 : Int) = ((144 : Nat) : Int) by omega]
      exact wrap_up _ 144 (by omega) (by omega)
    rw [hw, vD, vK, hidZ_eq, hide_eq, hg, digD, digK]
    rfl
/-- The base. -/
def bOf (h : Bool) : Nat := if h then 16 else 10
theorem value_ok (s : ByteArray) (i : Nat) (h : Bool) (hi : i < s.size) (hs : s.size ≤ 100000) (w : World) : Calls Try.prog 42 [.string s, .int .i64 (i : Int), .bool h].toArray w (fun E w' => ∃ v, E = .returned v ∧ Res.ok w w' (.v (.tuple #[.int .i64 (vD (bOf h) s i), .int .i64 ((vK (bOf h) s i : Nat) : Int)])) v ∧ Below w.heap.size w w') := by
  cases h with
  | true =>
    by_cases qdg : 48 ≤ at8 s i ∧ at8 s i ≤ 57
    · exact val42dg s i hi hs qdg w
    by_cases qlw : 97 ≤ at8 s i ∧ at8 s i ≤ 102
    · exact val42lw s i hi hs qlw w
    by_cases qup : 65 ≤ at8 s i ∧ at8 s i ≤ 70
    · exact val42up s i hi hs qup w
    by_cases qz1 : at8 s i < 48
    · by_cases h1 : i + 2 < s.size
      · exact val42z1b2 s i hi hs (by omega) w
      · exact val42z1b1 s i hi hs (by omega) w
    by_cases qz2 : 58 ≤ at8 s i ∧ at8 s i ≤ 64
    · by_cases h1 : i + 2 < s.size
      · exact val42z2b2 s i hi hs (by omega) w
      · exact val42z2b1 s i hi hs (by omega) w
    by_cases qz3 : 71 ≤ at8 s i ∧ at8 s i ≤ 96
    · by_cases h1 : i + 2 < s.size
      · exact val42z3b2 s i hi hs (by omega) w
      · exact val42z3b1 s i hi hs (by omega) w
    by_cases qz4 : 103 ≤ at8 s i
    · by_cases h1 : i + 2 < s.size
      · by_cases h2 : at8 s i = 239
        · by_cases h3 : at8 s (i + 1) = 188
          · by_cases h4 : at8 s (i + 2) < 144
            · exact val42z4b4 s i hi hs (by omega) w
            · by_cases h5 : 153 < at8 s (i + 2)
              · exact val42z4b5 s i hi hs (by omega) w
              · exact val42z4w s i hi hs (by omega) w
          · exact val42z4b3 s i hi hs (by omega) w
        · exact val42z4b2 s i hi hs (by omega) w
      · exact val42z4b1 s i hi hs (by omega) w
    exfalso; omega
  | false =>
    by_cases qdh : 48 ≤ at8 s i ∧ at8 s i ≤ 57
    · exact val42dh s i hi hs qdh w
    by_cases qz5 : at8 s i < 48
    · by_cases h1 : i + 2 < s.size
      · exact val42z5b2 s i hi hs (by omega) w
      · exact val42z5b1 s i hi hs (by omega) w
    by_cases qz6 : 58 ≤ at8 s i
    · by_cases h1 : i + 2 < s.size
      · by_cases h2 : at8 s i = 239
        · by_cases h3 : at8 s (i + 1) = 188
          · by_cases h4 : at8 s (i + 2) < 144
            · exact val42z6b4 s i hi hs (by omega) w
            · by_cases h5 : 153 < at8 s (i + 2)
              · exact val42z6b5 s i hi hs (by omega) w
              · exact val42z6w s i hi hs (by omega) w
          · exact val42z6b3 s i hi hs (by omega) w
        · exact val42z6b2 s i hi hs (by omega) w
      · exact val42z6b1 s i hi hs (by omega) w
    exfalso; omega
noncomputable def gValue : List RV → Option (Res × Prop)
  | [.v (.string s), .v (.int .i64 i), .v (.bool h)] => some (.v (.tuple #[.int .i64 (vD (bOf h) s i.toNat), .int .i64 ((vK (bOf h) s i.toNat : Nat) : Int)]), i = (i.toNat : Int) ∧ i.toNat < s.size ∧ s.size ≤ 100000)
  | _ => none
theorem gValue_ok (rvs : List RV) (r : Res) (p : Prop) (vs : List Value) (w : World) (hg : gValue rvs = some (r, p)) (hp : p) (hv : RVs (wmem w) rvs vs) : Calls Try.prog 42 vs.toArray w (fun E w' => ∃ v, E = .returned v ∧ r.ok w w' v ∧ Below w.heap.size w w') := by
  unfold gValue at hg
  split at hg
  · rename_i s i h
    simp only [Option.some.injEq, Prod.mk.injEq] at hg
    obtain ⟨rfl, rfl⟩ := hg
    obtain ⟨h1, h2, h3⟩ := hp
    rw [rvs3 hv]
    have := value_ok s i.toNat h h2 h3 w
    rw [← h1] at this
    exact this
  · cases hg
noncomputable def TK : Con Try.prog := (TJ.add 43 gTimes gTimes_ok).add 42 gValue gValue_ok
end Go.Proofs.Ytcipmpamhffclaa
