/- Division of two words by ten or sixteen: the numbers. -/
import Derived.Test.YtcipmpamhffclaaT1
namespace Go.Pl
open Go.Sx
noncomputable def dvQ (y hi lo : Nat) : Nat := hide ((hi * 18446744073709551616 + lo) / y)
noncomputable def dvR (y hi lo : Nat) : Nat := hide ((hi * 18446744073709551616 + lo) % y)
theorem or_at (k a b : Nat) (hb : b < 2 ^ k) : a * 2 ^ k ||| b = a * 2 ^ k + b := by
  rw [Nat.mul_comm, ← Nat.two_pow_add_eq_or_of_lt hb]
theorem and32 (a : Nat) (h : a % 4294967296 = 0) : a &&& 4294967295 = 0 := by
  have e : a &&& 4294967295 = a % 4294967296 := Nat.and_two_pow_sub_one_eq_mod a 32
  rw [e, h]
theorem int_eq {k : IntKind} {x y : Int} (h : x = y) : Value.int k x = Value.int k y := by rw [h]
theorem tup2 {k : IntKind} {a b c d : Int} (h1 : a = b) (h2 : c = d) : Res.v (Value.tuple (Array.mk [Value.int k a, Value.int k c])) = Res.v (.tuple #[.int k b, .int k d]) := by rw [h1, h2]
theorem toNat_mod (n : Nat) (h : n < 18446744073709551616) : Int.toNat ((n : Int) % (18446744073709551616 : Int)) = n := by omega
theorem fdiv_nat (n q : Nat) (hq : 0 < q) : Int.fdiv (n : Int) (q : Int) = ((n / q : Nat) : Int) := by
  rw [Int.fdiv_eq_ediv_of_nonneg _ (by omega)]
  exact (Int.natCast_ediv n q).symm
theorem div_core (p y X N W : Nat) (hp : 0 < p) (hy : 0 < y) (h : p * N = p * (y * X) + W) (hW : W < p * y) : N / y = X ∧ W / p = N % y := by
  have h1 : y * X ≤ N := Nat.le_of_mul_le_mul_left (by omega : p * (y * X) ≤ p * N) hp
  obtain ⟨d, rfl⟩ := Nat.exists_eq_add_of_le h1
  rw [Nat.mul_add] at h
  have h2 : W = p * d := by omega
  subst h2
  have h3 : d < y := Nat.lt_of_mul_lt_mul_left hW
  rw [Nat.mul_div_cancel_left _ hp, Nat.mul_add_div hy, Nat.div_eq_of_lt h3, Nat.mul_add_mod, Nat.mod_eq_of_lt h3]
  exact ⟨rfl, rfl⟩
noncomputable def dA10 (hi _lo : Nat) : Nat := hide (hi * 1152921504606846976)
noncomputable def dU10 (hi lo : Nat) : Nat := hide (hi * 1152921504606846976 + lo / 16)
noncomputable def dV10 (_hi lo : Nat) : Nat := hide (lo % 16 * 1152921504606846976)
noncomputable def dC10 (_hi lo : Nat) : Nat := hide (lo % 16 * 268435456)
noncomputable def dQ10 (hi lo : Nat) : Nat := hide (dU10 hi lo / 2684354560)
noncomputable def dE10 (hi lo : Nat) : Nat := hide (dQ10 hi lo * 2684354560)
noncomputable def dR10 (hi lo : Nat) : Nat := hide (dU10 hi lo % 2684354560)
noncomputable def dN10 (hi lo : Nat) : Nat := hide (dR10 hi lo * 4294967296 + dC10 hi lo)
noncomputable def dS10 (hi lo : Nat) : Nat := hide (dN10 hi lo / 2684354560)
noncomputable def dF10 (hi lo : Nat) : Nat := hide (dS10 hi lo * 2684354560)
noncomputable def dT10 (hi lo : Nat) : Nat := hide (dN10 hi lo % 2684354560)
theorem div_facts10 (hi lo : Nat) : ∃ l1 L : Nat, lo = l1 * 16 + L ∧ L < 16 ∧ lo / 16 = l1 ∧ dA10 hi lo = hi * 1152921504606846976 ∧ dU10 hi lo = hi * 1152921504606846976 + l1 ∧ dV10 hi lo = L * 1152921504606846976 ∧ dC10 hi lo = L * 268435456 ∧
    dU10 hi lo = 2684354560 * dQ10 hi lo + dR10 hi lo ∧ dR10 hi lo < 2684354560 ∧ dE10 hi lo = dQ10 hi lo * 2684354560 ∧ dN10 hi lo = dR10 hi lo * 4294967296 + dC10 hi lo ∧ dN10 hi lo = 2684354560 * dS10 hi lo + dT10 hi lo ∧ dT10 hi lo < 2684354560 ∧ dF10 hi lo = dS10 hi lo * 2684354560 ∧
    dQ10 hi lo = dU10 hi lo / 2684354560 ∧ dS10 hi lo = dN10 hi lo / 2684354560 :=
  ⟨lo / 16, lo % 16, by omega, Nat.mod_lt _ (by omega), rfl, hide_eq _, hide_eq _, hide_eq _, hide_eq _, by rw [dQ10, dR10, hide_eq, hide_eq]; exact (Nat.div_add_mod _ _).symm, by rw [dR10, hide_eq]; exact Nat.mod_lt _ (by omega),
    hide_eq _, hide_eq _, by rw [dS10, dT10, hide_eq, hide_eq]; exact (Nat.div_add_mod _ _).symm, by rw [dT10, hide_eq]; exact Nat.mod_lt _ (by omega), hide_eq _, hide_eq _, hide_eq _⟩
theorem div_key10 (hi l1 L q1 R q0 R0 : Nat) (hU : hi * 1152921504606846976 + l1 = 2684354560 * q1 + R) (hUN : R * 4294967296 + L * 268435456 = 2684354560 * q0 + R0) :
    1152921504606846976 * (hi * 18446744073709551616 + (l1 * 16 + L)) = 1152921504606846976 * (10 * (q1 * 4294967296 + q0)) + R0 * 4294967296 := by
  have k1 := congrArg (· * 18446744073709551616) hU
  have k2 := congrArg (· * 4294967296) hUN
  simp only [Nat.add_mul] at k1 k2
  omega
noncomputable def dA16 (hi _lo : Nat) : Nat := hide (hi * 576460752303423488)
noncomputable def dU16 (hi lo : Nat) : Nat := hide (hi * 576460752303423488 + lo / 32)
noncomputable def dV16 (_hi lo : Nat) : Nat := hide (lo % 32 * 576460752303423488)
noncomputable def dC16 (_hi lo : Nat) : Nat := hide (lo % 32 * 134217728)
noncomputable def dQ16 (hi lo : Nat) : Nat := hide (dU16 hi lo / 2147483648)
noncomputable def dE16 (hi lo : Nat) : Nat := hide (dQ16 hi lo * 2147483648)
noncomputable def dR16 (hi lo : Nat) : Nat := hide (dU16 hi lo % 2147483648)
noncomputable def dN16 (hi lo : Nat) : Nat := hide (dR16 hi lo * 4294967296 + dC16 hi lo)
noncomputable def dS16 (hi lo : Nat) : Nat := hide (dN16 hi lo / 2147483648)
noncomputable def dF16 (hi lo : Nat) : Nat := hide (dS16 hi lo * 2147483648)
noncomputable def dT16 (hi lo : Nat) : Nat := hide (dN16 hi lo % 2147483648)
theorem div_facts16 (hi lo : Nat) : ∃ l1 L : Nat, lo = l1 * 32 + L ∧ L < 32 ∧ lo / 32 = l1 ∧ dA16 hi lo = hi * 576460752303423488 ∧ dU16 hi lo = hi * 576460752303423488 + l1 ∧ dV16 hi lo = L * 576460752303423488 ∧ dC16 hi lo = L * 134217728 ∧
    dU16 hi lo = 2147483648 * dQ16 hi lo + dR16 hi lo ∧ dR16 hi lo < 2147483648 ∧ dE16 hi lo = dQ16 hi lo * 2147483648 ∧ dN16 hi lo = dR16 hi lo * 4294967296 + dC16 hi lo ∧ dN16 hi lo = 2147483648 * dS16 hi lo + dT16 hi lo ∧ dT16 hi lo < 2147483648 ∧ dF16 hi lo = dS16 hi lo * 2147483648 ∧
    dQ16 hi lo = dU16 hi lo / 2147483648 ∧ dS16 hi lo = dN16 hi lo / 2147483648 :=
  ⟨lo / 32, lo % 32, by omega, Nat.mod_lt _ (by omega), rfl, hide_eq _, hide_eq _, hide_eq _, hide_eq _, by rw [dQ16, dR16, hide_eq, hide_eq]; exact (Nat.div_add_mod _ _).symm, by rw [dR16, hide_eq]; exact Nat.mod_lt _ (by omega),
    hide_eq _, hide_eq _, by rw [dS16, dT16, hide_eq, hide_eq]; exact (Nat.div_add_mod _ _).symm, by rw [dT16, hide_eq]; exact Nat.mod_lt _ (by omega), hide_eq _, hide_eq _, hide_eq _⟩
theorem div_key16 (hi l1 L q1 R q0 R0 : Nat) (hU : hi * 576460752303423488 + l1 = 2147483648 * q1 + R) (hUN : R * 4294967296 + L * 134217728 = 2147483648 * q0 + R0) :
    576460752303423488 * (hi * 18446744073709551616 + (l1 * 32 + L)) = 576460752303423488 * (16 * (q1 * 4294967296 + q0)) + R0 * 4294967296 := by
  have k1 := congrArg (· * 18446744073709551616) hU
  have k2 := congrArg (· * 4294967296) hUN
  simp only [Nat.add_mul] at k1 k2
  omega
end Go.Pl

namespace Go.Proofs.Ytcipmpamhffclaa
open Go.Sx Go.Pl Go.RowKit
theorem div10 (hi lo : Nat) : (((xgo Try.prog X (bodyOf Try.f50) 135 TB [([0,0,1,1,1,1,1,1,1,1,1,1,1,1,1,1],2), ([0,0,1,1,1,1,1,1,1,1,1,1,1,1,1,1,1,1,1,1],2)] 50 [.f, .f] ((.br [] .nil [.as 46 (.v (.int .u64 ((dA10 hi lo : Nat) : Int))), .as 51 (.v (.int .u64 ((dU10 hi lo : Nat) : Int))), .as 54 (.v (.int .u64 ((dV10 hi lo : Nat) : Int))), .as 56 (.v (.int .u64 ((dC10 hi lo : Nat) : Int))), .as 58 (.v (.int .u64 0)), .as 61 (.v (.int .u64 ((dQ10 hi lo : Nat) : Int))), .as 65 (.v (.int .u64 ((dE10 hi lo : Nat) : Int))), .as 66 (.v (.int .u64 ((dR10 hi lo : Nat) : Int))), .f, .f, .as 93 (.v (.int .u64 ((dN10 hi lo : Nat) : Int))), .as 96 (.v (.int .u64 ((dS10 hi lo : Nat) : Int))), .as 100 (.v (.int .u64 ((dF10 hi lo : Nat) : Int))), .as 101 (.v (.int .u64 ((dT10 hi lo : Nat) : Int))), .f, .f] .nil)) [.at []] ⟨argsTm 0 [.int .u64 (hi : Int), .int .u64 (lo : Int), .int .u64 10], []⟩ [] []).bind (ends Try.prog Try.f50.results.toList)).bind plainE) =
  some [EndP.mk [((↑hi : Int) == (0 : Int)) = true] [fun _ => false = false,
    fun _ => decide ((10 : Int) ≤ (↑hi : Int)) = false,
    fun _ => ((↑hi : Int) == (0 : Int)) = true,
    fun _ => ¬(10 : Int) = (0 : Int),
    fun _ => ¬(10 : Int) = (0 : Int)] (Res.v (Value.tuple (Array.mk [Value.int IntKind.u64 (IntKind.wrap IntKind.u64 (Int.tdiv (↑lo : Int) (10 : Int))), Value.int IntKind.u64 (Int.tmod (↑lo : Int) (10 : Int))]))),
  EndP.mk [((↑hi : Int) == (0 : Int)) = false] [fun _ => false = false,
    fun _ => decide ((10 : Int) ≤ (↑hi : Int)) = false,
    fun _ => ((↑hi : Int) == (0 : Int)) = false,
    fun _ => (10 : Int) = (10 : Int) ∨ (10 : Int) = (16 : Int),
    fun _ => ¬(60 : Int) < (0 : Int),
    fun _ => ¬(32 : Int) < (0 : Int),
    fun _ => ¬(60 : Int) < (0 : Int),
    fun _ => Value.int IntKind.u64 (IntKind.wrap IntKind.u64 ((↑hi : Int) * (1152921504606846976 : Int))) = Value.int IntKind.u64 (↑(dA10 hi lo) : Int),
    fun _ => ¬(4 : Int) < (0 : Int),
    fun _ => Value.int IntKind.u64 (IntKind.wrap IntKind.u64 (↑(Int.toNat ((↑(dA10 hi lo) : Int) % (18446744073709551616 : Int)) ||| Int.toNat (Int.fdiv (↑lo : Int) (16 : Int) % (18446744073709551616 : Int))) : Int)) = Value.int IntKind.u64 (↑(dU10 hi lo) : Int),
    fun _ => ¬(60 : Int) < (0 : Int),
    fun _ => Value.int IntKind.u64 (IntKind.wrap IntKind.u64 ((↑lo : Int) * (1152921504606846976 : Int))) = Value.int IntKind.u64 (↑(dV10 hi lo) : Int),
    fun _ => ¬(32 : Int) < (0 : Int),
    fun _ => Value.int IntKind.u64 (Int.fdiv (↑(dV10 hi lo) : Int) (4294967296 : Int)) = Value.int IntKind.u64 (↑(dC10 hi lo) : Int),
    fun _ => Value.int IntKind.u64 (IntKind.wrap IntKind.u64 (↑(Int.toNat ((↑(dV10 hi lo) : Int) % (18446744073709551616 : Int)) &&& (4294967295 : Nat)) : Int)) = Value.int IntKind.u64 (0 : Int),
    fun _ => ¬(2684354560 : Int) = (0 : Int),
    fun _ => Value.int IntKind.u64 (IntKind.wrap IntKind.u64 (Int.tdiv (↑(dU10 hi lo) : Int) (2684354560 : Int))) = Value.int IntKind.u64 (↑(dQ10 hi lo) : Int),
    fun _ => Value.int IntKind.u64 (IntKind.wrap IntKind.u64 ((↑(dQ10 hi lo) : Int) * (2684354560 : Int))) = Value.int IntKind.u64 (↑(dE10 hi lo) : Int),
    fun _ => Value.int IntKind.u64 (IntKind.wrap IntKind.u64 ((↑(dU10 hi lo) : Int) - (↑(dE10 hi lo) : Int))) = Value.int IntKind.u64 (↑(dR10 hi lo) : Int),
    fun _ => decide ((4294967296 : Int) ≤ (↑(dQ10 hi lo) : Int)) = false,
    fun _ => decide (IntKind.wrap IntKind.u64 (IntKind.wrap IntKind.u64 ((4294967296 : Int) * (↑(dR10 hi lo) : Int)) + (↑(dC10 hi lo) : Int)) < IntKind.wrap IntKind.u64 ((↑(dQ10 hi lo) : Int) * (0 : Int))) = false,
    fun _ => Value.int IntKind.u64 (IntKind.wrap IntKind.u64 (IntKind.wrap IntKind.u64 (IntKind.wrap IntKind.u64 ((↑(dU10 hi lo) : Int) * (4294967296 : Int)) + (↑(dC10 hi lo) : Int)) - IntKind.wrap IntKind.u64 ((↑(dQ10 hi lo) : Int) * (11529215046068469760 : Int)))) = Value.int IntKind.u64 (↑(dN10 hi lo) : Int),
    fun _ => ¬(2684354560 : Int) = (0 : Int),
    fun _ => Value.int IntKind.u64 (IntKind.wrap IntKind.u64 (Int.tdiv (↑(dN10 hi lo) : Int) (2684354560 : Int))) = Value.int IntKind.u64 (↑(dS10 hi lo) : Int),
    fun _ => Value.int IntKind.u64 (IntKind.wrap IntKind.u64 ((↑(dS10 hi lo) : Int) * (2684354560 : Int))) = Value.int IntKind.u64 (↑(dF10 hi lo) : Int),
    fun _ => Value.int IntKind.u64 (IntKind.wrap IntKind.u64 ((↑(dN10 hi lo) : Int) - (↑(dF10 hi lo) : Int))) = Value.int IntKind.u64 (↑(dT10 hi lo) : Int),
    fun _ => decide ((4294967296 : Int) ≤ (↑(dS10 hi lo) : Int)) = false,
    fun _ => decide (IntKind.wrap IntKind.u64 (IntKind.wrap IntKind.u64 ((4294967296 : Int) * (↑(dT10 hi lo) : Int)) + (0 : Int)) < IntKind.wrap IntKind.u64 ((↑(dS10 hi lo) : Int) * (0 : Int))) = false,
    fun _ => ¬(60 : Int) < (0 : Int)] (Res.v (Value.tuple (Array.mk [Value.int IntKind.u64 (IntKind.wrap IntKind.u64 (IntKind.wrap IntKind.u64 ((↑(dQ10 hi lo) : Int) * (4294967296 : Int)) + (↑(dS10 hi lo) : Int))), Value.int IntKind.u64 (Int.fdiv (IntKind.wrap IntKind.u64 (IntKind.wrap IntKind.u64 (IntKind.wrap IntKind.u64 ((↑(dN10 hi lo) : Int) * (4294967296 : Int)) + (0 : Int)) - IntKind.wrap IntKind.u64 ((↑(dS10 hi lo) : Int) * (11529215046068469760 : Int)))) (1152921504606846976 : Int))])))]
  := by kernel_rfl

theorem div16 (hi lo : Nat) : (((xgo Try.prog X (bodyOf Try.f50) 135 TB [([0,0,1,1,1,1,1,1,1,1,1,1,1,1,1,1],2), ([0,0,1,1,1,1,1,1,1,1,1,1,1,1,1,1,1,1,1,1],2)] 50 [.f, .f] ((.br [] .nil [.as 46 (.v (.int .u64 ((dA16 hi lo : Nat) : Int))), .as 51 (.v (.int .u64 ((dU16 hi lo : Nat) : Int))), .as 54 (.v (.int .u64 ((dV16 hi lo : Nat) : Int))), .as 56 (.v (.int .u64 ((dC16 hi lo : Nat) : Int))), .as 58 (.v (.int .u64 0)), .as 61 (.v (.int .u64 ((dQ16 hi lo : Nat) : Int))), .as 65 (.v (.int .u64 ((dE16 hi lo : Nat) : Int))), .as 66 (.v (.int .u64 ((dR16 hi lo : Nat) : Int))), .f, .f, .as 93 (.v (.int .u64 ((dN16 hi lo : Nat) : Int))), .as 96 (.v (.int .u64 ((dS16 hi lo : Nat) : Int))), .as 100 (.v (.int .u64 ((dF16 hi lo : Nat) : Int))), .as 101 (.v (.int .u64 ((dT16 hi lo : Nat) : Int))), .f, .f] .nil)) [.at []] ⟨argsTm 0 [.int .u64 (hi : Int), .int .u64 (lo : Int), .int .u64 16], []⟩ [] []).bind (ends Try.prog Try.f50.results.toList)).bind plainE) =
  some [EndP.mk [((↑hi : Int) == (0 : Int)) = true] [fun _ => false = false,
    fun _ => decide ((16 : Int) ≤ (↑hi : Int)) = false,
    fun _ => ((↑hi : Int) == (0 : Int)) = true,
    fun _ => ¬(16 : Int) = (0 : Int),
    fun _ => ¬(16 : Int) = (0 : Int)] (Res.v (Value.tuple (Array.mk [Value.int IntKind.u64 (IntKind.wrap IntKind.u64 (Int.tdiv (↑lo : Int) (16 : Int))), Value.int IntKind.u64 (Int.tmod (↑lo : Int) (16 : Int))]))),
  EndP.mk [((↑hi : Int) == (0 : Int)) = false] [fun _ => false = false,
    fun _ => decide ((16 : Int) ≤ (↑hi : Int)) = false,
    fun _ => ((↑hi : Int) == (0 : Int)) = false,
    fun _ => (16 : Int) = (10 : Int) ∨ (16 : Int) = (16 : Int),
    fun _ => ¬(59 : Int) < (0 : Int),
    fun _ => ¬(32 : Int) < (0 : Int),
    fun _ => ¬(59 : Int) < (0 : Int),
    fun _ => Value.int IntKind.u64 (IntKind.wrap IntKind.u64 ((↑hi : Int) * (576460752303423488 : Int))) = Value.int IntKind.u64 (↑(dA16 hi lo) : Int),
    fun _ => ¬(5 : Int) < (0 : Int),
    fun _ => Value.int IntKind.u64 (IntKind.wrap IntKind.u64 (↑(Int.toNat ((↑(dA16 hi lo) : Int) % (18446744073709551616 : Int)) ||| Int.toNat (Int.fdiv (↑lo : Int) (32 : Int) % (18446744073709551616 : Int))) : Int)) = Value.int IntKind.u64 (↑(dU16 hi lo) : Int),
    fun _ => ¬(59 : Int) < (0 : Int),
    fun _ => Value.int IntKind.u64 (IntKind.wrap IntKind.u64 ((↑lo : Int) * (576460752303423488 : Int))) = Value.int IntKind.u64 (↑(dV16 hi lo) : Int),
    fun _ => ¬(32 : Int) < (0 : Int),
    fun _ => Value.int IntKind.u64 (Int.fdiv (↑(dV16 hi lo) : Int) (4294967296 : Int)) = Value.int IntKind.u64 (↑(dC16 hi lo) : Int),
    fun _ => Value.int IntKind.u64 (IntKind.wrap IntKind.u64 (↑(Int.toNat ((↑(dV16 hi lo) : Int) % (18446744073709551616 : Int)) &&& (4294967295 : Nat)) : Int)) = Value.int IntKind.u64 (0 : Int),
    fun _ => ¬(2147483648 : Int) = (0 : Int),
    fun _ => Value.int IntKind.u64 (IntKind.wrap IntKind.u64 (Int.tdiv (↑(dU16 hi lo) : Int) (2147483648 : Int))) = Value.int IntKind.u64 (↑(dQ16 hi lo) : Int),
    fun _ => Value.int IntKind.u64 (IntKind.wrap IntKind.u64 ((↑(dQ16 hi lo) : Int) * (2147483648 : Int))) = Value.int IntKind.u64 (↑(dE16 hi lo) : Int),
    fun _ => Value.int IntKind.u64 (IntKind.wrap IntKind.u64 ((↑(dU16 hi lo) : Int) - (↑(dE16 hi lo) : Int))) = Value.int IntKind.u64 (↑(dR16 hi lo) : Int),
    fun _ => decide ((4294967296 : Int) ≤ (↑(dQ16 hi lo) : Int)) = false,
    fun _ => decide (IntKind.wrap IntKind.u64 (IntKind.wrap IntKind.u64 ((4294967296 : Int) * (↑(dR16 hi lo) : Int)) + (↑(dC16 hi lo) : Int)) < IntKind.wrap IntKind.u64 ((↑(dQ16 hi lo) : Int) * (0 : Int))) = false,
    fun _ => Value.int IntKind.u64 (IntKind.wrap IntKind.u64 (IntKind.wrap IntKind.u64 (IntKind.wrap IntKind.u64 ((↑(dU16 hi lo) : Int) * (4294967296 : Int)) + (↑(dC16 hi lo) : Int)) - IntKind.wrap IntKind.u64 ((↑(dQ16 hi lo) : Int) * (9223372036854775808 : Int)))) = Value.int IntKind.u64 (↑(dN16 hi lo) : Int),
    fun _ => ¬(2147483648 : Int) = (0 : Int),
    fun _ => Value.int IntKind.u64 (IntKind.wrap IntKind.u64 (Int.tdiv (↑(dN16 hi lo) : Int) (2147483648 : Int))) = Value.int IntKind.u64 (↑(dS16 hi lo) : Int),
    fun _ => Value.int IntKind.u64 (IntKind.wrap IntKind.u64 ((↑(dS16 hi lo) : Int) * (2147483648 : Int))) = Value.int IntKind.u64 (↑(dF16 hi lo) : Int),
    fun _ => Value.int IntKind.u64 (IntKind.wrap IntKind.u64 ((↑(dN16 hi lo) : Int) - (↑(dF16 hi lo) : Int))) = Value.int IntKind.u64 (↑(dT16 hi lo) : Int),
    fun _ => decide ((4294967296 : Int) ≤ (↑(dS16 hi lo) : Int)) = false,
    fun _ => decide (IntKind.wrap IntKind.u64 (IntKind.wrap IntKind.u64 ((4294967296 : Int) * (↑(dT16 hi lo) : Int)) + (0 : Int)) < IntKind.wrap IntKind.u64 ((↑(dS16 hi lo) : Int) * (0 : Int))) = false,
    fun _ => ¬(59 : Int) < (0 : Int)] (Res.v (Value.tuple (Array.mk [Value.int IntKind.u64 (IntKind.wrap IntKind.u64 (IntKind.wrap IntKind.u64 ((↑(dQ16 hi lo) : Int) * (4294967296 : Int)) + (↑(dS16 hi lo) : Int))), Value.int IntKind.u64 (Int.fdiv (IntKind.wrap IntKind.u64 (IntKind.wrap IntKind.u64 (IntKind.wrap IntKind.u64 ((↑(dN16 hi lo) : Int) * (4294967296 : Int)) + (0 : Int)) - IntKind.wrap IntKind.u64 ((↑(dS16 hi lo) : Int) * (9223372036854775808 : Int)))) (576460752303423488 : Int))])))]
  := by kernel_rfl


theorem wrap_subw (a b : Int) : IntKind.wrap .u64 (IntKind.wrap .u64 a - IntKind.wrap .u64 b) = IntKind.wrap .u64 (a - b) := by
  rw [wrap_u64, wrap_u64, wrap_u64, wrap_u64, ← Int.sub_emod]
theorem wrap_addw (a b : Int) : IntKind.wrap .u64 (IntKind.wrap .u64 a + b) = IntKind.wrap .u64 (a + b) := by
  rw [wrap_u64, wrap_u64, wrap_u64, Int.emod_add_emod]
theorem wrap_eq {z : Int} {n : Nat} (h : z = n) (hn : n < 18446744073709551616) : IntKind.wrap .u64 z = n := by
  rw [wrap_u64, h]
  omega
theorem wrap_z : IntKind.wrap .u64 ((0 : Nat) : Int) = 0 := rfl
theorem tdiv10 (n : Nat) : Int.tdiv (n : Int) (10 : Int) = ((n / 10 : Nat) : Int) := tdivNat n 10
theorem tmod10 (n : Nat) : Int.tmod (n : Int) (10 : Int) = ((n % 10 : Nat) : Int) := tmodNat n 10
theorem tdiv16 (n : Nat) : Int.tdiv (n : Int) (16 : Int) = ((n / 16 : Nat) : Int) := tdivNat n 16
theorem tmod16 (n : Nat) : Int.tmod (n : Int) (16 : Int) = ((n % 16 : Nat) : Int) := tmodNat n 16
theorem div10_ok (hi lo : Nat) (hh : hi < 10) (hl : lo < 18446744073709551616) (w : World) : Calls Try.prog 50 [.int .u64 (hi : Int), .int .u64 (lo : Int), .int .u64 10].toArray w (fun E w' => ∃ v, E = .returned v ∧ Res.ok w w' (.v (.tuple #[.int .u64 ((dvQ 10 hi lo : Nat) : Int), .int .u64 ((dvR 10 hi lo : Nat) : Int)])) v ∧ Below w.heap.size w w') := by
  obtain ⟨l1, L, e0, bL, e1, eA, eU, eV, eC, eUQ, bR, eE, eN, eNS, bT, eF, eQ, eS⟩ := div_facts10 hi lo
  refine con_end (calls_plain hm Try.func50 (by kernel_rfl) rfl rfl 50 _ _ (div10 hi lo) ⟨fun has => ⟨?_, ?_⟩, ⟨fun has => ⟨?_, ?_⟩, trivial⟩⟩)
  · have h0 := has _ List.mem_cons_self
    simp only [hold_cons, hold_nil, and_true]
    exact ⟨fun _ _ => trivial, fun _ _ => decide_eq_false (by omega), fun _ _ => h0, fun _ _ => by omega, fun _ _ => by omega⟩
  · have h0 := has _ List.mem_cons_self
    have hz : hi = 0 := by
      simp only [beq_iff_eq] at h0
      omega
    subst hz
    rw [tdiv10, tmod10, wrap_u64, dvQ, dvR, hide_eq, hide_eq]
    exact tup2 (by omega) (by omega)
  all_goals
    have h0 := has _ List.mem_cons_self
    clear has
    have tq : ∀ n : Nat, Int.tdiv (n : Int) (2684354560 : Int) = ((n / 2684354560 : Nat) : Int) := fun n => tdivNat n 2684354560
    have fq : Int.fdiv (lo : Int) (16 : Int) = ((l1 : Nat) : Int) := by rw [← e1]; exact fdiv_nat lo 16 (by omega)
    have fv : ∀ n : Nat, Int.fdiv (n : Int) (4294967296 : Int) = ((n / 4294967296 : Nat) : Int) := fdivN
    have fp : ∀ n : Nat, Int.fdiv (n : Int) (1152921504606846976 : Int) = ((n / 1152921504606846976 : Nat) : Int) := fun n => fdiv_nat n 1152921504606846976 (by omega)
    generalize dA10 hi lo = A at *
    generalize dU10 hi lo = U at *
    generalize dV10 hi lo = V at *
    generalize dC10 hi lo = C at *
    generalize dQ10 hi lo = Q at *
    generalize dE10 hi lo = E at *
    generalize dR10 hi lo = R at *
    generalize dN10 hi lo = N at *
    generalize dS10 hi lo = S at *
    generalize dF10 hi lo = F at *
    generalize dT10 hi lo = T at *
    have b1 : l1 < 1152921504606846976 := by omega
    clear e1
  · have t1 := toNat_mod A (by omega)
    have t2 := toNat_mod l1 (by omega)
    have t3 := toNat_mod V (by omega)
    have ho : A ||| l1 = U := by rw [eA, eU]; exact or_at 60 hi l1 b1
    have ha : V &&& 4294967295 = 0 := and32 _ (by omega)
    have hV : IntKind.wrap .u64 ((lo : Int) * (1152921504606846976 : Int)) = (V : Int) := by
      have h9 : (lo : Int) * (1152921504606846976 : Int) = (l1 : Int) * 18446744073709551616 + (V : Int) := by omega
      rw [wrap_u64, h9]
      omega
    simp only [hold_cons, hold_nil, and_true, hV, tq, fq, fv, t1, t2, t3, ho, ha, wrap_addw, wrap_subw, wrap_z, ← eQ, ← eS]
    have bQ : Q < 4294967296 := by omega
    have bC : C < 4294967296 := by omega
    have bN : N < 11529215046068469760 := by omega
    have bS : S < 4294967296 := by omega
    clear eQ eS ho ha t1 t2 t3 tq fq fv fp
    repeat' apply And.intro
    all_goals (intro _ _; first | exact True.intro | exact h0 | exact int_eq (wrap_eq (by omega) (by omega)) | exact int_eq (by omega) | (rw [Int.mul_zero, wrap_u64, wrap_u64]; exact decide_eq_false (by omega)) | exact decide_eq_false (by omega) | (simp; done) | omega)
  · have hk := div_key10 hi l1 L Q R S T (by omega) (by omega)
    obtain ⟨g1, g2⟩ := div_core 1152921504606846976 10 (Q * 4294967296 + S) _ (T * 4294967296) (by omega) (by omega) hk (by omega)
    have bQ : Q < 4294967296 := by omega
    have bC : C < 4294967296 := by omega
    have bS : S < 4294967296 := by omega
    have e9 : IntKind.wrap .u64 (IntKind.wrap .u64 (IntKind.wrap .u64 ((N : Int) * (4294967296 : Int)) + (0 : Int)) - IntKind.wrap .u64 ((S : Int) * (11529215046068469760 : Int))) = ((T * 4294967296 : Nat) : Int) := by
      rw [wrap_addw, wrap_subw]
      exact wrap_eq (by omega) (by omega)
    rw [dvQ, dvR, hide_eq, hide_eq, e9, fp, g2, e0, g1]
    exact tup2 (by rw [wrap_addw]; exact wrap_eq (by omega) (by omega)) rfl
theorem div16_ok (hi lo : Nat) (hh : hi < 16) (hl : lo < 18446744073709551616) (w : World) : Calls Try.prog 50 [.int .u64 (hi : Int), .int .u64 (lo : Int), .int .u64 16].toArray w (fun E w' => ∃ v, E = .returned v ∧ Res.ok w w' (.v (.tuple #[.int .u64 ((dvQ 16 hi lo : Nat) : Int), .int .u64 ((dvR 16 hi lo : Nat) : Int)])) v ∧ Below w.heap.size w w') := by
  obtain ⟨l1, L, e0, bL, e1, eA, eU, eV, eC, eUQ, bR, eE, eN, eNS, bT, eF, eQ, eS⟩ := div_facts16 hi lo
  refine con_end (calls_plain hm Try.func50 (by kernel_rfl) rfl rfl 50 _ _ (div16 hi lo) ⟨fun has => ⟨?_, ?_⟩, ⟨fun has => ⟨?_, ?_⟩, trivial⟩⟩)
  · have h0 := has _ List.mem_cons_self
    simp only [hold_cons, hold_nil, and_true]
    exact ⟨fun _ _ => trivial, fun _ _ => decide_eq_false (by omega), fun _ _ => h0, fun _ _ => by omega, fun _ _ => by omega⟩
  · have h0 := has _ List.mem_cons_self
    have hz : hi = 0 := by
      simp only [beq_iff_eq] at h0
      omega
    subst hz
    rw [tdiv16, tmod16, wrap_u64, dvQ, dvR, hide_eq, hide_eq]
    exact tup2 (by omega) (by omega)
  all_goals
    have h0 := has _ List.mem_cons_self
    clear has
    have tq : ∀ n : Nat, Int.tdiv (n : Int) (2147483648 : Int) = ((n / 2147483648 : Nat) : Int) := fun n => tdivNat n 2147483648
    have fq : Int.fdiv (lo : Int) (32 : Int) = ((l1 : Nat) : Int) := by rw [← e1]; exact fdiv_nat lo 32 (by omega)
    have fv : ∀ n : Nat, Int.fdiv (n : Int) (4294967296 : Int) = ((n / 4294967296 : Nat) : Int) := fdivN
    have fp : ∀ n : Nat, Int.fdiv (n : Int) (576460752303423488 : Int) = ((n / 576460752303423488 : Nat) : Int) := fun n => fdiv_nat n 576460752303423488 (by omega)
    generalize dA16 hi lo = A at *
    generalize dU16 hi lo = U at *
    generalize dV16 hi lo = V at *
    generalize dC16 hi lo = C at *
    generalize dQ16 hi lo = Q at *
    generalize dE16 hi lo = E at *
    generalize dR16 hi lo = R at *
    generalize dN16 hi lo = N at *
    generalize dS16 hi lo = S at *
    generalize dF16 hi lo = F at *
    generalize dT16 hi lo = T at *
    have b1 : l1 < 576460752303423488 := by omega
    clear e1
  · have t1 := toNat_mod A (by omega)
    have t2 := toNat_mod l1 (by omega)
    have t3 := toNat_mod V (by omega)
    have ho : A ||| l1 = U := by rw [eA, eU]; exact or_at 59 hi l1 b1
    have ha : V &&& 4294967295 = 0 := and32 _ (by omega)
    have hV : IntKind.wrap .u64 ((lo : Int) * (576460752303423488 : Int)) = (V : Int) := by
      have h9 : (lo : Int) * (576460752303423488 : Int) = (l1 : Int) * 18446744073709551616 + (V : Int) := by omega
      rw [wrap_u64, h9]
      omega
    simp only [hold_cons, hold_nil, and_true, hV, tq, fq, fv, t1, t2, t3, ho, ha, wrap_addw, wrap_subw, wrap_z, ← eQ, ← eS]
    have bQ : Q < 4294967296 := by omega
    have bC : C < 4294967296 := by omega
    have bN : N < 9223372036854775808 := by omega
    have bS : S < 4294967296 := by omega
    clear eQ eS ho ha t1 t2 t3 tq fq fv fp
    repeat' apply And.intro
    all_goals (intro _ _; first | exact True.intro | exact h0 | exact int_eq (wrap_eq (by omega) (by omega)) | exact int_eq (by omega) | (rw [Int.mul_zero, wrap_u64, wrap_u64]; exact decide_eq_false (by omega)) | exact decide_eq_false (by omega) | (simp; done) | omega)
  · have hk := div_key16 hi l1 L Q R S T (by omega) (by omega)
    obtain ⟨g1, g2⟩ := div_core 576460752303423488 16 (Q * 4294967296 + S) _ (T * 4294967296) (by omega) (by omega) hk (by omega)
    have bQ : Q < 4294967296 := by omega
    have bC : C < 4294967296 := by omega
    have bS : S < 4294967296 := by omega
    have e9 : IntKind.wrap .u64 (IntKind.wrap .u64 (IntKind.wrap .u64 ((N : Int) * (4294967296 : Int)) + (0 : Int)) - IntKind.wrap .u64 ((S : Int) * (9223372036854775808 : Int))) = ((T * 4294967296 : Nat) : Int) := by
      rw [wrap_addw, wrap_subw]
      exact wrap_eq (by omega) (by omega)
    rw [dvQ, dvR, hide_eq, hide_eq, e9, fp, g2, e0, g1]
    exact tup2 (by rw [wrap_addw]; exact wrap_eq (by omega) (by omega)) rfl
end Go.Proofs.Ytcipmpamhffclaa

namespace Go.Proofs.Ytcipmpamhffclaa
open Go.Sx Go.Pl Go.RowKit
theorem div_ok (y hi lo : Nat) (hy : y = 10 ∨ y = 16) (hh : hi < y) (hl : lo < 18446744073709551616) (w : World) : Calls Try.prog 50 [.int .u64 (hi : Int), .int .u64 (lo : Int), .int .u64 (y : Int)].toArray w (fun E w' => ∃ v, E = .returned v ∧ Res.ok w w' (.v (.tuple #[.int .u64 ((dvQ y hi lo : Nat) : Int), .int .u64 ((dvR y hi lo : Nat) : Int)])) v ∧ Below w.heap.size w w') := by
  rcases hy with h | h
  · subst h
    exact div10_ok hi lo hh hl w
  · subst h
    exact div16_ok hi lo hh hl w
noncomputable def gDiv : List RV → Option (Res × Prop)
  | [.v x, .v z, .v (.int .u64 y)] => match unU x, unU z with
    | some hi, some lo => some (.v (.tuple #[.int .u64 ((dvQ y.toNat hi lo : Nat) : Int), .int .u64 ((dvR y.toNat hi lo : Nat) : Int)]), x = .int .u64 (hi : Int) ∧ z = .int .u64 (lo : Int) ∧ y = (y.toNat : Int) ∧ (y.toNat = 10 ∨ y.toNat = 16) ∧ hi < y.toNat ∧ lo < 18446744073709551616)
    | _, _ => none
  | _ => none
theorem gDiv_ok (rvs : List RV) (r : Res) (p : Prop) (vs : List Value) (w : World) (hg : gDiv rvs = some (r, p)) (hp : p) (hv : RVs (wmem w) rvs vs) : Calls Try.prog 50 vs.toArray w (fun E w' => ∃ v, E = .returned v ∧ r.ok w w' v ∧ Below w.heap.size w w') := by
  unfold gDiv at hg
  split at hg
  · rename_i x z y
    split at hg
    · simp only [Option.some.injEq, Prod.mk.injEq] at hg
      obtain ⟨rfl, rfl⟩ := hg
      obtain ⟨h1, h2, h3, h4, h5, h6⟩ := hp
      rw [rvs3 hv, h1, h2]
      have := div_ok _ _ _ h4 h5 h6 w
      rw [← h3] at this
      exact this
    · cases hg
  · cases hg
noncomputable def TC : Con Try.prog := TB.add 50 gDiv gDiv_ok
end Go.Proofs.Ytcipmpamhffclaa
