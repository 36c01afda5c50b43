/- A number by a little modulus. -/
import Derived.Test.YtpghmnpbfaichaaF1
namespace Go.Pl
open Go.Sx
noncomputable def fR (p a : Nat) : Nat := hide (a % p)
theorem fR_eq (p a : Nat) : fR p a = a % p := hide_eq _
def nP : Value := .agg (Array.mk [.int .u64 16513537, .int .u64 0, .int .u64 0, .int .u64 0, .int .i64 9, .int .u64 16513537, .int .u64 0, .int .u64 0, .int .u64 0, .int .u64 0, .int .u64 0])
def nQ : Value := .agg (Array.mk [.int .u64 16521217, .int .u64 0, .int .u64 0, .int .u64 0, .int .i64 11, .int .u64 16521217, .int .u64 0, .int .u64 0, .int .u64 0, .int .u64 0, .int .u64 0])
theorem dvR_eq (y hi lo : Nat) : dvR y hi lo = (hi * 18446744073709551616 + lo) % y := hide_eq _
theorem mstep (p x y : Nat) : (x % p * 18446744073709551616 + y) % p = (x * 18446744073709551616 + y) % p := by
  rw [Nat.add_mod, Nat.mul_mod, Nat.mod_mod, ← Nat.mul_mod, ← Nat.add_mod]
theorem dv4 (p a : Nat) (ha : a < top) : dvR p (dvR p (dvR p (dvR p 0 (limb a 3)) (limb a 2)) (limb a 1)) (limb a 0) = a % p := by
  rw [show dvR p 0 (limb a 3) = limb a 3 % p by rw [dvR_eq, Nat.zero_mul, Nat.zero_add]]
  rw [show dvR p (limb a 3 % p) (limb a 2) = (limb a 3 * 18446744073709551616 + limb a 2) % p by rw [dvR_eq, mstep]]
  rw [show dvR p ((limb a 3 * 18446744073709551616 + limb a 2) % p) (limb a 1) = ((limb a 3 * 18446744073709551616 + limb a 2) * 18446744073709551616 + limb a 1) % p by rw [dvR_eq, mstep]]
  rw [dvR_eq, mstep]
  congr 1
  have := nv_limb a
  rw [Nat.mod_eq_of_lt ha] at this
  simp only [nv] at this
  omega
theorem el_small (r : Nat) (h : r < 18446744073709551616) : el r = .agg #[.int .u64 (r : Nat), .int .u64 0, .int .u64 0, .int .u64 0] := by
  have := el_nv (a := r) (b := 0) (c := 0) (d := 0) h (by omega) (by omega) (by omega)
  rw [show nv r 0 0 0 = r by simp [nv]] at this
  exact this
theorem or_lt {x y : Nat} (hx : x < 18446744073709551616) (hy : y < 18446744073709551616) : x ||| y < 18446744073709551616 :=
  Nat.or_lt_two_pow (n := 64) hx hy
end Go.Pl
namespace Go.Proofs.Ytpghmnpbfaichaa
open Go.Sx Go.Pl Go.RowKit
set_option linter.unusedVariables false
theorem or3 (x y z : Nat) (hx : x < 18446744073709551616) (hy : y < 18446744073709551616) (hz : z < 18446744073709551616) :
    (IntKind.wrap IntKind.u64 (↑(Int.toNat (IntKind.wrap IntKind.u64 (↑(Int.toNat ((x : Int) % (18446744073709551616 : Int)) ||| Int.toNat ((y : Int) % (18446744073709551616 : Int))) : Int) % (18446744073709551616 : Int)) ||| Int.toNat ((z : Int) % (18446744073709551616 : Int))) : Int) == (0 : Int)) = decide (x = 0 ∧ y = 0 ∧ z = 0) := by
  rw [toNat_mod x hx, toNat_mod y hy, toNat_mod z hz, wrapN _ (or_lt hx hy), toNat_mod _ (or_lt hx hy), wrapN _ (or_lt (or_lt hx hy) hz)]
  rw [Bool.eq_iff_iff, beq_iff_eq, decide_eq_true_iff]
  constructor
  · intro h
    have h1 : x ||| y ||| z = 0 := by omega
    rw [Nat.or_eq_zero_iff, Nat.or_eq_zero_iff] at h1
    exact ⟨h1.1.1, h1.1.2, h1.2⟩
  · rintro ⟨rfl, rfl, rfl⟩
    rfl
theorem rdp1 (a : Nat) : (((xgo Try.prog X (bodyOf Try.f91) 53 L3 [([0,1,0,1,1,0,1,0,1],5)] 60 [.t, .t] (.nil) [.at []] ⟨argsTm 0 [.agg (Array.mk [.int .u64 16513537, .int .u64 0, .int .u64 0, .int .u64 0, .int .i64 9, .int .u64 16513537, .int .u64 0, .int .u64 0, .int .u64 0, .int .u64 0, .int .u64 0]), el a], []⟩ [] []).bind (ends Try.prog Try.f91.results.toList)).bind plainE) =
  some [EndP.mk [] [fun _ => true = true,
    fun _ => (0 : Int) ≤ (1 : Int) ∧ (1 : Int) < (4 : Int),
    fun _ => (0 : Int) ≤ (2 : Int) ∧ (2 : Int) < (4 : Int),
    fun _ => (0 : Int) ≤ (3 : Int) ∧ (3 : Int) < (4 : Int),
    fun _ => (IntKind.wrap IntKind.u64 (↑(Int.toNat (IntKind.wrap IntKind.u64 (↑(Int.toNat ((↑(limb a (1 : Nat)) : Int) % (18446744073709551616 : Int)) ||| Int.toNat ((↑(limb a (2 : Nat)) : Int) % (18446744073709551616 : Int))) : Int) % (18446744073709551616 : Int)) ||| Int.toNat ((↑(limb a (3 : Nat)) : Int) % (18446744073709551616 : Int))) : Int) == (0 : Int)) = true,
    fun _ => (0 : Int) ≤ (0 : Int) ∧ (0 : Int) < (4 : Int),
    fun _ => ¬(16513537 : Int) = (0 : Int),
    fun _ => (0 : Nat) + (4 : Nat) ≤ (4 : Nat)] (Res.v (Value.agg (Array.mk [Value.int IntKind.u64 (Int.tmod (↑(limb a (0 : Nat)) : Int) (16513537 : Int)), Value.int IntKind.u64 (0 : Int), Value.int IntKind.u64 (0 : Int), Value.int IntKind.u64 (0 : Int)])))]
  := by kernel_rfl

theorem rdp2 (a : Nat) : (((xgo Try.prog X (bodyOf Try.f91) 53 L3 [([0,1,0,1,1,0,1,0,1],5)] 60 [.t, .f, .t, .t, .t, .t, .f] (.nil) [.at []] ⟨argsTm 0 [.agg (Array.mk [.int .u64 16513537, .int .u64 0, .int .u64 0, .int .u64 0, .int .i64 9, .int .u64 16513537, .int .u64 0, .int .u64 0, .int .u64 0, .int .u64 0, .int .u64 0]), el a], []⟩ [] []).bind (ends Try.prog Try.f91.results.toList)).bind plainE) =
  some [EndP.mk [] [fun _ => true = true,
    fun _ => (0 : Int) ≤ (1 : Int) ∧ (1 : Int) < (4 : Int),
    fun _ => (0 : Int) ≤ (2 : Int) ∧ (2 : Int) < (4 : Int),
    fun _ => (0 : Int) ≤ (3 : Int) ∧ (3 : Int) < (4 : Int),
    fun _ => (IntKind.wrap IntKind.u64 (↑(Int.toNat (IntKind.wrap IntKind.u64 (↑(Int.toNat ((↑(limb a (1 : Nat)) : Int) % (18446744073709551616 : Int)) ||| Int.toNat ((↑(limb a (2 : Nat)) : Int) % (18446744073709551616 : Int))) : Int) % (18446744073709551616 : Int)) ||| Int.toNat ((↑(limb a (3 : Nat)) : Int) % (18446744073709551616 : Int))) : Int) == (0 : Int)) = false,
    fun _ => true = true,
    fun _ => (0 : Int) ≤ (3 : Int) ∧ (3 : Int) < (4 : Int),
    fun _ => Value.int IntKind.u64 (0 : Int) = Value.int IntKind.u64 (0 : Int) ∧ Value.int IntKind.u64 (↑(limb a (3 : Nat)) : Int) = Value.int IntKind.u64 (↑(Int.toNat (↑(limb a (3 : Nat)) : Int)) : Int) ∧ ((16513537 : Int) = (16513537 : Int) ∨ (16513537 : Int) = (16521217 : Int)) ∧ (0 : Nat) < (16513537 : Nat) ∧ Int.toNat (↑(limb a (3 : Nat)) : Int) < (18446744073709551616 : Nat),
    fun _ => true = true,
    fun _ => (0 : Int) ≤ (2 : Int) ∧ (2 : Int) < (4 : Int),
    fun _ => Value.int IntKind.u64 (↑(dvR (16513537 : Nat) (0 : Nat) (Int.toNat (↑(limb a (3 : Nat)) : Int))) : Int) = Value.int IntKind.u64 (↑(Int.toNat (↑(dvR (16513537 : Nat) (0 : Nat) (Int.toNat (↑(limb a (3 : Nat)) : Int))) : Int)) : Int) ∧ Value.int IntKind.u64 (↑(limb a (2 : Nat)) : Int) = Value.int IntKind.u64 (↑(Int.toNat (↑(limb a (2 : Nat)) : Int)) : Int) ∧ ((16513537 : Int) = (16513537 : Int) ∨ (16513537 : Int) = (16521217 : Int)) ∧ Int.toNat (↑(dvR (16513537 : Nat) (0 : Nat) (Int.toNat (↑(limb a (3 : Nat)) : Int))) : Int) < (16513537 : Nat) ∧ Int.toNat (↑(limb a (2 : Nat)) : Int) < (18446744073709551616 : Nat),
    fun _ => true = true,
    fun _ => (0 : Int) ≤ (1 : Int) ∧ (1 : Int) < (4 : Int),
    fun _ => Value.int IntKind.u64 (↑(dvR (16513537 : Nat) (Int.toNat (↑(dvR (16513537 : Nat) (0 : Nat) (Int.toNat (↑(limb a (3 : Nat)) : Int))) : Int)) (Int.toNat (↑(limb a (2 : Nat)) : Int))) : Int) = Value.int IntKind.u64 (↑(Int.toNat (↑(dvR (16513537 : Nat) (Int.toNat (↑(dvR (16513537 : Nat) (0 : Nat) (Int.toNat (↑(limb a (3 : Nat)) : Int))) : Int)) (Int.toNat (↑(limb a (2 : Nat)) : Int))) : Int)) : Int) ∧ Value.int IntKind.u64 (↑(limb a (1 : Nat)) : Int) = Value.int IntKind.u64 (↑(Int.toNat (↑(limb a (1 : Nat)) : Int)) : Int) ∧ ((16513537 : Int) = (16513537 : Int) ∨ (16513537 : Int) = (16521217 : Int)) ∧ Int.toNat (↑(dvR (16513537 : Nat) (Int.toNat (↑(dvR (16513537 : Nat) (0 : Nat) (Int.toNat (↑(limb a (3 : Nat)) : Int))) : Int)) (Int.toNat (↑(limb a (2 : Nat)) : Int))) : Int) < (16513537 : Nat) ∧ Int.toNat (↑(limb a (1 : Nat)) : Int) < (18446744073709551616 : Nat),
    fun _ => true = true,
    fun _ => (0 : Int) ≤ (0 : Int) ∧ (0 : Int) < (4 : Int),
    fun _ => Value.int IntKind.u64 (↑(dvR (16513537 : Nat) (Int.toNat (↑(dvR (16513537 : Nat) (Int.toNat (↑(dvR (16513537 : Nat) (0 : Nat) (Int.toNat (↑(limb a (3 : Nat)) : Int))) : Int)) (Int.toNat (↑(limb a (2 : Nat)) : Int))) : Int)) (Int.toNat (↑(limb a (1 : Nat)) : Int))) : Int) = Value.int IntKind.u64 (↑(Int.toNat (↑(dvR (16513537 : Nat) (Int.toNat (↑(dvR (16513537 : Nat) (Int.toNat (↑(dvR (16513537 : Nat) (0 : Nat) (Int.toNat (↑(limb a (3 : Nat)) : Int))) : Int)) (Int.toNat (↑(limb a (2 : Nat)) : Int))) : Int)) (Int.toNat (↑(limb a (1 : Nat)) : Int))) : Int)) : Int) ∧ Value.int IntKind.u64 (↑(limb a (0 : Nat)) : Int) = Value.int IntKind.u64 (↑(Int.toNat (↑(limb a (0 : Nat)) : Int)) : Int) ∧ ((16513537 : Int) = (16513537 : Int) ∨ (16513537 : Int) = (16521217 : Int)) ∧ Int.toNat (↑(dvR (16513537 : Nat) (Int.toNat (↑(dvR (16513537 : Nat) (Int.toNat (↑(dvR (16513537 : Nat) (0 : Nat) (Int.toNat (↑(limb a (3 : Nat)) : Int))) : Int)) (Int.toNat (↑(limb a (2 : Nat)) : Int))) : Int)) (Int.toNat (↑(limb a (1 : Nat)) : Int))) : Int) < (16513537 : Nat) ∧ Int.toNat (↑(limb a (0 : Nat)) : Int) < (18446744073709551616 : Nat),
    fun _ => false = false,
    fun _ => (0 : Nat) + (4 : Nat) ≤ (4 : Nat)] (Res.v (Value.agg (Array.mk [Value.int IntKind.u64 (↑(dvR (16513537 : Nat) (Int.toNat (↑(dvR (16513537 : Nat) (Int.toNat (↑(dvR (16513537 : Nat) (Int.toNat (↑(dvR (16513537 : Nat) (0 : Nat) (Int.toNat (↑(limb a (3 : Nat)) : Int))) : Int)) (Int.toNat (↑(limb a (2 : Nat)) : Int))) : Int)) (Int.toNat (↑(limb a (1 : Nat)) : Int))) : Int)) (Int.toNat (↑(limb a (0 : Nat)) : Int))) : Int), Value.int IntKind.u64 (0 : Int), Value.int IntKind.u64 (0 : Int), Value.int IntKind.u64 (0 : Int)])))]
  := by kernel_rfl

theorem rdq1 (a : Nat) : (((xgo Try.prog X (bodyOf Try.f91) 53 L3 [([0,1,0,1,1,0,1,0,1],5)] 60 [.t, .t] (.nil) [.at []] ⟨argsTm 0 [.agg (Array.mk [.int .u64 16521217, .int .u64 0, .int .u64 0, .int .u64 0, .int .i64 11, .int .u64 16521217, .int .u64 0, .int .u64 0, .int .u64 0, .int .u64 0, .int .u64 0]), el a], []⟩ [] []).bind (ends Try.prog Try.f91.results.toList)).bind plainE) =
  some [EndP.mk [] [fun _ => true = true,
    fun _ => (0 : Int) ≤ (1 : Int) ∧ (1 : Int) < (4 : Int),
    fun _ => (0 : Int) ≤ (2 : Int) ∧ (2 : Int) < (4 : Int),
    fun _ => (0 : Int) ≤ (3 : Int) ∧ (3 : Int) < (4 : Int),
    fun _ => (IntKind.wrap IntKind.u64 (↑(Int.toNat (IntKind.wrap IntKind.u64 (↑(Int.toNat ((↑(limb a (1 : Nat)) : Int) % (18446744073709551616 : Int)) ||| Int.toNat ((↑(limb a (2 : Nat)) : Int) % (18446744073709551616 : Int))) : Int) % (18446744073709551616 : Int)) ||| Int.toNat ((↑(limb a (3 : Nat)) : Int) % (18446744073709551616 : Int))) : Int) == (0 : Int)) = true,
    fun _ => (0 : Int) ≤ (0 : Int) ∧ (0 : Int) < (4 : Int),
    fun _ => ¬(16521217 : Int) = (0 : Int),
    fun _ => (0 : Nat) + (4 : Nat) ≤ (4 : Nat)] (Res.v (Value.agg (Array.mk [Value.int IntKind.u64 (Int.tmod (↑(limb a (0 : Nat)) : Int) (16521217 : Int)), Value.int IntKind.u64 (0 : Int), Value.int IntKind.u64 (0 : Int), Value.int IntKind.u64 (0 : Int)])))]
  := by kernel_rfl

theorem rdq2 (a : Nat) : (((xgo Try.prog X (bodyOf Try.f91) 53 L3 [([0,1,0,1,1,0,1,0,1],5)] 60 [.t, .f, .t, .t, .t, .t, .f] (.nil) [.at []] ⟨argsTm 0 [.agg (Array.mk [.int .u64 16521217, .int .u64 0, .int .u64 0, .int .u64 0, .int .i64 11, .int .u64 16521217, .int .u64 0, .int .u64 0, .int .u64 0, .int .u64 0, .int .u64 0]), el a], []⟩ [] []).bind (ends Try.prog Try.f91.results.toList)).bind plainE) =
  some [EndP.mk [] [fun _ => true = true,
    fun _ => (0 : Int) ≤ (1 : Int) ∧ (1 : Int) < (4 : Int),
    fun _ => (0 : Int) ≤ (2 : Int) ∧ (2 : Int) < (4 : Int),
    fun _ => (0 : Int) ≤ (3 : Int) ∧ (3 : Int) < (4 : Int),
    fun _ => (IntKind.wrap IntKind.u64 (↑(Int.toNat (IntKind.wrap IntKind.u64 (↑(Int.toNat ((↑(limb a (1 : Nat)) : Int) % (18446744073709551616 : Int)) ||| Int.toNat ((↑(limb a (2 : Nat)) : Int) % (18446744073709551616 : Int))) : Int) % (18446744073709551616 : Int)) ||| Int.toNat ((↑(limb a (3 : Nat)) : Int) % (18446744073709551616 : Int))) : Int) == (0 : Int)) = false,
    fun _ => true = true,
    fun _ => (0 : Int) ≤ (3 : Int) ∧ (3 : Int) < (4 : Int),
    fun _ => Value.int IntKind.u64 (0 : Int) = Value.int IntKind.u64 (0 : Int) ∧ Value.int IntKind.u64 (↑(limb a (3 : Nat)) : Int) = Value.int IntKind.u64 (↑(Int.toNat (↑(limb a (3 : Nat)) : Int)) : Int) ∧ ((16521217 : Int) = (16513537 : Int) ∨ (16521217 : Int) = (16521217 : Int)) ∧ (0 : Nat) < (16521217 : Nat) ∧ Int.toNat (↑(limb a (3 : Nat)) : Int) < (18446744073709551616 : Nat),
    fun _ => true = true,
    fun _ => (0 : Int) ≤ (2 : Int) ∧ (2 : Int) < (4 : Int),
    fun _ => Value.int IntKind.u64 (↑(dvR (16521217 : Nat) (0 : Nat) (Int.toNat (↑(limb a (3 : Nat)) : Int))) : Int) = Value.int IntKind.u64 (↑(Int.toNat (↑(dvR (16521217 : Nat) (0 : Nat) (Int.toNat (↑(limb a (3 : Nat)) : Int))) : Int)) : Int) ∧ Value.int IntKind.u64 (↑(limb a (2 : Nat)) : Int) = Value.int IntKind.u64 (↑(Int.toNat (↑(limb a (2 : Nat)) : Int)) : Int) ∧ ((16521217 : Int) = (16513537 : Int) ∨ (16521217 : Int) = (16521217 : Int)) ∧ Int.toNat (↑(dvR (16521217 : Nat) (0 : Nat) (Int.toNat (↑(limb a (3 : Nat)) : Int))) : Int) < (16521217 : Nat) ∧ Int.toNat (↑(limb a (2 : Nat)) : Int) < (18446744073709551616 : Nat),
    fun _ => true = true,
    fun _ => (0 : Int) ≤ (1 : Int) ∧ (1 : Int) < (4 : Int),
    fun _ => Value.int IntKind.u64 (↑(dvR (16521217 : Nat) (Int.toNat (↑(dvR (16521217 : Nat) (0 : Nat) (Int.toNat (↑(limb a (3 : Nat)) : Int))) : Int)) (Int.toNat (↑(limb a (2 : Nat)) : Int))) : Int) = Value.int IntKind.u64 (↑(Int.toNat (↑(dvR (16521217 : Nat) (Int.toNat (↑(dvR (16521217 : Nat) (0 : Nat) (Int.toNat (↑(limb a (3 : Nat)) : Int))) : Int)) (Int.toNat (↑(limb a (2 : Nat)) : Int))) : Int)) : Int) ∧ Value.int IntKind.u64 (↑(limb a (1 : Nat)) : Int) = Value.int IntKind.u64 (↑(Int.toNat (↑(limb a (1 : Nat)) : Int)) : Int) ∧ ((16521217 : Int) = (16513537 : Int) ∨ (16521217 : Int) = (16521217 : Int)) ∧ Int.toNat (↑(dvR (16521217 : Nat) (Int.toNat (↑(dvR (16521217 : Nat) (0 : Nat) (Int.toNat (↑(limb a (3 : Nat)) : Int))) : Int)) (Int.toNat (↑(limb a (2 : Nat)) : Int))) : Int) < (16521217 : Nat) ∧ Int.toNat (↑(limb a (1 : Nat)) : Int) < (18446744073709551616 : Nat),
    fun _ => true = true,
    fun _ => (0 : Int) ≤ (0 : Int) ∧ (0 : Int) < (4 : Int),
    fun _ => Value.int IntKind.u64 (↑(dvR (16521217 : Nat) (Int.toNat (↑(dvR (16521217 : Nat) (Int.toNat (↑(dvR (16521217 : Nat) (0 : Nat) (Int.toNat (↑(limb a (3 : Nat)) : Int))) : Int)) (Int.toNat (↑(limb a (2 : Nat)) : Int))) : Int)) (Int.toNat (↑(limb a (1 : Nat)) : Int))) : Int) = Value.int IntKind.u64 (↑(Int.toNat (↑(dvR (16521217 : Nat) (Int.toNat (↑(dvR (16521217 : Nat) (Int.toNat (↑(dvR (16521217 : Nat) (0 : Nat) (Int.toNat (↑(limb a (3 : Nat)) : Int))) : Int)) (Int.toNat (↑(limb a (2 : Nat)) : Int))) : Int)) (Int.toNat (↑(limb a (1 : Nat)) : Int))) : Int)) : Int) ∧ Value.int IntKind.u64 (↑(limb a (0 : Nat)) : Int) = Value.int IntKind.u64 (↑(Int.toNat (↑(limb a (0 : Nat)) : Int)) : Int) ∧ ((16521217 : Int) = (16513537 : Int) ∨ (16521217 : Int) = (16521217 : Int)) ∧ Int.toNat (↑(dvR (16521217 : Nat) (Int.toNat (↑(dvR (16521217 : Nat) (Int.toNat (↑(dvR (16521217 : Nat) (0 : Nat) (Int.toNat (↑(limb a (3 : Nat)) : Int))) : Int)) (Int.toNat (↑(limb a (2 : Nat)) : Int))) : Int)) (Int.toNat (↑(limb a (1 : Nat)) : Int))) : Int) < (16521217 : Nat) ∧ Int.toNat (↑(limb a (0 : Nat)) : Int) < (18446744073709551616 : Nat),
    fun _ => false = false,
    fun _ => (0 : Nat) + (4 : Nat) ≤ (4 : Nat)] (Res.v (Value.agg (Array.mk [Value.int IntKind.u64 (↑(dvR (16521217 : Nat) (Int.toNat (↑(dvR (16521217 : Nat) (Int.toNat (↑(dvR (16521217 : Nat) (Int.toNat (↑(dvR (16521217 : Nat) (0 : Nat) (Int.toNat (↑(limb a (3 : Nat)) : Int))) : Int)) (Int.toNat (↑(limb a (2 : Nat)) : Int))) : Int)) (Int.toNat (↑(limb a (1 : Nat)) : Int))) : Int)) (Int.toNat (↑(limb a (0 : Nat)) : Int))) : Int), Value.int IntKind.u64 (0 : Int), Value.int IntKind.u64 (0 : Int), Value.int IntKind.u64 (0 : Int)])))]
  := by kernel_rfl

theorem of0 (z : Nat) : (((xgo Try.prog X (bodyOf Try.f75) 24 L3 [] 60 [.t] (.nil) [.at []] ⟨argsTm 0 [.int .i64 0], []⟩ [] []).bind (ends Try.prog Try.f75.results.toList)).bind plainE) =
  some [EndP.mk [] [fun _ => true = true,
    fun _ => (11 : Nat) ≤ (11 : Nat)] (Res.v (Value.tuple (Array.mk [Value.agg (Array.mk [Value.int IntKind.u64 (16513537 : Int), Value.int IntKind.u64 (0 : Int), Value.int IntKind.u64 (0 : Int), Value.int IntKind.u64 (0 : Int), Value.int IntKind.i64 (9 : Int), Value.int IntKind.u64 (16513537 : Int), Value.int IntKind.u64 (0 : Int), Value.int IntKind.u64 (0 : Int), Value.int IntKind.u64 (0 : Int), Value.int IntKind.u64 (0 : Int), Value.int IntKind.u64 (0 : Int)]), Value.int IntKind.i64 (0 : Int)])))]
  := by kernel_rfl

theorem of1 (z : Nat) : (((xgo Try.prog X (bodyOf Try.f75) 24 L3 [] 60 [.f, .t] (.nil) [.at []] ⟨argsTm 0 [.int .i64 1], []⟩ [] []).bind (ends Try.prog Try.f75.results.toList)).bind plainE) =
  some [EndP.mk [] [fun _ => false = false,
    fun _ => true = true,
    fun _ => (11 : Nat) ≤ (11 : Nat)] (Res.v (Value.tuple (Array.mk [Value.agg (Array.mk [Value.int IntKind.u64 (16521217 : Int), Value.int IntKind.u64 (0 : Int), Value.int IntKind.u64 (0 : Int), Value.int IntKind.u64 (0 : Int), Value.int IntKind.i64 (11 : Int), Value.int IntKind.u64 (16521217 : Int), Value.int IntKind.u64 (0 : Int), Value.int IntKind.u64 (0 : Int), Value.int IntKind.u64 (0 : Int), Value.int IntKind.u64 (0 : Int), Value.int IntKind.u64 (0 : Int)]), Value.int IntKind.i64 (0 : Int)])))]
  := by kernel_rfl

theorem rdp_ok (a : Nat) (ha : a < top) (w : World) : Calls Try.prog 91 [nP, el a].toArray w (fun E w' => ∃ v, E = .returned v ∧ Res.ok w w' (.v (el (fR 16513537 a))) v ∧ Below w.heap.size w w') := by
  have b0 := limb_lt a 0
  have b1 := limb_lt a 1
  have b2 := limb_lt a 2
  have b3 := limb_lt a 3
  have hlt : a % 16513537 < 16513537 := Nat.mod_lt _ (by omega)
  rw [fR_eq, el_small (a % 16513537) (by omega)]
  by_cases hz : limb a 1 = 0 ∧ limb a 2 = 0 ∧ limb a 3 = 0
  · have hA : a = limb a 0 := by
      have := nv_limb a
      rw [Nat.mod_eq_of_lt ha, hz.1, hz.2.1, hz.2.2] at this
      simp only [nv] at this
      omega
    refine con_end (calls_plain hm Try.func91 (by kernel_rfl) rfl rfl 60 _ _ (rdp1 a) ⟨fun _ => ⟨?_, ?_⟩, trivial⟩)
    · simp only [hold_cons, hold_nil, and_true, or3 _ _ _ b1 b2 b3]
      exact ⟨fun _ _ => trivial, fun _ _ => by omega, fun _ _ => by omega, fun _ _ => by omega, fun _ _ => decide_eq_true hz, fun _ _ => by omega, fun _ _ => by omega, fun _ _ => by omega⟩
    · rw [tmodp, ← hA]
  · have d3 : dvR 16513537 0 (limb a 3) < 16513537 := by rw [dvR_eq]; exact Nat.mod_lt _ (by omega)
    have d2 : dvR 16513537 (dvR 16513537 0 (limb a 3)) (limb a 2) < 16513537 := by rw [dvR_eq]; exact Nat.mod_lt _ (by omega)
    have d1 : dvR 16513537 (dvR 16513537 (dvR 16513537 0 (limb a 3)) (limb a 2)) (limb a 1) < 16513537 := by rw [dvR_eq]; exact Nat.mod_lt _ (by omega)
    refine con_end (calls_plain hm Try.func91 (by kernel_rfl) rfl rfl 60 _ _ (rdp2 a) ⟨fun _ => ⟨?_, ?_⟩, trivial⟩)
    · have hz' := or3 _ _ _ b1 b2 b3
      rw [decide_eq_false hz] at hz'
      simp only [hold_cons, hold_nil, and_true, hz', Int.toNat_natCast]
      generalize dvR 16513537 0 (limb a 3) = r3 at *
      generalize dvR 16513537 r3 (limb a 2) = r2 at *
      generalize dvR 16513537 r2 (limb a 1) = r1 at *
      generalize dvR 16513537 r1 (limb a 0) = r0 at *
      repeat' apply And.intro
      all_goals (intro _ _; first | exact True.intro | exact rfl | omega | (refine ⟨?_, ?_, ?_, ?_, ?_⟩ <;> first | exact True.intro | exact .inl True.intro | exact .inr True.intro | omega | exact rfl))
    · simp only [Int.toNat_natCast]
      rw [dv4 16513537 a ha]
theorem rdq_ok (a : Nat) (ha : a < top) (w : World) : Calls Try.prog 91 [nQ, el a].toArray w (fun E w' => ∃ v, E = .returned v ∧ Res.ok w w' (.v (el (fR 16521217 a))) v ∧ Below w.heap.size w w') := by
  have b0 := limb_lt a 0
  have b1 := limb_lt a 1
  have b2 := limb_lt a 2
  have b3 := limb_lt a 3
  have hlt : a % 16521217 < 16521217 := Nat.mod_lt _ (by omega)
  rw [fR_eq, el_small (a % 16521217) (by omega)]
  by_cases hz : limb a 1 = 0 ∧ limb a 2 = 0 ∧ limb a 3 = 0
  · have hA : a = limb a 0 := by
      have := nv_limb a
      rw [Nat.mod_eq_of_lt ha, hz.1, hz.2.1, hz.2.2] at this
      simp only [nv] at this
      omega
    refine con_end (calls_plain hm Try.func91 (by kernel_rfl) rfl rfl 60 _ _ (rdq1 a) ⟨fun _ => ⟨?_, ?_⟩, trivial⟩)
    · simp only [hold_cons, hold_nil, and_true, or3 _ _ _ b1 b2 b3]
      exact ⟨fun _ _ => trivial, fun _ _ => by omega, fun _ _ => by omega, fun _ _ => by omega, fun _ _ => decide_eq_true hz, fun _ _ => by omega, fun _ _ => by omega, fun _ _ => by omega⟩
    · rw [tmodq, ← hA]
  · have d3 : dvR 16521217 0 (limb a 3) < 16521217 := by rw [dvR_eq]; exact Nat.mod_lt _ (by omega)
    have d2 : dvR 16521217 (dvR 16521217 0 (limb a 3)) (limb a 2) < 16521217 := by rw [dvR_eq]; exact Nat.mod_lt _ (by omega)
    have d1 : dvR 16521217 (dvR 16521217 (dvR 16521217 0 (limb a 3)) (limb a 2)) (limb a 1) < 16521217 := by rw [dvR_eq]; exact Nat.mod_lt _ (by omega)
    refine con_end (calls_plain hm Try.func91 (by kernel_rfl) rfl rfl 60 _ _ (rdq2 a) ⟨fun _ => ⟨?_, ?_⟩, trivial⟩)
    · have hz' := or3 _ _ _ b1 b2 b3
      rw [decide_eq_false hz] at hz'
      simp only [hold_cons, hold_nil, and_true, hz', Int.toNat_natCast]
      generalize dvR 16521217 0 (limb a 3) = r3 at *
      generalize dvR 16521217 r3 (limb a 2) = r2 at *
      generalize dvR 16521217 r2 (limb a 1) = r1 at *
      generalize dvR 16521217 r1 (limb a 0) = r0 at *
      repeat' apply And.intro
      all_goals (intro _ _; first | exact True.intro | exact rfl | omega | (refine ⟨?_, ?_, ?_, ?_, ?_⟩ <;> first | exact True.intro | exact .inl True.intro | exact .inr True.intro | omega | exact rfl))
    · simp only [Int.toNat_natCast]
      rw [dv4 16521217 a ha]
noncomputable def gRed : List RV → Option (Res × Prop)
  | [.v (.agg ⟨[.int .u64 m, b1, b2, b3, b4, .int .u64 s, b6, b7, b8, b9, b10]⟩), .v y] => match unEl y with
    | some a => some (.v (el (fR s.toNat a)), (.agg ⟨[.int .u64 m, b1, b2, b3, b4, .int .u64 s, b6, b7, b8, b9, b10]⟩ = nP ∨ .agg ⟨[.int .u64 m, b1, b2, b3, b4, .int .u64 s, b6, b7, b8, b9, b10]⟩ = nQ) ∧ y = el a ∧ a < top)
    | _ => none
  | _ => none
theorem gRed_ok (rvs : List RV) (r : Res) (p : Prop) (vs : List Value) (w : World) (hg : gRed rvs = some (r, p)) (hp : p) (hv : RVs (wmem w) rvs vs) : Calls Try.prog 91 vs.toArray w (fun E w' => ∃ v, E = .returned v ∧ r.ok w w' v ∧ Below w.heap.size w w') := by
  unfold gRed at hg
  split at hg
  · split at hg
    · simp only [Option.some.injEq, Prod.mk.injEq] at hg
      obtain ⟨rfl, rfl⟩ := hg
      obtain ⟨h1, h2, h3⟩ := hp
      rw [rvs2 hv, h2]
      rcases h1 with h1 | h1
      · rw [h1]
        simp only [nP, Value.agg.injEq, Array.mk.injEq, List.cons.injEq, Value.int.injEq] at h1
        rw [h1.2.2.2.2.2.1.2]
        exact rdp_ok _ h3 w
      · rw [h1]
        simp only [nQ, Value.agg.injEq, Array.mk.injEq, List.cons.injEq, Value.int.injEq] at h1
        rw [h1.2.2.2.2.2.1.2]
        exact rdq_ok _ h3 w
    · cases hg
  · cases hg
noncomputable def L4a : Con Try.prog := L3.add 91 gRed gRed_ok
noncomputable def gOf : List RV → Option (Res × Prop)
  | [.v (.int .i64 0)] => some (.v (.tuple #[.agg (Array.mk [.int .u64 16513537, .int .u64 0, .int .u64 0, .int .u64 0, .int .i64 9, .int .u64 16513537, .int .u64 0, .int .u64 0, .int .u64 0, .int .u64 0, .int .u64 0]), .int .i64 0]), True)
  | [.v (.int .i64 1)] => some (.v (.tuple #[.agg (Array.mk [.int .u64 16521217, .int .u64 0, .int .u64 0, .int .u64 0, .int .i64 11, .int .u64 16521217, .int .u64 0, .int .u64 0, .int .u64 0, .int .u64 0, .int .u64 0]), .int .i64 0]), True)
  | _ => none
theorem gOf_ok (rvs : List RV) (r : Res) (p : Prop) (vs : List Value) (w : World) (hg : gOf rvs = some (r, p)) (_hp : p) (hv : RVs (wmem w) rvs vs) : Calls Try.prog 75 vs.toArray w (fun E w' => ∃ v, E = .returned v ∧ r.ok w w' v ∧ Below w.heap.size w w') := by
  unfold gOf at hg
  split at hg
  · simp only [Option.some.injEq, Prod.mk.injEq] at hg
    obtain ⟨rfl, rfl⟩ := hg
    rw [rvs1 hv]
    refine con_end (calls_plain hm Try.func75 (by kernel_rfl) rfl rfl 60 _ _ (of0 0) ⟨fun _ => ⟨?_, rfl⟩, trivial⟩)
    simp only [hold_cons, hold_nil, and_true]
    repeat' apply And.intro
    all_goals (intro _ _; first | exact trivial | omega)
  · simp only [Option.some.injEq, Prod.mk.injEq] at hg
    obtain ⟨rfl, rfl⟩ := hg
    rw [rvs1 hv]
    refine con_end (calls_plain hm Try.func75 (by kernel_rfl) rfl rfl 60 _ _ (of1 0) ⟨fun _ => ⟨?_, rfl⟩, trivial⟩)
    simp only [hold_cons, hold_nil, and_true]
    repeat' apply And.intro
    all_goals (intro _ _; first | exact trivial | omega)
  · cases hg
noncomputable def L4 : Con Try.prog := L4a.add 75 gOf gOf_ok
end Go.Proofs.Ytpghmnpbfaichaa

namespace Go.Pl
open Go.Sx
noncomputable def elN (n : Nat) : Nat := nv (Int.toNat (limb n 0 : Nat)) (Int.toNat (limb n 1 : Nat)) (Int.toNat (limb n 2 : Nat)) (Int.toNat (limb n 3 : Nat))
noncomputable def elL (n : Nat) : List Int := [((limb n 0 : Nat) : Int), ((limb n 1 : Nat) : Int), ((limb n 2 : Nat) : Int), ((limb n 3 : Nat) : Int)]
theorem elN_eq {n : Nat} (h : n < top) : elN n = n := by
  simp only [elN, Int.toNat_natCast]
  rw [nv_limb, Nat.mod_eq_of_lt h]
theorem elN_mod (n : Nat) : elN n = n % top := by
  simp only [elN, Int.toNat_natCast]
  rw [nv_limb]
end Go.Pl
