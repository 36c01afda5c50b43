/- Remainders: the inner loop, bit by bit. -/
import Derived.Test.YtcipmpamhffclaaW6
namespace Go.Pl
open Go.Sx
/-- A number's bit at a place. -/
noncomputable def bitOf (h n : Nat) : Nat := hide (h / 2 ^ n % 2)
theorem bitOf_eq (h n : Nat) : bitOf h n = h / 2 ^ n % 2 := hide_eq _
theorem bitOf_le (h n : Nat) : bitOf h n ≤ 1 := by rw [bitOf_eq]; omega
theorem limb_eq (h k : Nat) : limb h k = h / 2 ^ (64 * k) % 2 ^ 64 := by
  rw [limb, hide_eq, show (18446744073709551616 : Nat) = 2 ^ 64 from rfl, ← Nat.pow_mul]
/-- A bit of the word it lies in. -/
theorem bitOf_limb (h n : Nat) : limb h (n / 64) / 2 ^ (n % 64) % 2 = bitOf h n := by
  rw [limb_eq, bitOf_eq]
  have hlt : n % 64 < 64 := Nat.mod_lt _ (by omega)
  have e1 : h / 2 ^ (64 * (n / 64)) % 2 ^ 64 / 2 ^ (n % 64) % 2 = h / 2 ^ (64 * (n / 64)) / 2 ^ (n % 64) % 2 := by
    generalize h / 2 ^ (64 * (n / 64)) = x
    have hs : (2 : Nat) ^ 64 = 2 ^ (n % 64) * (2 * 2 ^ (63 - n % 64)) := by
      rw [show (2 : Nat) * 2 ^ (63 - n % 64) = 2 ^ (63 - n % 64 + 1) by rw [Nat.pow_succ, Nat.mul_comm], ← Nat.pow_add]
      congr 1
      omega
    rw [hs, Nat.mod_mul_right_div_self, Nat.mod_mul_right_mod]
  rw [e1, Nat.div_div_eq_div_mul, ← Nat.pow_add, Nat.div_add_mod]
end Go.Pl
namespace Go.Proofs.Ytcipmpamhffclaa
open Go.Sx Go.Pl Go.RowKit
/-- The words of a number, as cells. -/
noncomputable def ec (n : Nat) : List SV := [.v (.int .u64 (limb n 0 : Nat)), .v (.int .u64 (limb n 1 : Nat)), .v (.int .u64 (limb n 2 : Nat)), .v (.int .u64 (limb n 3 : Nat))]
noncomputable def stI (a b m h r : Nat) (j i : Int) : St :=
  ⟨[(11, .v (.int .i64 i)), (10, .p 5 0), (8, .p 4 0), (6, .p 3 0), (7, .v (.int .i64 0)), (5, .p 2 0), (22, .v (.int .i64 j)), (21, .agg (ec b ++ ec a))],
    [.cells (ec a) 24, .cells (ec b) 24, .cells (ec m) 24, .cells (ec 0) 24, .cells (ec r) 24, .cells (ec h) 24]⟩
end Go.Proofs.Ytcipmpamhffclaa
