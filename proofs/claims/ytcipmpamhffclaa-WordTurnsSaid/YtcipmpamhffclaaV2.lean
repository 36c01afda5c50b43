/- Products of numbers: states. -/
import Derived.Test.YtcipmpamhffclaaV1
namespace Go.Pl
/-- A product of words and two words more: the lower word, the upper word (as the code reckons them). -/
noncomputable def kLo (x y w : Nat) (c : Int) : Nat := adLo (adLo (mulLo x y) w 0) c.toNat 0
noncomputable def kHi (x y w : Nat) (c : Int) : Int :=
  IntKind.wrap .u64 (IntKind.wrap .u64 (((mulHi x y : Nat) : Int) + ((adHi (mulLo x y) w 0 : Nat) : Int)) + ((adHi (adLo (mulLo x y) w 0) c.toNat 0 : Nat) : Int))
theorem wrap64 (z : Int) : IntKind.wrap .u64 z = z % 18446744073709551616 := by
  simp [IntKind.wrap, IntKind.bits, IntKind.signed]
theorem kHi_nonneg (x y w : Nat) (c : Int) : 0 ≤ kHi x y w c := by
  rw [kHi, wrap64]; omega
theorem k_eq (x y w : Nat) (c : Int) (hx : x < 18446744073709551616) (hy : y < 18446744073709551616) (hw : w < 18446744073709551616) (h0 : 0 ≤ c) (hc : c < 18446744073709551616) :
    x * y + w + c.toNat = kLo x y w c + 18446744073709551616 * (kHi x y w c).toNat ∧ kLo x y w c < 18446744073709551616 ∧ kHi x y w c < 18446744073709551616 := by
  have h : x * y ≤ 18446744073709551615 * 18446744073709551615 := Nat.mul_le_mul (by omega) (by omega)
  rw [kHi, kLo, wrap64, wrap64, adLo_eq, adLo_eq, adHi_eq, adHi_eq, mulLo, mulHi, hide_eq, hide_eq]
  generalize x * y = p at *
  omega
end Go.Pl
namespace Go.Proofs.Ytcipmpamhffclaa
open Go.Sx Go.Pl Go.RowKit
def qM : List Nat := [0,0,1,0,1,1]
noncomputable def stM (a b : Nat) (i : Int) (w0 w1 w2 w3 w4 w5 w6 w7 : Nat) : St :=
  ⟨[(13, .v (.int .i64 i)), (6, .p 4 0), (5, .p 3 0), (4, .p 2 0), (3, .p 1 0), (2, .p 0 0)],
    [.cells (ec a) 24, .cells (ec b) 24, .cells (ec 0) 24, .cells (ec 0) 24, .cells [.v (.int .u64 (w0 : Int)), .v (.int .u64 (w1 : Int)), .v (.int .u64 (w2 : Int)), .v (.int .u64 (w3 : Int)), .v (.int .u64 (w4 : Int)), .v (.int .u64 (w5 : Int)), .v (.int .u64 (w6 : Int)), .v (.int .u64 (w7 : Int))] 48]⟩
end Go.Proofs.Ytcipmpamhffclaa
