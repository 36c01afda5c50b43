/- Sums and products either way round: the numbers. -/
import Derived.Test.YtcipmpamhffclaaV6
namespace Go.Pl
noncomputable def remE (a : Nat) : Nat := hide (if a = 0 then 10 else 0)
theorem remE_zero : remE 0 = 10 := by rw [remE, hide_eq]; rfl
theorem remE_pos {a : Nat} (h : a ≠ 0) : remE a = 0 := by rw [remE, hide_eq, if_neg h]
end Go.Pl
