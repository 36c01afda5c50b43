/- Numbers of four words. -/
import Derived.Test.YtpghmnpbfaichaaSx20
namespace Go.Pl
open Go.Sx

noncomputable def adLo (x y c : Nat) : Nat := hide ((x + y + c) % 18446744073709551616)
noncomputable def adHi (x y c : Nat) : Nat := hide ((x + y + c) / 18446744073709551616)
noncomputable def sbLo (x y c : Nat) : Nat := hide ((x + 18446744073709551616 - y - c) % 18446744073709551616)
noncomputable def sbHi (x y c : Nat) : Nat := hide (if x < y + c then 1 else 0)
theorem adLo_eq (x y c : Nat) : adLo x y c = (x + y + c) % 18446744073709551616 := hide_eq _
theorem adHi_eq (x y c : Nat) : adHi x y c = (x + y + c) / 18446744073709551616 := hide_eq _
theorem sbLo_eq (x y c : Nat) : sbLo x y c = (x + 18446744073709551616 - y - c) % 18446744073709551616 := hide_eq _
theorem sbHi_eq (x y c : Nat) : sbHi x y c = if x < y + c then 1 else 0 := hide_eq _
theorem sbHi_le (x y c : Nat) : sbHi x y c ≤ 1 := by rw [sbHi_eq]; split <;> omega
noncomputable def el (n : Nat) : Value := .agg #[.int .u64 (limb n 0 : Nat), .int .u64 (limb n 1 : Nat), .int .u64 (limb n 2 : Nat), .int .u64 (limb n 3 : Nat)]
def nv (a b c d : Nat) : Nat := a + 18446744073709551616 * b + 340282366920938463463374607431768211456 * c + 6277101735386680763835789423207666416102355444464034512896 * d
def top : Nat := 115792089237316195423570985008687907853269984665640564039457584007913129639936
def unU : Value → Option Nat
  | .int _ x => some x.toNat
  | _ => none
def unEl : Value → Option Nat
  | .agg cs => match cs.toList with
    | [x, y, z, u] => match unU x, unU y, unU z, unU u with
      | some a, some b, some c, some d => some (nv a b c d)
      | _, _, _, _ => none
    | _ => none
  | _ => none

theorem limb0 (n : Nat) : limb n 0 = n % 18446744073709551616 := by simp [limb, hide_eq]
theorem limb1 (n : Nat) : limb n 1 = n / 18446744073709551616 % 18446744073709551616 := by simp [limb, hide_eq]
theorem limb2 (n : Nat) : limb n 2 = n / 340282366920938463463374607431768211456 % 18446744073709551616 := by simp [limb, hide_eq]
theorem limb3 (n : Nat) : limb n 3 = n / 6277101735386680763835789423207666416102355444464034512896 % 18446744073709551616 := by simp [limb, hide_eq]
theorem limb_lt (n i : Nat) : limb n i < 18446744073709551616 := by
  rw [limb, hide_eq]
  exact Nat.mod_lt _ (by omega)
theorem nv_limb (n : Nat) : nv (limb n 0) (limb n 1) (limb n 2) (limb n 3) = n % top := by
  simp only [nv, limb0, limb1, limb2, limb3, top]; omega
theorem nv_lt {a b c d : Nat} (ha : a < 18446744073709551616) (hb : b < 18446744073709551616) (hc : c < 18446744073709551616) (hd : d < 18446744073709551616) : nv a b c d < top := by
  simp only [nv, top]; omega
theorem limb_nv {a b c d : Nat} (ha : a < 18446744073709551616) (hb : b < 18446744073709551616) (hc : c < 18446744073709551616) (hd : d < 18446744073709551616) :
    limb (nv a b c d) 0 = a ∧ limb (nv a b c d) 1 = b ∧ limb (nv a b c d) 2 = c ∧ limb (nv a b c d) 3 = d := by
  simp only [nv, limb0, limb1, limb2, limb3]; omega
theorem el_nv {a b c d : Nat} (ha : a < 18446744073709551616) (hb : b < 18446744073709551616) (hc : c < 18446744073709551616) (hd : d < 18446744073709551616) :
    el (nv a b c d) = .agg #[.int .u64 (a : Nat), .int .u64 (b : Nat), .int .u64 (c : Nat), .int .u64 (d : Nat)] := by
  obtain ⟨h0, h1, h2, h3⟩ := limb_nv ha hb hc hd
  simp only [el, h0, h1, h2, h3]
theorem limb_mod (n : Nat) : limb (n % top) 0 = limb n 0 ∧ limb (n % top) 1 = limb n 1 ∧ limb (n % top) 2 = limb n 2 ∧ limb (n % top) 3 = limb n 3 := by
  simp only [limb0, limb1, limb2, limb3, top]; omega
theorem el_mod (n : Nat) : el (n % top) = el n := by
  obtain ⟨h0, h1, h2, h3⟩ := limb_mod n
  simp only [el, h0, h1, h2, h3]
theorem unEl_el (n : Nat) : unEl (el n) = some (n % top) := by
  rw [← nv_limb n]
  simp [unEl, el, unU]
theorem el_inj {a b : Nat} (ha : a < top) (hb : b < top) (h : el a = el b) : a = b := by
  have := congrArg unEl h
  rw [unEl_el, unEl_el, Nat.mod_eq_of_lt ha, Nat.mod_eq_of_lt hb] at this
  exact Option.some.inj this
theorem eq_of_limbs {a b : Nat} (ha : a < top) (hb : b < top) (h0 : limb a 0 = limb b 0) (h1 : limb a 1 = limb b 1) (h2 : limb a 2 = limb b 2) (h3 : limb a 3 = limb b 3) : a = b := by
  rw [← Nat.mod_eq_of_lt ha, ← Nat.mod_eq_of_lt hb, ← nv_limb a, ← nv_limb b, h0, h1, h2, h3]
end Go.Pl
