/- The number of a text: the plain law. -/
import Derived.Test.YtcipmpamhffclaaT21
import Derived.Laws.RangeString
namespace Go.Pl
open Go.Sx
/-- A byte of a text. -/
def at8 (s : ByteArray) (i : Nat) : Nat := (s.get! i).toNat
theorem sbyte_at (s : ByteArray) (i : Nat) : sbyte s i = ((at8 s i : Nat) : Int) := by
  simp only [sbyte, at8]
  congr 2
  rcases s with ⟨d⟩
  simp only [ByteArray.get!]
  by_cases h : i < d.size
  · simp [h]
  · simp [h]
    rfl
theorem at8_lt (s : ByteArray) (i : Nat) : at8 s i < 256 := by
  simp only [at8]
  exact UInt8.toNat_lt _
/-- The digit of a rune. -/
def dgt (b c : Nat) : Option Nat :=
  if 48 ≤ c ∧ c ≤ 57 then some (c - 48)
  else if 65296 ≤ c ∧ c ≤ 65305 then some (c - 65296)
  else if b = 16 ∧ 97 ≤ c ∧ c ≤ 102 then some (c - 87)
  else if b = 16 ∧ 65 ≤ c ∧ c ≤ 70 then some (c - 55)
  else none
/-- The digit at a place, and how many bytes it has. -/
def dig (b : Nat) (s : ByteArray) (i : Nat) : Option (Nat × Nat) :=
  if 48 ≤ at8 s i ∧ at8 s i ≤ 57 then some (at8 s i - 48, 1)
  else if b = 16 ∧ 97 ≤ at8 s i ∧ at8 s i ≤ 102 then some (at8 s i - 87, 1)
  else if b = 16 ∧ 65 ≤ at8 s i ∧ at8 s i ≤ 70 then some (at8 s i - 55, 1)
  else if i + 2 < s.size ∧ at8 s i = 239 ∧ at8 s (i + 1) = 188 ∧ 144 ≤ at8 s (i + 2) ∧ at8 s (i + 2) ≤ 153 then some (at8 s (i + 2) - 144, 3)
  else none
theorem dgt_lt {b c d : Nat} (h : dgt b c = some d) : d < 16 := by
  unfold dgt at h
  repeat' split at h
  all_goals (try (simp only [Option.some.injEq] at h; omega))
  cases h
theorem decode_low (s : ByteArray) (i : Nat) (h : at8 s i < 128) : Utf8.decode s i = (at8 s i, 1) := by
  simp only [Utf8.decode, Nat.add_zero]
  simp only [at8] at h ⊢
  rw [if_pos h]
set_option maxRecDepth 100000 in
theorem decode_eq (s : ByteArray) (i : Nat) : Utf8.decode s i =
    if at8 s i < 128 then (at8 s i, 1)
    else if at8 s i / 32 = 6 ∧ i + 1 < s.size ∧ at8 s (i + 1) / 64 = 2 then
      (if 128 ≤ at8 s i % 32 * 64 + at8 s (i + 1) % 64 then (at8 s i % 32 * 64 + at8 s (i + 1) % 64, 2) else (65533, 1))
    else if (at8 s i / 16 = 14 ∧ i + 1 < s.size ∧ at8 s (i + 1) / 64 = 2) ∧ i + 2 < s.size ∧ at8 s (i + 2) / 64 = 2 then
      (if 2048 ≤ at8 s i % 16 * 4096 + at8 s (i + 1) % 64 * 64 + at8 s (i + 2) % 64 ∧ Utf8.valid ((at8 s i % 16 * 4096 + at8 s (i + 1) % 64 * 64 + at8 s (i + 2) % 64 : Nat) : Int) = true then (at8 s i % 16 * 4096 + at8 s (i + 1) % 64 * 64 + at8 s (i + 2) % 64, 3) else (65533, 1))
    else if ((at8 s i / 8 = 30 ∧ i + 1 < s.size ∧ at8 s (i + 1) / 64 = 2) ∧ i + 2 < s.size ∧ at8 s (i + 2) / 64 = 2) ∧ i + 3 < s.size ∧ at8 s (i + 3) / 64 = 2 then
      (if 65536 ≤ at8 s i % 8 * 262144 + at8 s (i + 1) % 64 * 4096 + at8 s (i + 2) % 64 * 64 + at8 s (i + 3) % 64 ∧ Utf8.valid ((at8 s i % 8 * 262144 + at8 s (i + 1) % 64 * 4096 + at8 s (i + 2) % 64 * 64 + at8 s (i + 3) % 64 : Nat) : Int) = true then (at8 s i % 8 * 262144 + at8 s (i + 1) % 64 * 4096 + at8 s (i + 2) % 64 * 64 + at8 s (i + 3) % 64, 4) else (65533, 1))
    else (65533, 1) := by
  have h : Utf8.decode s i =
    if at8 s (i + 0) < 128 then (at8 s (i + 0), 1)
    else if (at8 s (i + 0) / 32 == 6 && (decide (i + 1 < s.size) && at8 s (i + 1) / 64 == 2)) = true then
      (if at8 s (i + 0) % 32 * 64 + at8 s (i + 1) % 64 ≥ 128 then (at8 s (i + 0) % 32 * 64 + at8 s (i + 1) % 64, 2) else (65533, 1))
    else if ((at8 s (i + 0) / 16 == 14 && (decide (i + 1 < s.size) && at8 s (i + 1) / 64 == 2)) && (decide (i + 2 < s.size) && at8 s (i + 2) / 64 == 2)) = true then
      (if (decide (at8 s (i + 0) % 16 * 4096 + at8 s (i + 1) % 64 * 64 + at8 s (i + 2) % 64 ≥ 2048) && Utf8.valid ((at8 s (i + 0) % 16 * 4096 + at8 s (i + 1) % 64 * 64 + at8 s (i + 2) % 64 : Nat) : Int)) = true then (at8 s (i + 0) % 16 * 4096 + at8 s (i + 1) % 64 * 64 + at8 s (i + 2) % 64, 3) else (65533, 1))
    else if (((at8 s (i + 0) / 8 == 30 && (decide (i + 1 < s.size) && at8 s (i + 1) / 64 == 2)) && (decide (i + 2 < s.size) && at8 s (i + 2) / 64 == 2)) && (decide (i + 3 < s.size) && at8 s (i + 3) / 64 == 2)) = true then
      (if (decide (at8 s (i + 0) % 8 * 262144 + at8 s (i + 1) % 64 * 4096 + at8 s (i + 2) % 64 * 64 + at8 s (i + 3) % 64 ≥ 65536) && Utf8.valid ((at8 s (i + 0) % 8 * 262144 + at8 s (i + 1) % 64 * 4096 + at8 s (i + 2) % 64 * 64 + at8 s (i + 3) % 64 : Nat) : Int)) = true then (at8 s (i + 0) % 8 * 262144 + at8 s (i + 1) % 64 * 4096 + at8 s (i + 2) % 64 * 64 + at8 s (i + 3) % 64, 4) else (65533, 1))
    else (65533, 1) := rfl
  rw [h, Nat.add_zero]
  generalize at8 s i = x0, at8 s (i + 1) = x1, at8 s (i + 2) = x2, at8 s (i + 3) = x3, Utf8.valid = V
  simp only [Bool.and_eq_true, beq_iff_eq, decide_eq_true_eq, ge_iff_le]
set_option maxRecDepth 100000 in
/-- A rune is a digit just if a digit begins there. -/
theorem dig_dgt (b : Nat) (s : ByteArray) (i : Nat) : dig b s i = (dgt b (Utf8.decode s i).1).map fun d => (d, (Utf8.decode s i).2) := by
  by_cases hl : at8 s i < 128
  · rw [decode_low s i hl]
    simp only [dig, dgt]
    by_cases q1 : 48 ≤ at8 s i ∧ at8 s i ≤ 57
    · rw [if_pos q1, if_pos q1, Option.map_some]
    · rw [if_neg q1, if_neg q1, if_neg (c := 65296 ≤ at8 s i ∧ at8 s i ≤ 65305) (by omega)]
      by_cases q2 : b = 16 ∧ 97 ≤ at8 s i ∧ at8 s i ≤ 102
      · rw [if_pos q2, if_pos q2, Option.map_some]
      · rw [if_neg q2, if_neg q2]
        by_cases q3 : b = 16 ∧ 65 ≤ at8 s i ∧ at8 s i ≤ 70
        · rw [if_pos q3, if_pos q3, Option.map_some]
        · rw [if_neg q3, if_neg q3, if_neg (by omega), Option.map_none]
  · have hlt := at8_lt s i
    have h1 : dig b s i = if i + 2 < s.size ∧ at8 s i = 239 ∧ at8 s (i + 1) = 188 ∧ 144 ≤ at8 s (i + 2) ∧ at8 s (i + 2) ≤ 153 then some (at8 s (i + 2) - 144, 3) else none := by
      simp only [dig]
      rw [if_neg (by omega), if_neg (by omega), if_neg (by omega)]
    rw [h1]
    have a1 := at8_lt s (i + 1)
    have a2 := at8_lt s (i + 2)
    have a3 := at8_lt s (i + 3)
    rw [decode_eq]
    rw [if_neg hl]
    by_cases c1 : at8 s i / 32 = 6 ∧ i + 1 < s.size ∧ at8 s (i + 1) / 64 = 2
    · rw [if_pos c1, if_neg (by omega)]
      split <;> (simp only [dgt]; rw [if_neg (by omega), if_neg (by omega), if_neg (by omega), if_neg (by omega)]; rfl)
    · rw [if_neg c1]
      by_cases c2 : (at8 s i / 16 = 14 ∧ i + 1 < s.size ∧ at8 s (i + 1) / 64 = 2) ∧ i + 2 < s.size ∧ at8 s (i + 2) / 64 = 2
      · rw [if_pos c2]
        by_cases c3 : i + 2 < s.size ∧ at8 s i = 239 ∧ at8 s (i + 1) = 188 ∧ 144 ≤ at8 s (i + 2) ∧ at8 s (i + 2) ≤ 153
        · rw [if_pos c3]
          have hv : at8 s i % 16 * 4096 + at8 s (i + 1) % 64 * 64 + at8 s (i + 2) % 64 = 65152 + at8 s (i + 2) := by omega
          rw [hv, if_pos (by
            refine ⟨by omega, ?_⟩
            simp only [Utf8.valid, Bool.or_eq_true, Bool.and_eq_true, decide_eq_true_eq]
            omega)]
          simp only [dgt]
          rw [if_neg (by omega), if_pos (by omega), Option.map_some]
          have hw : at8 s (i + 2) - 144 = 65152 + at8 s (i + 2) - 65296 := by omega
          rw [hw]
        · rw [if_neg c3]
          split <;> (simp only [dgt]; rw [if_neg (by omega), if_neg (by omega), if_neg (by omega), if_neg (by omega)]; rfl)
      · rw [if_neg c2, if_neg (by omega)]
        by_cases c4 : ((at8 s i / 8 = 30 ∧ i + 1 < s.size ∧ at8 s (i + 1) / 64 = 2) ∧ i + 2 < s.size ∧ at8 s (i + 2) / 64 = 2) ∧ i + 3 < s.size ∧ at8 s (i + 3) / 64 = 2
        · rw [if_pos c4]
          split
          · rename_i hh
            simp only [dgt]; rw [if_neg (by omega), if_neg (by omega), if_neg (by omega), if_neg (by omega)]; rfl
          · simp only [dgt]; rw [if_neg (by omega), if_neg (by omega), if_neg (by omega), if_neg (by omega)]; rfl
        · rw [if_neg c4]
          simp only [dgt]; rw [if_neg (by omega), if_neg (by omega), if_neg (by omega), if_neg (by omega)]; rfl
theorem decode_stroke (s : ByteArray) (i : Nat) : (Utf8.decode s i).1 = 95 ↔ at8 s i = 95 := by
  by_cases hl : at8 s i < 128
  · rw [decode_low s i hl]
  · have a1 := at8_lt s (i + 1)
    have a2 := at8_lt s (i + 2)
    have a3 := at8_lt s (i + 3)
    constructor
    · intro h
      exfalso
      rw [decode_eq, if_neg hl] at h
      repeat' split at h
      all_goals (simp only at h; omega)
    · intro h; omega
/-- The number of a text from a place on: the number so far, whether no digit was just before, whether it is too great. -/
def prs (b : Nat) (s : ByteArray) : Nat → Nat → Nat → Bool → Bool → Nat × Nat
  | 0, _, _, _, _ => (0, 11)
  | k + 1, i, a, z, g =>
    if s.size ≤ i then (if z then (0, 11) else if g then (0, 12) else (a, 0))
    else if at8 s i = 95 then (if z then (0, 11) else prs b s k (i + 1) a true g)
    else match dig b s i with
      | none => (0, 11)
      | some (d, n) => prs b s k (i + n) ((a * b + d) % top) false (g || decide (top ≤ a * b + d))
end Go.Pl

namespace Go.Pl
open Go.Sx
theorem g_eq (x y c : Nat) (hx : x < 18446744073709551616) (hy : y < 18446744073709551616) (hc : c < 18446744073709551616) :
    ∃ (l : Nat) (h : Nat), l = adLo (mulLo x y) c 0 ∧ ((h : Nat) : Int) = IntKind.wrap .u64 (((mulHi x y : Nat) : Int) + ((adHi (mulLo x y) c 0 : Nat) : Int)) ∧ l < 18446744073709551616 ∧ h < 18446744073709551616 ∧
      x * y + c = l + 18446744073709551616 * h := by
  have h : x * y ≤ 18446744073709551615 * 18446744073709551615 := Nat.mul_le_mul (by omega) (by omega)
  have hn : 0 ≤ IntKind.wrap .u64 (((mulHi x y : Nat) : Int) + ((adHi (mulLo x y) c 0 : Nat) : Int)) := by rw [Go.Pl.wrap64]; omega
  refine ⟨_, _, rfl, Int.toNat_of_nonneg hn, ?_⟩
  rw [Go.Pl.wrap64, adLo_eq, adHi_eq, mulLo, mulHi, hide_eq, hide_eq]
  generalize x * y = p at *
  omega
end Go.Pl
namespace Go.Proofs.Ytcipmpamhffclaa
open Go.Sx Go.Pl Go.RowKit
theorem grow_num (a y d : Nat) (ha : a < top) (hy : y < 18446744073709551616) (hd : d < 18446744073709551616) :
    ∃ l0 l1 l2 l3 c1 c2 c3 c4 : Nat,
      l0 = adLo (mulLo (limb a 0) y) d 0 ∧ ((c1 : Nat) : Int) = IntKind.wrap .u64 (((mulHi (limb a 0) y : Nat) : Int) + ((adHi (mulLo (limb a 0) y) d 0 : Nat) : Int)) ∧
      l1 = adLo (mulLo (limb a 1) y) c1 0 ∧ ((c2 : Nat) : Int) = IntKind.wrap .u64 (((mulHi (limb a 1) y : Nat) : Int) + ((adHi (mulLo (limb a 1) y) c1 0 : Nat) : Int)) ∧
      l2 = adLo (mulLo (limb a 2) y) c2 0 ∧ ((c3 : Nat) : Int) = IntKind.wrap .u64 (((mulHi (limb a 2) y : Nat) : Int) + ((adHi (mulLo (limb a 2) y) c2 0 : Nat) : Int)) ∧
      l3 = adLo (mulLo (limb a 3) y) c3 0 ∧ ((c4 : Nat) : Int) = IntKind.wrap .u64 (((mulHi (limb a 3) y : Nat) : Int) + ((adHi (mulLo (limb a 3) y) c3 0 : Nat) : Int)) ∧
      (l0 < 18446744073709551616 ∧ l1 < 18446744073709551616 ∧ l2 < 18446744073709551616 ∧ l3 < 18446744073709551616) ∧ a * y + d = nv l0 l1 l2 l3 + top * c4 := by
  have a0 := limb_lt a 0; have a1 := limb_lt a 1; have a2 := limb_lt a 2; have a3 := limb_lt a 3
  obtain ⟨l0, c1, e0, f0, u0, v0, w0⟩ := g_eq (limb a 0) y d a0 hy hd
  obtain ⟨l1, c2, e1, f1, u1, v1, w1⟩ := g_eq (limb a 1) y c1 a1 hy v0
  obtain ⟨l2, c3, e2, f2, u2, v2, w2⟩ := g_eq (limb a 2) y c2 a2 hy v1
  obtain ⟨l3, c4, e3, f3, u3, v3, w3⟩ := g_eq (limb a 3) y c3 a3 hy v2
  refine ⟨l0, l1, l2, l3, c1, c2, c3, c4, e0, f0, e1, f1, e2, f2, e3, f3, ⟨u0, u1, u2, u3⟩, ?_⟩
  have e3 : a * y = nv (limb a 0) (limb a 1) (limb a 2) (limb a 3) * y := congrArg (· * y) (nv_self a ha).symm
  rw [e3, Go.Pl.nv_mul]
  clear e0 f0 e1 f1 e2 f2 e3 f3 ha
  generalize limb a 0 * y = P0 at *
  generalize limb a 1 * y = P1 at *
  generalize limb a 2 * y = P2 at *
  generalize limb a 3 * y = P3 at *
  simp only [nv, top] at *
  omega
theorem run41 (a d : Nat) (y : Nat) : (((xgo Try.prog X (bodyOf Try.f41) 38 TH [([0,1,0,1],5)] 100 [Dec.t, Dec.t, Dec.t, Dec.t, Dec.f] (Tree.nil) [.at []] ⟨argsTm 0 [el a, .int .u64 (y : Int), .int .u64 (d : Int)], []⟩ [] []).bind (ends Try.prog Try.f41.results.toList)).bind plainE) =
  some [EndP.mk [] [fun _ => true = true,
    fun _ => (0 : Int) ≤ (0 : Int) ∧ (0 : Int) < (4 : Int),
    fun _ => Value.int IntKind.u64 (↑(limb a (0 : Nat)) : Int) = Value.int IntKind.u64 (↑(Int.toNat (↑(limb a (0 : Nat)) : Int)) : Int) ∧ Value.int IntKind.u64 (↑y : Int) = Value.int IntKind.u64 (↑(Int.toNat (↑y : Int)) : Int) ∧ Int.toNat (↑(limb a (0 : Nat)) : Int) < (18446744073709551616 : Nat) ∧ Int.toNat (↑y : Int) < (18446744073709551616 : Nat),
    fun _ => (0 : Int) ≤ (↑(mulLo (Int.toNat (↑(limb a (0 : Nat)) : Int)) (Int.toNat (↑y : Int))) : Int) ∧ (0 : Int) ≤ (↑d : Int) ∧ (0 : Int) ≤ (0 : Int) ∧ (0 : Nat) ≤ (1 : Nat),
    fun _ => (0 : Int) ≤ (0 : Int) ∧ (0 : Int) < (4 : Int),
    fun _ => (0 : Nat) + (1 : Nat) ≤ (4 : Nat),
    fun _ => true = true,
    fun _ => (0 : Int) ≤ (1 : Int) ∧ (1 : Int) < (4 : Int),
    fun _ => Value.int IntKind.u64 (↑(limb a (1 : Nat)) : Int) = Value.int IntKind.u64 (↑(Int.toNat (↑(limb a (1 : Nat)) : Int)) : Int) ∧ Value.int IntKind.u64 (↑y : Int) = Value.int IntKind.u64 (↑(Int.toNat (↑y : Int)) : Int) ∧ Int.toNat (↑(limb a (1 : Nat)) : Int) < (18446744073709551616 : Nat) ∧ Int.toNat (↑y : Int) < (18446744073709551616 : Nat),
    fun _ => (0 : Int) ≤ (↑(mulLo (Int.toNat (↑(limb a (1 : Nat)) : Int)) (Int.toNat (↑y : Int))) : Int) ∧ (0 : Int) ≤ IntKind.wrap IntKind.u64 ((↑(mulHi (Int.toNat (↑(limb a (0 : Nat)) : Int)) (Int.toNat (↑y : Int))) : Int) + (↑(adHi (Int.toNat (↑(mulLo (Int.toNat (↑(limb a (0 : Nat)) : Int)) (Int.toNat (↑y : Int))) : Int)) (Int.toNat (↑d : Int)) (0 : Nat)) : Int)) ∧ (0 : Int) ≤ (0 : Int) ∧ (0 : Nat) ≤ (1 : Nat),
    fun _ => (0 : Int) ≤ (1 : Int) ∧ (1 : Int) < (4 : Int),
    fun _ => (1 : Nat) + (1 : Nat) ≤ (4 : Nat),
    fun _ => true = true,
    fun _ => (0 : Int) ≤ (2 : Int) ∧ (2 : Int) < (4 : Int),
    fun _ => Value.int IntKind.u64 (↑(limb a (2 : Nat)) : Int) = Value.int IntKind.u64 (↑(Int.toNat (↑(limb a (2 : Nat)) : Int)) : Int) ∧ Value.int IntKind.u64 (↑y : Int) = Value.int IntKind.u64 (↑(Int.toNat (↑y : Int)) : Int) ∧ Int.toNat (↑(limb a (2 : Nat)) : Int) < (18446744073709551616 : Nat) ∧ Int.toNat (↑y : Int) < (18446744073709551616 : Nat),
    fun _ => (0 : Int) ≤ (↑(mulLo (Int.toNat (↑(limb a (2 : Nat)) : Int)) (Int.toNat (↑y : Int))) : Int) ∧ (0 : Int) ≤ IntKind.wrap IntKind.u64 ((↑(mulHi (Int.toNat (↑(limb a (1 : Nat)) : Int)) (Int.toNat (↑y : Int))) : Int) + (↑(adHi (Int.toNat (↑(mulLo (Int.toNat (↑(limb a (1 : Nat)) : Int)) (Int.toNat (↑y : Int))) : Int)) (Int.toNat (IntKind.wrap IntKind.u64 ((↑(mulHi (Int.toNat (↑(limb a (0 : Nat)) : Int)) (Int.toNat (↑y : Int))) : Int) + (↑(adHi (Int.toNat (↑(mulLo (Int.toNat (↑(limb a (0 : Nat)) : Int)) (Int.toNat (↑y : Int))) : Int)) (Int.toNat (↑d : Int)) (0 : Nat)) : Int)))) (0 : Nat)) : Int)) ∧ (0 : Int) ≤ (0 : Int) ∧ (0 : Nat) ≤ (1 : Nat),
    fun _ => (0 : Int) ≤ (2 : Int) ∧ (2 : Int) < (4 : Int),
    fun _ => (2 : Nat) + (1 : Nat) ≤ (4 : Nat),
    fun _ => true = true,
    fun _ => (0 : Int) ≤ (3 : Int) ∧ (3 : Int) < (4 : Int),
    fun _ => Value.int IntKind.u64 (↑(limb a (3 : Nat)) : Int) = Value.int IntKind.u64 (↑(Int.toNat (↑(limb a (3 : Nat)) : Int)) : Int) ∧ Value.int IntKind.u64 (↑y : Int) = Value.int IntKind.u64 (↑(Int.toNat (↑y : Int)) : Int) ∧ Int.toNat (↑(limb a (3 : Nat)) : Int) < (18446744073709551616 : Nat) ∧ Int.toNat (↑y : Int) < (18446744073709551616 : Nat),
    fun _ => (0 : Int) ≤ (↑(mulLo (Int.toNat (↑(limb a (3 : Nat)) : Int)) (Int.toNat (↑y : Int))) : Int) ∧ (0 : Int) ≤ IntKind.wrap IntKind.u64 ((↑(mulHi (Int.toNat (↑(limb a (2 : Nat)) : Int)) (Int.toNat (↑y : Int))) : Int) + (↑(adHi (Int.toNat (↑(mulLo (Int.toNat (↑(limb a (2 : Nat)) : Int)) (Int.toNat (↑y : Int))) : Int)) (Int.toNat (IntKind.wrap IntKind.u64 ((↑(mulHi (Int.toNat (↑(limb a (1 : Nat)) : Int)) (Int.toNat (↑y : Int))) : Int) + (↑(adHi (Int.toNat (↑(mulLo (Int.toNat (↑(limb a (1 : Nat)) : Int)) (Int.toNat (↑y : Int))) : Int)) (Int.toNat (IntKind.wrap IntKind.u64 ((↑(mulHi (Int.toNat (↑(limb a (0 : Nat)) : Int)) (Int.toNat (↑y : Int))) : Int) + (↑(adHi (Int.toNat (↑(mulLo (Int.toNat (↑(limb a (0 : Nat)) : Int)) (Int.toNat (↑y : Int))) : Int)) (Int.toNat (↑d : Int)) (0 : Nat)) : Int)))) (0 : Nat)) : Int)))) (0 : Nat)) : Int)) ∧ (0 : Int) ≤ (0 : Int) ∧ (0 : Nat) ≤ (1 : Nat),
    fun _ => (0 : Int) ≤ (3 : Int) ∧ (3 : Int) < (4 : Int),
    fun _ => (3 : Nat) + (1 : Nat) ≤ (4 : Nat),
    fun _ => false = false,
    fun _ => (0 : Nat) + (4 : Nat) ≤ (4 : Nat)] (Res.v (Value.tuple (Array.mk [Value.agg (Array.mk [Value.int IntKind.u64 (↑(adLo (Int.toNat (↑(mulLo (Int.toNat (↑(limb a (0 : Nat)) : Int)) (Int.toNat (↑y : Int))) : Int)) (Int.toNat (↑d : Int)) (0 : Nat)) : Int), Value.int IntKind.u64 (↑(adLo (Int.toNat (↑(mulLo (Int.toNat (↑(limb a (1 : Nat)) : Int)) (Int.toNat (↑y : Int))) : Int)) (Int.toNat (IntKind.wrap IntKind.u64 ((↑(mulHi (Int.toNat (↑(limb a (0 : Nat)) : Int)) (Int.toNat (↑y : Int))) : Int) + (↑(adHi (Int.toNat (↑(mulLo (Int.toNat (↑(limb a (0 : Nat)) : Int)) (Int.toNat (↑y : Int))) : Int)) (Int.toNat (↑d : Int)) (0 : Nat)) : Int)))) (0 : Nat)) : Int), Value.int IntKind.u64 (↑(adLo (Int.toNat (↑(mulLo (Int.toNat (↑(limb a (2 : Nat)) : Int)) (Int.toNat (↑y : Int))) : Int)) (Int.toNat (IntKind.wrap IntKind.u64 ((↑(mulHi (Int.toNat (↑(limb a (1 : Nat)) : Int)) (Int.toNat (↑y : Int))) : Int) + (↑(adHi (Int.toNat (↑(mulLo (Int.toNat (↑(limb a (1 : Nat)) : Int)) (Int.toNat (↑y : Int))) : Int)) (Int.toNat (IntKind.wrap IntKind.u64 ((↑(mulHi (Int.toNat (↑(limb a (0 : Nat)) : Int)) (Int.toNat (↑y : Int))) : Int) + (↑(adHi (Int.toNat (↑(mulLo (Int.toNat (↑(limb a (0 : Nat)) : Int)) (Int.toNat (↑y : Int))) : Int)) (Int.toNat (↑d : Int)) (0 : Nat)) : Int)))) (0 : Nat)) : Int)))) (0 : Nat)) : Int), Value.int IntKind.u64 (↑(adLo (Int.toNat (↑(mulLo (Int.toNat (↑(limb a (3 : Nat)) : Int)) (Int.toNat (↑y : Int))) : Int)) (Int.toNat (IntKind.wrap IntKind.u64 ((↑(mulHi (Int.toNat (↑(limb a (2 : Nat)) : Int)) (Int.toNat (↑y : Int))) : Int) + (↑(adHi (Int.toNat (↑(mulLo (Int.toNat (↑(limb a (2 : Nat)) : Int)) (Int.toNat (↑y : Int))) : Int)) (Int.toNat (IntKind.wrap IntKind.u64 ((↑(mulHi (Int.toNat (↑(limb a (1 : Nat)) : Int)) (Int.toNat (↑y : Int))) : Int) + (↑(adHi (Int.toNat (↑(mulLo (Int.toNat (↑(limb a (1 : Nat)) : Int)) (Int.toNat (↑y : Int))) : Int)) (Int.toNat (IntKind.wrap IntKind.u64 ((↑(mulHi (Int.toNat (↑(limb a (0 : Nat)) : Int)) (Int.toNat (↑y : Int))) : Int) + (↑(adHi (Int.toNat (↑(mulLo (Int.toNat (↑(limb a (0 : Nat)) : Int)) (Int.toNat (↑y : Int))) : Int)) (Int.toNat (↑d : Int)) (0 : Nat)) : Int)))) (0 : Nat)) : Int)))) (0 : Nat)) : Int)))) (0 : Nat)) : Int)]), Value.bool !IntKind.wrap IntKind.u64 ((↑(mulHi (Int.toNat (↑(limb a (3 : Nat)) : Int)) (Int.toNat (↑y : Int))) : Int) + (↑(adHi (Int.toNat (↑(mulLo (Int.toNat (↑(limb a (3 : Nat)) : Int)) (Int.toNat (↑y : Int))) : Int)) (Int.toNat (IntKind.wrap IntKind.u64 ((↑(mulHi (Int.toNat (↑(limb a (2 : Nat)) : Int)) (Int.toNat (↑y : Int))) : Int) + (↑(adHi (Int.toNat (↑(mulLo (Int.toNat (↑(limb a (2 : Nat)) : Int)) (Int.toNat (↑y : Int))) : Int)) (Int.toNat (IntKind.wrap IntKind.u64 ((↑(mulHi (Int.toNat (↑(limb a (1 : Nat)) : Int)) (Int.toNat (↑y : Int))) : Int) + (↑(adHi (Int.toNat (↑(mulLo (Int.toNat (↑(limb a (1 : Nat)) : Int)) (Int.toNat (↑y : Int))) : Int)) (Int.toNat (IntKind.wrap IntKind.u64 ((↑(mulHi (Int.toNat (↑(limb a (0 : Nat)) : Int)) (Int.toNat (↑y : Int))) : Int) + (↑(adHi (Int.toNat (↑(mulLo (Int.toNat (↑(limb a (0 : Nat)) : Int)) (Int.toNat (↑y : Int))) : Int)) (Int.toNat (↑d : Int)) (0 : Nat)) : Int)))) (0 : Nat)) : Int)))) (0 : Nat)) : Int)))) (0 : Nat)) : Int)) == (0 : Int)])))]
  := by kernel_rfl


theorem grow_ok (a y d : Nat) (ha : a < top) (hy : y < 18446744073709551616) (hd : d < 18446744073709551616) (w : World) : Calls Try.prog 41 [el a, .int .u64 (y : Int), .int .u64 (d : Int)].toArray w (fun E w' => ∃ v, E = .returned v ∧ Res.ok w w' (.v (.tuple #[el ((a * y + d) % top), .bool (decide (top ≤ a * y + d))])) v ∧ Below w.heap.size w w') := by
  obtain ⟨l0, l1, l2, l3, c1, c2, c3, c4, e0, f0, e1, f1, e2, f2, e3, f3, ⟨u0, u1, u2, u3⟩, E⟩ := grow_num a y d ha hy hd
  have a0 := limb_lt a 0; have a1 := limb_lt a 1; have a2 := limb_lt a 2; have a3 := limb_lt a 3
  have hlo := nv_lt u0 u1 u2 u3
  have h1 : (a * y + d) % top = nv l0 l1 l2 l3 := by rw [E, Nat.add_mul_mod_self_left, Nat.mod_eq_of_lt hlo]
  have h2 : (top ≤ a * y + d) ↔ c4 ≠ 0 := by
    rw [E]
    generalize nv l0 l1 l2 l3 = n at hlo
    simp only [top] at hlo ⊢
    omega
  refine con_end (calls_plain hm Try.func41 (by kernel_rfl) rfl rfl 100 _ _ (run41 a d y) ⟨fun _ => ⟨?_, ?_⟩, trivial⟩)
  · simp only [hold_cons, hold_nil, and_true, Int.toNat_natCast, ← f0, ← f1, ← f2]
    repeat' apply And.intro
    all_goals (intro _ _; first | exact True.intro | omega | exact ⟨trivial, trivial, by assumption, hy⟩ | exact ⟨by omega, by omega⟩ | exact ⟨by omega, by omega, by omega, by omega⟩ | (simp; done))
  · simp only [Int.toNat_natCast, ← f0, ← f1, ← f2, ← f3, ← e0, ← e1, ← e2, ← e3]
    rw [h1, ← el_nv u0 u1 u2 u3]
    show Res.v (Value.tuple #[_, Value.bool _]) = Res.v (Value.tuple #[_, Value.bool _])
    have h3 : (!(((c4 : Nat) : Int) == (0 : Int))) = decide (top ≤ a * y + d) := by
      rw [Bool.eq_iff_iff, decide_eq_true_iff, h2]
      simp
    rw [h3]
noncomputable def gGrow : List RV → Option (Res × Prop)
  | [.v x, .v (.int .u64 y), .v (.int .u64 d)] => match unEl x with
    | some a => some (.v (.tuple #[el ((a * y.toNat + d.toNat) % top), .bool (decide (top ≤ a * y.toNat + d.toNat))]), x = el a ∧ a < top ∧ y = (y.toNat : Int) ∧ d = (d.toNat : Int) ∧ y.toNat < 18446744073709551616 ∧ d.toNat < 18446744073709551616)
    | _ => none
  | _ => none
theorem gGrow_ok (rvs : List RV) (r : Res) (p : Prop) (vs : List Value) (w : World) (hg : gGrow rvs = some (r, p)) (hp : p) (hv : RVs (wmem w) rvs vs) : Calls Try.prog 41 vs.toArray w (fun E w' => ∃ v, E = .returned v ∧ r.ok w w' v ∧ Below w.heap.size w w') := by
  unfold gGrow at hg
  split at hg
  · rename_i x y d
    split at hg
    · simp only [Option.some.injEq, Prod.mk.injEq] at hg
      obtain ⟨rfl, rfl⟩ := hg
      obtain ⟨h1, h2, h3, h4, h5, h6⟩ := hp
      rw [rvs3 hv, h1]
      have := grow_ok _ _ _ h2 h5 h6 w
      rw [← h3, ← h4] at this
      exact this
    · cases hg
  · cases hg
end Go.Proofs.Ytcipmpamhffclaa

namespace Go.Pl
open Go.Sx
noncomputable def dgtV (y c : Nat) : Nat := hide ((dgt y c).getD 0)
theorem dgtV_eq (y c : Nat) : dgtV y c = (dgt y c).getD 0 := hide_eq _
/-- A truth that the kernel does not look into. -/
noncomputable def hidQ (a : Bool) : Bool := Classical.choose (⟨a, rfl⟩ : ∃ x : Bool, x = a)
theorem hidQ_eq (a : Bool) : hidQ a = a := Classical.choose_spec (⟨a, rfl⟩ : ∃ x : Bool, x = a)
noncomputable def dgtB (y c : Nat) : Bool := hidQ (dgt y c).isSome
theorem dgtB_eq (y c : Nat) : dgtB y c = (dgt y c).isSome := hidQ_eq _
end Go.Pl
namespace Go.Proofs.Ytcipmpamhffclaa
open Go.Sx Go.Pl Go.RowKit
theorem run40a (c y : Nat) : (((xgo Try.prog X (bodyOf Try.f40) 56 C0 [] 60 [.f, .f, .f, .f, .t, .f, .f, .t, .f, .f] (.nil) [.at []] ⟨argsTm 0 [.int .i32 (c : Int), .int .u64 (y : Int)], []⟩ [] []).bind (ends Try.prog Try.f40.results.toList)).bind plainE) =
  some [EndP.mk [] [fun _ => decide ((48 : Int) ≤ (↑c : Int)) = false,
    fun _ => false = false,
    fun _ => decide ((65296 : Int) ≤ (↑c : Int)) = false,
    fun _ => false = false,
    fun _ => ((↑y : Int) == (16 : Int)) = true,
    fun _ => decide ((97 : Int) ≤ (↑c : Int)) = false,
    fun _ => false = false,
    fun _ => ((↑y : Int) == (16 : Int)) = true,
    fun _ => decide ((65 : Int) ≤ (↑c : Int)) = false,
    fun _ => false = false] (Res.v (Value.tuple (Array.mk [Value.int IntKind.u64 (0 : Int), Value.bool false])))]
  := by kernel_rfl

theorem run40b (c y : Nat) : (((xgo Try.prog X (bodyOf Try.f40) 56 C0 [] 60 [.t, .t] (.nil) [.at []] ⟨argsTm 0 [.int .i32 (c : Int), .int .u64 (y : Int)], []⟩ [] []).bind (ends Try.prog Try.f40.results.toList)).bind plainE) =
  some [EndP.mk [] [fun _ => decide ((48 : Int) ≤ (↑c : Int)) = true,
    fun _ => decide ((↑c : Int) ≤ (57 : Int)) = true] (Res.v (Value.tuple (Array.mk [Value.int IntKind.u64 (IntKind.wrap IntKind.u64 (IntKind.wrap IntKind.i32 ((↑c : Int) - (48 : Int)))), Value.bool true])))]
  := by kernel_rfl

theorem run40c (c y : Nat) : (((xgo Try.prog X (bodyOf Try.f40) 56 C0 [] 60 [.t, .f, .f, .f, .t, .f, .f, .t, .f, .f] (.nil) [.at []] ⟨argsTm 0 [.int .i32 (c : Int), .int .u64 (y : Int)], []⟩ [] []).bind (ends Try.prog Try.f40.results.toList)).bind plainE) =
  some [EndP.mk [] [fun _ => decide ((48 : Int) ≤ (↑c : Int)) = true,
    fun _ => decide ((↑c : Int) ≤ (57 : Int)) = false,
    fun _ => decide ((65296 : Int) ≤ (↑c : Int)) = false,
    fun _ => false = false,
    fun _ => ((↑y : Int) == (16 : Int)) = true,
    fun _ => decide ((97 : Int) ≤ (↑c : Int)) = false,
    fun _ => false = false,
    fun _ => ((↑y : Int) == (16 : Int)) = true,
    fun _ => decide ((65 : Int) ≤ (↑c : Int)) = false,
    fun _ => false = false] (Res.v (Value.tuple (Array.mk [Value.int IntKind.u64 (0 : Int), Value.bool false])))]
  := by kernel_rfl

theorem run40d (c y : Nat) : (((xgo Try.prog X (bodyOf Try.f40) 56 C0 [] 60 [.t, .f, .f, .f, .t, .f, .f, .t, .t, .t] (.nil) [.at []] ⟨argsTm 0 [.int .i32 (c : Int), .int .u64 (y : Int)], []⟩ [] []).bind (ends Try.prog Try.f40.results.toList)).bind plainE) =
  some [EndP.mk [] [fun _ => decide ((48 : Int) ≤ (↑c : Int)) = true,
    fun _ => decide ((↑c : Int) ≤ (57 : Int)) = false,
    fun _ => decide ((65296 : Int) ≤ (↑c : Int)) = false,
    fun _ => false = false,
    fun _ => ((↑y : Int) == (16 : Int)) = true,
    fun _ => decide ((97 : Int) ≤ (↑c : Int)) = false,
    fun _ => false = false,
    fun _ => ((↑y : Int) == (16 : Int)) = true,
    fun _ => decide ((65 : Int) ≤ (↑c : Int)) = true,
    fun _ => decide ((↑c : Int) ≤ (70 : Int)) = true] (Res.v (Value.tuple (Array.mk [Value.int IntKind.u64 (IntKind.wrap IntKind.u64 (IntKind.wrap IntKind.u64 (IntKind.wrap IntKind.i32 ((↑c : Int) - (65 : Int))) + (10 : Int))), Value.bool true])))]
  := by kernel_rfl

theorem run40e (c y : Nat) : (((xgo Try.prog X (bodyOf Try.f40) 56 C0 [] 60 [.t, .f, .f, .f, .t, .f, .f, .t, .t, .f] (.nil) [.at []] ⟨argsTm 0 [.int .i32 (c : Int), .int .u64 (y : Int)], []⟩ [] []).bind (ends Try.prog Try.f40.results.toList)).bind plainE) =
  some [EndP.mk [] [fun _ => decide ((48 : Int) ≤ (↑c : Int)) = true,
    fun _ => decide ((↑c : Int) ≤ (57 : Int)) = false,
    fun _ => decide ((65296 : Int) ≤ (↑c : Int)) = false,
    fun _ => false = false,
    fun _ => ((↑y : Int) == (16 : Int)) = true,
    fun _ => decide ((97 : Int) ≤ (↑c : Int)) = false,
    fun _ => false = false,
    fun _ => ((↑y : Int) == (16 : Int)) = true,
    fun _ => decide ((65 : Int) ≤ (↑c : Int)) = true,
    fun _ => decide ((↑c : Int) ≤ (70 : Int)) = false] (Res.v (Value.tuple (Array.mk [Value.int IntKind.u64 (0 : Int), Value.bool false])))]
  := by kernel_rfl

theorem run40f (c y : Nat) : (((xgo Try.prog X (bodyOf Try.f40) 56 C0 [] 60 [.t, .f, .f, .f, .t, .t, .t] (.nil) [.at []] ⟨argsTm 0 [.int .i32 (c : Int), .int .u64 (y : Int)], []⟩ [] []).bind (ends Try.prog Try.f40.results.toList)).bind plainE) =
  some [EndP.mk [] [fun _ => decide ((48 : Int) ≤ (↑c : Int)) = true,
    fun _ => decide ((↑c : Int) ≤ (57 : Int)) = false,
    fun _ => decide ((65296 : Int) ≤ (↑c : Int)) = false,
    fun _ => false = false,
    fun _ => ((↑y : Int) == (16 : Int)) = true,
    fun _ => decide ((97 : Int) ≤ (↑c : Int)) = true,
    fun _ => decide ((↑c : Int) ≤ (102 : Int)) = true] (Res.v (Value.tuple (Array.mk [Value.int IntKind.u64 (IntKind.wrap IntKind.u64 (IntKind.wrap IntKind.u64 (IntKind.wrap IntKind.i32 ((↑c : Int) - (97 : Int))) + (10 : Int))), Value.bool true])))]
  := by kernel_rfl

theorem run40g (c y : Nat) : (((xgo Try.prog X (bodyOf Try.f40) 56 C0 [] 60 [.t, .f, .f, .f, .t, .t, .f, .t, .t, .f] (.nil) [.at []] ⟨argsTm 0 [.int .i32 (c : Int), .int .u64 (y : Int)], []⟩ [] []).bind (ends Try.prog Try.f40.results.toList)).bind plainE) =
  some [EndP.mk [] [fun _ => decide ((48 : Int) ≤ (↑c : Int)) = true,
    fun _ => decide ((↑c : Int) ≤ (57 : Int)) = false,
    fun _ => decide ((65296 : Int) ≤ (↑c : Int)) = false,
    fun _ => false = false,
    fun _ => ((↑y : Int) == (16 : Int)) = true,
    fun _ => decide ((97 : Int) ≤ (↑c : Int)) = true,
    fun _ => decide ((↑c : Int) ≤ (102 : Int)) = false,
    fun _ => ((↑y : Int) == (16 : Int)) = true,
    fun _ => decide ((65 : Int) ≤ (↑c : Int)) = true,
    fun _ => decide ((↑c : Int) ≤ (70 : Int)) = false] (Res.v (Value.tuple (Array.mk [Value.int IntKind.u64 (0 : Int), Value.bool false])))]
  := by kernel_rfl

theorem run40h (c y : Nat) : (((xgo Try.prog X (bodyOf Try.f40) 56 C0 [] 60 [.t, .f, .t, .t] (.nil) [.at []] ⟨argsTm 0 [.int .i32 (c : Int), .int .u64 (y : Int)], []⟩ [] []).bind (ends Try.prog Try.f40.results.toList)).bind plainE) =
  some [EndP.mk [] [fun _ => decide ((48 : Int) ≤ (↑c : Int)) = true,
    fun _ => decide ((↑c : Int) ≤ (57 : Int)) = false,
    fun _ => decide ((65296 : Int) ≤ (↑c : Int)) = true,
    fun _ => decide ((↑c : Int) ≤ (65305 : Int)) = true] (Res.v (Value.tuple (Array.mk [Value.int IntKind.u64 (IntKind.wrap IntKind.u64 (IntKind.wrap IntKind.i32 ((↑c : Int) - (65296 : Int)))), Value.bool true])))]
  := by kernel_rfl

theorem run40i (c y : Nat) : (((xgo Try.prog X (bodyOf Try.f40) 56 C0 [] 60 [.t, .f, .t, .f, .t, .t, .f, .t, .t, .f] (.nil) [.at []] ⟨argsTm 0 [.int .i32 (c : Int), .int .u64 (y : Int)], []⟩ [] []).bind (ends Try.prog Try.f40.results.toList)).bind plainE) =
  some [EndP.mk [] [fun _ => decide ((48 : Int) ≤ (↑c : Int)) = true,
    fun _ => decide ((↑c : Int) ≤ (57 : Int)) = false,
    fun _ => decide ((65296 : Int) ≤ (↑c : Int)) = true,
    fun _ => decide ((↑c : Int) ≤ (65305 : Int)) = false,
    fun _ => ((↑y : Int) == (16 : Int)) = true,
    fun _ => decide ((97 : Int) ≤ (↑c : Int)) = true,
    fun _ => decide ((↑c : Int) ≤ (102 : Int)) = false,
    fun _ => ((↑y : Int) == (16 : Int)) = true,
    fun _ => decide ((65 : Int) ≤ (↑c : Int)) = true,
    fun _ => decide ((↑c : Int) ≤ (70 : Int)) = false] (Res.v (Value.tuple (Array.mk [Value.int IntKind.u64 (0 : Int), Value.bool false])))]
  := by kernel_rfl

theorem run40j (c y : Nat) : (((xgo Try.prog X (bodyOf Try.f40) 56 C0 [] 60 [.f, .f, .f, .f, .f, .f, .f, .f, .f, .f] (.nil) [.at []] ⟨argsTm 0 [.int .i32 (c : Int), .int .u64 (y : Int)], []⟩ [] []).bind (ends Try.prog Try.f40.results.toList)).bind plainE) =
  some [EndP.mk [] [fun _ => decide ((48 : Int) ≤ (↑c : Int)) = false,
    fun _ => false = false,
    fun _ => decide ((65296 : Int) ≤ (↑c : Int)) = false,
    fun _ => false = false,
    fun _ => ((↑y : Int) == (16 : Int)) = false,
    fun _ => false = false,
    fun _ => false = false,
    fun _ => ((↑y : Int) == (16 : Int)) = false,
    fun _ => false = false,
    fun _ => false = false] (Res.v (Value.tuple (Array.mk [Value.int IntKind.u64 (0 : Int), Value.bool false])))]
  := by kernel_rfl

theorem run40k (c y : Nat) : (((xgo Try.prog X (bodyOf Try.f40) 56 C0 [] 60 [.t, .f, .f, .f, .f, .f, .f, .f, .f, .f] (.nil) [.at []] ⟨argsTm 0 [.int .i32 (c : Int), .int .u64 (y : Int)], []⟩ [] []).bind (ends Try.prog Try.f40.results.toList)).bind plainE) =
  some [EndP.mk [] [fun _ => decide ((48 : Int) ≤ (↑c : Int)) = true,
    fun _ => decide ((↑c : Int) ≤ (57 : Int)) = false,
    fun _ => decide ((65296 : Int) ≤ (↑c : Int)) = false,
    fun _ => false = false,
    fun _ => ((↑y : Int) == (16 : Int)) = false,
    fun _ => false = false,
    fun _ => false = false,
    fun _ => ((↑y : Int) == (16 : Int)) = false,
    fun _ => false = false,
    fun _ => false = false] (Res.v (Value.tuple (Array.mk [Value.int IntKind.u64 (0 : Int), Value.bool false])))]
  := by kernel_rfl

theorem run40l (c y : Nat) : (((xgo Try.prog X (bodyOf Try.f40) 56 C0 [] 60 [.t, .f, .t, .f, .f, .f, .f, .f, .f, .f] (.nil) [.at []] ⟨argsTm 0 [.int .i32 (c : Int), .int .u64 (y : Int)], []⟩ [] []).bind (ends Try.prog Try.f40.results.toList)).bind plainE) =
  some [EndP.mk [] [fun _ => decide ((48 : Int) ≤ (↑c : Int)) = true,
    fun _ => decide ((↑c : Int) ≤ (57 : Int)) = false,
    fun _ => decide ((65296 : Int) ≤ (↑c : Int)) = true,
    fun _ => decide ((↑c : Int) ≤ (65305 : Int)) = false,
    fun _ => ((↑y : Int) == (16 : Int)) = false,
    fun _ => false = false,
    fun _ => false = false,
    fun _ => ((↑y : Int) == (16 : Int)) = false,
    fun _ => false = false,
    fun _ => false = false] (Res.v (Value.tuple (Array.mk [Value.int IntKind.u64 (0 : Int), Value.bool false])))]
  := by kernel_rfl

theorem wrap_i32 (z : Nat) (h : z < 2147483648) : IntKind.wrap .i32 (z : Int) = z := by
  simp [IntKind.wrap, IntKind.bits, IntKind.signed]; omega
theorem wrap_d (c k : Nat) (h : k ≤ c) (hc : c < 2147483648) : IntKind.wrap .u64 (IntKind.wrap .i32 ((c : Int) - (k : Int))) = ((c - k : Nat) : Int) := by
  rw [show (c : Int) - (k : Int) = ((c - k : Nat) : Int) by omega, wrap_i32 _ (by omega), wrapN _ (by omega)]
theorem wrap_d10 (c k : Nat) (h : k ≤ c) (hc : c < 2147483648) : IntKind.wrap .u64 (IntKind.wrap .u64 (IntKind.wrap .i32 ((c : Int) - (k : Int))) + 10) = ((c - k + 10 : Nat) : Int) := by
  rw [wrap_d c k h hc, show ((c - k : Nat) : Int) + 10 = ((c - k + 10 : Nat) : Int) by omega, wrapN _ (by omega)]
theorem digit_ok (c y : Nat) (hc : c < 2147483648) (w : World) : Calls Try.prog 40 [.int .i32 (c : Int), .int .u64 (y : Int)].toArray w (fun E w' => ∃ v, E = .returned v ∧ Res.ok w w' (.v (.tuple #[.int .u64 ((dgtV y c : Nat) : Int), .bool (dgtB y c)])) v ∧ Below w.heap.size w w') := by
  by_cases qa : c < 48 ∧ y = 16
  · have hg : dgt y c = none := by
      unfold dgt
      repeat' (first | rw [if_pos (by omega)] | rw [if_neg (by omega)])
    refine con_end (calls_plain hm Try.func40 (by kernel_rfl) rfl rfl 60 _ _ (run40a c y) ⟨fun _ => ⟨?_, ?_⟩, trivial⟩)
    · simp only [hold_cons, hold_nil, and_true]
      exact ⟨fun _ _ => decide_eq_false (by omega), fun _ _ => trivial, fun _ _ => decide_eq_false (by omega), fun _ _ => trivial, fun _ _ => beq_iff_eq.2 (by omega), fun _ _ => decide_eq_false (by omega), fun _ _ => trivial, fun _ _ => beq_iff_eq.2 (by omega), fun _ _ => decide_eq_false (by omega), fun _ _ => trivial⟩
    · simp only [dgtV_eq, dgtB_eq, hg]; rfl
  by_cases qb : 48 ≤ c ∧ c ≤ 57
  · have hg : dgt y c = some (c - 48) := by
      unfold dgt
      repeat' (first | rw [if_pos (by omega)] | rw [if_neg (by omega)])
    refine con_end (calls_plain hm Try.func40 (by kernel_rfl) rfl rfl 60 _ _ (run40b c y) ⟨fun _ => ⟨?_, ?_⟩, trivial⟩)
    · simp only [hold_cons, hold_nil, and_true]
      exact ⟨fun _ _ => decide_eq_true (by omega), fun _ _ => decide_eq_true (by omega)⟩
    · have hw : IntKind.wrap .u64 (IntKind.wrap .i32 ((c : Int) - 48)) = ((c - 48 : Nat) : Int) := by
        rw [show (48 : Int) = ((48 : Nat) : Int) by omega]
        exact wrap_d c 48 (by omega) hc
      rw [hw, dgtV_eq, dgtB_eq, hg, Option.getD_some, Option.isSome_some]
  by_cases qc : 58 ≤ c ∧ c ≤ 64 ∧ y = 16
  · have hg : dgt y c = none := by
      unfold dgt
      repeat' (first | rw [if_pos (by omega)] | rw [if_neg (by omega)])
    refine con_end (calls_plain hm Try.func40 (by kernel_rfl) rfl rfl 60 _ _ (run40c c y) ⟨fun _ => ⟨?_, ?_⟩, trivial⟩)
    · simp only [hold_cons, hold_nil, and_true]
      exact ⟨fun _ _ => decide_eq_true (by omega), fun _ _ => decide_eq_false (by omega), fun _ _ => decide_eq_false (by omega), fun _ _ => trivial, fun _ _ => beq_iff_eq.2 (by omega), fun _ _ => decide_eq_false (by omega), fun _ _ => trivial, fun _ _ => beq_iff_eq.2 (by omega), fun _ _ => decide_eq_false (by omega), fun _ _ => trivial⟩
    · simp only [dgtV_eq, dgtB_eq, hg]; rfl
  by_cases qd : 65 ≤ c ∧ c ≤ 70 ∧ y = 16
  · have hg : dgt y c = some (c - 55) := by
      unfold dgt
      repeat' (first | rw [if_pos (by omega)] | rw [if_neg (by omega)])
    refine con_end (calls_plain hm Try.func40 (by kernel_rfl) rfl rfl 60 _ _ (run40d c y) ⟨fun _ => ⟨?_, ?_⟩, trivial⟩)
    · simp only [hold_cons, hold_nil, and_true]
      exact ⟨fun _ _ => decide_eq_true (by omega), fun _ _ => decide_eq_false (by omega), fun _ _ => decide_eq_false (by omega), fun _ _ => trivial, fun _ _ => beq_iff_eq.2 (by omega), fun _ _ => decide_eq_false (by omega), fun _ _ => trivial, fun _ _ => beq_iff_eq.2 (by omega), fun _ _ => decide_eq_true (by omega), fun _ _ => decide_eq_true (by omega)⟩
    · have hw : IntKind.wrap .u64 (IntKind.wrap .u64 (IntKind.wrap .i32 ((c : Int) - 65)) + 10) = ((c - 65 + 10 : Nat) : Int) := by
        rw [show (65 : Int) = ((65 : Nat) : Int) by omega]
        exact wrap_d10 c 65 (by omega) hc
      rw [hw, dgtV_eq, dgtB_eq, hg, Option.getD_some, Option.isSome_some]
      rw [show c - 65 + 10 = c - 55 by omega]
  by_cases qe : 71 ≤ c ∧ c ≤ 96 ∧ y = 16
  · have hg : dgt y c = none := by
      unfold dgt
      repeat' (first | rw [if_pos (by omega)] | rw [if_neg (by omega)])
    refine con_end (calls_plain hm Try.func40 (by kernel_rfl) rfl rfl 60 _ _ (run40e c y) ⟨fun _ => ⟨?_, ?_⟩, trivial⟩)
    · simp only [hold_cons, hold_nil, and_true]
      exact ⟨fun _ _ => decide_eq_true (by omega), fun _ _ => decide_eq_false (by omega), fun _ _ => decide_eq_false (by omega), fun _ _ => trivial, fun _ _ => beq_iff_eq.2 (by omega), fun _ _ => decide_eq_false (by omega), fun _ _ => trivial, fun _ _ => beq_iff_eq.2 (by omega), fun _ _ => decide_eq_true (by omega), fun _ _ => decide_eq_false (by omega)⟩
    · simp only [dgtV_eq, dgtB_eq, hg]; rfl
  by_cases qf : 97 ≤ c ∧ c ≤ 102 ∧ y = 16
  · have hg : dgt y c = some (c - 87) := by
      unfold dgt
      repeat' (first | rw [if_pos (by omega)] | rw [if_neg (by omega)])
    refine con_end (calls_plain hm Try.func40 (by kernel_rfl) rfl rfl 60 _ _ (run40f c y) ⟨fun _ => ⟨?_, ?_⟩, trivial⟩)
    · simp only [hold_cons, hold_nil, and_true]
      exact ⟨fun _ _ => decide_eq_true (by omega), fun _ _ => decide_eq_false (by omega), fun _ _ => decide_eq_false (by omega), fun _ _ => trivial, fun _ _ => beq_iff_eq.2 (by omega), fun _ _ => decide_eq_true (by omega), fun _ _ => decide_eq_true (by omega)⟩
    · have hw : IntKind.wrap .u64 (IntKind.wrap .u64 (IntKind.wrap .i32 ((c : Int) - 97)) + 10) = ((c - 97 + 10 : Nat) : Int) := by
        rw [show (97 : Int) = ((97 : Nat) : Int) by omega]
        exact wrap_d10 c 97 (by omega) hc
      rw [hw, dgtV_eq, dgtB_eq, hg, Option.getD_some, Option.isSome_some]
      rw [show c - 97 + 10 = c - 87 by omega]
  by_cases qg : 103 ≤ c ∧ c ≤ 65295 ∧ y = 16
  · have hg : dgt y c = none := by
      unfold dgt
      repeat' (first | rw [if_pos (by omega)] | rw [if_neg (by omega)])
    refine con_end (calls_plain hm Try.func40 (by kernel_rfl) rfl rfl 60 _ _ (run40g c y) ⟨fun _ => ⟨?_, ?_⟩, trivial⟩)
    · simp only [hold_cons, hold_nil, and_true]
      exact ⟨fun _ _ => decide_eq_true (by omega), fun _ _ => decide_eq_false (by omega), fun _ _ => decide_eq_false (by omega), fun _ _ => trivial, fun _ _ => beq_iff_eq.2 (by omega), fun _ _ => decide_eq_true (by omega), fun _ _ => decide_eq_false (by omega), fun _ _ => beq_iff_eq.2 (by omega), fun _ _ => decide_eq_true (by omega), fun _ _ => decide_eq_false (by omega)⟩
    · simp only [dgtV_eq, dgtB_eq, hg]; rfl
  by_cases qh : 65296 ≤ c ∧ c ≤ 65305
  · have hg : dgt y c = some (c - 65296) := by
      unfold dgt
      repeat' (first | rw [if_pos (by omega)] | rw [if_neg (by omega)])
    refine con_end (calls_plain hm Try.func40 (by kernel_rfl) rfl rfl 60 _ _ (run40h c y) ⟨fun _ => ⟨?_, ?_⟩, trivial⟩)
    · simp only [hold_cons, hold_nil, and_true]
      exact ⟨fun _ _ => decide_eq_true (by omega), fun _ _ => decide_eq_false (by omega), fun _ _ => decide_eq_true (by omega), fun _ _ => decide_eq_true (by omega)⟩
    · have hw : IntKind.wrap .u64 (IntKind.wrap .i32 ((c : Int) - 65296)) = ((c - 65296 : Nat) : Int) := by
        rw [show (65296 : Int) = ((65296 : Nat) : Int) by omega]
        exact wrap_d c 65296 (by omega) hc
      rw [hw, dgtV_eq, dgtB_eq, hg, Option.getD_some, Option.isSome_some]
  by_cases qi : 65306 ≤ c ∧ y = 16
  · have hg : dgt y c = none := by
      unfold dgt
      repeat' (first | rw [if_pos (by omega)] | rw [if_neg (by omega)])
    refine con_end (calls_plain hm Try.func40 (by kernel_rfl) rfl rfl 60 _ _ (run40i c y) ⟨fun _ => ⟨?_, ?_⟩, trivial⟩)
    · simp only [hold_cons, hold_nil, and_true]
      exact ⟨fun _ _ => decide_eq_true (by omega), fun _ _ => decide_eq_false (by omega), fun _ _ => decide_eq_true (by omega), fun _ _ => decide_eq_false (by omega), fun _ _ => beq_iff_eq.2 (by omega), fun _ _ => decide_eq_true (by omega), fun _ _ => decide_eq_false (by omega), fun _ _ => beq_iff_eq.2 (by omega), fun _ _ => decide_eq_true (by omega), fun _ _ => decide_eq_false (by omega)⟩
    · simp only [dgtV_eq, dgtB_eq, hg]; rfl
  by_cases qj : c < 48 ∧ y ≠ 16
  · have hg : dgt y c = none := by
      unfold dgt
      repeat' (first | rw [if_pos (by omega)] | rw [if_neg (by omega)])
    refine con_end (calls_plain hm Try.func40 (by kernel_rfl) rfl rfl 60 _ _ (run40j c y) ⟨fun _ => ⟨?_, ?_⟩, trivial⟩)
    · simp only [hold_cons, hold_nil, and_true]
      exact ⟨fun _ _ => decide_eq_false (by omega), fun _ _ => trivial, fun _ _ => decide_eq_false (by omega), fun _ _ => trivial, fun _ _ => beq_eq_false_iff_ne.2 (by omega), fun _ _ => trivial, fun _ _ => trivial, fun _ _ => beq_eq_false_iff_ne.2 (by omega), fun _ _ => trivial, fun _ _ => trivial⟩
    · simp only [dgtV_eq, dgtB_eq, hg]; rfl
  by_cases qk : 58 ≤ c ∧ c ≤ 65295 ∧ y ≠ 16
  · have hg : dgt y c = none := by
      unfold dgt
      repeat' (first | rw [if_pos (by omega)] | rw [if_neg (by omega)])
    refine con_end (calls_plain hm Try.func40 (by kernel_rfl) rfl rfl 60 _ _ (run40k c y) ⟨fun _ => ⟨?_, ?_⟩, trivial⟩)
    · simp only [hold_cons, hold_nil, and_true]
      exact ⟨fun _ _ => decide_eq_true (by omega), fun _ _ => decide_eq_false (by omega), fun _ _ => decide_eq_false (by omega), fun _ _ => trivial, fun _ _ => beq_eq_false_iff_ne.2 (by omega), fun _ _ => trivial, fun _ _ => trivial, fun _ _ => beq_eq_false_iff_ne.2 (by omega), fun _ _ => trivial, fun _ _ => trivial⟩
    · simp only [dgtV_eq, dgtB_eq, hg]; rfl
  by_cases ql : 65306 ≤ c ∧ y ≠ 16
  · have hg : dgt y c = none := by
      unfold dgt
      repeat' (first | rw [if_pos (by omega)] | rw [if_neg (by omega)])
    refine con_end (calls_plain hm Try.func40 (by kernel_rfl) rfl rfl 60 _ _ (run40l c y) ⟨fun _ => ⟨?_, ?_⟩, trivial⟩)
    · simp only [hold_cons, hold_nil, and_true]
      exact ⟨fun _ _ => decide_eq_true (by omega), fun _ _ => decide_eq_false (by omega), fun _ _ => decide_eq_true (by omega), fun _ _ => decide_eq_false (by omega), fun _ _ => beq_eq_false_iff_ne.2 (by omega), fun _ _ => trivial, fun _ _ => trivial, fun _ _ => beq_eq_false_iff_ne.2 (by omega), fun _ _ => trivial, fun _ _ => trivial⟩
    · simp only [dgtV_eq, dgtB_eq, hg]; rfl
  exfalso; omega
noncomputable def gDigit : List RV → Option (Res × Prop)
  | [.v (.int .i32 c), .v (.int .u64 y)] => some (.v (.tuple #[.int .u64 ((dgtV y.toNat c.toNat : Nat) : Int), .bool (dgtB y.toNat c.toNat)]), c = (c.toNat : Int) ∧ y = (y.toNat : Int) ∧ c.toNat < 2147483648)
  | _ => none
theorem gDigit_ok (rvs : List RV) (r : Res) (p : Prop) (vs : List Value) (w : World) (hg : gDigit rvs = some (r, p)) (hp : p) (hv : RVs (wmem w) rvs vs) : Calls Try.prog 40 vs.toArray w (fun E w' => ∃ v, E = .returned v ∧ r.ok w w' v ∧ Below w.heap.size w w') := by
  unfold gDigit at hg
  split at hg
  · rename_i c y
    simp only [Option.some.injEq, Prod.mk.injEq] at hg
    obtain ⟨rfl, rfl⟩ := hg
    obtain ⟨h1, h2, h3⟩ := hp
    rw [rvs2 hv]
    have := digit_ok c.toNat y.toNat h3 w
    rw [← h1, ← h2] at this
    exact this
  · cases hg
noncomputable def TI : Con Try.prog := ((TH.add 39 (two fun s p => (.v (cutPre s p), True)) (two_ok fun s p w _ => strcut_ok s p w)).add 41 gGrow gGrow_ok).add 40 gDigit gDigit_ok
end Go.Proofs.Ytcipmpamhffclaa
