/- Remainders: the inner loop, bit by bit. -/
import Derived.Test.YtcipmpamhffclaaW6
namespace Go.Pl
open Go.Sx
/-- A number's bit at a place. -/
noncomputable def bitOf (h n : Nat) : Nat := hide (h / 2 ^ n % 2)
theorem bitOf_eq (h n : Nat) : bitOf h n = h / 2 ^ n % 2 := hide_eq _
theorem bitOf_le (h n : Nat) : bitOf h n ≤ 1 := by rw [bitOf_eq]; omega
theorem limb_eq (h k : Nat) : limb h k = h / 2 ^ (64 * k) % 2 ^ 64 := by
  rw [limb, hide_eq, show (18446744073709551616 : Nat) = 2 ^ 64 from rfl, ← Nat.pow_mul]
/-- A bit of the word it lies in. -/
theorem bitOf_limb (h n : Nat) : limb h (n / 64) / 2 ^ (n % 64) % 2 = bitOf h n := by
  rw [limb_eq, bitOf_eq]
  have hlt : n % 64 < 64 := Nat.mod_lt _ (by omega)
  have e1 : h / 2 ^ (64 * (n / 64)) % 2 ^ 64 / 2 ^ (n % 64) % 2 = h / 2 ^ (64 * (n / 64)) / 2 ^ (n % 64) % 2 := by
    generalize h / 2 ^ (64 * (n / 64)) = x
    have hs : (2 : Nat) ^ 64 = 2 ^ (n % 64) * (2 * 2 ^ (63 - n % 64)) := by
      rw [show (2 : Nat) * 2 ^ (63 - n % 64) = 2 ^ (63 - n % 64 + 1) by rw [Nat.pow_succ, Nat.mul_comm], ← Nat.pow_add]
      congr 1
      omega
    rw [hs, Nat.mod_mul_right_div_self, Nat.mod_mul_right_mod]
  rw [e1, Nat.div_div_eq_div_mul, ← Nat.pow_add, Nat.div_add_mod]
end Go.Pl
namespace Go.Proofs.Ytcipmpamhffclaa
open Go.Sx Go.Pl Go.RowKit
/-- The words of a number, as cells. -/
noncomputable def ec (n : Nat) : List SV := [.v (.int .u64 (limb n 0 : Nat)), .v (.int .u64 (limb n 1 : Nat)), .v (.int .u64 (limb n 2 : Nat)), .v (.int .u64 (limb n 3 : Nat))]
noncomputable def stI (a b m h r : Nat) (j i : Int) : St :=
  ⟨[(11, .v (.int .i64 i)), (10, .p 5 0), (8, .p 4 0), (6, .p 3 0), (7, .v (.int .i64 0)), (5, .p 2 0), (22, .v (.int .i64 j)), (21, .agg (ec b ++ ec a))],
    [.cells (ec a) 24, .cells (ec b) 24, .cells (ec m) 24, .cells (ec 0) 24, .cells (ec r) 24, .cells (ec h) 24]⟩
end Go.Proofs.Ytcipmpamhffclaa

namespace Go.Proofs.Ytcipmpamhffclaa
open Go.Sx Go.Pl Go.RowKit
theorem tmodNat (n k : Nat) : Int.tmod (n : Int) (k : Int) = ((n % k : Nat) : Int) := by
  rw [Int.tmod_eq_emod_of_nonneg (by omega)]; rfl
theorem tdivNat (n k : Nat) : Int.tdiv (n : Int) (k : Int) = ((n / k : Nat) : Int) := by
  rw [Int.tdiv_eq_ediv_of_nonneg (by omega)]; rfl
theorem bit_expr (h n : Nat) : IntKind.wrap IntKind.u64 (↑(Int.toNat (Int.fdiv (↑(limb h (n / 64)) : Int) ((2 : Int) ^ if Int.toNat (Int.tmod (n : Int) (64 : Int)) ≤ (64 : Nat) then Int.toNat (Int.tmod (n : Int) (64 : Int)) else (64 : Nat)) % (18446744073709551616 : Int)) &&& (1 : Nat)) : Int) = (bitOf h n : Int) := by
  have e1 : Int.tmod (n : Int) (64 : Int) = ((n % 64 : Nat) : Int) := tmodNat n 64
  rw [e1, Int.toNat_natCast, if_pos (by omega : n % 64 ≤ 64), wrap_u64, Int.fdiv_eq_ediv_of_nonneg _ (Int.pow_nonneg (by omega))]
  have e2 : ((2 : Int) ^ (n % 64)) = ((2 ^ (n % 64) : Nat) : Int) := by rw [Int.natCast_pow]; rfl
  rw [e2, ← Int.natCast_ediv, Nat.and_one_is_mod]
  have h1 := limb_lt h (n / 64)
  have h2 := Nat.div_le_self (limb h (n / 64)) (2 ^ (n % 64))
  have h3 := bitOf_limb h n
  generalize limb h (n / 64) / 2 ^ (n % 64) = y at *
  omega
theorem remRound (a b m h r n M : Nat) (j : Int) (kt : List It) : (xgo Try.prog X (bodyOf Try.f20) 57 CA [] 30 [.t, .lo 5 (.v (.int .u64 (limb h (n / 64)))), .ld (.v (.tuple #[el (2 * r + bitOf h n), .int .u64 ((limb r 3 / 9223372036854775808 : Nat) : Int)])), .ld (.v (.tuple #[el ((2 * r + bitOf h n) % top + top - m), .bool (decide ((2 * r + bitOf h n) % top < m))]))] (.br [.t] .nil [] (.br [] .nil [] .nil)) (.at [0,0,1,1,0,0,1,1,0,0,1,0,1,1,1] :: .rnd [0,0,1,1,0,0,1,1,0,0,1,0,1,1,1] (M + 1) :: kt) (stI a b m h r j (n : Int)) [] []) =
  some
  [Leaf2.mk [(!(↑(limb r (3 : Nat) / (9223372036854775808 : Nat)) : Int) == (0 : Int)) = true]
      [fun _ => decide ((0 : Int) ≤ (↑n : Int)) = true, fun _ => ¬(64 : Int) = (0 : Int), fun _ =>
        (0 : Int) ≤ IntKind.wrap IntKind.i64 (Int.tdiv (↑n : Int) (64 : Int)) ∧
          IntKind.wrap IntKind.i64 (Int.tdiv (↑n : Int) (64 : Int)) < (4 : Int),
        fun _ =>
        [SV.v (Value.int IntKind.u64 (↑(limb h (0 : Nat)) : Int)),
              SV.v (Value.int IntKind.u64 (↑(limb h (1 : Nat)) : Int)),
              SV.v (Value.int IntKind.u64 (↑(limb h (2 : Nat)) : Int)),
              SV.v
                (Value.int IntKind.u64
                  (↑(limb h (3 : Nat)) :
                    Int))][(0 : Nat) +
              Int.toNat (IntKind.wrap IntKind.i64 (Int.tdiv (↑n : Int) (64 : Int))) * (1 : Nat)]? =
          some (SV.v (Value.int IntKind.u64 (↑(limb h (n / (64 : Nat))) : Int))),
        fun _ => ¬(64 : Int) = (0 : Int), fun _ => ¬Int.tmod (↑n : Int) (64 : Int) < (0 : Int), fun _ =>
        Value.agg
              (Array.mk
                [Value.int IntKind.u64 (↑(limb r (0 : Nat)) : Int), Value.int IntKind.u64 (↑(limb r (1 : Nat)) : Int),
                  Value.int IntKind.u64 (↑(limb r (2 : Nat)) : Int),
                  Value.int IntKind.u64 (↑(limb r (3 : Nat)) : Int)]) =
            el
              (nv (Int.toNat (↑(limb r (0 : Nat)) : Int)) (Int.toNat (↑(limb r (1 : Nat)) : Int))
                (Int.toNat (↑(limb r (2 : Nat)) : Int)) (Int.toNat (↑(limb r (3 : Nat)) : Int))) ∧
          Value.int IntKind.u64
                (IntKind.wrap IntKind.u64
                  (↑(Int.toNat
                          (Int.fdiv (↑(limb h (n / (64 : Nat))) : Int)
                              ((2 : Int) ^
                                if Int.toNat (Int.tmod (↑n : Int) (64 : Int)) ≤ (64 : Nat) then
                                  Int.toNat (Int.tmod (↑n : Int) (64 : Int))
                                else (64 : Nat)) %
                            (18446744073709551616 : Int)) &&&
                        (1 : Nat)) :
                    Int)) =
              Value.int IntKind.u64
                (↑(Int.toNat
                      (IntKind.wrap IntKind.u64
                        (↑(Int.toNat
                                (Int.fdiv (↑(limb h (n / (64 : Nat))) : Int)
                                    ((2 : Int) ^
                                      if Int.toNat (Int.tmod (↑n : Int) (64 : Int)) ≤ (64 : Nat) then
                                        Int.toNat (Int.tmod (↑n : Int) (64 : Int))
                                      else (64 : Nat)) %
                                  (18446744073709551616 : Int)) &&&
                              (1 : Nat)) :
                          Int))) :
                  Int) ∧
            nv (Int.toNat (↑(limb r (0 : Nat)) : Int)) (Int.toNat (↑(limb r (1 : Nat)) : Int))
                  (Int.toNat (↑(limb r (2 : Nat)) : Int)) (Int.toNat (↑(limb r (3 : Nat)) : Int)) <
                (115792089237316195423570985008687907853269984665640564039457584007913129639936 : Nat) ∧
              Int.toNat
                  (IntKind.wrap IntKind.u64
                    (↑(Int.toNat
                            (Int.fdiv (↑(limb h (n / (64 : Nat))) : Int)
                                ((2 : Int) ^
                                  if Int.toNat (Int.tmod (↑n : Int) (64 : Int)) ≤ (64 : Nat) then
                                    Int.toNat (Int.tmod (↑n : Int) (64 : Int))
                                  else (64 : Nat)) %
                              (18446744073709551616 : Int)) &&&
                          (1 : Nat)) :
                      Int)) ≤
                (1 : Nat),
        fun _ =>
        Value.tuple
            (Array.mk
              [el
                  ((2 : Nat) *
                      nv (Int.toNat (↑(limb r (0 : Nat)) : Int)) (Int.toNat (↑(limb r (1 : Nat)) : Int))
                        (Int.toNat (↑(limb r (2 : Nat)) : Int)) (Int.toNat (↑(limb r (3 : Nat)) : Int)) +
                    Int.toNat
                      (IntKind.wrap IntKind.u64
                        (↑(Int.toNat
                                (Int.fdiv (↑(limb h (n / (64 : Nat))) : Int)
                                    ((2 : Int) ^
                                      if Int.toNat (Int.tmod (↑n : Int) (64 : Int)) ≤ (64 : Nat) then
                                        Int.toNat (Int.tmod (↑n : Int) (64 : Int))
                                      else (64 : Nat)) %
                                  (18446744073709551616 : Int)) &&&
                              (1 : Nat)) :
                          Int))),
                Value.int IntKind.u64
                  (↑(limb
                          (nv (Int.toNat (↑(limb r (0 : Nat)) : Int)) (Int.toNat (↑(limb r (1 : Nat)) : Int))
                            (Int.toNat (↑(limb r (2 : Nat)) : Int)) (Int.toNat (↑(limb r (3 : Nat)) : Int)))
                          (3 : Nat) /
                        (9223372036854775808 : Nat)) :
                    Int)]) =
          Value.tuple
            (Array.mk
              [el ((2 : Nat) * r + bitOf h n),
                Value.int IntKind.u64 (↑(limb r (3 : Nat) / (9223372036854775808 : Nat)) : Int)]),
        fun _ => (0 : Nat) + (4 : Nat) ≤ (4 : Nat), fun _ =>
        Value.agg
              (Array.mk
                [Value.int IntKind.u64 (↑(limb ((2 : Nat) * r + bitOf h n) (0 : Nat)) : Int),
                  Value.int IntKind.u64 (↑(limb ((2 : Nat) * r + bitOf h n) (1 : Nat)) : Int),
                  Value.int IntKind.u64 (↑(limb ((2 : Nat) * r + bitOf h n) (2 : Nat)) : Int),
                  Value.int IntKind.u64 (↑(limb ((2 : Nat) * r + bitOf h n) (3 : Nat)) : Int)]) =
            el
              (nv (Int.toNat (↑(limb ((2 : Nat) * r + bitOf h n) (0 : Nat)) : Int))
                (Int.toNat (↑(limb ((2 : Nat) * r + bitOf h n) (1 : Nat)) : Int))
                (Int.toNat (↑(limb ((2 : Nat) * r + bitOf h n) (2 : Nat)) : Int))
                (Int.toNat (↑(limb ((2 : Nat) * r + bitOf h n) (3 : Nat)) : Int))) ∧
          Value.agg
                (Array.mk
                  [Value.int IntKind.u64 (↑(limb m (0 : Nat)) : Int), Value.int IntKind.u64 (↑(limb m (1 : Nat)) : Int),
                    Value.int IntKind.u64 (↑(limb m (2 : Nat)) : Int),
                    Value.int IntKind.u64 (↑(limb m (3 : Nat)) : Int)]) =
              el
                (nv (Int.toNat (↑(limb m (0 : Nat)) : Int)) (Int.toNat (↑(limb m (1 : Nat)) : Int))
                  (Int.toNat (↑(limb m (2 : Nat)) : Int)) (Int.toNat (↑(limb m (3 : Nat)) : Int))) ∧
            nv (Int.toNat (↑(limb ((2 : Nat) * r + bitOf h n) (0 : Nat)) : Int))
                  (Int.toNat (↑(limb ((2 : Nat) * r + bitOf h n) (1 : Nat)) : Int))
                  (Int.toNat (↑(limb ((2 : Nat) * r + bitOf h n) (2 : Nat)) : Int))
                  (Int.toNat (↑(limb ((2 : Nat) * r + bitOf h n) (3 : Nat)) : Int)) <
                (115792089237316195423570985008687907853269984665640564039457584007913129639936 : Nat) ∧
              nv (Int.toNat (↑(limb m (0 : Nat)) : Int)) (Int.toNat (↑(limb m (1 : Nat)) : Int))
                  (Int.toNat (↑(limb m (2 : Nat)) : Int)) (Int.toNat (↑(limb m (3 : Nat)) : Int)) <
                (115792089237316195423570985008687907853269984665640564039457584007913129639936 : Nat),
        fun _ =>
        Value.tuple
            (Array.mk
              [el
                  (nv (Int.toNat (↑(limb ((2 : Nat) * r + bitOf h n) (0 : Nat)) : Int))
                        (Int.toNat (↑(limb ((2 : Nat) * r + bitOf h n) (1 : Nat)) : Int))
                        (Int.toNat (↑(limb ((2 : Nat) * r + bitOf h n) (2 : Nat)) : Int))
                        (Int.toNat (↑(limb ((2 : Nat) * r + bitOf h n) (3 : Nat)) : Int)) +
                      (115792089237316195423570985008687907853269984665640564039457584007913129639936 : Nat) -
                    nv (Int.toNat (↑(limb m (0 : Nat)) : Int)) (Int.toNat (↑(limb m (1 : Nat)) : Int))
                      (Int.toNat (↑(limb m (2 : Nat)) : Int)) (Int.toNat (↑(limb m (3 : Nat)) : Int))),
                Value.bool
                  (decide
                    (nv (Int.toNat (↑(limb ((2 : Nat) * r + bitOf h n) (0 : Nat)) : Int))
                        (Int.toNat (↑(limb ((2 : Nat) * r + bitOf h n) (1 : Nat)) : Int))
                        (Int.toNat (↑(limb ((2 : Nat) * r + bitOf h n) (2 : Nat)) : Int))
                        (Int.toNat (↑(limb ((2 : Nat) * r + bitOf h n) (3 : Nat)) : Int)) <
                      nv (Int.toNat (↑(limb m (0 : Nat)) : Int)) (Int.toNat (↑(limb m (1 : Nat)) : Int))
                        (Int.toNat (↑(limb m (2 : Nat)) : Int)) (Int.toNat (↑(limb m (3 : Nat)) : Int))))]) =
          Value.tuple
            (Array.mk
              [el
                  (((2 : Nat) * r + bitOf h n) %
                        (115792089237316195423570985008687907853269984665640564039457584007913129639936 : Nat) +
                      (115792089237316195423570985008687907853269984665640564039457584007913129639936 : Nat) -
                    m),
                Value.bool
                  (decide
                    (((2 : Nat) * r + bitOf h n) %
                        (115792089237316195423570985008687907853269984665640564039457584007913129639936 : Nat) <
                      m))]),
        fun _ => (0 : Nat) + (4 : Nat) ≤ (4 : Nat), fun _ =>
        (!(↑(limb r (3 : Nat) / (9223372036854775808 : Nat)) : Int) == (0 : Int)) = true, fun _ => true = true, fun _ =>
        (0 : Nat) + (4 : Nat) ≤ (4 : Nat)]
      (It.rnd
          [(0 : Nat), (0 : Nat), (1 : Nat), (1 : Nat), (0 : Nat), (0 : Nat), (1 : Nat), (1 : Nat), (0 : Nat), (0 : Nat),
            (1 : Nat), (0 : Nat), (1 : Nat), (1 : Nat), (1 : Nat)]
          (M + (1 : Nat)) ::
        kt)
      (St.mk
        [((11 : Nat), SV.v (Value.int IntKind.i64 (IntKind.wrap IntKind.i64 ((↑n : Int) - (1 : Int))))),
          ((28 : Nat), SV.v (Value.int IntKind.i64 (IntKind.wrap IntKind.i64 ((↑n : Int) - (1 : Int))))),
          ((27 : Nat), SV.v (Value.int IntKind.i64 (↑n : Int))),
          ((54 : Nat),
            SV.agg
              [SV.v
                  (Value.int IntKind.u64
                    (↑(limb
                          (((2 : Nat) * r + bitOf h n) %
                                (115792089237316195423570985008687907853269984665640564039457584007913129639936 : Nat) +
                              (115792089237316195423570985008687907853269984665640564039457584007913129639936 : Nat) -
                            m)
                          (0 : Nat)) :
                      Int)),
                SV.v
                  (Value.int IntKind.u64
                    (↑(limb
                          (((2 : Nat) * r + bitOf h n) %
                                (115792089237316195423570985008687907853269984665640564039457584007913129639936 : Nat) +
                              (115792089237316195423570985008687907853269984665640564039457584007913129639936 : Nat) -
                            m)
                          (1 : Nat)) :
                      Int)),
                SV.v
                  (Value.int IntKind.u64
                    (↑(limb
                          (((2 : Nat) * r + bitOf h n) %
                                (115792089237316195423570985008687907853269984665640564039457584007913129639936 : Nat) +
                              (115792089237316195423570985008687907853269984665640564039457584007913129639936 : Nat) -
                            m)
                          (2 : Nat)) :
                      Int)),
                SV.v
                  (Value.int IntKind.u64
                    (↑(limb
                          (((2 : Nat) * r + bitOf h n) %
                                (115792089237316195423570985008687907853269984665640564039457584007913129639936 : Nat) +
                              (115792089237316195423570985008687907853269984665640564039457584007913129639936 : Nat) -
                            m)
                          (3 : Nat)) :
                      Int))]),
          ((53 : Nat), SV.v (Value.bool true)), ((52 : Nat), SV.v (Value.tuple (Array.mk []))),
          ((51 : Nat), SV.v (Value.tuple (Array.mk []))), ((50 : Nat), SV.bl true),
          ((49 : Nat), SV.v (Value.bool !(↑(limb r (3 : Nat) / (9223372036854775808 : Nat)) : Int) == (0 : Int))),
          ((48 : Nat), SV.v (Value.int IntKind.u64 (↑(limb r (3 : Nat) / (9223372036854775808 : Nat)) : Int))),
          ((14 : Nat),
            SV.v
              (Value.bool
                (decide
                  (((2 : Nat) * r + bitOf h n) %
                      (115792089237316195423570985008687907853269984665640564039457584007913129639936 : Nat) <
                    m)))),
          ((13 : Nat), SV.p (6 : Nat) (0 : Nat)),
          ((47 : Nat),
            SV.v
              (Value.bool
                (decide
                  (((2 : Nat) * r + bitOf h n) %
                      (115792089237316195423570985008687907853269984665640564039457584007913129639936 : Nat) <
                    m)))),
          ((46 : Nat),
            SV.v
              (Value.agg
                (Array.mk
                  [Value.int IntKind.u64
                      (↑(limb
                            (((2 : Nat) * r + bitOf h n) %
                                  (115792089237316195423570985008687907853269984665640564039457584007913129639936 :
                                    Nat) +
                                (115792089237316195423570985008687907853269984665640564039457584007913129639936 : Nat) -
                              m)
                            (0 : Nat)) :
                        Int),
                    Value.int IntKind.u64
                      (↑(limb
                            (((2 : Nat) * r + bitOf h n) %
                                  (115792089237316195423570985008687907853269984665640564039457584007913129639936 :
                                    Nat) +
                                (115792089237316195423570985008687907853269984665640564039457584007913129639936 : Nat) -
                              m)
                            (1 : Nat)) :
                        Int),
                    Value.int IntKind.u64
                      (↑(limb
                            (((2 : Nat) * r + bitOf h n) %
                                  (115792089237316195423570985008687907853269984665640564039457584007913129639936 :
                                    Nat) +
                                (115792089237316195423570985008687907853269984665640564039457584007913129639936 : Nat) -
                              m)
                            (2 : Nat)) :
                        Int),
                    Value.int IntKind.u64
                      (↑(limb
                            (((2 : Nat) * r + bitOf h n) %
                                  (115792089237316195423570985008687907853269984665640564039457584007913129639936 :
                                    Nat) +
                                (115792089237316195423570985008687907853269984665640564039457584007913129639936 : Nat) -
                              m)
                            (3 : Nat)) :
                        Int)]))),
          ((42 : Nat),
            SV.v
              (Value.tuple
                (Array.mk
                  [el
                      (((2 : Nat) * r + bitOf h n) %
                            (115792089237316195423570985008687907853269984665640564039457584007913129639936 : Nat) +
                          (115792089237316195423570985008687907853269984665640564039457584007913129639936 : Nat) -
                        m),
                    Value.bool
                      (decide
                        (((2 : Nat) * r + bitOf h n) %
                            (115792089237316195423570985008687907853269984665640564039457584007913129639936 : Nat) <
                          m))]))),
          ((45 : Nat),
            SV.v
              (Value.tuple
                (Array.mk
                  [el
                      (((2 : Nat) * r + bitOf h n) %
                            (115792089237316195423570985008687907853269984665640564039457584007913129639936 : Nat) +
                          (115792089237316195423570985008687907853269984665640564039457584007913129639936 : Nat) -
                        m),
                    Value.bool
                      (decide
                        (((2 : Nat) * r + bitOf h n) %
                            (115792089237316195423570985008687907853269984665640564039457584007913129639936 : Nat) <
                          m))]))),
          ((44 : Nat),
            SV.agg
              [SV.v (Value.int IntKind.u64 (↑(limb m (0 : Nat)) : Int)),
                SV.v (Value.int IntKind.u64 (↑(limb m (1 : Nat)) : Int)),
                SV.v (Value.int IntKind.u64 (↑(limb m (2 : Nat)) : Int)),
                SV.v (Value.int IntKind.u64 (↑(limb m (3 : Nat)) : Int))]),
          ((43 : Nat),
            SV.agg
              [SV.v (Value.int IntKind.u64 (↑(limb ((2 : Nat) * r + bitOf h n) (0 : Nat)) : Int)),
                SV.v (Value.int IntKind.u64 (↑(limb ((2 : Nat) * r + bitOf h n) (1 : Nat)) : Int)),
                SV.v (Value.int IntKind.u64 (↑(limb ((2 : Nat) * r + bitOf h n) (2 : Nat)) : Int)),
                SV.v (Value.int IntKind.u64 (↑(limb ((2 : Nat) * r + bitOf h n) (3 : Nat)) : Int))]),
          ((12 : Nat), SV.v (Value.int IntKind.u64 (↑(limb r (3 : Nat) / (9223372036854775808 : Nat)) : Int))),
          ((41 : Nat), SV.v (Value.int IntKind.u64 (↑(limb r (3 : Nat) / (9223372036854775808 : Nat)) : Int))),
          ((40 : Nat),
            SV.v
              (Value.agg
                (Array.mk
                  [Value.int IntKind.u64 (↑(limb ((2 : Nat) * r + bitOf h n) (0 : Nat)) : Int),
                    Value.int IntKind.u64 (↑(limb ((2 : Nat) * r + bitOf h n) (1 : Nat)) : Int),
                    Value.int IntKind.u64 (↑(limb ((2 : Nat) * r + bitOf h n) (2 : Nat)) : Int),
                    Value.int IntKind.u64 (↑(limb ((2 : Nat) * r + bitOf h n) (3 : Nat)) : Int)]))),
          ((29 : Nat),
            SV.v
              (Value.tuple
                (Array.mk
                  [el ((2 : Nat) * r + bitOf h n),
                    Value.int IntKind.u64 (↑(limb r (3 : Nat) / (9223372036854775808 : Nat)) : Int)]))),
          ((39 : Nat),
            SV.v
              (Value.tuple
                (Array.mk
                  [el ((2 : Nat) * r + bitOf h n),
                    Value.int IntKind.u64 (↑(limb r (3 : Nat) / (9223372036854775808 : Nat)) : Int)]))),
          ((38 : Nat),
            SV.v
              (Value.int IntKind.u64
                (IntKind.wrap IntKind.u64
                  (↑(Int.toNat
                          (Int.fdiv (↑(limb h (n / (64 : Nat))) : Int)
                              ((2 : Int) ^
                                if Int.toNat (Int.tmod (↑n : Int) (64 : Int)) ≤ (64 : Nat) then
                                  Int.toNat (Int.tmod (↑n : Int) (64 : Int))
                                else (64 : Nat)) %
                            (18446744073709551616 : Int)) &&&
                        (1 : Nat)) :
                    Int)))),
          ((37 : Nat),
            SV.v
              (Value.int IntKind.u64
                (Int.fdiv (↑(limb h (n / (64 : Nat))) : Int)
                  ((2 : Int) ^
                    if Int.toNat (Int.tmod (↑n : Int) (64 : Int)) ≤ (64 : Nat) then
                      Int.toNat (Int.tmod (↑n : Int) (64 : Int))
                    else (64 : Nat))))),
          ((36 : Nat), SV.v (Value.int IntKind.i64 (Int.tmod (↑n : Int) (64 : Int)))),
          ((35 : Nat), SV.v (Value.int IntKind.i64 (↑n : Int))),
          ((34 : Nat), SV.v (Value.int IntKind.u64 (↑(limb h (n / (64 : Nat))) : Int))),
          ((33 : Nat),
            SV.p (5 : Nat)
              ((0 : Nat) + Int.toNat (IntKind.wrap IntKind.i64 (Int.tdiv (↑n : Int) (64 : Int))) * (1 : Nat))),
          ((32 : Nat), SV.v (Value.int IntKind.i64 (IntKind.wrap IntKind.i64 (Int.tdiv (↑n : Int) (64 : Int))))),
          ((31 : Nat), SV.v (Value.int IntKind.i64 (↑n : Int))),
          ((30 : Nat),
            SV.agg
              [SV.v (Value.int IntKind.u64 (↑(limb r (0 : Nat)) : Int)),
                SV.v (Value.int IntKind.u64 (↑(limb r (1 : Nat)) : Int)),
                SV.v (Value.int IntKind.u64 (↑(limb r (2 : Nat)) : Int)),
                SV.v (Value.int IntKind.u64 (↑(limb r (3 : Nat)) : Int))]),
          ((26 : Nat), SV.v (Value.bool (decide ((0 : Int) ≤ (↑n : Int))))),
          ((25 : Nat), SV.v (Value.int IntKind.i64 (↑n : Int))), ((10 : Nat), SV.p (5 : Nat) (0 : Nat)),
          ((8 : Nat), SV.p (4 : Nat) (0 : Nat)), ((6 : Nat), SV.p (3 : Nat) (0 : Nat)),
          ((7 : Nat), SV.v (Value.int IntKind.i64 (0 : Int))), ((5 : Nat), SV.p (2 : Nat) (0 : Nat)),
          ((22 : Nat), SV.v (Value.int IntKind.i64 j)),
          ((21 : Nat),
            SV.agg
              [SV.v (Value.int IntKind.u64 (↑(limb b (0 : Nat)) : Int)),
                SV.v (Value.int IntKind.u64 (↑(limb b (1 : Nat)) : Int)),
                SV.v (Value.int IntKind.u64 (↑(limb b (2 : Nat)) : Int)),
                SV.v (Value.int IntKind.u64 (↑(limb b (3 : Nat)) : Int)),
                SV.v (Value.int IntKind.u64 (↑(limb a (0 : Nat)) : Int)),
                SV.v (Value.int IntKind.u64 (↑(limb a (1 : Nat)) : Int)),
                SV.v (Value.int IntKind.u64 (↑(limb a (2 : Nat)) : Int)),
                SV.v (Value.int IntKind.u64 (↑(limb a (3 : Nat)) : Int))])]
        [HO.cells
            [SV.v (Value.int IntKind.u64 (↑(limb a (0 : Nat)) : Int)),
              SV.v (Value.int IntKind.u64 (↑(limb a (1 : Nat)) : Int)),
              SV.v (Value.int IntKind.u64 (↑(limb a (2 : Nat)) : Int)),
              SV.v (Value.int IntKind.u64 (↑(limb a (3 : Nat)) : Int))]
            (24 : Nat),
          HO.cells
            [SV.v (Value.int IntKind.u64 (↑(limb b (0 : Nat)) : Int)),
              SV.v (Value.int IntKind.u64 (↑(limb b (1 : Nat)) : Int)),
              SV.v (Value.int IntKind.u64 (↑(limb b (2 : Nat)) : Int)),
              SV.v (Value.int IntKind.u64 (↑(limb b (3 : Nat)) : Int))]
            (24 : Nat),
          HO.cells
            [SV.v (Value.int IntKind.u64 (↑(limb m (0 : Nat)) : Int)),
              SV.v (Value.int IntKind.u64 (↑(limb m (1 : Nat)) : Int)),
              SV.v (Value.int IntKind.u64 (↑(limb m (2 : Nat)) : Int)),
              SV.v (Value.int IntKind.u64 (↑(limb m (3 : Nat)) : Int))]
            (24 : Nat),
          HO.cells
            [SV.v (Value.int IntKind.u64 (↑(limb (0 : Nat) (0 : Nat)) : Int)),
              SV.v (Value.int IntKind.u64 (↑(limb (0 : Nat) (1 : Nat)) : Int)),
              SV.v (Value.int IntKind.u64 (↑(limb (0 : Nat) (2 : Nat)) : Int)),
              SV.v (Value.int IntKind.u64 (↑(limb (0 : Nat) (3 : Nat)) : Int))]
            (24 : Nat),
          HO.cells
            [SV.v
                (Value.int IntKind.u64
                  (↑(limb
                        (((2 : Nat) * r + bitOf h n) %
                              (115792089237316195423570985008687907853269984665640564039457584007913129639936 : Nat) +
                            (115792089237316195423570985008687907853269984665640564039457584007913129639936 : Nat) -
                          m)
                        (0 : Nat)) :
                    Int)),
              SV.v
                (Value.int IntKind.u64
                  (↑(limb
                        (((2 : Nat) * r + bitOf h n) %
                              (115792089237316195423570985008687907853269984665640564039457584007913129639936 : Nat) +
                            (115792089237316195423570985008687907853269984665640564039457584007913129639936 : Nat) -
                          m)
                        (1 : Nat)) :
                    Int)),
              SV.v
                (Value.int IntKind.u64
                  (↑(limb
                        (((2 : Nat) * r + bitOf h n) %
                              (115792089237316195423570985008687907853269984665640564039457584007913129639936 : Nat) +
                            (115792089237316195423570985008687907853269984665640564039457584007913129639936 : Nat) -
                          m)
                        (2 : Nat)) :
                    Int)),
              SV.v
                (Value.int IntKind.u64
                  (↑(limb
                        (((2 : Nat) * r + bitOf h n) %
                              (115792089237316195423570985008687907853269984665640564039457584007913129639936 : Nat) +
                            (115792089237316195423570985008687907853269984665640564039457584007913129639936 : Nat) -
                          m)
                        (3 : Nat)) :
                    Int))]
            (24 : Nat),
          HO.cells
            [SV.v (Value.int IntKind.u64 (↑(limb h (0 : Nat)) : Int)),
              SV.v (Value.int IntKind.u64 (↑(limb h (1 : Nat)) : Int)),
              SV.v (Value.int IntKind.u64 (↑(limb h (2 : Nat)) : Int)),
              SV.v (Value.int IntKind.u64 (↑(limb h (3 : Nat)) : Int))]
            (24 : Nat),
          HO.cells
            [SV.v
                (Value.int IntKind.u64
                  (↑(limb
                        (((2 : Nat) * r + bitOf h n) %
                              (115792089237316195423570985008687907853269984665640564039457584007913129639936 : Nat) +
                            (115792089237316195423570985008687907853269984665640564039457584007913129639936 : Nat) -
                          m)
                        (0 : Nat)) :
                    Int)),
              SV.v
                (Value.int IntKind.u64
                  (↑(limb
                        (((2 : Nat) * r + bitOf h n) %
                              (115792089237316195423570985008687907853269984665640564039457584007913129639936 : Nat) +
                            (115792089237316195423570985008687907853269984665640564039457584007913129639936 : Nat) -
                          m)
                        (1 : Nat)) :
                    Int)),
              SV.v
                (Value.int IntKind.u64
                  (↑(limb
                        (((2 : Nat) * r + bitOf h n) %
                              (115792089237316195423570985008687907853269984665640564039457584007913129639936 : Nat) +
                            (115792089237316195423570985008687907853269984665640564039457584007913129639936 : Nat) -
                          m)
                        (2 : Nat)) :
                    Int)),
              SV.v
                (Value.int IntKind.u64
                  (↑(limb
                        (((2 : Nat) * r + bitOf h n) %
                              (115792089237316195423570985008687907853269984665640564039457584007913129639936 : Nat) +
                            (115792089237316195423570985008687907853269984665640564039457584007913129639936 : Nat) -
                          m)
                        (3 : Nat)) :
                    Int))]
            (24 : Nat)]),
    Leaf2.mk
      [(!(↑(limb r (3 : Nat) / (9223372036854775808 : Nat)) : Int) == (0 : Int)) = false,
        (!decide
              (((2 : Nat) * r + bitOf h n) %
                  (115792089237316195423570985008687907853269984665640564039457584007913129639936 : Nat) <
                m)) =
          true]
      [fun _ => decide ((0 : Int) ≤ (↑n : Int)) = true, fun _ => ¬(64 : Int) = (0 : Int), fun _ =>
        (0 : Int) ≤ IntKind.wrap IntKind.i64 (Int.tdiv (↑n : Int) (64 : Int)) ∧
          IntKind.wrap IntKind.i64 (Int.tdiv (↑n : Int) (64 : Int)) < (4 : Int),
        fun _ =>
        [SV.v (Value.int IntKind.u64 (↑(limb h (0 : Nat)) : Int)),
              SV.v (Value.int IntKind.u64 (↑(limb h (1 : Nat)) : Int)),
              SV.v (Value.int IntKind.u64 (↑(limb h (2 : Nat)) : Int)),
              SV.v
                (Value.int IntKind.u64
                  (↑(limb h (3 : Nat)) :
                    Int))][(0 : Nat) +
              Int.toNat (IntKind.wrap IntKind.i64 (Int.tdiv (↑n : Int) (64 : Int))) * (1 : Nat)]? =
          some (SV.v (Value.int IntKind.u64 (↑(limb h (n / (64 : Nat))) : Int))),
        fun _ => ¬(64 : Int) = (0 : Int), fun _ => ¬Int.tmod (↑n : Int) (64 : Int) < (0 : Int), fun _ =>
        Value.agg
              (Array.mk
                [Value.int IntKind.u64 (↑(limb r (0 : Nat)) : Int), Value.int IntKind.u64 (↑(limb r (1 : Nat)) : Int),
                  Value.int IntKind.u64 (↑(limb r (2 : Nat)) : Int),
                  Value.int IntKind.u64 (↑(limb r (3 : Nat)) : Int)]) =
            el
              (nv (Int.toNat (↑(limb r (0 : Nat)) : Int)) (Int.toNat (↑(limb r (1 : Nat)) : Int))
                (Int.toNat (↑(limb r (2 : Nat)) : Int)) (Int.toNat (↑(limb r (3 : Nat)) : Int))) ∧
          Value.int IntKind.u64
                (IntKind.wrap IntKind.u64
                  (↑(Int.toNat
                          (Int.fdiv (↑(limb h (n / (64 : Nat))) : Int)
                              ((2 : Int) ^
                                if Int.toNat (Int.tmod (↑n : Int) (64 : Int)) ≤ (64 : Nat) then
                                  Int.toNat (Int.tmod (↑n : Int) (64 : Int))
                                else (64 : Nat)) %
                            (18446744073709551616 : Int)) &&&
                        (1 : Nat)) :
                    Int)) =
              Value.int IntKind.u64
                (↑(Int.toNat
                      (IntKind.wrap IntKind.u64
                        (↑(Int.toNat
                                (Int.fdiv (↑(limb h (n / (64 : Nat))) : Int)
                                    ((2 : Int) ^
                                      if Int.toNat (Int.tmod (↑n : Int) (64 : Int)) ≤ (64 : Nat) then
                                        Int.toNat (Int.tmod (↑n : Int) (64 : Int))
                                      else (64 : Nat)) %
                                  (18446744073709551616 : Int)) &&&
                              (1 : Nat)) :
                          Int))) :
                  Int) ∧
            nv (Int.toNat (↑(limb r (0 : Nat)) : Int)) (Int.toNat (↑(limb r (1 : Nat)) : Int))
                  (Int.toNat (↑(limb r (2 : Nat)) : Int)) (Int.toNat (↑(limb r (3 : Nat)) : Int)) <
                (115792089237316195423570985008687907853269984665640564039457584007913129639936 : Nat) ∧
              Int.toNat
                  (IntKind.wrap IntKind.u64
                    (↑(Int.toNat
                            (Int.fdiv (↑(limb h (n / (64 : Nat))) : Int)
                                ((2 : Int) ^
                                  if Int.toNat (Int.tmod (↑n : Int) (64 : Int)) ≤ (64 : Nat) then
                                    Int.toNat (Int.tmod (↑n : Int) (64 : Int))
                                  else (64 : Nat)) %
                              (18446744073709551616 : Int)) &&&
                          (1 : Nat)) :
                      Int)) ≤
                (1 : Nat),
        fun _ =>
        Value.tuple
            (Array.mk
              [el
                  ((2 : Nat) *
                      nv (Int.toNat (↑(limb r (0 : Nat)) : Int)) (Int.toNat (↑(limb r (1 : Nat)) : Int))
                        (Int.toNat (↑(limb r (2 : Nat)) : Int)) (Int.toNat (↑(limb r (3 : Nat)) : Int)) +
                    Int.toNat
                      (IntKind.wrap IntKind.u64
                        (↑(Int.toNat
                                (Int.fdiv (↑(limb h (n / (64 : Nat))) : Int)
                                    ((2 : Int) ^
                                      if Int.toNat (Int.tmod (↑n : Int) (64 : Int)) ≤ (64 : Nat) then
                                        Int.toNat (Int.tmod (↑n : Int) (64 : Int))
                                      else (64 : Nat)) %
                                  (18446744073709551616 : Int)) &&&
                              (1 : Nat)) :
                          Int))),
                Value.int IntKind.u64
                  (↑(limb
                          (nv (Int.toNat (↑(limb r (0 : Nat)) : Int)) (Int.toNat (↑(limb r (1 : Nat)) : Int))
                            (Int.toNat (↑(limb r (2 : Nat)) : Int)) (Int.toNat (↑(limb r (3 : Nat)) : Int)))
                          (3 : Nat) /
                        (9223372036854775808 : Nat)) :
                    Int)]) =
          Value.tuple
            (Array.mk
              [el ((2 : Nat) * r + bitOf h n),
                Value.int IntKind.u64 (↑(limb r (3 : Nat) / (9223372036854775808 : Nat)) : Int)]),
        fun _ => (0 : Nat) + (4 : Nat) ≤ (4 : Nat), fun _ =>
        Value.agg
              (Array.mk
                [Value.int IntKind.u64 (↑(limb ((2 : Nat) * r + bitOf h n) (0 : Nat)) : Int),
                  Value.int IntKind.u64 (↑(limb ((2 : Nat) * r + bitOf h n) (1 : Nat)) : Int),
                  Value.int IntKind.u64 (↑(limb ((2 : Nat) * r + bitOf h n) (2 : Nat)) : Int),
                  Value.int IntKind.u64 (↑(limb ((2 : Nat) * r + bitOf h n) (3 : Nat)) : Int)]) =
            el
              (nv (Int.toNat (↑(limb ((2 : Nat) * r + bitOf h n) (0 : Nat)) : Int))
                (Int.toNat (↑(limb ((2 : Nat) * r + bitOf h n) (1 : Nat)) : Int))
                (Int.toNat (↑(limb ((2 : Nat) * r + bitOf h n) (2 : Nat)) : Int))
                (Int.toNat (↑(limb ((2 : Nat) * r + bitOf h n) (3 : Nat)) : Int))) ∧
          Value.agg
                (Array.mk
                  [Value.int IntKind.u64 (↑(limb m (0 : Nat)) : Int), Value.int IntKind.u64 (↑(limb m (1 : Nat)) : Int),
                    Value.int IntKind.u64 (↑(limb m (2 : Nat)) : Int),
                    Value.int IntKind.u64 (↑(limb m (3 : Nat)) : Int)]) =
              el
                (nv (Int.toNat (↑(limb m (0 : Nat)) : Int)) (Int.toNat (↑(limb m (1 : Nat)) : Int))
                  (Int.toNat (↑(limb m (2 : Nat)) : Int)) (Int.toNat (↑(limb m (3 : Nat)) : Int))) ∧
            nv (Int.toNat (↑(limb ((2 : Nat) * r + bitOf h n) (0 : Nat)) : Int))
                  (Int.toNat (↑(limb ((2 : Nat) * r + bitOf h n) (1 : Nat)) : Int))
                  (Int.toNat (↑(limb ((2 : Nat) * r + bitOf h n) (2 : Nat)) : Int))
                  (Int.toNat (↑(limb ((2 : Nat) * r + bitOf h n) (3 : Nat)) : Int)) <
                (115792089237316195423570985008687907853269984665640564039457584007913129639936 : Nat) ∧
              nv (Int.toNat (↑(limb m (0 : Nat)) : Int)) (Int.toNat (↑(limb m (1 : Nat)) : Int))
                  (Int.toNat (↑(limb m (2 : Nat)) : Int)) (Int.toNat (↑(limb m (3 : Nat)) : Int)) <
                (115792089237316195423570985008687907853269984665640564039457584007913129639936 : Nat),
        fun _ =>
        Value.tuple
            (Array.mk
              [el
                  (nv (Int.toNat (↑(limb ((2 : Nat) * r + bitOf h n) (0 : Nat)) : Int))
                        (Int.toNat (↑(limb ((2 : Nat) * r + bitOf h n) (1 : Nat)) : Int))
                        (Int.toNat (↑(limb ((2 : Nat) * r + bitOf h n) (2 : Nat)) : Int))
                        (Int.toNat (↑(limb ((2 : Nat) * r + bitOf h n) (3 : Nat)) : Int)) +
                      (115792089237316195423570985008687907853269984665640564039457584007913129639936 : Nat) -
                    nv (Int.toNat (↑(limb m (0 : Nat)) : Int)) (Int.toNat (↑(limb m (1 : Nat)) : Int))
                      (Int.toNat (↑(limb m (2 : Nat)) : Int)) (Int.toNat (↑(limb m (3 : Nat)) : Int))),
                Value.bool
                  (decide
                    (nv (Int.toNat (↑(limb ((2 : Nat) * r + bitOf h n) (0 : Nat)) : Int))
                        (Int.toNat (↑(limb ((2 : Nat) * r + bitOf h n) (1 : Nat)) : Int))
                        (Int.toNat (↑(limb ((2 : Nat) * r + bitOf h n) (2 : Nat)) : Int))
                        (Int.toNat (↑(limb ((2 : Nat) * r + bitOf h n) (3 : Nat)) : Int)) <
                      nv (Int.toNat (↑(limb m (0 : Nat)) : Int)) (Int.toNat (↑(limb m (1 : Nat)) : Int))
                        (Int.toNat (↑(limb m (2 : Nat)) : Int)) (Int.toNat (↑(limb m (3 : Nat)) : Int))))]) =
          Value.tuple
            (Array.mk
              [el
                  (((2 : Nat) * r + bitOf h n) %
                        (115792089237316195423570985008687907853269984665640564039457584007913129639936 : Nat) +
                      (115792089237316195423570985008687907853269984665640564039457584007913129639936 : Nat) -
                    m),
                Value.bool
                  (decide
                    (((2 : Nat) * r + bitOf h n) %
                        (115792089237316195423570985008687907853269984665640564039457584007913129639936 : Nat) <
                      m))]),
        fun _ => (0 : Nat) + (4 : Nat) ≤ (4 : Nat), fun _ =>
        (!(↑(limb r (3 : Nat) / (9223372036854775808 : Nat)) : Int) == (0 : Int)) = false, fun _ =>
        (!decide
              (((2 : Nat) * r + bitOf h n) %
                  (115792089237316195423570985008687907853269984665640564039457584007913129639936 : Nat) <
                m)) =
          true,
        fun _ => (0 : Nat) + (4 : Nat) ≤ (4 : Nat)]
      (It.rnd
          [(0 : Nat), (0 : Nat), (1 : Nat), (1 : Nat), (0 : Nat), (0 : Nat), (1 : Nat), (1 : Nat), (0 : Nat), (0 : Nat),
            (1 : Nat), (0 : Nat), (1 : Nat), (1 : Nat), (1 : Nat)]
          (M + (1 : Nat)) ::
        kt)
      (St.mk
        [((11 : Nat), SV.v (Value.int IntKind.i64 (IntKind.wrap IntKind.i64 ((↑n : Int) - (1 : Int))))),
          ((28 : Nat), SV.v (Value.int IntKind.i64 (IntKind.wrap IntKind.i64 ((↑n : Int) - (1 : Int))))),
          ((27 : Nat), SV.v (Value.int IntKind.i64 (↑n : Int))),
          ((54 : Nat),
            SV.agg
              [SV.v
                  (Value.int IntKind.u64
                    (↑(limb
                          (((2 : Nat) * r + bitOf h n) %
                                (115792089237316195423570985008687907853269984665640564039457584007913129639936 : Nat) +
                              (115792089237316195423570985008687907853269984665640564039457584007913129639936 : Nat) -
                            m)
                          (0 : Nat)) :
                      Int)),
                SV.v
                  (Value.int IntKind.u64
                    (↑(limb
                          (((2 : Nat) * r + bitOf h n) %
                                (115792089237316195423570985008687907853269984665640564039457584007913129639936 : Nat) +
                              (115792089237316195423570985008687907853269984665640564039457584007913129639936 : Nat) -
                            m)
                          (1 : Nat)) :
                      Int)),
                SV.v
                  (Value.int IntKind.u64
                    (↑(limb
                          (((2 : Nat) * r + bitOf h n) %
                                (115792089237316195423570985008687907853269984665640564039457584007913129639936 : Nat) +
                              (115792089237316195423570985008687907853269984665640564039457584007913129639936 : Nat) -
                            m)
                          (2 : Nat)) :
                      Int)),
                SV.v
                  (Value.int IntKind.u64
                    (↑(limb
                          (((2 : Nat) * r + bitOf h n) %
                                (115792089237316195423570985008687907853269984665640564039457584007913129639936 : Nat) +
                              (115792089237316195423570985008687907853269984665640564039457584007913129639936 : Nat) -
                            m)
                          (3 : Nat)) :
                      Int))]),
          ((53 : Nat),
            SV.v
              (Value.bool
                !decide
                    (((2 : Nat) * r + bitOf h n) %
                        (115792089237316195423570985008687907853269984665640564039457584007913129639936 : Nat) <
                      m))),
          ((52 : Nat),
            SV.v
              (Value.bool
                !decide
                    (((2 : Nat) * r + bitOf h n) %
                        (115792089237316195423570985008687907853269984665640564039457584007913129639936 : Nat) <
                      m))),
          ((51 : Nat),
            SV.v
              (Value.bool
                (decide
                  (((2 : Nat) * r + bitOf h n) %
                      (115792089237316195423570985008687907853269984665640564039457584007913129639936 : Nat) <
                    m)))),
          ((50 : Nat), SV.bl false),
          ((49 : Nat), SV.v (Value.bool !(↑(limb r (3 : Nat) / (9223372036854775808 : Nat)) : Int) == (0 : Int))),
          ((48 : Nat), SV.v (Value.int IntKind.u64 (↑(limb r (3 : Nat) / (9223372036854775808 : Nat)) : Int))),
          ((14 : Nat),
            SV.v
              (Value.bool
                (decide
                  (((2 : Nat) * r + bitOf h n) %
                      (115792089237316195423570985008687907853269984665640564039457584007913129639936 : Nat) <
                    m)))),
          ((13 : Nat), SV.p (6 : Nat) (0 : Nat)),
          ((47 : Nat),
            SV.v
              (Value.bool
                (decide
                  (((2 : Nat) * r + bitOf h n) %
                      (115792089237316195423570985008687907853269984665640564039457584007913129639936 : Nat) <
                    m)))),
          ((46 : Nat),
            SV.v
              (Value.agg
                (Array.mk
                  [Value.int IntKind.u64
                      (↑(limb
                            (((2 : Nat) * r + bitOf h n) %
                                  (115792089237316195423570985008687907853269984665640564039457584007913129639936 :
                                    Nat) +
                                (115792089237316195423570985008687907853269984665640564039457584007913129639936 : Nat) -
                              m)
                            (0 : Nat)) :
                        Int),
                    Value.int IntKind.u64
                      (↑(limb
                            (((2 : Nat) * r + bitOf h n) %
                                  (115792089237316195423570985008687907853269984665640564039457584007913129639936 :
                                    Nat) +
                                (115792089237316195423570985008687907853269984665640564039457584007913129639936 : Nat) -
                              m)
                            (1 : Nat)) :
                        Int),
                    Value.int IntKind.u64
                      (↑(limb
                            (((2 : Nat) * r + bitOf h n) %
                                  (115792089237316195423570985008687907853269984665640564039457584007913129639936 :
                                    Nat) +
                                (115792089237316195423570985008687907853269984665640564039457584007913129639936 : Nat) -
                              m)
                            (2 : Nat)) :
                        Int),
                    Value.int IntKind.u64
                      (↑(limb
                            (((2 : Nat) * r + bitOf h n) %
                                  (115792089237316195423570985008687907853269984665640564039457584007913129639936 :
                                    Nat) +
                                (115792089237316195423570985008687907853269984665640564039457584007913129639936 : Nat) -
                              m)
                            (3 : Nat)) :
                        Int)]))),
          ((42 : Nat),
            SV.v
              (Value.tuple
                (Array.mk
                  [el
                      (((2 : Nat) * r + bitOf h n) %
                            (115792089237316195423570985008687907853269984665640564039457584007913129639936 : Nat) +
                          (115792089237316195423570985008687907853269984665640564039457584007913129639936 : Nat) -
                        m),
                    Value.bool
                      (decide
                        (((2 : Nat) * r + bitOf h n) %
                            (115792089237316195423570985008687907853269984665640564039457584007913129639936 : Nat) <
                          m))]))),
          ((45 : Nat),
            SV.v
              (Value.tuple
                (Array.mk
                  [el
                      (((2 : Nat) * r + bitOf h n) %
                            (115792089237316195423570985008687907853269984665640564039457584007913129639936 : Nat) +
                          (115792089237316195423570985008687907853269984665640564039457584007913129639936 : Nat) -
                        m),
                    Value.bool
                      (decide
                        (((2 : Nat) * r + bitOf h n) %
                            (115792089237316195423570985008687907853269984665640564039457584007913129639936 : Nat) <
                          m))]))),
          ((44 : Nat),
            SV.agg
              [SV.v (Value.int IntKind.u64 (↑(limb m (0 : Nat)) : Int)),
                SV.v (Value.int IntKind.u64 (↑(limb m (1 : Nat)) : Int)),
                SV.v (Value.int IntKind.u64 (↑(limb m (2 : Nat)) : Int)),
                SV.v (Value.int IntKind.u64 (↑(limb m (3 : Nat)) : Int))]),
          ((43 : Nat),
            SV.agg
              [SV.v (Value.int IntKind.u64 (↑(limb ((2 : Nat) * r + bitOf h n) (0 : Nat)) : Int)),
                SV.v (Value.int IntKind.u64 (↑(limb ((2 : Nat) * r + bitOf h n) (1 : Nat)) : Int)),
                SV.v (Value.int IntKind.u64 (↑(limb ((2 : Nat) * r + bitOf h n) (2 : Nat)) : Int)),
                SV.v (Value.int IntKind.u64 (↑(limb ((2 : Nat) * r + bitOf h n) (3 : Nat)) : Int))]),
          ((12 : Nat), SV.v (Value.int IntKind.u64 (↑(limb r (3 : Nat) / (9223372036854775808 : Nat)) : Int))),
          ((41 : Nat), SV.v (Value.int IntKind.u64 (↑(limb r (3 : Nat) / (9223372036854775808 : Nat)) : Int))),
          ((40 : Nat),
            SV.v
              (Value.agg
                (Array.mk
                  [Value.int IntKind.u64 (↑(limb ((2 : Nat) * r + bitOf h n) (0 : Nat)) : Int),
                    Value.int IntKind.u64 (↑(limb ((2 : Nat) * r + bitOf h n) (1 : Nat)) : Int),
                    Value.int IntKind.u64 (↑(limb ((2 : Nat) * r + bitOf h n) (2 : Nat)) : Int),
                    Value.int IntKind.u64 (↑(limb ((2 : Nat) * r + bitOf h n) (3 : Nat)) : Int)]))),
          ((29 : Nat),
            SV.v
              (Value.tuple
                (Array.mk
                  [el ((2 : Nat) * r + bitOf h n),
                    Value.int IntKind.u64 (↑(limb r (3 : Nat) / (9223372036854775808 : Nat)) : Int)]))),
          ((39 : Nat),
            SV.v
              (Value.tuple
                (Array.mk
                  [el ((2 : Nat) * r + bitOf h n),
                    Value.int IntKind.u64 (↑(limb r (3 : Nat) / (9223372036854775808 : Nat)) : Int)]))),
          ((38 : Nat),
            SV.v
              (Value.int IntKind.u64
                (IntKind.wrap IntKind.u64
                  (↑(Int.toNat
                          (Int.fdiv (↑(limb h (n / (64 : Nat))) : Int)
                              ((2 : Int) ^
                                if Int.toNat (Int.tmod (↑n : Int) (64 : Int)) ≤ (64 : Nat) then
                                  Int.toNat (Int.tmod (↑n : Int) (64 : Int))
                                else (64 : Nat)) %
                            (18446744073709551616 : Int)) &&&
                        (1 : Nat)) :
                    Int)))),
          ((37 : Nat),
            SV.v
              (Value.int IntKind.u64
                (Int.fdiv (↑(limb h (n / (64 : Nat))) : Int)
                  ((2 : Int) ^
                    if Int.toNat (Int.tmod (↑n : Int) (64 : Int)) ≤ (64 : Nat) then
                      Int.toNat (Int.tmod (↑n : Int) (64 : Int))
                    else (64 : Nat))))),
          ((36 : Nat), SV.v (Value.int IntKind.i64 (Int.tmod (↑n : Int) (64 : Int)))),
          ((35 : Nat), SV.v (Value.int IntKind.i64 (↑n : Int))),
          ((34 : Nat), SV.v (Value.int IntKind.u64 (↑(limb h (n / (64 : Nat))) : Int))),
          ((33 : Nat),
            SV.p (5 : Nat)
              ((0 : Nat) + Int.toNat (IntKind.wrap IntKind.i64 (Int.tdiv (↑n : Int) (64 : Int))) * (1 : Nat))),
          ((32 : Nat), SV.v (Value.int IntKind.i64 (IntKind.wrap IntKind.i64 (Int.tdiv (↑n : Int) (64 : Int))))),
          ((31 : Nat), SV.v (Value.int IntKind.i64 (↑n : Int))),
          ((30 : Nat),
            SV.agg
              [SV.v (Value.int IntKind.u64 (↑(limb r (0 : Nat)) : Int)),
                SV.v (Value.int IntKind.u64 (↑(limb r (1 : Nat)) : Int)),
                SV.v (Value.int IntKind.u64 (↑(limb r (2 : Nat)) : Int)),
                SV.v (Value.int IntKind.u64 (↑(limb r (3 : Nat)) : Int))]),
          ((26 : Nat), SV.v (Value.bool (decide ((0 : Int) ≤ (↑n : Int))))),
          ((25 : Nat), SV.v (Value.int IntKind.i64 (↑n : Int))), ((10 : Nat), SV.p (5 : Nat) (0 : Nat)),
          ((8 : Nat), SV.p (4 : Nat) (0 : Nat)), ((6 : Nat), SV.p (3 : Nat) (0 : Nat)),
          ((7 : Nat), SV.v (Value.int IntKind.i64 (0 : Int))), ((5 : Nat), SV.p (2 : Nat) (0 : Nat)),
          ((22 : Nat), SV.v (Value.int IntKind.i64 j)),
          ((21 : Nat),
            SV.agg
              [SV.v (Value.int IntKind.u64 (↑(limb b (0 : Nat)) : Int)),
                SV.v (Value.int IntKind.u64 (↑(limb b (1 : Nat)) : Int)),
                SV.v (Value.int IntKind.u64 (↑(limb b (2 : Nat)) : Int)),
                SV.v (Value.int IntKind.u64 (↑(limb b (3 : Nat)) : Int)),
                SV.v (Value.int IntKind.u64 (↑(limb a (0 : Nat)) : Int)),
                SV.v (Value.int IntKind.u64 (↑(limb a (1 : Nat)) : Int)),
                SV.v (Value.int IntKind.u64 (↑(limb a (2 : Nat)) : Int)),
                SV.v (Value.int IntKind.u64 (↑(limb a (3 : Nat)) : Int))])]
        [HO.cells
            [SV.v (Value.int IntKind.u64 (↑(limb a (0 : Nat)) : Int)),
              SV.v (Value.int IntKind.u64 (↑(limb a (1 : Nat)) : Int)),
              SV.v (Value.int IntKind.u64 (↑(limb a (2 : Nat)) : Int)),
              SV.v (Value.int IntKind.u64 (↑(limb a (3 : Nat)) : Int))]
            (24 : Nat),
          HO.cells
            [SV.v (Value.int IntKind.u64 (↑(limb b (0 : Nat)) : Int)),
              SV.v (Value.int IntKind.u64 (↑(limb b (1 : Nat)) : Int)),
              SV.v (Value.int IntKind.u64 (↑(limb b (2 : Nat)) : Int)),
              SV.v (Value.int IntKind.u64 (↑(limb b (3 : Nat)) : Int))]
            (24 : Nat),
          HO.cells
            [SV.v (Value.int IntKind.u64 (↑(limb m (0 : Nat)) : Int)),
              SV.v (Value.int IntKind.u64 (↑(limb m (1 : Nat)) : Int)),
              SV.v (Value.int IntKind.u64 (↑(limb m (2 : Nat)) : Int)),
              SV.v (Value.int IntKind.u64 (↑(limb m (3 : Nat)) : Int))]
            (24 : Nat),
          HO.cells
            [SV.v (Value.int IntKind.u64 (↑(limb (0 : Nat) (0 : Nat)) : Int)),
              SV.v (Value.int IntKind.u64 (↑(limb (0 : Nat) (1 : Nat)) : Int)),
              SV.v (Value.int IntKind.u64 (↑(limb (0 : Nat) (2 : Nat)) : Int)),
              SV.v (Value.int IntKind.u64 (↑(limb (0 : Nat) (3 : Nat)) : Int))]
            (24 : Nat),
          HO.cells
            [SV.v
                (Value.int IntKind.u64
                  (↑(limb
                        (((2 : Nat) * r + bitOf h n) %
                              (115792089237316195423570985008687907853269984665640564039457584007913129639936 : Nat) +
                            (115792089237316195423570985008687907853269984665640564039457584007913129639936 : Nat) -
                          m)
                        (0 : Nat)) :
                    Int)),
              SV.v
                (Value.int IntKind.u64
                  (↑(limb
                        (((2 : Nat) * r + bitOf h n) %
                              (115792089237316195423570985008687907853269984665640564039457584007913129639936 : Nat) +
                            (115792089237316195423570985008687907853269984665640564039457584007913129639936 : Nat) -
                          m)
                        (1 : Nat)) :
                    Int)),
              SV.v
                (Value.int IntKind.u64
                  (↑(limb
                        (((2 : Nat) * r + bitOf h n) %
                              (115792089237316195423570985008687907853269984665640564039457584007913129639936 : Nat) +
                            (115792089237316195423570985008687907853269984665640564039457584007913129639936 : Nat) -
                          m)
                        (2 : Nat)) :
                    Int)),
              SV.v
                (Value.int IntKind.u64
                  (↑(limb
                        (((2 : Nat) * r + bitOf h n) %
                              (115792089237316195423570985008687907853269984665640564039457584007913129639936 : Nat) +
                            (115792089237316195423570985008687907853269984665640564039457584007913129639936 : Nat) -
                          m)
                        (3 : Nat)) :
                    Int))]
            (24 : Nat),
          HO.cells
            [SV.v (Value.int IntKind.u64 (↑(limb h (0 : Nat)) : Int)),
              SV.v (Value.int IntKind.u64 (↑(limb h (1 : Nat)) : Int)),
              SV.v (Value.int IntKind.u64 (↑(limb h (2 : Nat)) : Int)),
              SV.v (Value.int IntKind.u64 (↑(limb h (3 : Nat)) : Int))]
            (24 : Nat),
          HO.cells
            [SV.v
                (Value.int IntKind.u64
                  (↑(limb
                        (((2 : Nat) * r + bitOf h n) %
                              (115792089237316195423570985008687907853269984665640564039457584007913129639936 : Nat) +
                            (115792089237316195423570985008687907853269984665640564039457584007913129639936 : Nat) -
                          m)
                        (0 : Nat)) :
                    Int)),
              SV.v
                (Value.int IntKind.u64
                  (↑(limb
                        (((2 : Nat) * r + bitOf h n) %
                              (115792089237316195423570985008687907853269984665640564039457584007913129639936 : Nat) +
                            (115792089237316195423570985008687907853269984665640564039457584007913129639936 : Nat) -
                          m)
                        (1 : Nat)) :
                    Int)),
              SV.v
                (Value.int IntKind.u64
                  (↑(limb
                        (((2 : Nat) * r + bitOf h n) %
                              (115792089237316195423570985008687907853269984665640564039457584007913129639936 : Nat) +
                            (115792089237316195423570985008687907853269984665640564039457584007913129639936 : Nat) -
                          m)
                        (2 : Nat)) :
                    Int)),
              SV.v
                (Value.int IntKind.u64
                  (↑(limb
                        (((2 : Nat) * r + bitOf h n) %
                              (115792089237316195423570985008687907853269984665640564039457584007913129639936 : Nat) +
                            (115792089237316195423570985008687907853269984665640564039457584007913129639936 : Nat) -
                          m)
                        (3 : Nat)) :
                    Int))]
            (24 : Nat)]),
    Leaf2.mk
      [(!(↑(limb r (3 : Nat) / (9223372036854775808 : Nat)) : Int) == (0 : Int)) = false,
        (!decide
              (((2 : Nat) * r + bitOf h n) %
                  (115792089237316195423570985008687907853269984665640564039457584007913129639936 : Nat) <
                m)) =
          false]
      [fun _ => decide ((0 : Int) ≤ (↑n : Int)) = true, fun _ => ¬(64 : Int) = (0 : Int), fun _ =>
        (0 : Int) ≤ IntKind.wrap IntKind.i64 (Int.tdiv (↑n : Int) (64 : Int)) ∧
          IntKind.wrap IntKind.i64 (Int.tdiv (↑n : Int) (64 : Int)) < (4 : Int),
        fun _ =>
        [SV.v (Value.int IntKind.u64 (↑(limb h (0 : Nat)) : Int)),
              SV.v (Value.int IntKind.u64 (↑(limb h (1 : Nat)) : Int)),
              SV.v (Value.int IntKind.u64 (↑(limb h (2 : Nat)) : Int)),
              SV.v
                (Value.int IntKind.u64
                  (↑(limb h (3 : Nat)) :
                    Int))][(0 : Nat) +
              Int.toNat (IntKind.wrap IntKind.i64 (Int.tdiv (↑n : Int) (64 : Int))) * (1 : Nat)]? =
          some (SV.v (Value.int IntKind.u64 (↑(limb h (n / (64 : Nat))) : Int))),
        fun _ => ¬(64 : Int) = (0 : Int), fun _ => ¬Int.tmod (↑n : Int) (64 : Int) < (0 : Int), fun _ =>
        Value.agg
              (Array.mk
                [Value.int IntKind.u64 (↑(limb r (0 : Nat)) : Int), Value.int IntKind.u64 (↑(limb r (1 : Nat)) : Int),
                  Value.int IntKind.u64 (↑(limb r (2 : Nat)) : Int),
                  Value.int IntKind.u64 (↑(limb r (3 : Nat)) : Int)]) =
            el
              (nv (Int.toNat (↑(limb r (0 : Nat)) : Int)) (Int.toNat (↑(limb r (1 : Nat)) : Int))
                (Int.toNat (↑(limb r (2 : Nat)) : Int)) (Int.toNat (↑(limb r (3 : Nat)) : Int))) ∧
          Value.int IntKind.u64
                (IntKind.wrap IntKind.u64
                  (↑(Int.toNat
                          (Int.fdiv (↑(limb h (n / (64 : Nat))) : Int)
                              ((2 : Int) ^
                                if Int.toNat (Int.tmod (↑n : Int) (64 : Int)) ≤ (64 : Nat) then
                                  Int.toNat (Int.tmod (↑n : Int) (64 : Int))
                                else (64 : Nat)) %
                            (18446744073709551616 : Int)) &&&
                        (1 : Nat)) :
                    Int)) =
              Value.int IntKind.u64
                (↑(Int.toNat
                      (IntKind.wrap IntKind.u64
                        (↑(Int.toNat
                                (Int.fdiv (↑(limb h (n / (64 : Nat))) : Int)
                                    ((2 : Int) ^
                                      if Int.toNat (Int.tmod (↑n : Int) (64 : Int)) ≤ (64 : Nat) then
                                        Int.toNat (Int.tmod (↑n : Int) (64 : Int))
                                      else (64 : Nat)) %
                                  (18446744073709551616 : Int)) &&&
                              (1 : Nat)) :
                          Int))) :
                  Int) ∧
            nv (Int.toNat (↑(limb r (0 : Nat)) : Int)) (Int.toNat (↑(limb r (1 : Nat)) : Int))
                  (Int.toNat (↑(limb r (2 : Nat)) : Int)) (Int.toNat (↑(limb r (3 : Nat)) : Int)) <
                (115792089237316195423570985008687907853269984665640564039457584007913129639936 : Nat) ∧
              Int.toNat
                  (IntKind.wrap IntKind.u64
                    (↑(Int.toNat
                            (Int.fdiv (↑(limb h (n / (64 : Nat))) : Int)
                                ((2 : Int) ^
                                  if Int.toNat (Int.tmod (↑n : Int) (64 : Int)) ≤ (64 : Nat) then
                                    Int.toNat (Int.tmod (↑n : Int) (64 : Int))
                                  else (64 : Nat)) %
                              (18446744073709551616 : Int)) &&&
                          (1 : Nat)) :
                      Int)) ≤
                (1 : Nat),
        fun _ =>
        Value.tuple
            (Array.mk
              [el
                  ((2 : Nat) *
                      nv (Int.toNat (↑(limb r (0 : Nat)) : Int)) (Int.toNat (↑(limb r (1 : Nat)) : Int))
                        (Int.toNat (↑(limb r (2 : Nat)) : Int)) (Int.toNat (↑(limb r (3 : Nat)) : Int)) +
                    Int.toNat
                      (IntKind.wrap IntKind.u64
                        (↑(Int.toNat
                                (Int.fdiv (↑(limb h (n / (64 : Nat))) : Int)
                                    ((2 : Int) ^
                                      if Int.toNat (Int.tmod (↑n : Int) (64 : Int)) ≤ (64 : Nat) then
                                        Int.toNat (Int.tmod (↑n : Int) (64 : Int))
                                      else (64 : Nat)) %
                                  (18446744073709551616 : Int)) &&&
                              (1 : Nat)) :
                          Int))),
                Value.int IntKind.u64
                  (↑(limb
                          (nv (Int.toNat (↑(limb r (0 : Nat)) : Int)) (Int.toNat (↑(limb r (1 : Nat)) : Int))
                            (Int.toNat (↑(limb r (2 : Nat)) : Int)) (Int.toNat (↑(limb r (3 : Nat)) : Int)))
                          (3 : Nat) /
                        (9223372036854775808 : Nat)) :
                    Int)]) =
          Value.tuple
            (Array.mk
              [el ((2 : Nat) * r + bitOf h n),
                Value.int IntKind.u64 (↑(limb r (3 : Nat) / (9223372036854775808 : Nat)) : Int)]),
        fun _ => (0 : Nat) + (4 : Nat) ≤ (4 : Nat), fun _ =>
        Value.agg
              (Array.mk
                [Value.int IntKind.u64 (↑(limb ((2 : Nat) * r + bitOf h n) (0 : Nat)) : Int),
                  Value.int IntKind.u64 (↑(limb ((2 : Nat) * r + bitOf h n) (1 : Nat)) : Int),
                  Value.int IntKind.u64 (↑(limb ((2 : Nat) * r + bitOf h n) (2 : Nat)) : Int),
                  Value.int IntKind.u64 (↑(limb ((2 : Nat) * r + bitOf h n) (3 : Nat)) : Int)]) =
            el
              (nv (Int.toNat (↑(limb ((2 : Nat) * r + bitOf h n) (0 : Nat)) : Int))
                (Int.toNat (↑(limb ((2 : Nat) * r + bitOf h n) (1 : Nat)) : Int))
                (Int.toNat (↑(limb ((2 : Nat) * r + bitOf h n) (2 : Nat)) : Int))
                (Int.toNat (↑(limb ((2 : Nat) * r + bitOf h n) (3 : Nat)) : Int))) ∧
          Value.agg
                (Array.mk
                  [Value.int IntKind.u64 (↑(limb m (0 : Nat)) : Int), Value.int IntKind.u64 (↑(limb m (1 : Nat)) : Int),
                    Value.int IntKind.u64 (↑(limb m (2 : Nat)) : Int),
                    Value.int IntKind.u64 (↑(limb m (3 : Nat)) : Int)]) =
              el
                (nv (Int.toNat (↑(limb m (0 : Nat)) : Int)) (Int.toNat (↑(limb m (1 : Nat)) : Int))
                  (Int.toNat (↑(limb m (2 : Nat)) : Int)) (Int.toNat (↑(limb m (3 : Nat)) : Int))) ∧
            nv (Int.toNat (↑(limb ((2 : Nat) * r + bitOf h n) (0 : Nat)) : Int))
                  (Int.toNat (↑(limb ((2 : Nat) * r + bitOf h n) (1 : Nat)) : Int))
                  (Int.toNat (↑(limb ((2 : Nat) * r + bitOf h n) (2 : Nat)) : Int))
                  (Int.toNat (↑(limb ((2 : Nat) * r + bitOf h n) (3 : Nat)) : Int)) <
                (115792089237316195423570985008687907853269984665640564039457584007913129639936 : Nat) ∧
              nv (Int.toNat (↑(limb m (0 : Nat)) : Int)) (Int.toNat (↑(limb m (1 : Nat)) : Int))
                  (Int.toNat (↑(limb m (2 : Nat)) : Int)) (Int.toNat (↑(limb m (3 : Nat)) : Int)) <
                (115792089237316195423570985008687907853269984665640564039457584007913129639936 : Nat),
        fun _ =>
        Value.tuple
            (Array.mk
              [el
                  (nv (Int.toNat (↑(limb ((2 : Nat) * r + bitOf h n) (0 : Nat)) : Int))
                        (Int.toNat (↑(limb ((2 : Nat) * r + bitOf h n) (1 : Nat)) : Int))
                        (Int.toNat (↑(limb ((2 : Nat) * r + bitOf h n) (2 : Nat)) : Int))
                        (Int.toNat (↑(limb ((2 : Nat) * r + bitOf h n) (3 : Nat)) : Int)) +
                      (115792089237316195423570985008687907853269984665640564039457584007913129639936 : Nat) -
                    nv (Int.toNat (↑(limb m (0 : Nat)) : Int)) (Int.toNat (↑(limb m (1 : Nat)) : Int))
                      (Int.toNat (↑(limb m (2 : Nat)) : Int)) (Int.toNat (↑(limb m (3 : Nat)) : Int))),
                Value.bool
                  (decide
                    (nv (Int.toNat (↑(limb ((2 : Nat) * r + bitOf h n) (0 : Nat)) : Int))
                        (Int.toNat (↑(limb ((2 : Nat) * r + bitOf h n) (1 : Nat)) : Int))
                        (Int.toNat (↑(limb ((2 : Nat) * r + bitOf h n) (2 : Nat)) : Int))
                        (Int.toNat (↑(limb ((2 : Nat) * r + bitOf h n) (3 : Nat)) : Int)) <
                      nv (Int.toNat (↑(limb m (0 : Nat)) : Int)) (Int.toNat (↑(limb m (1 : Nat)) : Int))
                        (Int.toNat (↑(limb m (2 : Nat)) : Int)) (Int.toNat (↑(limb m (3 : Nat)) : Int))))]) =
          Value.tuple
            (Array.mk
              [el
                  (((2 : Nat) * r + bitOf h n) %
                        (115792089237316195423570985008687907853269984665640564039457584007913129639936 : Nat) +
                      (115792089237316195423570985008687907853269984665640564039457584007913129639936 : Nat) -
                    m),
                Value.bool
                  (decide
                    (((2 : Nat) * r + bitOf h n) %
                        (115792089237316195423570985008687907853269984665640564039457584007913129639936 : Nat) <
                      m))]),
        fun _ => (0 : Nat) + (4 : Nat) ≤ (4 : Nat), fun _ =>
        (!(↑(limb r (3 : Nat) / (9223372036854775808 : Nat)) : Int) == (0 : Int)) = false, fun _ =>
        (!decide
              (((2 : Nat) * r + bitOf h n) %
                  (115792089237316195423570985008687907853269984665640564039457584007913129639936 : Nat) <
                m)) =
          false]
      (It.rnd
          [(0 : Nat), (0 : Nat), (1 : Nat), (1 : Nat), (0 : Nat), (0 : Nat), (1 : Nat), (1 : Nat), (0 : Nat), (0 : Nat),
            (1 : Nat), (0 : Nat), (1 : Nat), (1 : Nat), (1 : Nat)]
          (M + (1 : Nat)) ::
        kt)
      (St.mk
        [((11 : Nat), SV.v (Value.int IntKind.i64 (IntKind.wrap IntKind.i64 ((↑n : Int) - (1 : Int))))),
          ((28 : Nat), SV.v (Value.int IntKind.i64 (IntKind.wrap IntKind.i64 ((↑n : Int) - (1 : Int))))),
          ((27 : Nat), SV.v (Value.int IntKind.i64 (↑n : Int))),
          ((53 : Nat),
            SV.v
              (Value.bool
                !decide
                    (((2 : Nat) * r + bitOf h n) %
                        (115792089237316195423570985008687907853269984665640564039457584007913129639936 : Nat) <
                      m))),
          ((52 : Nat),
            SV.v
              (Value.bool
                !decide
                    (((2 : Nat) * r + bitOf h n) %
                        (115792089237316195423570985008687907853269984665640564039457584007913129639936 : Nat) <
                      m))),
          ((51 : Nat),
            SV.v
              (Value.bool
                (decide
                  (((2 : Nat) * r + bitOf h n) %
                      (115792089237316195423570985008687907853269984665640564039457584007913129639936 : Nat) <
                    m)))),
          ((50 : Nat), SV.bl false),
          ((49 : Nat), SV.v (Value.bool !(↑(limb r (3 : Nat) / (9223372036854775808 : Nat)) : Int) == (0 : Int))),
          ((48 : Nat), SV.v (Value.int IntKind.u64 (↑(limb r (3 : Nat) / (9223372036854775808 : Nat)) : Int))),
          ((14 : Nat),
            SV.v
              (Value.bool
                (decide
                  (((2 : Nat) * r + bitOf h n) %
                      (115792089237316195423570985008687907853269984665640564039457584007913129639936 : Nat) <
                    m)))),
          ((13 : Nat), SV.p (6 : Nat) (0 : Nat)),
          ((47 : Nat),
            SV.v
              (Value.bool
                (decide
                  (((2 : Nat) * r + bitOf h n) %
                      (115792089237316195423570985008687907853269984665640564039457584007913129639936 : Nat) <
                    m)))),
          ((46 : Nat),
            SV.v
              (Value.agg
                (Array.mk
                  [Value.int IntKind.u64
                      (↑(limb
                            (((2 : Nat) * r + bitOf h n) %
                                  (115792089237316195423570985008687907853269984665640564039457584007913129639936 :
                                    Nat) +
                                (115792089237316195423570985008687907853269984665640564039457584007913129639936 : Nat) -
                              m)
                            (0 : Nat)) :
                        Int),
                    Value.int IntKind.u64
                      (↑(limb
                            (((2 : Nat) * r + bitOf h n) %
                                  (115792089237316195423570985008687907853269984665640564039457584007913129639936 :
                                    Nat) +
                                (115792089237316195423570985008687907853269984665640564039457584007913129639936 : Nat) -
                              m)
                            (1 : Nat)) :
                        Int),
                    Value.int IntKind.u64
                      (↑(limb
                            (((2 : Nat) * r + bitOf h n) %
                                  (115792089237316195423570985008687907853269984665640564039457584007913129639936 :
                                    Nat) +
                                (115792089237316195423570985008687907853269984665640564039457584007913129639936 : Nat) -
                              m)
                            (2 : Nat)) :
                        Int),
                    Value.int IntKind.u64
                      (↑(limb
                            (((2 : Nat) * r + bitOf h n) %
                                  (115792089237316195423570985008687907853269984665640564039457584007913129639936 :
                                    Nat) +
                                (115792089237316195423570985008687907853269984665640564039457584007913129639936 : Nat) -
                              m)
                            (3 : Nat)) :
                        Int)]))),
          ((42 : Nat),
            SV.v
              (Value.tuple
                (Array.mk
                  [el
                      (((2 : Nat) * r + bitOf h n) %
                            (115792089237316195423570985008687907853269984665640564039457584007913129639936 : Nat) +
                          (115792089237316195423570985008687907853269984665640564039457584007913129639936 : Nat) -
                        m),
                    Value.bool
                      (decide
                        (((2 : Nat) * r + bitOf h n) %
                            (115792089237316195423570985008687907853269984665640564039457584007913129639936 : Nat) <
                          m))]))),
          ((45 : Nat),
            SV.v
              (Value.tuple
                (Array.mk
                  [el
                      (((2 : Nat) * r + bitOf h n) %
                            (115792089237316195423570985008687907853269984665640564039457584007913129639936 : Nat) +
                          (115792089237316195423570985008687907853269984665640564039457584007913129639936 : Nat) -
                        m),
                    Value.bool
                      (decide
                        (((2 : Nat) * r + bitOf h n) %
                            (115792089237316195423570985008687907853269984665640564039457584007913129639936 : Nat) <
                          m))]))),
          ((44 : Nat),
            SV.agg
              [SV.v (Value.int IntKind.u64 (↑(limb m (0 : Nat)) : Int)),
                SV.v (Value.int IntKind.u64 (↑(limb m (1 : Nat)) : Int)),
                SV.v (Value.int IntKind.u64 (↑(limb m (2 : Nat)) : Int)),
                SV.v (Value.int IntKind.u64 (↑(limb m (3 : Nat)) : Int))]),
          ((43 : Nat),
            SV.agg
              [SV.v (Value.int IntKind.u64 (↑(limb ((2 : Nat) * r + bitOf h n) (0 : Nat)) : Int)),
                SV.v (Value.int IntKind.u64 (↑(limb ((2 : Nat) * r + bitOf h n) (1 : Nat)) : Int)),
                SV.v (Value.int IntKind.u64 (↑(limb ((2 : Nat) * r + bitOf h n) (2 : Nat)) : Int)),
                SV.v (Value.int IntKind.u64 (↑(limb ((2 : Nat) * r + bitOf h n) (3 : Nat)) : Int))]),
          ((12 : Nat), SV.v (Value.int IntKind.u64 (↑(limb r (3 : Nat) / (9223372036854775808 : Nat)) : Int))),
          ((41 : Nat), SV.v (Value.int IntKind.u64 (↑(limb r (3 : Nat) / (9223372036854775808 : Nat)) : Int))),
          ((40 : Nat),
            SV.v
              (Value.agg
                (Array.mk
                  [Value.int IntKind.u64 (↑(limb ((2 : Nat) * r + bitOf h n) (0 : Nat)) : Int),
                    Value.int IntKind.u64 (↑(limb ((2 : Nat) * r + bitOf h n) (1 : Nat)) : Int),
                    Value.int IntKind.u64 (↑(limb ((2 : Nat) * r + bitOf h n) (2 : Nat)) : Int),
                    Value.int IntKind.u64 (↑(limb ((2 : Nat) * r + bitOf h n) (3 : Nat)) : Int)]))),
          ((29 : Nat),
            SV.v
              (Value.tuple
                (Array.mk
                  [el ((2 : Nat) * r + bitOf h n),
                    Value.int IntKind.u64 (↑(limb r (3 : Nat) / (9223372036854775808 : Nat)) : Int)]))),
          ((39 : Nat),
            SV.v
              (Value.tuple
                (Array.mk
                  [el ((2 : Nat) * r + bitOf h n),
                    Value.int IntKind.u64 (↑(limb r (3 : Nat) / (9223372036854775808 : Nat)) : Int)]))),
          ((38 : Nat),
            SV.v
              (Value.int IntKind.u64
                (IntKind.wrap IntKind.u64
                  (↑(Int.toNat
                          (Int.fdiv (↑(limb h (n / (64 : Nat))) : Int)
                              ((2 : Int) ^
                                if Int.toNat (Int.tmod (↑n : Int) (64 : Int)) ≤ (64 : Nat) then
                                  Int.toNat (Int.tmod (↑n : Int) (64 : Int))
                                else (64 : Nat)) %
                            (18446744073709551616 : Int)) &&&
                        (1 : Nat)) :
                    Int)))),
          ((37 : Nat),
            SV.v
              (Value.int IntKind.u64
                (Int.fdiv (↑(limb h (n / (64 : Nat))) : Int)
                  ((2 : Int) ^
                    if Int.toNat (Int.tmod (↑n : Int) (64 : Int)) ≤ (64 : Nat) then
                      Int.toNat (Int.tmod (↑n : Int) (64 : Int))
                    else (64 : Nat))))),
          ((36 : Nat), SV.v (Value.int IntKind.i64 (Int.tmod (↑n : Int) (64 : Int)))),
          ((35 : Nat), SV.v (Value.int IntKind.i64 (↑n : Int))),
          ((34 : Nat), SV.v (Value.int IntKind.u64 (↑(limb h (n / (64 : Nat))) : Int))),
          ((33 : Nat),
            SV.p (5 : Nat)
              ((0 : Nat) + Int.toNat (IntKind.wrap IntKind.i64 (Int.tdiv (↑n : Int) (64 : Int))) * (1 : Nat))),
          ((32 : Nat), SV.v (Value.int IntKind.i64 (IntKind.wrap IntKind.i64 (Int.tdiv (↑n : Int) (64 : Int))))),
          ((31 : Nat), SV.v (Value.int IntKind.i64 (↑n : Int))),
          ((30 : Nat),
            SV.agg
              [SV.v (Value.int IntKind.u64 (↑(limb r (0 : Nat)) : Int)),
                SV.v (Value.int IntKind.u64 (↑(limb r (1 : Nat)) : Int)),
                SV.v (Value.int IntKind.u64 (↑(limb r (2 : Nat)) : Int)),
                SV.v (Value.int IntKind.u64 (↑(limb r (3 : Nat)) : Int))]),
          ((26 : Nat), SV.v (Value.bool (decide ((0 : Int) ≤ (↑n : Int))))),
          ((25 : Nat), SV.v (Value.int IntKind.i64 (↑n : Int))), ((10 : Nat), SV.p (5 : Nat) (0 : Nat)),
          ((8 : Nat), SV.p (4 : Nat) (0 : Nat)), ((6 : Nat), SV.p (3 : Nat) (0 : Nat)),
          ((7 : Nat), SV.v (Value.int IntKind.i64 (0 : Int))), ((5 : Nat), SV.p (2 : Nat) (0 : Nat)),
          ((22 : Nat), SV.v (Value.int IntKind.i64 j)),
          ((21 : Nat),
            SV.agg
              [SV.v (Value.int IntKind.u64 (↑(limb b (0 : Nat)) : Int)),
                SV.v (Value.int IntKind.u64 (↑(limb b (1 : Nat)) : Int)),
                SV.v (Value.int IntKind.u64 (↑(limb b (2 : Nat)) : Int)),
                SV.v (Value.int IntKind.u64 (↑(limb b (3 : Nat)) : Int)),
                SV.v (Value.int IntKind.u64 (↑(limb a (0 : Nat)) : Int)),
                SV.v (Value.int IntKind.u64 (↑(limb a (1 : Nat)) : Int)),
                SV.v (Value.int IntKind.u64 (↑(limb a (2 : Nat)) : Int)),
                SV.v (Value.int IntKind.u64 (↑(limb a (3 : Nat)) : Int))])]
        [HO.cells
            [SV.v (Value.int IntKind.u64 (↑(limb a (0 : Nat)) : Int)),
              SV.v (Value.int IntKind.u64 (↑(limb a (1 : Nat)) : Int)),
              SV.v (Value.int IntKind.u64 (↑(limb a (2 : Nat)) : Int)),
              SV.v (Value.int IntKind.u64 (↑(limb a (3 : Nat)) : Int))]
            (24 : Nat),
          HO.cells
            [SV.v (Value.int IntKind.u64 (↑(limb b (0 : Nat)) : Int)),
              SV.v (Value.int IntKind.u64 (↑(limb b (1 : Nat)) : Int)),
              SV.v (Value.int IntKind.u64 (↑(limb b (2 : Nat)) : Int)),
              SV.v (Value.int IntKind.u64 (↑(limb b (3 : Nat)) : Int))]
            (24 : Nat),
          HO.cells
            [SV.v (Value.int IntKind.u64 (↑(limb m (0 : Nat)) : Int)),
              SV.v (Value.int IntKind.u64 (↑(limb m (1 : Nat)) : Int)),
              SV.v (Value.int IntKind.u64 (↑(limb m (2 : Nat)) : Int)),
              SV.v (Value.int IntKind.u64 (↑(limb m (3 : Nat)) : Int))]
            (24 : Nat),
          HO.cells
            [SV.v (Value.int IntKind.u64 (↑(limb (0 : Nat) (0 : Nat)) : Int)),
              SV.v (Value.int IntKind.u64 (↑(limb (0 : Nat) (1 : Nat)) : Int)),
              SV.v (Value.int IntKind.u64 (↑(limb (0 : Nat) (2 : Nat)) : Int)),
              SV.v (Value.int IntKind.u64 (↑(limb (0 : Nat) (3 : Nat)) : Int))]
            (24 : Nat),
          HO.cells
            [SV.v (Value.int IntKind.u64 (↑(limb ((2 : Nat) * r + bitOf h n) (0 : Nat)) : Int)),
              SV.v (Value.int IntKind.u64 (↑(limb ((2 : Nat) * r + bitOf h n) (1 : Nat)) : Int)),
              SV.v (Value.int IntKind.u64 (↑(limb ((2 : Nat) * r + bitOf h n) (2 : Nat)) : Int)),
              SV.v (Value.int IntKind.u64 (↑(limb ((2 : Nat) * r + bitOf h n) (3 : Nat)) : Int))]
            (24 : Nat),
          HO.cells
            [SV.v (Value.int IntKind.u64 (↑(limb h (0 : Nat)) : Int)),
              SV.v (Value.int IntKind.u64 (↑(limb h (1 : Nat)) : Int)),
              SV.v (Value.int IntKind.u64 (↑(limb h (2 : Nat)) : Int)),
              SV.v (Value.int IntKind.u64 (↑(limb h (3 : Nat)) : Int))]
            (24 : Nat),
          HO.cells
            [SV.v
                (Value.int IntKind.u64
                  (↑(limb
                        (((2 : Nat) * r + bitOf h n) %
                              (115792089237316195423570985008687907853269984665640564039457584007913129639936 : Nat) +
                            (115792089237316195423570985008687907853269984665640564039457584007913129639936 : Nat) -
                          m)
                        (0 : Nat)) :
                    Int)),
              SV.v
                (Value.int IntKind.u64
                  (↑(limb
                        (((2 : Nat) * r + bitOf h n) %
                              (115792089237316195423570985008687907853269984665640564039457584007913129639936 : Nat) +
                            (115792089237316195423570985008687907853269984665640564039457584007913129639936 : Nat) -
                          m)
                        (1 : Nat)) :
                    Int)),
              SV.v
                (Value.int IntKind.u64
                  (↑(limb
                        (((2 : Nat) * r + bitOf h n) %
                              (115792089237316195423570985008687907853269984665640564039457584007913129639936 : Nat) +
                            (115792089237316195423570985008687907853269984665640564039457584007913129639936 : Nat) -
                          m)
                        (2 : Nat)) :
                    Int)),
              SV.v
                (Value.int IntKind.u64
                  (↑(limb
                        (((2 : Nat) * r + bitOf h n) %
                              (115792089237316195423570985008687907853269984665640564039457584007913129639936 : Nat) +
                            (115792089237316195423570985008687907853269984665640564039457584007913129639936 : Nat) -
                          m)
                        (3 : Nat)) :
                    Int))]
            (24 : Nat)])] := by kernel_rfl
theorem paid_nil {B : Code} {n : Nat} {F : Mem → Prop} {w0 : World} {fin : Exit → Act → World → Prop} : Paid2 Try.prog B n F w0 fin [] := fun l hl => by cases hl
theorem paid_cons {B : Code} {n : Nat} {F : Mem → Prop} {w0 : World} {fin : Exit → Act → World → Prop} {l : Leaf2} {L : List Leaf2} (h : (∀ a ∈ l.as, a) → hold F l.sd ∧ Ok Try.prog B n F w0 fin l.k l.st) (hL : Paid2 Try.prog B n F w0 fin L) :
    Paid2 Try.prog B n F w0 fin (l :: L) := fun x hx => by
  rcases List.mem_cons.1 hx with rfl | hx
  · exact h
  · exact hL x hx
theorem limb_top (n : Nat) : limb (n + top) 0 = limb n 0 ∧ limb (n + top) 1 = limb n 1 ∧ limb (n + top) 2 = limb n 2 ∧ limb (n + top) 3 = limb n 3 := by
  simp only [limb0, limb1, limb2, limb3, top]; omega
theorem getLimb (h n : Nat) (hn : n < 256) : (ec h)[0 + Int.toNat (IntKind.wrap IntKind.i64 (Int.tdiv (n : Int) 64)) * 1]? = some (SV.v (Value.int IntKind.u64 (limb h (n / 64) : Nat))) ∧
    0 ≤ IntKind.wrap IntKind.i64 (Int.tdiv (n : Int) 64) ∧ IntKind.wrap IntKind.i64 (Int.tdiv (n : Int) 64) < 4 ∧ ¬ Int.tmod (n : Int) 64 < 0 := by
  have e1 : Int.tmod (n : Int) (64 : Int) = ((n % 64 : Nat) : Int) := tmodNat n 64
  have e2 : Int.tdiv (n : Int) (64 : Int) = ((n / 64 : Nat) : Int) := tdivNat n 64
  have e3 : IntKind.wrap IntKind.i64 ((n / 64 : Nat) : Int) = ((n / 64 : Nat) : Int) := by
    simp [IntKind.wrap, IntKind.bits, IntKind.signed]
    omega
  rw [e1, e2, e3, Int.toNat_natCast]
  refine ⟨?_, by omega, by omega, by omega⟩
  have h4 : n / 64 = 0 ∨ n / 64 = 1 ∨ n / 64 = 2 ∨ n / 64 = 3 := by omega
  rcases h4 with h | h | h | h <;> rw [h] <;> rfl
end Go.Proofs.Ytcipmpamhffclaa

namespace Go.Proofs.Ytcipmpamhffclaa
open Go.Sx Go.Pl Go.RowKit
def qI : List Nat := [0,0,1,1,0,0,1,1,0,0,1,0,1,1,1]
theorem wrap_pred (n : Nat) (hn : n < 256) : IntKind.wrap IntKind.i64 ((n : Int) - 1) = (n : Int) - 1 := by
  cases n with
  | zero => rfl
  | succ k =>
    have h1 : ((k + 1 : Nat) : Int) - 1 = (k : Int) := by omega
    rw [h1]
    simp [IntKind.wrap, IntKind.bits, IntKind.signed]
    omega
theorem ec_cells {x y : Nat} (h : x % top = y % top) : ec x = ec y := by
  obtain ⟨a0, a1, a2, a3⟩ := limb_mod x
  obtain ⟨b0, b1, b2, b3⟩ := limb_mod y
  rw [h] at a0 a1 a2 a3
  simp only [ec, ← a0, ← a1, ← a2, ← a3, b0, b1, b2, b3]
theorem top_bit (r : Nat) (hr : r < top) : limb r 3 / 9223372036854775808 = 0 ↔ 2 * r < top := by
  rw [limb3]
  simp only [top] at *
  omega
theorem mod_once {x m : Nat} (h1 : m ≤ x) (h2 : x < 2 * m) : x % m = x - m := by
  rw [Nat.mod_eq_sub_mod h1, Nat.mod_eq_of_lt (by omega)]
theorem arithA (r m b : Nat) (hr : r < m) (hm : m < top) (hb : b ≤ 1) (h : ¬ 2 * r < top) : ((2 * r + b) % top + top - m) % top = ((2 * r + b) % m) % top := by
  rw [mod_once (x := 2 * r + b) (m := m) (by omega) (by omega), mod_once (x := 2 * r + b) (m := top) (by omega) (by omega), show 2 * r + b - top + top - m = 2 * r + b - m by omega]
theorem arithB (r m b : Nat) (hr : r < m) (hb : b ≤ 1) (h : 2 * r < top) (h2 : ¬ (2 * r + b) % top < m) : ((2 * r + b) % top + top - m) % top = ((2 * r + b) % m) % top := by
  have h3 : 2 * r + b < top := by simp only [top] at *; omega
  rw [Nat.mod_eq_of_lt h3] at *
  rw [mod_once (x := 2 * r + b) (m := m) (by omega) (by omega), show 2 * r + b + top - m = 2 * r + b - m + top by omega, Nat.add_mod_right]
theorem arithC (r m b : Nat) (hb : b ≤ 1) (h : 2 * r < top) (h2 : (2 * r + b) % top < m) : (2 * r + b) % top = ((2 * r + b) % m) % top := by
  have h3 : 2 * r + b < top := by simp only [top] at *; omega
  rw [Nat.mod_eq_of_lt h3] at *
  rw [Nat.mod_eq_of_lt h2, Nat.mod_eq_of_lt h3]
theorem rem_round {F : Mem → Prop} (hF : Mono F) {w0 : World} {fin : Exit → Act → World → Prop} (hfin : ∀ c (a : Act) (d : Option Tmp) (v : Value) (w : World), fin (.panic c) (a.put d v) w → fin (.panic c) a w)
    (a b m h r n M : Nat) (j : Int) (kt : List It) (hn : n < 256) (hmt : m < top) (hr : r < m)
    (next : Ok Try.prog (bodyOf Try.f20) 57 F w0 fin (.rnd qI (M + 1) :: kt) (stI a b m h ((2 * r + bitOf h n) % m) j ((n : Int) - 1))) :
    Ok Try.prog (bodyOf Try.f20) 57 F w0 fin (.at qI :: .rnd qI (M + 1) :: kt) (stI a b m h r j (n : Int)) := by
  obtain ⟨g1, g2, g3, g4⟩ := getLimb h n hn
  have hb := bitOf_le h n
  have hrt : r < top := by omega
  have hrm := Nat.mod_eq_of_lt hrt
  have hmt2 : m < 115792089237316195423570985008687907853269984665640564039457584007913129639936 := hmt
  have hrt2 : r < 115792089237316195423570985008687907853269984665640564039457584007913129639936 := hrt
  have hmm := Nat.mod_eq_of_lt hmt
  have hwp := wrap_pred n hn
  have key : ∀ (x : Nat) (tm : List (Nat × SV)) (hp : List HO), x % top = ((2 * r + bitOf h n) % m) % top →
      RenT [0,1,2,3,4,5] tm (stI a b m h x j ((n : Int) - 1)).tm → RenH [0,1,2,3,4,5] hp (stI a b m h x j ((n : Int) - 1)).heap [0,1,2,3,4,5] → Ok Try.prog (bodyOf Try.f20) 57 F w0 fin (.rnd qI (M + 1) :: kt) ⟨tm, hp⟩ := by
    intro x tm hp hx h1 h2
    have he : stI a b m h x j ((n : Int) - 1) = stI a b m h ((2 * r + bitOf h n) % m) j ((n : Int) - 1) := by
      simp only [stI, ec_cells hx]
    rw [he] at h1 h2
    exact Ok.weaken hF [0,1,2,3,4,5] _ h1 h2 rfl (by
      simp [stI, wsAllT, wsAllH, ws, wsL, HO.ws, ec]) next
  refine (xgo_sound hm hF hfin 30 _ _ _ _ [] [] _ (remRound a b m h r n M j kt) (paid_cons (fun has => ⟨?_, ?_⟩) (paid_cons (fun has => ⟨?_, ?_⟩) (paid_cons (fun has => ⟨?_, ?_⟩) paid_nil))) (fun a ha => by cases ha)).2
  · simp only [hold_cons, hold_nil, and_true, Int.toNat_natCast, nv_limb, el_mod, bit_expr, hrm, hmm]
    repeat' apply And.intro
    all_goals (intro _ _; first | exact g1 | trivial | exact g2 | exact g4 | exact ⟨g2, g3⟩ | exact has _ List.mem_cons_self | exact has _ (List.mem_cons_of_mem _ List.mem_cons_self) | (refine ⟨rfl, ?_⟩; omega) | exact ⟨rfl, rfl, Nat.mod_lt _ top_pos, hmt2⟩ | exact ⟨rfl, rfl, hrt2, hb⟩ | exact decide_eq_true (by omega) | omega | rfl | skip)
  · refine key ((2 * r + bitOf h n) % top + top - m) _ _ ?_ ?_ ?_
    · exact arithA r m (bitOf h n) hr hmt hb (fun hh => by have := has _ List.mem_cons_self; rw [(top_bit r hrt).2 hh] at this; simp at this)
    · exact ⟨congrArg (fun z => some (SV.v (Value.int IntKind.i64 z))) hwp, rfl, rfl, rfl, rfl, rfl, rfl, rfl, trivial⟩
    · exact ⟨rfl, rfl, rfl, rfl, rfl, rfl, trivial⟩
  · simp only [hold_cons, hold_nil, and_true, Int.toNat_natCast, nv_limb, el_mod, bit_expr, hrm, hmm]
    repeat' apply And.intro
    all_goals (intro _ _; first | exact g1 | trivial | exact g2 | exact g4 | exact ⟨g2, g3⟩ | exact has _ List.mem_cons_self | exact has _ (List.mem_cons_of_mem _ List.mem_cons_self) | (refine ⟨rfl, ?_⟩; omega) | exact ⟨rfl, rfl, Nat.mod_lt _ top_pos, hmt2⟩ | exact ⟨rfl, rfl, hrt2, hb⟩ | exact decide_eq_true (by omega) | omega | rfl | skip)
  · refine key ((2 * r + bitOf h n) % top + top - m) _ _ ?_ ?_ ?_
    · exact arithB r m (bitOf h n) hr hb ((top_bit r hrt).1 (by have h0 := has _ List.mem_cons_self; have h1 : ((limb r 3 / 9223372036854775808 : Nat) : Int) = 0 := (by simpa only [Bool.not_eq_false', beq_iff_eq] using h0); omega)) (fun hh => by have h0 := has _ (List.mem_cons_of_mem _ List.mem_cons_self); simp only [Bool.not_eq_true', decide_eq_false_iff_not] at h0; exact h0 hh)
    · exact ⟨congrArg (fun z => some (SV.v (Value.int IntKind.i64 z))) hwp, rfl, rfl, rfl, rfl, rfl, rfl, rfl, trivial⟩
    · exact ⟨rfl, rfl, rfl, rfl, rfl, rfl, trivial⟩
  · simp only [hold_cons, hold_nil, and_true, Int.toNat_natCast, nv_limb, el_mod, bit_expr, hrm, hmm]
    repeat' apply And.intro
    all_goals (intro _ _; first | exact g1 | trivial | exact g2 | exact g4 | exact ⟨g2, g3⟩ | exact has _ List.mem_cons_self | exact has _ (List.mem_cons_of_mem _ List.mem_cons_self) | (refine ⟨rfl, ?_⟩; omega) | exact ⟨rfl, rfl, Nat.mod_lt _ top_pos, hmt2⟩ | exact ⟨rfl, rfl, hrt2, hb⟩ | exact decide_eq_true (by omega) | omega | rfl | skip)
  · refine key (2 * r + bitOf h n) _ _ ?_ ?_ ?_
    · exact arithC r m (bitOf h n) hb ((top_bit r hrt).1 (by have h0 := has _ List.mem_cons_self; have h1 : ((limb r 3 / 9223372036854775808 : Nat) : Int) = 0 := (by simpa only [Bool.not_eq_false', beq_iff_eq] using h0); omega)) (by have h0 := has _ (List.mem_cons_of_mem _ List.mem_cons_self); simp only [Bool.not_eq_false', decide_eq_true_eq] at h0; exact h0)
    · exact ⟨congrArg (fun z => some (SV.v (Value.int IntKind.i64 z))) hwp, rfl, rfl, rfl, rfl, rfl, rfl, rfl, trivial⟩
    · exact ⟨rfl, rfl, rfl, rfl, rfl, rfl, trivial⟩
end Go.Proofs.Ytcipmpamhffclaa

namespace Go.Proofs.Ytcipmpamhffclaa
open Go.Sx Go.Pl Go.RowKit
theorem remExit (a b m h r : Nat) (j : Int) (KT : List It) : (xrun Try.prog X (bodyOf Try.f20) 57 8 [.f] (.at qI :: .rnd qI 1 :: .blk 2 :: KT) (stI a b m h r j (-1)) []) =
  some
  [Leaf.mk [fun _ => false = false] KT
      (St.mk
        [((26 : Nat), SV.v (Value.bool false)), ((25 : Nat), SV.v (Value.int IntKind.i64 (-1 : Int))),
          ((11 : Nat), SV.v (Value.int IntKind.i64 (-1 : Int))), ((10 : Nat), SV.p (5 : Nat) (0 : Nat)),
          ((8 : Nat), SV.p (4 : Nat) (0 : Nat)), ((6 : Nat), SV.p (3 : Nat) (0 : Nat)),
          ((7 : Nat), SV.v (Value.int IntKind.i64 (0 : Int))), ((5 : Nat), SV.p (2 : Nat) (0 : Nat)),
          ((22 : Nat), SV.v (Value.int IntKind.i64 j)),
          ((21 : Nat),
            SV.agg
              [SV.v (Value.int IntKind.u64 (↑(limb b (0 : Nat)) : Int)),
                SV.v (Value.int IntKind.u64 (↑(limb b (1 : Nat)) : Int)),
                SV.v (Value.int IntKind.u64 (↑(limb b (2 : Nat)) : Int)),
                SV.v (Value.int IntKind.u64 (↑(limb b (3 : Nat)) : Int)),
                SV.v (Value.int IntKind.u64 (↑(limb a (0 : Nat)) : Int)),
                SV.v (Value.int IntKind.u64 (↑(limb a (1 : Nat)) : Int)),
                SV.v (Value.int IntKind.u64 (↑(limb a (2 : Nat)) : Int)),
                SV.v (Value.int IntKind.u64 (↑(limb a (3 : Nat)) : Int))])]
        [HO.cells
            [SV.v (Value.int IntKind.u64 (↑(limb a (0 : Nat)) : Int)),
              SV.v (Value.int IntKind.u64 (↑(limb a (1 : Nat)) : Int)),
              SV.v (Value.int IntKind.u64 (↑(limb a (2 : Nat)) : Int)),
              SV.v (Value.int IntKind.u64 (↑(limb a (3 : Nat)) : Int))]
            (24 : Nat),
          HO.cells
            [SV.v (Value.int IntKind.u64 (↑(limb b (0 : Nat)) : Int)),
              SV.v (Value.int IntKind.u64 (↑(limb b (1 : Nat)) : Int)),
              SV.v (Value.int IntKind.u64 (↑(limb b (2 : Nat)) : Int)),
              SV.v (Value.int IntKind.u64 (↑(limb b (3 : Nat)) : Int))]
            (24 : Nat),
          HO.cells
            [SV.v (Value.int IntKind.u64 (↑(limb m (0 : Nat)) : Int)),
              SV.v (Value.int IntKind.u64 (↑(limb m (1 : Nat)) : Int)),
              SV.v (Value.int IntKind.u64 (↑(limb m (2 : Nat)) : Int)),
              SV.v (Value.int IntKind.u64 (↑(limb m (3 : Nat)) : Int))]
            (24 : Nat),
          HO.cells
            [SV.v (Value.int IntKind.u64 (↑(limb (0 : Nat) (0 : Nat)) : Int)),
              SV.v (Value.int IntKind.u64 (↑(limb (0 : Nat) (1 : Nat)) : Int)),
              SV.v (Value.int IntKind.u64 (↑(limb (0 : Nat) (2 : Nat)) : Int)),
              SV.v (Value.int IntKind.u64 (↑(limb (0 : Nat) (3 : Nat)) : Int))]
            (24 : Nat),
          HO.cells
            [SV.v (Value.int IntKind.u64 (↑(limb r (0 : Nat)) : Int)),
              SV.v (Value.int IntKind.u64 (↑(limb r (1 : Nat)) : Int)),
              SV.v (Value.int IntKind.u64 (↑(limb r (2 : Nat)) : Int)),
              SV.v (Value.int IntKind.u64 (↑(limb r (3 : Nat)) : Int))]
            (24 : Nat),
          HO.cells
            [SV.v (Value.int IntKind.u64 (↑(limb h (0 : Nat)) : Int)),
              SV.v (Value.int IntKind.u64 (↑(limb h (1 : Nat)) : Int)),
              SV.v (Value.int IntKind.u64 (↑(limb h (2 : Nat)) : Int)),
              SV.v (Value.int IntKind.u64 (↑(limb h (3 : Nat)) : Int))]
            (24 : Nat)])
      []] := by kernel_rfl
theorem rem_exit {F : Mem → Prop} (hF : Mono F) {w0 : World} {fin : Exit → Act → World → Prop} (hfin : ∀ c (a : Act) (d : Option Tmp) (v : Value) (w : World), fin (.panic c) (a.put d v) w → fin (.panic c) a w)
    (a b m h r : Nat) (j : Int) (KT : List It) (next : Ok Try.prog (bodyOf Try.f20) 57 F w0 fin KT (stI a b m h r j (-1))) :
    Ok Try.prog (bodyOf Try.f20) 57 F w0 fin (.at qI :: .rnd qI 1 :: .blk 2 :: KT) (stI a b m h r j (-1)) := by
  refine xrun_sound hm hF hfin 8 _ _ _ _ (remExit a b m h r j KT) fun l hl => ?_
  rw [List.mem_singleton] at hl
  subst hl
  refine ⟨?_, Ok.weaken hF [0,1,2,3,4,5] (stI a b m h r j (-1)) ⟨rfl, rfl, rfl, rfl, rfl, rfl, rfl, rfl, trivial⟩ ⟨rfl, rfl, rfl, rfl, rfl, rfl, trivial⟩ rfl (by
      simp [stI, wsAllT, wsAllH, ws, wsL, HO.ws, ec]) next⟩
  simp only [hold_cons, hold_nil, and_true]
  exact fun _ _ => trivial
theorem bits_step (r h m n : Nat) : ((2 * r + bitOf h n) % m * 2 ^ n + h % 2 ^ n) % m = (r * 2 ^ (n + 1) + h % 2 ^ (n + 1)) % m := by
  rw [bitOf_eq, Nat.mod_pow_succ, Nat.add_mod, Nat.mod_mul_mod, ← Nat.add_mod]
  congr 1
  rw [Nat.add_mul, Nat.pow_succ, Nat.mul_comm (2 ^ n) (h / 2 ^ n % 2)]
  have : r * (2 ^ n * 2) = 2 * r * 2 ^ n := by rw [Nat.mul_comm (2 ^ n) 2, ← Nat.mul_assoc, Nat.mul_comm r 2]
  omega
theorem rem_inner {F : Mem → Prop} (hF : Mono F) {w0 : World} {fin : Exit → Act → World → Prop} (hfin : ∀ c (a : Act) (d : Option Tmp) (v : Value) (w : World), fin (.panic c) (a.put d v) w → fin (.panic c) a w)
    (a b m h : Nat) (j : Int) (KT : List It) (hmt : m < top) : ∀ (n r : Nat), n ≤ 256 → r < m →
    Ok Try.prog (bodyOf Try.f20) 57 F w0 fin KT (stI a b m h ((r * 2 ^ n + h % 2 ^ n) % m) j (-1)) →
    Ok Try.prog (bodyOf Try.f20) 57 F w0 fin (.rnd qI (n + 2) :: .blk 2 :: KT) (stI a b m h r j ((n : Int) - 1))
  | 0, r, _, hr, next => by
    refine Ok.rnd (rem_exit hF hfin a b m h r j KT ?_)
    rw [Nat.pow_zero, Nat.mod_one, Nat.mul_one, Nat.add_zero, Nat.mod_eq_of_lt hr] at next
    exact next
  | n + 1, r, hn, hr, next => by
    refine Ok.rnd ?_
    have h1 : (((n + 1 : Nat) : Int) - 1) = (n : Int) := by omega
    rw [h1]
    refine rem_round hF hfin a b m h r n (n + 1) j (.blk 2 :: KT) (by omega) hmt hr ?_
    refine rem_inner hF hfin a b m h j KT hmt n ((2 * r + bitOf h n) % m) (by omega) (Nat.mod_lt _ (by omega)) ?_
    rw [bits_step]
    exact next
end Go.Proofs.Ytcipmpamhffclaa

namespace Go.Proofs.Ytcipmpamhffclaa
open Go.Sx Go.Pl Go.RowKit
theorem remStart (a b m : Nat) : (xgo Try.prog X (bodyOf Try.f20) 57 CA [([0,1,0,1,1,1],3)] 50 [] (Tree.br [] Tree.nil [Dec.t] Tree.nil) [.at []] ⟨argsTm 0 [el a, el b, el m], []⟩ [] []) =
  some
  [Leaf2.mk
      [decide
            ([(↑(limb m (0 : Nat)) : Int), (↑(limb m (1 : Nat)) : Int), (↑(limb m (2 : Nat)) : Int),
                (↑(limb m (3 : Nat)) : Int)] =
              [(0 : Int), (0 : Int), (0 : Int), (0 : Int)]) =
          true]
      [fun _ =>
        decide
            ([(↑(limb m (0 : Nat)) : Int), (↑(limb m (1 : Nat)) : Int), (↑(limb m (2 : Nat)) : Int),
                (↑(limb m (3 : Nat)) : Int)] =
              [(0 : Int), (0 : Int), (0 : Int), (0 : Int)]) =
          true,
        fun _ => (4 : Nat) ≤ (4 : Nat)]
      [It.ret, It.at [(1 : Nat), (1 : Nat)]]
      (St.mk
        [((7 : Nat), SV.v (Value.int IntKind.i64 (10 : Int))),
          ((18 : Nat),
            SV.agg
              [SV.v (Value.int IntKind.u64 (0 : Int)), SV.v (Value.int IntKind.u64 (0 : Int)),
                SV.v (Value.int IntKind.u64 (0 : Int)), SV.v (Value.int IntKind.u64 (0 : Int))]),
          ((17 : Nat),
            SV.v
              (Value.bool
                (decide
                  ([(↑(limb m (0 : Nat)) : Int), (↑(limb m (1 : Nat)) : Int), (↑(limb m (2 : Nat)) : Int),
                      (↑(limb m (3 : Nat)) : Int)] =
                    [(0 : Int), (0 : Int), (0 : Int), (0 : Int)])))),
          ((16 : Nat),
            SV.agg
              [SV.v (Value.int IntKind.u64 (0 : Int)), SV.v (Value.int IntKind.u64 (0 : Int)),
                SV.v (Value.int IntKind.u64 (0 : Int)), SV.v (Value.int IntKind.u64 (0 : Int))]),
          ((15 : Nat),
            SV.agg
              [SV.v (Value.int IntKind.u64 (↑(limb m (0 : Nat)) : Int)),
                SV.v (Value.int IntKind.u64 (↑(limb m (1 : Nat)) : Int)),
                SV.v (Value.int IntKind.u64 (↑(limb m (2 : Nat)) : Int)),
                SV.v (Value.int IntKind.u64 (↑(limb m (3 : Nat)) : Int))]),
          ((6 : Nat), SV.p (3 : Nat) (0 : Nat)), ((5 : Nat), SV.p (2 : Nat) (0 : Nat)),
          ((4 : Nat), SV.p (1 : Nat) (0 : Nat)), ((3 : Nat), SV.p (0 : Nat) (0 : Nat)), ((0 : Nat), SV.v (el a)),
          ((1 : Nat), SV.v (el b)), ((2 : Nat), SV.v (el m))]
        [HO.cells
            [SV.v (Value.int IntKind.u64 (↑(limb a (0 : Nat)) : Int)),
              SV.v (Value.int IntKind.u64 (↑(limb a (1 : Nat)) : Int)),
              SV.v (Value.int IntKind.u64 (↑(limb a (2 : Nat)) : Int)),
              SV.v (Value.int IntKind.u64 (↑(limb a (3 : Nat)) : Int))]
            (24 : Nat),
          HO.cells
            [SV.v (Value.int IntKind.u64 (↑(limb b (0 : Nat)) : Int)),
              SV.v (Value.int IntKind.u64 (↑(limb b (1 : Nat)) : Int)),
              SV.v (Value.int IntKind.u64 (↑(limb b (2 : Nat)) : Int)),
              SV.v (Value.int IntKind.u64 (↑(limb b (3 : Nat)) : Int))]
            (24 : Nat),
          HO.cells
            [SV.v (Value.int IntKind.u64 (↑(limb m (0 : Nat)) : Int)),
              SV.v (Value.int IntKind.u64 (↑(limb m (1 : Nat)) : Int)),
              SV.v (Value.int IntKind.u64 (↑(limb m (2 : Nat)) : Int)),
              SV.v (Value.int IntKind.u64 (↑(limb m (3 : Nat)) : Int))]
            (24 : Nat),
          HO.cells
            [SV.v (Value.int IntKind.u64 (0 : Int)), SV.v (Value.int IntKind.u64 (0 : Int)),
              SV.v (Value.int IntKind.u64 (0 : Int)), SV.v (Value.int IntKind.u64 (0 : Int))]
            (24 : Nat)]),
    Leaf2.mk
      [decide
            ([(↑(limb m (0 : Nat)) : Int), (↑(limb m (1 : Nat)) : Int), (↑(limb m (2 : Nat)) : Int),
                (↑(limb m (3 : Nat)) : Int)] =
              [(0 : Int), (0 : Int), (0 : Int), (0 : Int)]) =
          false]
      [fun _ =>
        decide
            ([(↑(limb m (0 : Nat)) : Int), (↑(limb m (1 : Nat)) : Int), (↑(limb m (2 : Nat)) : Int),
                (↑(limb m (3 : Nat)) : Int)] =
              [(0 : Int), (0 : Int), (0 : Int), (0 : Int)]) =
          false,
        fun _ => true = true, fun _ => (0 : Int) ≤ (0 : Int) ∧ (0 : Int) < (2 : Int), fun _ =>
        (0 : Nat) + (4 : Nat) ≤ (4 : Nat)]
      [It.at
          [(0 : Nat), (1 : Nat), (1 : Nat), (0 : Nat), (0 : Nat), (1 : Nat), (1 : Nat), (0 : Nat), (0 : Nat), (1 : Nat),
            (0 : Nat), (1 : Nat), (1 : Nat), (1 : Nat)],
        It.blk (2 : Nat), It.blk (1 : Nat),
        It.at
          [(1 : Nat), (1 : Nat), (1 : Nat), (0 : Nat), (0 : Nat), (1 : Nat), (0 : Nat), (1 : Nat), (1 : Nat),
            (1 : Nat)],
        It.rnd [(0 : Nat), (0 : Nat), (1 : Nat), (0 : Nat), (1 : Nat), (1 : Nat), (1 : Nat)] (2 : Nat),
        It.blk (0 : Nat), It.at [(1 : Nat), (1 : Nat), (1 : Nat), (1 : Nat)]]
      (St.mk
        [((11 : Nat), SV.v (Value.int IntKind.i64 (255 : Int))), ((10 : Nat), SV.p (5 : Nat) (0 : Nat)),
          ((24 : Nat),
            SV.agg
              [SV.v (Value.int IntKind.u64 (↑(limb b (0 : Nat)) : Int)),
                SV.v (Value.int IntKind.u64 (↑(limb b (1 : Nat)) : Int)),
                SV.v (Value.int IntKind.u64 (↑(limb b (2 : Nat)) : Int)),
                SV.v (Value.int IntKind.u64 (↑(limb b (3 : Nat)) : Int))]),
          ((23 : Nat), SV.v (Value.bool true)), ((22 : Nat), SV.v (Value.int IntKind.i64 (0 : Int))),
          ((21 : Nat),
            SV.agg
              [SV.v (Value.int IntKind.u64 (↑(limb b (0 : Nat)) : Int)),
                SV.v (Value.int IntKind.u64 (↑(limb b (1 : Nat)) : Int)),
                SV.v (Value.int IntKind.u64 (↑(limb b (2 : Nat)) : Int)),
                SV.v (Value.int IntKind.u64 (↑(limb b (3 : Nat)) : Int)),
                SV.v (Value.int IntKind.u64 (↑(limb a (0 : Nat)) : Int)),
                SV.v (Value.int IntKind.u64 (↑(limb a (1 : Nat)) : Int)),
                SV.v (Value.int IntKind.u64 (↑(limb a (2 : Nat)) : Int)),
                SV.v (Value.int IntKind.u64 (↑(limb a (3 : Nat)) : Int))]),
          ((20 : Nat),
            SV.agg
              [SV.v (Value.int IntKind.u64 (↑(limb a (0 : Nat)) : Int)),
                SV.v (Value.int IntKind.u64 (↑(limb a (1 : Nat)) : Int)),
                SV.v (Value.int IntKind.u64 (↑(limb a (2 : Nat)) : Int)),
                SV.v (Value.int IntKind.u64 (↑(limb a (3 : Nat)) : Int))]),
          ((19 : Nat),
            SV.agg
              [SV.v (Value.int IntKind.u64 (↑(limb b (0 : Nat)) : Int)),
                SV.v (Value.int IntKind.u64 (↑(limb b (1 : Nat)) : Int)),
                SV.v (Value.int IntKind.u64 (↑(limb b (2 : Nat)) : Int)),
                SV.v (Value.int IntKind.u64 (↑(limb b (3 : Nat)) : Int))]),
          ((8 : Nat), SV.p (4 : Nat) (0 : Nat)),
          ((17 : Nat),
            SV.v
              (Value.bool
                (decide
                  ([(↑(limb m (0 : Nat)) : Int), (↑(limb m (1 : Nat)) : Int), (↑(limb m (2 : Nat)) : Int),
                      (↑(limb m (3 : Nat)) : Int)] =
                    [(0 : Int), (0 : Int), (0 : Int), (0 : Int)])))),
          ((16 : Nat),
            SV.agg
              [SV.v (Value.int IntKind.u64 (0 : Int)), SV.v (Value.int IntKind.u64 (0 : Int)),
                SV.v (Value.int IntKind.u64 (0 : Int)), SV.v (Value.int IntKind.u64 (0 : Int))]),
          ((15 : Nat),
            SV.agg
              [SV.v (Value.int IntKind.u64 (↑(limb m (0 : Nat)) : Int)),
                SV.v (Value.int IntKind.u64 (↑(limb m (1 : Nat)) : Int)),
                SV.v (Value.int IntKind.u64 (↑(limb m (2 : Nat)) : Int)),
                SV.v (Value.int IntKind.u64 (↑(limb m (3 : Nat)) : Int))]),
          ((7 : Nat), SV.v (Value.int IntKind.i64 (0 : Int))), ((6 : Nat), SV.p (3 : Nat) (0 : Nat)),
          ((5 : Nat), SV.p (2 : Nat) (0 : Nat)), ((4 : Nat), SV.p (1 : Nat) (0 : Nat)),
          ((3 : Nat), SV.p (0 : Nat) (0 : Nat)), ((0 : Nat), SV.v (el a)), ((1 : Nat), SV.v (el b)),
          ((2 : Nat), SV.v (el m))]
        [HO.cells
            [SV.v (Value.int IntKind.u64 (↑(limb a (0 : Nat)) : Int)),
              SV.v (Value.int IntKind.u64 (↑(limb a (1 : Nat)) : Int)),
              SV.v (Value.int IntKind.u64 (↑(limb a (2 : Nat)) : Int)),
              SV.v (Value.int IntKind.u64 (↑(limb a (3 : Nat)) : Int))]
            (24 : Nat),
          HO.cells
            [SV.v (Value.int IntKind.u64 (↑(limb b (0 : Nat)) : Int)),
              SV.v (Value.int IntKind.u64 (↑(limb b (1 : Nat)) : Int)),
              SV.v (Value.int IntKind.u64 (↑(limb b (2 : Nat)) : Int)),
              SV.v (Value.int IntKind.u64 (↑(limb b (3 : Nat)) : Int))]
            (24 : Nat),
          HO.cells
            [SV.v (Value.int IntKind.u64 (↑(limb m (0 : Nat)) : Int)),
              SV.v (Value.int IntKind.u64 (↑(limb m (1 : Nat)) : Int)),
              SV.v (Value.int IntKind.u64 (↑(limb m (2 : Nat)) : Int)),
              SV.v (Value.int IntKind.u64 (↑(limb m (3 : Nat)) : Int))]
            (24 : Nat),
          HO.cells
            [SV.v (Value.int IntKind.u64 (0 : Int)), SV.v (Value.int IntKind.u64 (0 : Int)),
              SV.v (Value.int IntKind.u64 (0 : Int)), SV.v (Value.int IntKind.u64 (0 : Int))]
            (24 : Nat),
          HO.cells
            [SV.v (Value.int IntKind.u64 (0 : Int)), SV.v (Value.int IntKind.u64 (0 : Int)),
              SV.v (Value.int IntKind.u64 (0 : Int)), SV.v (Value.int IntKind.u64 (0 : Int))]
            (24 : Nat),
          HO.cells
            [SV.v (Value.int IntKind.u64 (↑(limb b (0 : Nat)) : Int)),
              SV.v (Value.int IntKind.u64 (↑(limb b (1 : Nat)) : Int)),
              SV.v (Value.int IntKind.u64 (↑(limb b (2 : Nat)) : Int)),
              SV.v (Value.int IntKind.u64 (↑(limb b (3 : Nat)) : Int))]
            (24 : Nat)])]
 := by kernel_rfl

theorem remMid (a b m r : Nat) : (xgo Try.prog X (bodyOf Try.f20) 57 CA [([0,1,0,1,1,1],3)] 50 [Dec.t] (Tree.nil) [.blk 1, .at [1,1,1,0,0,1,0,1,1,1], .rnd [0,0,1,0,1,1,1] 2, .blk 0, .at [1,1,1,1]] (stI a b m b r 0 (-1)) [] []) =
  some
  [Leaf2.mk []
      [fun _ => true = true, fun _ => (0 : Int) ≤ (1 : Int) ∧ (1 : Int) < (2 : Int), fun _ =>
        (0 : Nat) + (4 : Nat) ≤ (4 : Nat)]
      [It.at
          [(0 : Nat), (1 : Nat), (1 : Nat), (0 : Nat), (0 : Nat), (1 : Nat), (1 : Nat), (0 : Nat), (0 : Nat), (1 : Nat),
            (0 : Nat), (1 : Nat), (1 : Nat), (1 : Nat)],
        It.blk (2 : Nat), It.blk (1 : Nat),
        It.at
          [(1 : Nat), (1 : Nat), (1 : Nat), (0 : Nat), (0 : Nat), (1 : Nat), (0 : Nat), (1 : Nat), (1 : Nat),
            (1 : Nat)],
        It.rnd [(0 : Nat), (0 : Nat), (1 : Nat), (0 : Nat), (1 : Nat), (1 : Nat), (1 : Nat)] (1 : Nat),
        It.blk (0 : Nat), It.at [(1 : Nat), (1 : Nat), (1 : Nat), (1 : Nat)]]
      (St.mk
        [((11 : Nat), SV.v (Value.int IntKind.i64 (255 : Int))), ((10 : Nat), SV.p (6 : Nat) (0 : Nat)),
          ((24 : Nat),
            SV.agg
              [SV.v (Value.int IntKind.u64 (↑(limb a (0 : Nat)) : Int)),
                SV.v (Value.int IntKind.u64 (↑(limb a (1 : Nat)) : Int)),
                SV.v (Value.int IntKind.u64 (↑(limb a (2 : Nat)) : Int)),
                SV.v (Value.int IntKind.u64 (↑(limb a (3 : Nat)) : Int))]),
          ((23 : Nat), SV.v (Value.bool true)), ((22 : Nat), SV.v (Value.int IntKind.i64 (1 : Int))),
          ((55 : Nat), SV.v (Value.int IntKind.i64 (1 : Int))), ((8 : Nat), SV.p (4 : Nat) (0 : Nat)),
          ((6 : Nat), SV.p (3 : Nat) (0 : Nat)), ((7 : Nat), SV.v (Value.int IntKind.i64 (0 : Int))),
          ((5 : Nat), SV.p (2 : Nat) (0 : Nat)),
          ((21 : Nat),
            SV.agg
              [SV.v (Value.int IntKind.u64 (↑(limb b (0 : Nat)) : Int)),
                SV.v (Value.int IntKind.u64 (↑(limb b (1 : Nat)) : Int)),
                SV.v (Value.int IntKind.u64 (↑(limb b (2 : Nat)) : Int)),
                SV.v (Value.int IntKind.u64 (↑(limb b (3 : Nat)) : Int)),
                SV.v (Value.int IntKind.u64 (↑(limb a (0 : Nat)) : Int)),
                SV.v (Value.int IntKind.u64 (↑(limb a (1 : Nat)) : Int)),
                SV.v (Value.int IntKind.u64 (↑(limb a (2 : Nat)) : Int)),
                SV.v (Value.int IntKind.u64 (↑(limb a (3 : Nat)) : Int))])]
        [HO.cells
            [SV.v (Value.int IntKind.u64 (↑(limb a (0 : Nat)) : Int)),
              SV.v (Value.int IntKind.u64 (↑(limb a (1 : Nat)) : Int)),
              SV.v (Value.int IntKind.u64 (↑(limb a (2 : Nat)) : Int)),
              SV.v (Value.int IntKind.u64 (↑(limb a (3 : Nat)) : Int))]
            (24 : Nat),
          HO.cells
            [SV.v (Value.int IntKind.u64 (↑(limb b (0 : Nat)) : Int)),
              SV.v (Value.int IntKind.u64 (↑(limb b (1 : Nat)) : Int)),
              SV.v (Value.int IntKind.u64 (↑(limb b (2 : Nat)) : Int)),
              SV.v (Value.int IntKind.u64 (↑(limb b (3 : Nat)) : Int))]
            (24 : Nat),
          HO.cells
            [SV.v (Value.int IntKind.u64 (↑(limb m (0 : Nat)) : Int)),
              SV.v (Value.int IntKind.u64 (↑(limb m (1 : Nat)) : Int)),
              SV.v (Value.int IntKind.u64 (↑(limb m (2 : Nat)) : Int)),
              SV.v (Value.int IntKind.u64 (↑(limb m (3 : Nat)) : Int))]
            (24 : Nat),
          HO.cells
            [SV.v (Value.int IntKind.u64 (↑(limb (0 : Nat) (0 : Nat)) : Int)),
              SV.v (Value.int IntKind.u64 (↑(limb (0 : Nat) (1 : Nat)) : Int)),
              SV.v (Value.int IntKind.u64 (↑(limb (0 : Nat) (2 : Nat)) : Int)),
              SV.v (Value.int IntKind.u64 (↑(limb (0 : Nat) (3 : Nat)) : Int))]
            (24 : Nat),
          HO.cells
            [SV.v (Value.int IntKind.u64 (↑(limb r (0 : Nat)) : Int)),
              SV.v (Value.int IntKind.u64 (↑(limb r (1 : Nat)) : Int)),
              SV.v (Value.int IntKind.u64 (↑(limb r (2 : Nat)) : Int)),
              SV.v (Value.int IntKind.u64 (↑(limb r (3 : Nat)) : Int))]
            (24 : Nat),
          HO.cells
            [SV.v (Value.int IntKind.u64 (↑(limb b (0 : Nat)) : Int)),
              SV.v (Value.int IntKind.u64 (↑(limb b (1 : Nat)) : Int)),
              SV.v (Value.int IntKind.u64 (↑(limb b (2 : Nat)) : Int)),
              SV.v (Value.int IntKind.u64 (↑(limb b (3 : Nat)) : Int))]
            (24 : Nat),
          HO.cells
            [SV.v (Value.int IntKind.u64 (↑(limb a (0 : Nat)) : Int)),
              SV.v (Value.int IntKind.u64 (↑(limb a (1 : Nat)) : Int)),
              SV.v (Value.int IntKind.u64 (↑(limb a (2 : Nat)) : Int)),
              SV.v (Value.int IntKind.u64 (↑(limb a (3 : Nat)) : Int))]
            (24 : Nat)])]
 := by kernel_rfl

theorem remEnd (a b m r : Nat) : (((xgo Try.prog X (bodyOf Try.f20) 57 CA [([0,1,0,1,1,1],3)] 50 [Dec.f] (Tree.nil) [.blk 1, .at [1,1,1,0,0,1,0,1,1,1], .rnd [0,0,1,0,1,1,1] 1, .blk 0, .at [1,1,1,1]] (stI a b m a r 1 (-1)) [] []).bind (ends Try.prog Try.f20.results.toList)).bind plainE) =
  some
  [EndP.mk [] [fun _ => false = false, fun _ => (0 : Nat) + (4 : Nat) ≤ (4 : Nat)]
      (Res.v
        (Value.tuple
          (Array.mk
            [Value.agg
                (Array.mk
                  [Value.int IntKind.u64 (↑(limb r (0 : Nat)) : Int), Value.int IntKind.u64 (↑(limb r (1 : Nat)) : Int),
                    Value.int IntKind.u64 (↑(limb r (2 : Nat)) : Int),
                    Value.int IntKind.u64 (↑(limb r (3 : Nat)) : Int)]),
              Value.int IntKind.i64 (0 : Int)])))]
 := by kernel_rfl

theorem limb_zero (k : Nat) : limb 0 k = 0 := by rw [limb, hide_eq]; simp
theorem ec_zero : ec 0 = [.v (.int .u64 0), .v (.int .u64 0), .v (.int .u64 0), .v (.int .u64 0)] := by
  simp only [ec, limb_zero]; rfl
theorem el_zero : el 0 = .agg #[.int .u64 0, .int .u64 0, .int .u64 0, .int .u64 0] := by
  simp only [el, limb_zero]; rfl
theorem zero_of_limbs {m : Nat} (hm : m < top) (h : [((limb m 0 : Nat) : Int), ((limb m 1 : Nat) : Int), ((limb m 2 : Nat) : Int), ((limb m 3 : Nat) : Int)] = [(0 : Int), 0, 0, 0]) : m = 0 := by
  simp only [List.cons.injEq, and_true] at h
  refine eq_of_limbs hm top_pos ?_ ?_ ?_ ?_ <;> rw [limb_zero] <;> omega
noncomputable def remV (lo hi m : Nat) : Value := bif Nat.beq m 0 then .tuple #[el 0, .int .i64 10] else .tuple #[el ((hi * top + lo) % m), .int .i64 0]
theorem pow_top : (2 : Nat) ^ 256 = top := by decide +kernel
theorem two_halves (lo hi m : Nat) (hlo : lo < top) (hhi : hi < top) : (((0 * 2 ^ 256 + hi % 2 ^ 256) % m) * 2 ^ 256 + lo % 2 ^ 256) % m = (hi * top + lo) % m := by
  rw [pow_top, Nat.mod_eq_of_lt hlo, Nat.mod_eq_of_lt hhi, Nat.zero_mul, Nat.zero_add, Nat.add_mod, Nat.mod_mul_mod, ← Nat.add_mod]
theorem ok_mono {B : Code} {n : Nat} {F : Mem → Prop} {w0 : World} {fin : Exit → Act → World → Prop} {k : List It} {st st' : St} (h : st = st') (hk : Ok Try.prog B n F w0 fin k st) : Ok Try.prog B n F w0 fin k st' := h ▸ hk
theorem rem_second (lo hi m r1 : Nat) (w : World) (hmt : m < top) (hmp : 0 < m) (hr1 : r1 < m) (hres : (r1 * 2 ^ 256 + lo % 2 ^ 256) % m = (hi * top + lo) % m) :
    Ok Try.prog (bodyOf Try.f20) 57 (F0 w) w (bodyPost Try.prog Try.f20 fun E w' => ∃ v r, E = .returned v ∧ r = Res.v (remV lo hi m) ∧ r.ok w w' v ∧ Below w.heap.size w w')
      [.blk 1, .at [1,1,1,0,0,1,0,1,1,1], .rnd [0,0,1,0,1,1,1] 2, .blk 0, .at [1,1,1,1]] (stI lo hi m hi r1 0 (-1)) := by
  have hF := F0.mono w
  refine (xgo_sound hm hF finB 50 _ _ _ _ [] [] _ (remMid lo hi m r1) (paid_cons (fun _ => ⟨?_, ?_⟩) paid_nil) (fun a ha => by cases ha)).2
  · simp only [hold_cons, hold_nil, and_true]
    exact ⟨fun _ _ => trivial, fun _ _ => ⟨by omega, by omega⟩, fun _ _ => Nat.le_refl 4⟩
  · refine Ok.weaken hF [0,1,2,3,4,6] (stI lo hi m lo r1 1 255) ?_ ?_ rfl (by
      simp [stI, wsAllT, wsAllH, ws, wsL, HO.ws, ec]) ?_
    · exact ⟨rfl, rfl, rfl, rfl, rfl, rfl, rfl, rfl, trivial⟩
    · exact ⟨rfl, rfl, rfl, rfl, rfl, rfl, trivial⟩
    · refine Ok.loop 258 (by kernel_rfl) ?_
      refine rem_inner hF finB lo hi m lo 1 _ hmt 256 r1 (by omega) hr1 ?_
      rw [hres]
      refine ok_plain hm hF (fun _ h => h) 50 _ _ _ _ (remEnd lo hi m _) ⟨fun _ => ⟨?_, ?_⟩, trivial⟩
      · simp only [hold_cons, hold_nil, and_true]
        repeat' apply And.intro
        all_goals (intro _ _; first | trivial | omega)
      · have hb : Nat.beq m 0 = false := by
          cases m with
          | zero => omega
          | succ k => rfl
        simp only [remV, hb, cond_false]
        rfl
theorem rem_ok (lo hi m : Nat) (hlo : lo < top) (hhi : hi < top) (hmt : m < top) (w : World) : Calls Try.prog 20 [el lo, el hi, el m].toArray w (fun E w' => ∃ v, E = .returned v ∧ Res.ok w w' (.v (remV lo hi m)) v ∧ Below w.heap.size w w') := by
  refine con_end (calls_of_ok (B := bodyOf Try.f20) (n := 57) Try.func20 (by kernel_rfl) rfl rfl (F := F0 w) (fun _ _ h => h) ?_)
  have hF := F0.mono w
  refine (xgo_sound hm hF finB 50 _ _ _ _ [] [] _ (remStart lo hi m) (paid_cons (fun has => ⟨?_, ?_⟩) (paid_cons (fun has => ⟨?_, ?_⟩) paid_nil)) (fun a ha => by cases ha)).2
  · have h0 := has _ List.mem_cons_self
    simp only [hold_cons, hold_nil, and_true]
    exact ⟨fun _ _ => h0, fun _ _ => Nat.le_refl 4⟩
  · have h0 := has _ List.mem_cons_self
    have hz : m = 0 := zero_of_limbs hmt (by simpa only [decide_eq_true_eq] using h0)
    subst hz
    refine Ok.ret (.tup [.agg [.v (.int .u64 0), .v (.int .u64 0), .v (.int .u64 0), .v (.int .u64 0)], .v (.int .i64 10)]) rfl fun e w' S => ⟨_, _, rfl, rfl, ?_, below_of (fun _ h => h) S⟩
    show _ = remV lo hi 0
    simp only [remV, show Nat.beq 0 0 = true from rfl, cond_true, el_zero]
    rfl
  · have h0 := has _ List.mem_cons_self
    simp only [hold_cons, hold_nil, and_true]
    exact ⟨fun _ _ => h0, fun _ _ => trivial, fun _ _ => ⟨by omega, by omega⟩, fun _ _ => Nat.le_refl 4⟩
  · have h0 := has _ List.mem_cons_self
    have hz : m ≠ 0 := by
      intro hz
      subst hz
      simp only [limb_zero, decide_eq_false_iff_not] at h0
      exact h0 rfl
    have hmp : 0 < m := Nat.pos_of_ne_zero hz
    refine Ok.weaken hF [0,1,2,3,4,5] (stI lo hi m hi 0 0 255) ?_ ?_ rfl (by
      simp [stI, wsAllT, wsAllH, ws, wsL, HO.ws, ec]) ?_
    · exact ⟨rfl, rfl, rfl, rfl, rfl, rfl, rfl, rfl, trivial⟩
    · refine ⟨rfl, rfl, rfl, ?_, ?_, rfl, trivial⟩
      · rw [ec_zero]; rfl
      · rw [ec_zero]; rfl
    · refine Ok.loop 258 (by kernel_rfl) ?_
      refine rem_inner hF finB lo hi m hi 0 _ hmt 256 0 (by omega) hmp ?_
      exact rem_second lo hi m _ w hmt hmp (Nat.mod_lt _ hmp) (two_halves lo hi m hlo hhi)
end Go.Proofs.Ytcipmpamhffclaa
