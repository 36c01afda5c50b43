/- Remainders: one round of the inner loop. -/
import Derived.Test.YtcipmpamhffclaaW7
namespace Go.Proofs.Ytcipmpamhffclaa
open Go.Sx Go.Pl Go.RowKit
theorem tmodNat (n k : Nat) : Int.tmod (n : Int) (k : Int) = ((n % k : Nat) : Int) := by
  rw [Int.tmod_eq_emod_of_nonneg (by omega)]; rfl
theorem tdivNat (n k : Nat) : Int.tdiv (n : Int) (k : Int) = ((n / k : Nat) : Int) := by
  rw [Int.tdiv_eq_ediv_of_nonneg (by omega)]; rfl
theorem bit_expr (h n : Nat) : IntKind.wrap IntKind.u64 (↑(Int.toNat (Int.fdiv (↑(limb h (n / 64)) : Int) ((2 : Int) ^ if Int.toNat (Int.tmod (n : Int) (64 : Int)) ≤ (64 : Nat) then Int.toNat (Int.tmod (n : Int) (64 : Int)) else (64 : Nat)) % (18446744073709551616 : Int)) &&& (1 : Nat)) : Int) = (bitOf h n : Int) := by
  have e1 : Int.tmod (n : Int) (64 : Int) = ((n % 64 : Nat) : Int) := tmodNat n 64
  rw [e1, Int.toNat_natCast, if_pos (by omega : n % 64 ≤ 64), wrap_u64, Int.fdiv_eq_ediv_of_nonneg _ (Int.pow_nonneg (by omega))]
  have e2 : ((2 : Int) ^ (n % 64)) = ((2 ^ (n % 64) : Nat) : Int) := by rw [Int.natCast_pow]; rfl
  rw [e2, ← Int.natCast_ediv, Nat.and_one_is_mod]
  have h1 := limb_lt h (n / 64)
  have h2 := Nat.div_le_self (limb h (n / 64)) (2 ^ (n % 64))
  have h3 := bitOf_limb h n
  generalize limb h (n / 64) / 2 ^ (n % 64) = y at *
  omega
theorem remRound (a b m h r n M : Nat) (j : Int) (kt : List It) : (xgo Try.prog X (bodyOf Try.f20) 57 CA [] 30 [.t, .lo 5 (.v (.int .u64 (limb h (n / 64)))), .ld (.v (.tuple #[el (2 * r + bitOf h n), .int .u64 ((limb r 3 / 9223372036854775808 : Nat) : Int)])), .ld (.v (.tuple #[el ((2 * r + bitOf h n) % top + top - m), .bool (decide ((2 * r + bitOf h n) % top < m))]))] (.br [.t] .nil [] (.br [] .nil [] .nil)) (.at [0,0,1,1,0,0,1,1,0,0,1,0,1,1,1] :: .rnd [0,0,1,1,0,0,1,1,0,0,1,0,1,1,1] (M + 1) :: kt) (stI a b m h r j (n : Int)) [] []) =
  some
  [Leaf2.mk [(!(↑(limb r (3 : Nat) / (9223372036854775808 : Nat)) : Int) == (0 : Int)) = true]
      [fun _ => decide ((0 : Int) ≤ (↑n : Int)) = true, fun _ => ¬(64 : Int) = (0 : Int), fun _ =>
        (0 : Int) ≤ IntKind.wrap IntKind.i64 (Int.tdiv (↑n : Int) (64 : Int)) ∧
          IntKind.wrap IntKind.i64 (Int.tdiv (↑n : Int) (64 : Int)) < (4 : Int),
        fun _ =>
        [SV.v (Value.int IntKind.u64 (↑(limb h (0 : Nat)) : Int)),
              SV.v (Value.int IntKind.u64 (↑(limb h (1 : Nat)) : Int)),
              SV.v (Value.int IntKind.u64 (↑(limb h (2 : Nat)) : Int)),
              SV.v
                (Value.int IntKind.u64
                  (↑(limb h (3 : Nat)) :
                    Int))][(0 : Nat) +
              Int.toNat (IntKind.wrap IntKind.i64 (Int.tdiv (↑n : Int) (64 : Int))) * (1 : Nat)]? =
          some (SV.v (Value.int IntKind.u64 (↑(limb h (n / (64 : Nat))) : Int))),
        fun _ => ¬(64 : Int) = (0 : Int), fun _ => ¬Int.tmod (↑n : Int) (64 : Int) < (0 : Int), fun _ =>
        Value.agg
              (Array.mk
                [Value.int IntKind.u64 (↑(limb r (0 : Nat)) : Int), Value.int IntKind.u64 (↑(limb r (1 : Nat)) : Int),
                  Value.int IntKind.u64 (↑(limb r (2 : Nat)) : Int),
                  Value.int IntKind.u64 (↑(limb r (3 : Nat)) : Int)]) =
            el
              (nv (Int.toNat (↑(limb r (0 : Nat)) : Int)) (Int.toNat (↑(limb r (1 : Nat)) : Int))
                (Int.toNat (↑(limb r (2 : Nat)) : Int)) (Int.toNat (↑(limb r (3 : Nat)) : Int))) ∧
          Value.int IntKind.u64
                (IntKind.wrap IntKind.u64
                  (↑(Int.toNat
                          (Int.fdiv (↑(limb h (n / (64 : Nat))) : Int)
                              ((2 : Int) ^
                                if Int.toNat (Int.tmod (↑n : Int) (64 : Int)) ≤ (64 : Nat) then
                                  Int.toNat (Int.tmod (↑n : Int) (64 : Int))
                                else (64 : Nat)) %
                            (18446744073709551616 : Int)) &&&
                        (1 : Nat)) :
                    Int)) =
              Value.int IntKind.u64
                (↑(Int.toNat
                      (IntKind.wrap IntKind.u64
                        (↑(Int.toNat
                                (Int.fdiv (↑(limb h (n / (64 : Nat))) : Int)
                                    ((2 : Int) ^
                                      if Int.toNat (Int.tmod (↑n : Int) (64 : Int)) ≤ (64 : Nat) then
                                        Int.toNat (Int.tmod (↑n : Int) (64 : Int))
                                      else (64 : Nat)) %
                                  (18446744073709551616 : Int)) &&&
                              (1 : Nat)) :
                          Int))) :
                  Int) ∧
            nv (Int.toNat (↑(limb r (0 : Nat)) : Int)) (Int.toNat (↑(limb r (1 : Nat)) : Int))
                  (Int.toNat (↑(limb r (2 : Nat)) : Int)) (Int.toNat (↑(limb r (3 : Nat)) : Int)) <
                (115792089237316195423570985008687907853269984665640564039457584007913129639936 : Nat) ∧
              Int.toNat
                  (IntKind.wrap IntKind.u64
                    (↑(Int.toNat
                            (Int.fdiv (↑(limb h (n / (64 : Nat))) : Int)
                                ((2 : Int) ^
                                  if Int.toNat (Int.tmod (↑n : Int) (64 : Int)) ≤ (64 : Nat) then
                                    Int.toNat (Int.tmod (↑n : Int) (64 : Int))
                                  else (64 : Nat)) %
                              (18446744073709551616 : Int)) &&&
                          (1 : Nat)) :
                      Int)) ≤
                (1 : Nat),
        fun _ =>
        Value.tuple
            (Array.mk
              [el
                  ((2 : Nat) *
                      nv (Int.toNat (↑(limb r (0 : Nat)) : Int)) (Int.toNat (↑(limb r (1 : Nat)) : Int))
                        (Int.toNat (↑(limb r (2 : Nat)) : Int)) (Int.toNat (↑(limb r (3 : Nat)) : Int)) +
                    Int.toNat
                      (IntKind.wrap IntKind.u64
                        (↑(Int.toNat
                                (Int.fdiv (↑(limb h (n / (64 : Nat))) : Int)
                                    ((2 : Int) ^
                                      if Int.toNat (Int.tmod (↑n : Int) (64 : Int)) ≤ (64 : Nat) then
                                        Int.toNat (Int.tmod (↑n : Int) (64 : Int))
                                      else (64 : Nat)) %
                                  (18446744073709551616 : Int)) &&&
                              (1 : Nat)) :
                          Int))),
                Value.int IntKind.u64
                  (↑(limb
                          (nv (Int.toNat (↑(limb r (0 : Nat)) : Int)) (Int.toNat (↑(limb r (1 : Nat)) : Int))
                            (Int.toNat (↑(limb r (2 : Nat)) : Int)) (Int.toNat (↑(limb r (3 : Nat)) : Int)))
                          (3 : Nat) /
                        (9223372036854775808 : Nat)) :
                    Int)]) =
          Value.tuple
            (Array.mk
              [el ((2 : Nat) * r + bitOf h n),
                Value.int IntKind.u64 (↑(limb r (3 : Nat) / (9223372036854775808 : Nat)) : Int)]),
        fun _ => (0 : Nat) + (4 : Nat) ≤ (4 : Nat), fun _ =>
        Value.agg
              (Array.mk
                [Value.int IntKind.u64 (↑(limb ((2 : Nat) * r + bitOf h n) (0 : Nat)) : Int),
                  Value.int IntKind.u64 (↑(limb ((2 : Nat) * r + bitOf h n) (1 : Nat)) : Int),
                  Value.int IntKind.u64 (↑(limb ((2 : Nat) * r + bitOf h n) (2 : Nat)) : Int),
                  Value.int IntKind.u64 (↑(limb ((2 : Nat) * r + bitOf h n) (3 : Nat)) : Int)]) =
            el
              (nv (Int.toNat (↑(limb ((2 : Nat) * r + bitOf h n) (0 : Nat)) : Int))
                (Int.toNat (↑(limb ((2 : Nat) * r + bitOf h n) (1 : Nat)) : Int))
                (Int.toNat (↑(limb ((2 : Nat) * r + bitOf h n) (2 : Nat)) : Int))
                (Int.toNat (↑(limb ((2 : Nat) * r + bitOf h n) (3 : Nat)) : Int))) ∧
          Value.agg
                (Array.mk
                  [Value.int IntKind.u64 (↑(limb m (0 : Nat)) : Int), Value.int IntKind.u64 (↑(limb m (1 : Nat)) : Int),
                    Value.int IntKind.u64 (↑(limb m (2 : Nat)) : Int),
                    Value.int IntKind.u64 (↑(limb m (3 : Nat)) : Int)]) =
              el
                (nv (Int.toNat (↑(limb m (0 : Nat)) : Int)) (Int.toNat (↑(limb m (1 : Nat)) : Int))
                  (Int.toNat (↑(limb m (2 : Nat)) : Int)) (Int.toNat (↑(limb m (3 : Nat)) : Int))) ∧
            nv (Int.toNat (↑(limb ((2 : Nat) * r + bitOf h n) (0 : Nat)) : Int))
                  (Int.toNat (↑(limb ((2 : Nat) * r + bitOf h n) (1 : Nat)) : Int))
                  (Int.toNat (↑(limb ((2 : Nat) * r + bitOf h n) (2 : Nat)) : Int))
                  (Int.toNat (↑(limb ((2 : Nat) * r + bitOf h n) (3 : Nat)) : Int)) <
                (115792089237316195423570985008687907853269984665640564039457584007913129639936 : Nat) ∧
              nv (Int.toNat (↑(limb m (0 : Nat)) : Int)) (Int.toNat (↑(limb m (1 : Nat)) : Int))
                  (Int.toNat (↑(limb m (2 : Nat)) : Int)) (Int.toNat (↑(limb m (3 : Nat)) : Int)) <
                (115792089237316195423570985008687907853269984665640564039457584007913129639936 : Nat),
        fun _ =>
        Value.tuple
            (Array.mk
              [el
                  (nv (Int.toNat (↑(limb ((2 : Nat) * r + bitOf h n) (0 : Nat)) : Int))
                        (Int.toNat (↑(limb ((2 : Nat) * r + bitOf h n) (1 : Nat)) : Int))
                        (Int.toNat (↑(limb ((2 : Nat) * r + bitOf h n) (2 : Nat)) : Int))
                        (Int.toNat (↑(limb ((2 : Nat) * r + bitOf h n) (3 : Nat)) : Int)) +
                      (115792089237316195423570985008687907853269984665640564039457584007913129639936 : Nat) -
                    nv (Int.toNat (↑(limb m (0 : Nat)) : Int)) (Int.toNat (↑(limb m (1 : Nat)) : Int))
                      (Int.toNat (↑(limb m (2 : Nat)) : Int)) (Int.toNat (↑(limb m (3 : Nat)) : Int))),
                Value.bool
                  (decide
                    (nv (Int.toNat (↑(limb ((2 : Nat) * r + bitOf h n) (0 : Nat)) : Int))
                        (Int.toNat (↑(limb ((2 : Nat) * r + bitOf h n) (1 : Nat)) : Int))
                        (Int.toNat (↑(limb ((2 : Nat) * r + bitOf h n) (2 : Nat)) : Int))
                        (Int.toNat (↑(limb ((2 : Nat) * r + bitOf h n) (3 : Nat)) : Int)) <
                      nv (Int.toNat (↑(limb m (0 : Nat)) : Int)) (Int.toNat (↑(limb m (1 : Nat)) : Int))
                        (Int.toNat (↑(limb m (2 : Nat)) : Int)) (Int.toNat (↑(limb m (3 : Nat)) : Int))))]) =
          Value.tuple
            (Array.mk
              [el
                  (((2 : Nat) * r + bitOf h n) %
                        (115792089237316195423570985008687907853269984665640564039457584007913129639936 : Nat) +
                      (115792089237316195423570985008687907853269984665640564039457584007913129639936 : Nat) -
                    m),
                Value.bool
                  (decide
                    (((2 : Nat) * r + bitOf h n) %
                        (115792089237316195423570985008687907853269984665640564039457584007913129639936 : Nat) <
                      m))]),
        fun _ => (0 : Nat) + (4 : Nat) ≤ (4 : Nat), fun _ =>
        (!(↑(limb r (3 : Nat) / (9223372036854775808 : Nat)) : Int) == (0 : Int)) = true, fun _ => true = true, fun _ =>
        (0 : Nat) + (4 : Nat) ≤ (4 : Nat)]
      (It.rnd
          [(0 : Nat), (0 : Nat), (1 : Nat), (1 : Nat), (0 : Nat), (0 : Nat), (1 : Nat), (1 : Nat), (0 : Nat), (0 : Nat),
            (1 : Nat), (0 : Nat), (1 : Nat), (1 : Nat), (1 : Nat)]
          (M + (1 : Nat)) ::
        kt)
      (St.mk
        [((11 : Nat), SV.v (Value.int IntKind.i64 (IntKind.wrap IntKind.i64 ((↑n : Int) - (1 : Int))))),
          ((28 : Nat), SV.v (Value.int IntKind.i64 (IntKind.wrap IntKind.i64 ((↑n : Int) - (1 : Int))))),
          ((27 : Nat), SV.v (Value.int IntKind.i64 (↑n : Int))),
          ((54 : Nat),
            SV.agg
              [SV.v
                  (Value.int IntKind.u64
                    (↑(limb
                          (((2 : Nat) * r + bitOf h n) %
                                (115792089237316195423570985008687907853269984665640564039457584007913129639936 : Nat) +
                              (115792089237316195423570985008687907853269984665640564039457584007913129639936 : Nat) -
                            m)
                          (0 : Nat)) :
                      Int)),
                SV.v
                  (Value.int IntKind.u64
                    (↑(limb
                          (((2 : Nat) * r + bitOf h n) %
                                (115792089237316195423570985008687907853269984665640564039457584007913129639936 : Nat) +
                              (115792089237316195423570985008687907853269984665640564039457584007913129639936 : Nat) -
                            m)
                          (1 : Nat)) :
                      Int)),
                SV.v
                  (Value.int IntKind.u64
                    (↑(limb
                          (((2 : Nat) * r + bitOf h n) %
                                (115792089237316195423570985008687907853269984665640564039457584007913129639936 : Nat) +
                              (115792089237316195423570985008687907853269984665640564039457584007913129639936 : Nat) -
                            m)
                          (2 : Nat)) :
                      Int)),
                SV.v
                  (Value.int IntKind.u64
                    (↑(limb
                          (((2 : Nat) * r + bitOf h n) %
                                (115792089237316195423570985008687907853269984665640564039457584007913129639936 : Nat) +
                              (115792089237316195423570985008687907853269984665640564039457584007913129639936 : Nat) -
                            m)
                          (3 : Nat)) :
                      Int))]),
          ((53 : Nat), SV.v (Value.bool true)), ((52 : Nat), SV.v (Value.tuple (Array.mk []))),
          ((51 : Nat), SV.v (Value.tuple (Array.mk []))), ((50 : Nat), SV.bl true),
          ((49 : Nat), SV.v (Value.bool !(↑(limb r (3 : Nat) / (9223372036854775808 : Nat)) : Int) == (0 : Int))),
          ((48 : Nat), SV.v (Value.int IntKind.u64 (↑(limb r (3 : Nat) / (9223372036854775808 : Nat)) : Int))),
          ((14 : Nat),
            SV.v
              (Value.bool
                (decide
                  (((2 : Nat) * r + bitOf h n) %
                      (115792089237316195423570985008687907853269984665640564039457584007913129639936 : Nat) <
                    m)))),
          ((13 : Nat), SV.p (6 : Nat) (0 : Nat)),
          ((47 : Nat),
            SV.v
              (Value.bool
                (decide
                  (((2 : Nat) * r + bitOf h n) %
                      (115792089237316195423570985008687907853269984665640564039457584007913129639936 : Nat) <
                    m)))),
          ((46 : Nat),
            SV.v
              (Value.agg
                (Array.mk
                  [Value.int IntKind.u64
                      (↑(limb
                            (((2 : Nat) * r + bitOf h n) %
                                  (115792089237316195423570985008687907853269984665640564039457584007913129639936 :
                                    Nat) +
                                (115792089237316195423570985008687907853269984665640564039457584007913129639936 : Nat) -
                              m)
                            (0 : Nat)) :
                        Int),
                    Value.int IntKind.u64
                      (↑(limb
                            (((2 : Nat) * r + bitOf h n) %
                                  (115792089237316195423570985008687907853269984665640564039457584007913129639936 :
                                    Nat) +
                                (115792089237316195423570985008687907853269984665640564039457584007913129639936 : Nat) -
                              m)
                            (1 : Nat)) :
                        Int),
                    Value.int IntKind.u64
                      (↑(limb
                            (((2 : Nat) * r + bitOf h n) %
                                  (115792089237316195423570985008687907853269984665640564039457584007913129639936 :
                                    Nat) +
                                (115792089237316195423570985008687907853269984665640564039457584007913129639936 : Nat) -
                              m)
                            (2 : Nat)) :
                        Int),
                    Value.int IntKind.u64
                      (↑(limb
                            (((2 : Nat) * r + bitOf h n) %
                                  (115792089237316195423570985008687907853269984665640564039457584007913129639936 :
                                    Nat) +
                                (115792089237316195423570985008687907853269984665640564039457584007913129639936 : Nat) -
                              m)
                            (3 : Nat)) :
                        Int)]))),
          ((42 : Nat),
            SV.v
              (Value.tuple
                (Array.mk
                  [el
                      (((2 : Nat) * r + bitOf h n) %
                            (115792089237316195423570985008687907853269984665640564039457584007913129639936 : Nat) +
                          (115792089237316195423570985008687907853269984665640564039457584007913129639936 : Nat) -
                        m),
                    Value.bool
                      (decide
                        (((2 : Nat) * r + bitOf h n) %
                            (115792089237316195423570985008687907853269984665640564039457584007913129639936 : Nat) <
                          m))]))),
          ((45 : Nat),
            SV.v
              (Value.tuple
                (Array.mk
                  [el
                      (((2 : Nat) * r + bitOf h n) %
                            (115792089237316195423570985008687907853269984665640564039457584007913129639936 : Nat) +
                          (115792089237316195423570985008687907853269984665640564039457584007913129639936 : Nat) -
                        m),
                    Value.bool
                      (decide
                        (((2 : Nat) * r + bitOf h n) %
                            (115792089237316195423570985008687907853269984665640564039457584007913129639936 : Nat) <
                          m))]))),
          ((44 : Nat),
            SV.agg
              [SV.v (Value.int IntKind.u64 (↑(limb m (0 : Nat)) : Int)),
                SV.v (Value.int IntKind.u64 (↑(limb m (1 : Nat)) : Int)),
                SV.v (Value.int IntKind.u64 (↑(limb m (2 : Nat)) : Int)),
                SV.v (Value.int IntKind.u64 (↑(limb m (3 : Nat)) : Int))]),
          ((43 : Nat),
            SV.agg
              [SV.v (Value.int IntKind.u64 (↑(limb ((2 : Nat) * r + bitOf h n) (0 : Nat)) : Int)),
                SV.v (Value.int IntKind.u64 (↑(limb ((2 : Nat) * r + bitOf h n) (1 : Nat)) : Int)),
                SV.v (Value.int IntKind.u64 (↑(limb ((2 : Nat) * r + bitOf h n) (2 : Nat)) : Int)),
                SV.v (Value.int IntKind.u64 (↑(limb ((2 : Nat) * r + bitOf h n) (3 : Nat)) : Int))]),
          ((12 : Nat), SV.v (Value.int IntKind.u64 (↑(limb r (3 : Nat) / (9223372036854775808 : Nat)) : Int))),
          ((41 : Nat), SV.v (Value.int IntKind.u64 (↑(limb r (3 : Nat) / (9223372036854775808 : Nat)) : Int))),
          ((40 : Nat),
            SV.v
              (Value.agg
                (Array.mk
                  [Value.int IntKind.u64 (↑(limb ((2 : Nat) * r + bitOf h n) (0 : Nat)) : Int),
                    Value.int IntKind.u64 (↑(limb ((2 : Nat) * r + bitOf h n) (1 : Nat)) : Int),
                    Value.int IntKind.u64 (↑(limb ((2 : Nat) * r + bitOf h n) (2 : Nat)) : Int),
                    Value.int IntKind.u64 (↑(limb ((2 : Nat) * r + bitOf h n) (3 : Nat)) : Int)]))),
          ((29 : Nat),
            SV.v
              (Value.tuple
                (Array.mk
                  [el ((2 : Nat) * r + bitOf h n),
                    Value.int IntKind.u64 (↑(limb r (3 : Nat) / (9223372036854775808 : Nat)) : Int)]))),
          ((39 : Nat),
            SV.v
              (Value.tuple
                (Array.mk
                  [el ((2 : Nat) * r + bitOf h n),
                    Value.int IntKind.u64 (↑(limb r (3 : Nat) / (9223372036854775808 : Nat)) : Int)]))),
          ((38 : Nat),
            SV.v
              (Value.int IntKind.u64
                (IntKind.wrap IntKind.u64
                  (↑(Int.toNat
                          (Int.fdiv (↑(limb h (n / (64 : Nat))) : Int)
                              ((2 : Int) ^
                                if Int.toNat (Int.tmod (↑n : Int) (64 : Int)) ≤ (64 : Nat) then
                                  Int.toNat (Int.tmod (↑n : Int) (64 : Int))
                                else (64 : Nat)) %
                            (18446744073709551616 : Int)) &&&
                        (1 : Nat)) :
                    Int)))),
          ((37 : Nat),
            SV.v
              (Value.int IntKind.u64
                (Int.fdiv (↑(limb h (n / (64 : Nat))) : Int)
                  ((2 : Int) ^
                    if Int.toNat (Int.tmod (↑n : Int) (64 : Int)) ≤ (64 : Nat) then
                      Int.toNat (Int.tmod (↑n : Int) (64 : Int))
                    else (64 : Nat))))),
          ((36 : Nat), SV.v (Value.int IntKind.i64 (Int.tmod (↑n : Int) (64 : Int)))),
          ((35 : Nat), SV.v (Value.int IntKind.i64 (↑n : Int))),
          ((34 : Nat), SV.v (Value.int IntKind.u64 (↑(limb h (n / (64 : Nat))) : Int))),
          ((33 : Nat),
            SV.p (5 : Nat)
              ((0 : Nat) + Int.toNat (IntKind.wrap IntKind.i64 (Int.tdiv (↑n : Int) (64 : Int))) * (1 : Nat))),
          ((32 : Nat), SV.v (Value.int IntKind.i64 (IntKind.wrap IntKind.i64 (Int.tdiv (↑n : Int) (64 : Int))))),
          ((31 : Nat), SV.v (Value.int IntKind.i64 (↑n : Int))),
          ((30 : Nat),
            SV.agg
              [SV.v (Value.int IntKind.u64 (↑(limb r (0 : Nat)) : Int)),
                SV.v (Value.int IntKind.u64 (↑(limb r (1 : Nat)) : Int)),
                SV.v (Value.int IntKind.u64 (↑(limb r (2 : Nat)) : Int)),
                SV.v (Value.int IntKind.u64 (↑(limb r (3 : Nat)) : Int))]),
          ((26 : Nat), SV.v (Value.bool (decide ((0 : Int) ≤ (↑n : Int))))),
          ((25 : Nat), SV.v (Value.int IntKind.i64 (↑n : Int))), ((10 : Nat), SV.p (5 : Nat) (0 : Nat)),
          ((8 : Nat), SV.p (4 : Nat) (0 : Nat)), ((6 : Nat), SV.p (3 : Nat) (0 : Nat)),
          ((7 : Nat), SV.v (Value.int IntKind.i64 (0 : Int))), ((5 : Nat), SV.p (2 : Nat) (0 : Nat)),
          ((22 : Nat), SV.v (Value.int IntKind.i64 j)),
          ((21 : Nat),
            SV.agg
              [SV.v (Value.int IntKind.u64 (↑(limb b (0 : Nat)) : Int)),
                SV.v (Value.int IntKind.u64 (↑(limb b (1 : Nat)) : Int)),
                SV.v (Value.int IntKind.u64 (↑(limb b (2 : Nat)) : Int)),
                SV.v (Value.int IntKind.u64 (↑(limb b (3 : Nat)) : Int)),
                SV.v (Value.int IntKind.u64 (↑(limb a (0 : Nat)) : Int)),
                SV.v (Value.int IntKind.u64 (↑(limb a (1 : Nat)) : Int)),
                SV.v (Value.int IntKind.u64 (↑(limb a (2 : Nat)) : Int)),
                SV.v (Value.int IntKind.u64 (↑(limb a (3 : Nat)) : Int))])]
        [HO.cells
            [SV.v (Value.int IntKind.u64 (↑(limb a (0 : Nat)) : Int)),
              SV.v (Value.int IntKind.u64 (↑(limb a (1 : Nat)) : Int)),
              SV.v (Value.int IntKind.u64 (↑(limb a (2 : Nat)) : Int)),
              SV.v (Value.int IntKind.u64 (↑(limb a (3 : Nat)) : Int))]
            (24 : Nat),
          HO.cells
            [SV.v (Value.int IntKind.u64 (↑(limb b (0 : Nat)) : Int)),
              SV.v (Value.int IntKind.u64 (↑(limb b (1 : Nat)) : Int)),
              SV.v (Value.int IntKind.u64 (↑(limb b (2 : Nat)) : Int)),
              SV.v (Value.int IntKind.u64 (↑(limb b (3 : Nat)) : Int))]
            (24 : Nat),
          HO.cells
            [SV.v (Value.int IntKind.u64 (↑(limb m (0 : Nat)) : Int)),
              SV.v (Value.int IntKind.u64 (↑(limb m (1 : Nat)) : Int)),
              SV.v (Value.int IntKind.u64 (↑(limb m (2 : Nat)) : Int)),
              SV.v (Value.int IntKind.u64 (↑(limb m (3 : Nat)) : Int))]
            (24 : Nat),
          HO.cells
            [SV.v (Value.int IntKind.u64 (↑(limb (0 : Nat) (0 : Nat)) : Int)),
              SV.v (Value.int IntKind.u64 (↑(limb (0 : Nat) (1 : Nat)) : Int)),
              SV.v (Value.int IntKind.u64 (↑(limb (0 : Nat) (2 : Nat)) : Int)),
              SV.v (Value.int IntKind.u64 (↑(limb (0 : Nat) (3 : Nat)) : Int))]
            (24 : Nat),
          HO.cells
            [SV.v
                (Value.int IntKind.u64
                  (↑(limb
                        (((2 : Nat) * r + bitOf h n) %
                              (115792089237316195423570985008687907853269984665640564039457584007913129639936 : Nat) +
                            (115792089237316195423570985008687907853269984665640564039457584007913129639936 : Nat) -
                          m)
                        (0 : Nat)) :
                    Int)),
              SV.v
                (Value.int IntKind.u64
                  (↑(limb
                        (((2 : Nat) * r + bitOf h n) %
                              (115792089237316195423570985008687907853269984665640564039457584007913129639936 : Nat) +
                            (115792089237316195423570985008687907853269984665640564039457584007913129639936 : Nat) -
                          m)
                        (1 : Nat)) :
                    Int)),
              SV.v
                (Value.int IntKind.u64
                  (↑(limb
                        (((2 : Nat) * r + bitOf h n) %
                              (115792089237316195423570985008687907853269984665640564039457584007913129639936 : Nat) +
                            (115792089237316195423570985008687907853269984665640564039457584007913129639936 : Nat) -
                          m)
                        (2 : Nat)) :
                    Int)),
              SV.v
                (Value.int IntKind.u64
                  (↑(limb
                        (((2 : Nat) * r + bitOf h n) %
                              (115792089237316195423570985008687907853269984665640564039457584007913129639936 : Nat) +
                            (115792089237316195423570985008687907853269984665640564039457584007913129639936 : Nat) -
                          m)
                        (3 : Nat)) :
                    Int))]
            (24 : Nat),
          HO.cells
            [SV.v (Value.int IntKind.u64 (↑(limb h (0 : Nat)) : Int)),
              SV.v (Value.int IntKind.u64 (↑(limb h (1 : Nat)) : Int)),
              SV.v (Value.int IntKind.u64 (↑(limb h (2 : Nat)) : Int)),
              SV.v (Value.int IntKind.u64 (↑(limb h (3 : Nat)) : Int))]
            (24 : Nat),
          HO.cells
            [SV.v
                (Value.int IntKind.u64
                  (↑(limb
                        (((2 : Nat) * r + bitOf h n) %
                              (115792089237316195423570985008687907853269984665640564039457584007913129639936 : Nat) +
                            (115792089237316195423570985008687907853269984665640564039457584007913129639936 : Nat) -
                          m)
                        (0 : Nat)) :
                    Int)),
              SV.v
                (Value.int IntKind.u64
                  (↑(limb
                        (((2 : Nat) * r + bitOf h n) %
                              (115792089237316195423570985008687907853269984665640564039457584007913129639936 : Nat) +
                            (115792089237316195423570985008687907853269984665640564039457584007913129639936 : Nat) -
                          m)
                        (1 : Nat)) :
                    Int)),
              SV.v
                (Value.int IntKind.u64
                  (↑(limb
                        (((2 : Nat) * r + bitOf h n) %
                              (115792089237316195423570985008687907853269984665640564039457584007913129639936 : Nat) +
                            (115792089237316195423570985008687907853269984665640564039457584007913129639936 : Nat) -
                          m)
                        (2 : Nat)) :
                    Int)),
              SV.v
                (Value.int IntKind.u64
                  (↑(limb
                        (((2 : Nat) * r + bitOf h n) %
                              (115792089237316195423570985008687907853269984665640564039457584007913129639936 : Nat) +
                            (115792089237316195423570985008687907853269984665640564039457584007913129639936 : Nat) -
                          m)
                        (3 : Nat)) :
                    Int))]
            (24 : Nat)]),
    Leaf2.mk
      [(!(↑(limb r (3 : Nat) / (9223372036854775808 : Nat)) : Int) == (0 : Int)) = false,
        (!decide
              (((2 : Nat) * r + bitOf h n) %
                  (115792089237316195423570985008687907853269984665640564039457584007913129639936 : Nat) <
                m)) =
          true]
      [fun _ => decide ((0 : Int) ≤ (↑n : Int)) = true, fun _ => ¬(64 : Int) = (0 : Int), fun _ =>
        (0 : Int) ≤ IntKind.wrap IntKind.i64 (Int.tdiv (↑n : Int) (64 : Int)) ∧
          IntKind.wrap IntKind.i64 (Int.tdiv (↑n : Int) (64 : Int)) < (4 : Int),
        fun _ =>
        [SV.v (Value.int IntKind.u64 (↑(limb h (0 : Nat)) : Int)),
              SV.v (Value.int IntKind.u64 (↑(limb h (1 : Nat)) : Int)),
              SV.v (Value.int IntKind.u64 (↑(limb h (2 : Nat)) : Int)),
              SV.v
                (Value.int IntKind.u64
                  (↑(limb h (3 : Nat)) :
                    Int))][(0 : Nat) +
              Int.toNat (IntKind.wrap IntKind.i64 (Int.tdiv (↑n : Int) (64 : Int))) * (1 : Nat)]? =
          some (SV.v (Value.int IntKind.u64 (↑(limb h (n / (64 : Nat))) : Int))),
        fun _ => ¬(64 : Int) = (0 : Int), fun _ => ¬Int.tmod (↑n : Int) (64 : Int) < (0 : Int), fun _ =>
        Value.agg
              (Array.mk
                [Value.int IntKind.u64 (↑(limb r (0 : Nat)) : Int), Value.int IntKind.u64 (↑(limb r (1 : Nat)) : Int),
                  Value.int IntKind.u64 (↑(limb r (2 : Nat)) : Int),
                  Value.int IntKind.u64 (↑(limb r (3 : Nat)) : Int)]) =
            el
              (nv (Int.toNat (↑(limb r (0 : Nat)) : Int)) (Int.toNat (↑(limb r (1 : Nat)) : Int))
                (Int.toNat (↑(limb r (2 : Nat)) : Int)) (Int.toNat (↑(limb r (3 : Nat)) : Int))) ∧
          Value.int IntKind.u64
                (IntKind.wrap IntKind.u64
                  (↑(Int.toNat
                          (Int.fdiv (↑(limb h (n / (64 : Nat))) : Int)
                              ((2 : Int) ^
                                if Int.toNat (Int.tmod (↑n : Int) (64 : Int)) ≤ (64 : Nat) then
                                  Int.toNat (Int.tmod (↑n : Int) (64 : Int))
                                else (64 : Nat)) %
                            (18446744073709551616 : Int)) &&&
                        (1 : Nat)) :
                    Int)) =
              Value.int IntKind.u64
                (↑(Int.toNat
                      (IntKind.wrap IntKind.u64
                        (↑(Int.toNat
                                (Int.fdiv (↑(limb h (n / (64 : Nat))) : Int)
                                    ((2 : Int) ^
                                      if Int.toNat (Int.tmod (↑n : Int) (64 : Int)) ≤ (64 : Nat) then
                                        Int.toNat (Int.tmod (↑n : Int) (64 : Int))
                                      else (64 : Nat)) %
                                  (18446744073709551616 : Int)) &&&
                              (1 : Nat)) :
                          Int))) :
                  Int) ∧
            nv (Int.toNat (↑(limb r (0 : Nat)) : Int)) (Int.toNat (↑(limb r (1 : Nat)) : Int))
                  (Int.toNat (↑(limb r (2 : Nat)) : Int)) (Int.toNat (↑(limb r (3 : Nat)) : Int)) <
                (115792089237316195423570985008687907853269984665640564039457584007913129639936 : Nat) ∧
              Int.toNat
                  (IntKind.wrap IntKind.u64
                    (↑(Int.toNat
                            (Int.fdiv (↑(limb h (n / (64 : Nat))) : Int)
                                ((2 : Int) ^
                                  if Int.toNat (Int.tmod (↑n : Int) (64 : Int)) ≤ (64 : Nat) then
                                    Int.toNat (Int.tmod (↑n : Int) (64 : Int))
                                  else (64 : Nat)) %
                              (18446744073709551616 : Int)) &&&
                          (1 : Nat)) :
                      Int)) ≤
                (1 : Nat),
        fun _ =>
        Value.tuple
            (Array.mk
              [el
                  ((2 : Nat) *
                      nv (Int.toNat (↑(limb r (0 : Nat)) : Int)) (Int.toNat (↑(limb r (1 : Nat)) : Int))
                        (Int.toNat (↑(limb r (2 : Nat)) : Int)) (Int.toNat (↑(limb r (3 : Nat)) : Int)) +
                    Int.toNat
                      (IntKind.wrap IntKind.u64
                        (↑(Int.toNat
                                (Int.fdiv (↑(limb h (n / (64 : Nat))) : Int)
                                    ((2 : Int) ^
                                      if Int.toNat (Int.tmod (↑n : Int) (64 : Int)) ≤ (64 : Nat) then
                                        Int.toNat (Int.tmod (↑n : Int) (64 : Int))
                                      else (64 : Nat)) %
                                  (18446744073709551616 : Int)) &&&
                              (1 : Nat)) :
                          Int))),
                Value.int IntKind.u64
                  (↑(limb
                          (nv (Int.toNat (↑(limb r (0 : Nat)) : Int)) (Int.toNat (↑(limb r (1 : Nat)) : Int))
                            (Int.toNat (↑(limb r (2 : Nat)) : Int)) (Int.toNat (↑(limb r (3 : Nat)) : Int)))
                          (3 : Nat) /
                        (9223372036854775808 : Nat)) :
                    Int)]) =
          Value.tuple
            (Array.mk
              [el ((2 : Nat) * r + bitOf h n),
                Value.int IntKind.u64 (↑(limb r (3 : Nat) / (9223372036854775808 : Nat)) : Int)]),
        fun _ => (0 : Nat) + (4 : Nat) ≤ (4 : Nat), fun _ =>
        Value.agg
              (Array.mk
                [Value.int IntKind.u64 (↑(limb ((2 : Nat) * r + bitOf h n) (0 : Nat)) : Int),
                  Value.int IntKind.u64 (↑(limb ((2 : Nat) * r + bitOf h n) (1 : Nat)) : Int),
                  Value.int IntKind.u64 (↑(limb ((2 : Nat) * r + bitOf h n) (2 : Nat)) : Int),
                  Value.int IntKind.u64 (↑(limb ((2 : Nat) * r + bitOf h n) (3 : Nat)) : Int)]) =
            el
              (nv (Int.toNat (↑(limb ((2 : Nat) * r + bitOf h n) (0 : Nat)) : Int))
                (Int.toNat (↑(limb ((2 : Nat) * r + bitOf h n) (1 : Nat)) : Int))
                (Int.toNat (↑(limb ((2 : Nat) * r + bitOf h n) (2 : Nat)) : Int))
                (Int.toNat (↑(limb ((2 : Nat) * r + bitOf h n) (3 : Nat)) : Int))) ∧
          Value.agg
                (Array.mk
                  [Value.int IntKind.u64 (↑(limb m (0 : Nat)) : Int), Value.int IntKind.u64 (↑(limb m (1 : Nat)) : Int),
                    Value.int IntKind.u64 (↑(limb m (2 : Nat)) : Int),
                    Value.int IntKind.u64 (↑(limb m (3 : Nat)) : Int)]) =
              el
                (nv (Int.toNat (↑(limb m (0 : Nat)) : Int)) (Int.toNat (↑(limb m (1 : Nat)) : Int))
                  (Int.toNat (↑(limb m (2 : Nat)) : Int)) (Int.toNat (↑(limb m (3 : Nat)) : Int))) ∧
            nv (Int.toNat (↑(limb ((2 : Nat) * r + bitOf h n) (0 : Nat)) : Int))
                  (Int.toNat (↑(limb ((2 : Nat) * r + bitOf h n) (1 : Nat)) : Int))
                  (Int.toNat (↑(limb ((2 : Nat) * r + bitOf h n) (2 : Nat)) : Int))
                  (Int.toNat (↑(limb ((2 : Nat) * r + bitOf h n) (3 : Nat)) : Int)) <
                (115792089237316195423570985008687907853269984665640564039457584007913129639936 : Nat) ∧
              nv (Int.toNat (↑(limb m (0 : Nat)) : Int)) (Int.toNat (↑(limb m (1 : Nat)) : Int))
                  (Int.toNat (↑(limb m (2 : Nat)) : Int)) (Int.toNat (↑(limb m (3 : Nat)) : Int)) <
                (115792089237316195423570985008687907853269984665640564039457584007913129639936 : Nat),
        fun _ =>
        Value.tuple
            (Array.mk
              [el
                  (nv (Int.toNat (↑(limb ((2 : Nat) * r + bitOf h n) (0 : Nat)) : Int))
                        (Int.toNat (↑(limb ((2 : Nat) * r + bitOf h n) (1 : Nat)) : Int))
                        (Int.toNat (↑(limb ((2 : Nat) * r + bitOf h n) (2 : Nat)) : Int))
                        (Int.toNat (↑(limb ((2 : Nat) * r + bitOf h n) (3 : Nat)) : Int)) +
                      (115792089237316195423570985008687907853269984665640564039457584007913129639936 : Nat) -
                    nv (Int.toNat (↑(limb m (0 : Nat)) : Int)) (Int.toNat (↑(limb m (1 : Nat)) : Int))
                      (Int.toNat (↑(limb m (2 : Nat)) : Int)) (Int.toNat (↑(limb m (3 : Nat)) : Int))),
                Value.bool
                  (decide
                    (nv (Int.toNat (↑(limb ((2 : Nat) * r + bitOf h n) (0 : Nat)) : Int))
                        (Int.toNat (↑(limb ((2 : Nat) * r + bitOf h n) (1 : Nat)) : Int))
                        (Int.toNat (↑(limb ((2 : Nat) * r + bitOf h n) (2 : Nat)) : Int))
                        (Int.toNat (↑(limb ((2 : Nat) * r + bitOf h n) (3 : Nat)) : Int)) <
                      nv (Int.toNat (↑(limb m (0 : Nat)) : Int)) (Int.toNat (↑(limb m (1 : Nat)) : Int))
                        (Int.toNat (↑(limb m (2 : Nat)) : Int)) (Int.toNat (↑(limb m (3 : Nat)) : Int))))]) =
          Value.tuple
            (Array.mk
              [el
                  (((2 : Nat) * r + bitOf h n) %
                        (115792089237316195423570985008687907853269984665640564039457584007913129639936 : Nat) +
                      (115792089237316195423570985008687907853269984665640564039457584007913129639936 : Nat) -
                    m),
                Value.bool
                  (decide
                    (((2 : Nat) * r + bitOf h n) %
                        (115792089237316195423570985008687907853269984665640564039457584007913129639936 : Nat) <
                      m))]),
        fun _ => (0 : Nat) + (4 : Nat) ≤ (4 : Nat), fun _ =>
        (!(↑(limb r (3 : Nat) / (9223372036854775808 : Nat)) : Int) == (0 : Int)) = false, fun _ =>
        (!decide
              (((2 : Nat) * r + bitOf h n) %
                  (115792089237316195423570985008687907853269984665640564039457584007913129639936 : Nat) <
                m)) =
          true,
        fun _ => (0 : Nat) + (4 : Nat) ≤ (4 : Nat)]
      (It.rnd
          [(0 : Nat), (0 : Nat), (1 : Nat), (1 : Nat), (0 : Nat), (0 : Nat), (1 : Nat), (1 : Nat), (0 : Nat), (0 : Nat),
            (1 : Nat), (0 : Nat), (1 : Nat), (1 : Nat), (1 : Nat)]
          (M + (1 : Nat)) ::
        kt)
      (St.mk
        [((11 : Nat), SV.v (Value.int IntKind.i64 (IntKind.wrap IntKind.i64 ((↑n : Int) - (1 : Int))))),
          ((28 : Nat), SV.v (Value.int IntKind.i64 (IntKind.wrap IntKind.i64 ((↑n : Int) - (1 : Int))))),
          ((27 : Nat), SV.v (Value.int IntKind.i64 (↑n : Int))),
          ((54 : Nat),
            SV.agg
              [SV.v
                  (Value.int IntKind.u64
                    (↑(limb
                          (((2 : Nat) * r + bitOf h n) %
                                (115792089237316195423570985008687907853269984665640564039457584007913129639936 : Nat) +
                              (115792089237316195423570985008687907853269984665640564039457584007913129639936 : Nat) -
                            m)
                          (0 : Nat)) :
                      Int)),
                SV.v
                  (Value.int IntKind.u64
                    (↑(limb
                          (((2 : Nat) * r + bitOf h n) %
                                (115792089237316195423570985008687907853269984665640564039457584007913129639936 : Nat) +
                              (115792089237316195423570985008687907853269984665640564039457584007913129639936 : Nat) -
                            m)
                          (1 : Nat)) :
                      Int)),
                SV.v
                  (Value.int IntKind.u64
                    (↑(limb
                          (((2 : Nat) * r + bitOf h n) %
                                (115792089237316195423570985008687907853269984665640564039457584007913129639936 : Nat) +
                              (115792089237316195423570985008687907853269984665640564039457584007913129639936 : Nat) -
                            m)
                          (2 : Nat)) :
                      Int)),
                SV.v
                  (Value.int IntKind.u64
                    (↑(limb
                          (((2 : Nat) * r + bitOf h n) %
                                (115792089237316195423570985008687907853269984665640564039457584007913129639936 : Nat) +
                              (115792089237316195423570985008687907853269984665640564039457584007913129639936 : Nat) -
                            m)
                          (3 : Nat)) :
                      Int))]),
          ((53 : Nat),
            SV.v
              (Value.bool
                !decide
                    (((2 : Nat) * r + bitOf h n) %
                        (115792089237316195423570985008687907853269984665640564039457584007913129639936 : Nat) <
                      m))),
          ((52 : Nat),
            SV.v
              (Value.bool
                !decide
                    (((2 : Nat) * r + bitOf h n) %
                        (115792089237316195423570985008687907853269984665640564039457584007913129639936 : Nat) <
                      m))),
          ((51 : Nat),
            SV.v
              (Value.bool
                (decide
                  (((2 : Nat) * r + bitOf h n) %
                      (115792089237316195423570985008687907853269984665640564039457584007913129639936 : Nat) <
                    m)))),
          ((50 : Nat), SV.bl false),
          ((49 : Nat), SV.v (Value.bool !(↑(limb r (3 : Nat) / (9223372036854775808 : Nat)) : Int) == (0 : Int))),
          ((48 : Nat), SV.v (Value.int IntKind.u64 (↑(limb r (3 : Nat) / (9223372036854775808 : Nat)) : Int))),
          ((14 : Nat),
            SV.v
              (Value.bool
                (decide
                  (((2 : Nat) * r + bitOf h n) %
                      (115792089237316195423570985008687907853269984665640564039457584007913129639936 : Nat) <
                    m)))),
          ((13 : Nat), SV.p (6 : Nat) (0 : Nat)),
          ((47 : Nat),
            SV.v
              (Value.bool
                (decide
                  (((2 : Nat) * r + bitOf h n) %
                      (115792089237316195423570985008687907853269984665640564039457584007913129639936 : Nat) <
                    m)))),
          ((46 : Nat),
            SV.v
              (Value.agg
                (Array.mk
                  [Value.int IntKind.u64
                      (↑(limb
                            (((2 : Nat) * r + bitOf h n) %
                                  (115792089237316195423570985008687907853269984665640564039457584007913129639936 :
                                    Nat) +
                                (115792089237316195423570985008687907853269984665640564039457584007913129639936 : Nat) -
                              m)
                            (0 : Nat)) :
                        Int),
                    Value.int IntKind.u64
                      (↑(limb
                            (((2 : Nat) * r + bitOf h n) %
                                  (115792089237316195423570985008687907853269984665640564039457584007913129639936 :
                                    Nat) +
                                (115792089237316195423570985008687907853269984665640564039457584007913129639936 : Nat) -
                              m)
                            (1 : Nat)) :
                        Int),
                    Value.int IntKind.u64
                      (↑(limb
                            (((2 : Nat) * r + bitOf h n) %
                                  (115792089237316195423570985008687907853269984665640564039457584007913129639936 :
                                    Nat) +
                                (115792089237316195423570985008687907853269984665640564039457584007913129639936 : Nat) -
                              m)
                            (2 : Nat)) :
                        Int),
                    Value.int IntKind.u64
                      (↑(limb
                            (((2 : Nat) * r + bitOf h n) %
                                  (115792089237316195423570985008687907853269984665640564039457584007913129639936 :
                                    Nat) +
                                (115792089237316195423570985008687907853269984665640564039457584007913129639936 : Nat) -
                              m)
                            (3 : Nat)) :
                        Int)]))),
          ((42 : Nat),
            SV.v
              (Value.tuple
                (Array.mk
                  [el
                      (((2 : Nat) * r + bitOf h n) %
                            (115792089237316195423570985008687907853269984665640564039457584007913129639936 : Nat) +
                          (115792089237316195423570985008687907853269984665640564039457584007913129639936 : Nat) -
                        m),
                    Value.bool
                      (decide
                        (((2 : Nat) * r + bitOf h n) %
                            (115792089237316195423570985008687907853269984665640564039457584007913129639936 : Nat) <
                          m))]))),
          ((45 : Nat),
            SV.v
              (Value.tuple
                (Array.mk
                  [el
                      (((2 : Nat) * r + bitOf h n) %
                            (115792089237316195423570985008687907853269984665640564039457584007913129639936 : Nat) +
                          (115792089237316195423570985008687907853269984665640564039457584007913129639936 : Nat) -
                        m),
                    Value.bool
                      (decide
                        (((2 : Nat) * r + bitOf h n) %
                            (115792089237316195423570985008687907853269984665640564039457584007913129639936 : Nat) <
                          m))]))),
          ((44 : Nat),
            SV.agg
              [SV.v (Value.int IntKind.u64 (↑(limb m (0 : Nat)) : Int)),
                SV.v (Value.int IntKind.u64 (↑(limb m (1 : Nat)) : Int)),
                SV.v (Value.int IntKind.u64 (↑(limb m (2 : Nat)) : Int)),
                SV.v (Value.int IntKind.u64 (↑(limb m (3 : Nat)) : Int))]),
          ((43 : Nat),
            SV.agg
              [SV.v (Value.int IntKind.u64 (↑(limb ((2 : Nat) * r + bitOf h n) (0 : Nat)) : Int)),
                SV.v (Value.int IntKind.u64 (↑(limb ((2 : Nat) * r + bitOf h n) (1 : Nat)) : Int)),
                SV.v (Value.int IntKind.u64 (↑(limb ((2 : Nat) * r + bitOf h n) (2 : Nat)) : Int)),
                SV.v (Value.int IntKind.u64 (↑(limb ((2 : Nat) * r + bitOf h n) (3 : Nat)) : Int))]),
          ((12 : Nat), SV.v (Value.int IntKind.u64 (↑(limb r (3 : Nat) / (9223372036854775808 : Nat)) : Int))),
          ((41 : Nat), SV.v (Value.int IntKind.u64 (↑(limb r (3 : Nat) / (9223372036854775808 : Nat)) : Int))),
          ((40 : Nat),
            SV.v
              (Value.agg
                (Array.mk
                  [Value.int IntKind.u64 (↑(limb ((2 : Nat) * r + bitOf h n) (0 : Nat)) : Int),
                    Value.int IntKind.u64 (↑(limb ((2 : Nat) * r + bitOf h n) (1 : Nat)) : Int),
                    Value.int IntKind.u64 (↑(limb ((2 : Nat) * r + bitOf h n) (2 : Nat)) : Int),
                    Value.int IntKind.u64 (↑(limb ((2 : Nat) * r + bitOf h n) (3 : Nat)) : Int)]))),
          ((29 : Nat),
            SV.v
              (Value.tuple
                (Array.mk
                  [el ((2 : Nat) * r + bitOf h n),
                    Value.int IntKind.u64 (↑(limb r (3 : Nat) / (9223372036854775808 : Nat)) : Int)]))),
          ((39 : Nat),
            SV.v
              (Value.tuple
                (Array.mk
                  [el ((2 : Nat) * r + bitOf h n),
                    Value.int IntKind.u64 (↑(limb r (3 : Nat) / (9223372036854775808 : Nat)) : Int)]))),
          ((38 : Nat),
            SV.v
              (Value.int IntKind.u64
                (IntKind.wrap IntKind.u64
                  (↑(Int.toNat
                          (Int.fdiv (↑(limb h (n / (64 : Nat))) : Int)
                              ((2 : Int) ^
                                if Int.toNat (Int.tmod (↑n : Int) (64 : Int)) ≤ (64 : Nat) then
                                  Int.toNat (Int.tmod (↑n : Int) (64 : Int))
                                else (64 : Nat)) %
                            (18446744073709551616 : Int)) &&&
                        (1 : Nat)) :
                    Int)))),
          ((37 : Nat),
            SV.v
              (Value.int IntKind.u64
                (Int.fdiv (↑(limb h (n / (64 : Nat))) : Int)
                  ((2 : Int) ^
                    if Int.toNat (Int.tmod (↑n : Int) (64 : Int)) ≤ (64 : Nat) then
                      Int.toNat (Int.tmod (↑n : Int) (64 : Int))
                    else (64 : Nat))))),
          ((36 : Nat), SV.v (Value.int IntKind.i64 (Int.tmod (↑n : Int) (64 : Int)))),
          ((35 : Nat), SV.v (Value.int IntKind.i64 (↑n : Int))),
          ((34 : Nat), SV.v (Value.int IntKind.u64 (↑(limb h (n / (64 : Nat))) : Int))),
          ((33 : Nat),
            SV.p (5 : Nat)
              ((0 : Nat) + Int.toNat (IntKind.wrap IntKind.i64 (Int.tdiv (↑n : Int) (64 : Int))) * (1 : Nat))),
          ((32 : Nat), SV.v (Value.int IntKind.i64 (IntKind.wrap IntKind.i64 (Int.tdiv (↑n : Int) (64 : Int))))),
          ((31 : Nat), SV.v (Value.int IntKind.i64 (↑n : Int))),
          ((30 : Nat),
            SV.agg
              [SV.v (Value.int IntKind.u64 (↑(limb r (0 : Nat)) : Int)),
                SV.v (Value.int IntKind.u64 (↑(limb r (1 : Nat)) : Int)),
                SV.v (Value.int IntKind.u64 (↑(limb r (2 : Nat)) : Int)),
                SV.v (Value.int IntKind.u64 (↑(limb r (3 : Nat)) : Int))]),
          ((26 : Nat), SV.v (Value.bool (decide ((0 : Int) ≤ (↑n : Int))))),
          ((25 : Nat), SV.v (Value.int IntKind.i64 (↑n : Int))), ((10 : Nat), SV.p (5 : Nat) (0 : Nat)),
          ((8 : Nat), SV.p (4 : Nat) (0 : Nat)), ((6 : Nat), SV.p (3 : Nat) (0 : Nat)),
          ((7 : Nat), SV.v (Value.int IntKind.i64 (0 : Int))), ((5 : Nat), SV.p (2 : Nat) (0 : Nat)),
          ((22 : Nat), SV.v (Value.int IntKind.i64 j)),
          ((21 : Nat),
            SV.agg
              [SV.v (Value.int IntKind.u64 (↑(limb b (0 : Nat)) : Int)),
                SV.v (Value.int IntKind.u64 (↑(limb b (1 : Nat)) : Int)),
                SV.v (Value.int IntKind.u64 (↑(limb b (2 : Nat)) : Int)),
                SV.v (Value.int IntKind.u64 (↑(limb b (3 : Nat)) : Int)),
                SV.v (Value.int IntKind.u64 (↑(limb a (0 : Nat)) : Int)),
                SV.v (Value.int IntKind.u64 (↑(limb a (1 : Nat)) : Int)),
                SV.v (Value.int IntKind.u64 (↑(limb a (2 : Nat)) : Int)),
                SV.v (Value.int IntKind.u64 (↑(limb a (3 : Nat)) : Int))])]
        [HO.cells
            [SV.v (Value.int IntKind.u64 (↑(limb a (0 : Nat)) : Int)),
              SV.v (Value.int IntKind.u64 (↑(limb a (1 : Nat)) : Int)),
              SV.v (Value.int IntKind.u64 (↑(limb a (2 : Nat)) : Int)),
              SV.v (Value.int IntKind.u64 (↑(limb a (3 : Nat)) : Int))]
            (24 : Nat),
          HO.cells
            [SV.v (Value.int IntKind.u64 (↑(limb b (0 : Nat)) : Int)),
              SV.v (Value.int IntKind.u64 (↑(limb b (1 : Nat)) : Int)),
              SV.v (Value.int IntKind.u64 (↑(limb b (2 : Nat)) : Int)),
              SV.v (Value.int IntKind.u64 (↑(limb b (3 : Nat)) : Int))]
            (24 : Nat),
          HO.cells
            [SV.v (Value.int IntKind.u64 (↑(limb m (0 : Nat)) : Int)),
              SV.v (Value.int IntKind.u64 (↑(limb m (1 : Nat)) : Int)),
              SV.v (Value.int IntKind.u64 (↑(limb m (2 : Nat)) : Int)),
              SV.v (Value.int IntKind.u64 (↑(limb m (3 : Nat)) : Int))]
            (24 : Nat),
          HO.cells
            [SV.v (Value.int IntKind.u64 (↑(limb (0 : Nat) (0 : Nat)) : Int)),
              SV.v (Value.int IntKind.u64 (↑(limb (0 : Nat) (1 : Nat)) : Int)),
              SV.v (Value.int IntKind.u64 (↑(limb (0 : Nat) (2 : Nat)) : Int)),
              SV.v (Value.int IntKind.u64 (↑(limb (0 : Nat) (3 : Nat)) : Int))]
            (24 : Nat),
          HO.cells
            [SV.v
                (Value.int IntKind.u64
                  (↑(limb
                        (((2 : Nat) * r + bitOf h n) %
                              (115792089237316195423570985008687907853269984665640564039457584007913129639936 : Nat) +
                            (115792089237316195423570985008687907853269984665640564039457584007913129639936 : Nat) -
                          m)
                        (0 : Nat)) :
                    Int)),
              SV.v
                (Value.int IntKind.u64
                  (↑(limb
                        (((2 : Nat) * r + bitOf h n) %
                              (115792089237316195423570985008687907853269984665640564039457584007913129639936 : Nat) +
                            (115792089237316195423570985008687907853269984665640564039457584007913129639936 : Nat) -
                          m)
                        (1 : Nat)) :
                    Int)),
              SV.v
                (Value.int IntKind.u64
                  (↑(limb
                        (((2 : Nat) * r + bitOf h n) %
                              (115792089237316195423570985008687907853269984665640564039457584007913129639936 : Nat) +
                            (115792089237316195423570985008687907853269984665640564039457584007913129639936 : Nat) -
                          m)
                        (2 : Nat)) :
                    Int)),
              SV.v
                (Value.int IntKind.u64
                  (↑(limb
                        (((2 : Nat) * r + bitOf h n) %
                              (115792089237316195423570985008687907853269984665640564039457584007913129639936 : Nat) +
                            (115792089237316195423570985008687907853269984665640564039457584007913129639936 : Nat) -
                          m)
                        (3 : Nat)) :
                    Int))]
            (24 : Nat),
          HO.cells
            [SV.v (Value.int IntKind.u64 (↑(limb h (0 : Nat)) : Int)),
              SV.v (Value.int IntKind.u64 (↑(limb h (1 : Nat)) : Int)),
              SV.v (Value.int IntKind.u64 (↑(limb h (2 : Nat)) : Int)),
              SV.v (Value.int IntKind.u64 (↑(limb h (3 : Nat)) : Int))]
            (24 : Nat),
          HO.cells
            [SV.v
                (Value.int IntKind.u64
                  (↑(limb
                        (((2 : Nat) * r + bitOf h n) %
                              (115792089237316195423570985008687907853269984665640564039457584007913129639936 : Nat) +
                            (115792089237316195423570985008687907853269984665640564039457584007913129639936 : Nat) -
                          m)
                        (0 : Nat)) :
                    Int)),
              SV.v
                (Value.int IntKind.u64
                  (↑(limb
                        (((2 : Nat) * r + bitOf h n) %
                              (115792089237316195423570985008687907853269984665640564039457584007913129639936 : Nat) +
                            (115792089237316195423570985008687907853269984665640564039457584007913129639936 : Nat) -
                          m)
                        (1 : Nat)) :
                    Int)),
              SV.v
                (Value.int IntKind.u64
                  (↑(limb
                        (((2 : Nat) * r + bitOf h n) %
                              (115792089237316195423570985008687907853269984665640564039457584007913129639936 : Nat) +
                            (115792089237316195423570985008687907853269984665640564039457584007913129639936 : Nat) -
                          m)
                        (2 : Nat)) :
                    Int)),
              SV.v
                (Value.int IntKind.u64
                  (↑(limb
                        (((2 : Nat) * r + bitOf h n) %
                              (115792089237316195423570985008687907853269984665640564039457584007913129639936 : Nat) +
                            (115792089237316195423570985008687907853269984665640564039457584007913129639936 : Nat) -
                          m)
                        (3 : Nat)) :
                    Int))]
            (24 : Nat)]),
    Leaf2.mk
      [(!(↑(limb r (3 : Nat) / (9223372036854775808 : Nat)) : Int) == (0 : Int)) = false,
        (!decide
              (((2 : Nat) * r + bitOf h n) %
                  (115792089237316195423570985008687907853269984665640564039457584007913129639936 : Nat) <
                m)) =
          false]
      [fun _ => decide ((0 : Int) ≤ (↑n : Int)) = true, fun _ => ¬(64 : Int) = (0 : Int), fun _ =>
        (0 : Int) ≤ IntKind.wrap IntKind.i64 (Int.tdiv (↑n : Int) (64 : Int)) ∧
          IntKind.wrap IntKind.i64 (Int.tdiv (↑n : Int) (64 : Int)) < (4 : Int),
        fun _ =>
        [SV.v (Value.int IntKind.u64 (↑(limb h (0 : Nat)) : Int)),
              SV.v (Value.int IntKind.u64 (↑(limb h (1 : Nat)) : Int)),
              SV.v (Value.int IntKind.u64 (↑(limb h (2 : Nat)) : Int)),
              SV.v
                (Value.int IntKind.u64
                  (↑(limb h (3 : Nat)) :
                    Int))][(0 : Nat) +
              Int.toNat (IntKind.wrap IntKind.i64 (Int.tdiv (↑n : Int) (64 : Int))) * (1 : Nat)]? =
          some (SV.v (Value.int IntKind.u64 (↑(limb h (n / (64 : Nat))) : Int))),
        fun _ => ¬(64 : Int) = (0 : Int), fun _ => ¬Int.tmod (↑n : Int) (64 : Int) < (0 : Int), fun _ =>
        Value.agg
              (Array.mk
                [Value.int IntKind.u64 (↑(limb r (0 : Nat)) : Int), Value.int IntKind.u64 (↑(limb r (1 : Nat)) : Int),
                  Value.int IntKind.u64 (↑(limb r (2 : Nat)) : Int),
                  Value.int IntKind.u64 (↑(limb r (3 : Nat)) : Int)]) =
            el
              (nv (Int.toNat (↑(limb r (0 : Nat)) : Int)) (Int.toNat (↑(limb r (1 : Nat)) : Int))
                (Int.toNat (↑(limb r (2 : Nat)) : Int)) (Int.toNat (↑(limb r (3 : Nat)) : Int))) ∧
          Value.int IntKind.u64
                (IntKind.wrap IntKind.u64
                  (↑(Int.toNat
                          (Int.fdiv (↑(limb h (n / (64 : Nat))) : Int)
                              ((2 : Int) ^
                                if Int.toNat (Int.tmod (↑n : Int) (64 : Int)) ≤ (64 : Nat) then
                                  Int.toNat (Int.tmod (↑n : Int) (64 : Int))
                                else (64 : Nat)) %
                            (18446744073709551616 : Int)) &&&
                        (1 : Nat)) :
                    Int)) =
              Value.int IntKind.u64
                (↑(Int.toNat
                      (IntKind.wrap IntKind.u64
                        (↑(Int.toNat
                                (Int.fdiv (↑(limb h (n / (64 : Nat))) : Int)
                                    ((2 : Int) ^
                                      if Int.toNat (Int.tmod (↑n : Int) (64 : Int)) ≤ (64 : Nat) then
                                        Int.toNat (Int.tmod (↑n : Int) (64 : Int))
                                      else (64 : Nat)) %
                                  (18446744073709551616 : Int)) &&&
                              (1 : Nat)) :
                          Int))) :
                  Int) ∧
            nv (Int.toNat (↑(limb r (0 : Nat)) : Int)) (Int.toNat (↑(limb r (1 : Nat)) : Int))
                  (Int.toNat (↑(limb r (2 : Nat)) : Int)) (Int.toNat (↑(limb r (3 : Nat)) : Int)) <
                (115792089237316195423570985008687907853269984665640564039457584007913129639936 : Nat) ∧
              Int.toNat
                  (IntKind.wrap IntKind.u64
                    (↑(Int.toNat
                            (Int.fdiv (↑(limb h (n / (64 : Nat))) : Int)
                                ((2 : Int) ^
                                  if Int.toNat (Int.tmod (↑n : Int) (64 : Int)) ≤ (64 : Nat) then
                                    Int.toNat (Int.tmod (↑n : Int) (64 : Int))
                                  else (64 : Nat)) %
                              (18446744073709551616 : Int)) &&&
                          (1 : Nat)) :
                      Int)) ≤
                (1 : Nat),
        fun _ =>
        Value.tuple
            (Array.mk
              [el
                  ((2 : Nat) *
                      nv (Int.toNat (↑(limb r (0 : Nat)) : Int)) (Int.toNat (↑(limb r (1 : Nat)) : Int))
                        (Int.toNat (↑(limb r (2 : Nat)) : Int)) (Int.toNat (↑(limb r (3 : Nat)) : Int)) +
                    Int.toNat
                      (IntKind.wrap IntKind.u64
                        (↑(Int.toNat
                                (Int.fdiv (↑(limb h (n / (64 : Nat))) : Int)
                                    ((2 : Int) ^
                                      if Int.toNat (Int.tmod (↑n : Int) (64 : Int)) ≤ (64 : Nat) then
                                        Int.toNat (Int.tmod (↑n : Int) (64 : Int))
                                      else (64 : Nat)) %
                                  (18446744073709551616 : Int)) &&&
                              (1 : Nat)) :
                          Int))),
                Value.int IntKind.u64
                  (↑(limb
                          (nv (Int.toNat (↑(limb r (0 : Nat)) : Int)) (Int.toNat (↑(limb r (1 : Nat)) : Int))
                            (Int.toNat (↑(limb r (2 : Nat)) : Int)) (Int.toNat (↑(limb r (3 : Nat)) : Int)))
                          (3 : Nat) /
                        (9223372036854775808 : Nat)) :
                    Int)]) =
          Value.tuple
            (Array.mk
              [el ((2 : Nat) * r + bitOf h n),
                Value.int IntKind.u64 (↑(limb r (3 : Nat) / (9223372036854775808 : Nat)) : Int)]),
        fun _ => (0 : Nat) + (4 : Nat) ≤ (4 : Nat), fun _ =>
        Value.agg
              (Array.mk
                [Value.int IntKind.u64 (↑(limb ((2 : Nat) * r + bitOf h n) (0 : Nat)) : Int),
                  Value.int IntKind.u64 (↑(limb ((2 : Nat) * r + bitOf h n) (1 : Nat)) : Int),
                  Value.int IntKind.u64 (↑(limb ((2 : Nat) * r + bitOf h n) (2 : Nat)) : Int),
                  Value.int IntKind.u64 (↑(limb ((2 : Nat) * r + bitOf h n) (3 : Nat)) : Int)]) =
            el
              (nv (Int.toNat (↑(limb ((2 : Nat) * r + bitOf h n) (0 : Nat)) : Int))
                (Int.toNat (↑(limb ((2 : Nat) * r + bitOf h n) (1 : Nat)) : Int))
                (Int.toNat (↑(limb ((2 : Nat) * r + bitOf h n) (2 : Nat)) : Int))
                (Int.toNat (↑(limb ((2 : Nat) * r + bitOf h n) (3 : Nat)) : Int))) ∧
          Value.agg
                (Array.mk
                  [Value.int IntKind.u64 (↑(limb m (0 : Nat)) : Int), Value.int IntKind.u64 (↑(limb m (1 : Nat)) : Int),
                    Value.int IntKind.u64 (↑(limb m (2 : Nat)) : Int),
                    Value.int IntKind.u64 (↑(limb m (3 : Nat)) : Int)]) =
              el
                (nv (Int.toNat (↑(limb m (0 : Nat)) : Int)) (Int.toNat (↑(limb m (1 : Nat)) : Int))
                  (Int.toNat (↑(limb m (2 : Nat)) : Int)) (Int.toNat (↑(limb m (3 : Nat)) : Int))) ∧
            nv (Int.toNat (↑(limb ((2 : Nat) * r + bitOf h n) (0 : Nat)) : Int))
                  (Int.toNat (↑(limb ((2 : Nat) * r + bitOf h n) (1 : Nat)) : Int))
                  (Int.toNat (↑(limb ((2 : Nat) * r + bitOf h n) (2 : Nat)) : Int))
                  (Int.toNat (↑(limb ((2 : Nat) * r + bitOf h n) (3 : Nat)) : Int)) <
                (115792089237316195423570985008687907853269984665640564039457584007913129639936 : Nat) ∧
              nv (Int.toNat (↑(limb m (0 : Nat)) : Int)) (Int.toNat (↑(limb m (1 : Nat)) : Int))
                  (Int.toNat (↑(limb m (2 : Nat)) : Int)) (Int.toNat (↑(limb m (3 : Nat)) : Int)) <
                (115792089237316195423570985008687907853269984665640564039457584007913129639936 : Nat),
        fun _ =>
        Value.tuple
            (Array.mk
              [el
                  (nv (Int.toNat (↑(limb ((2 : Nat) * r + bitOf h n) (0 : Nat)) : Int))
                        (Int.toNat (↑(limb ((2 : Nat) * r + bitOf h n) (1 : Nat)) : Int))
                        (Int.toNat (↑(limb ((2 : Nat) * r + bitOf h n) (2 : Nat)) : Int))
                        (Int.toNat (↑(limb ((2 : Nat) * r + bitOf h n) (3 : Nat)) : Int)) +
                      (115792089237316195423570985008687907853269984665640564039457584007913129639936 : Nat) -
                    nv (Int.toNat (↑(limb m (0 : Nat)) : Int)) (Int.toNat (↑(limb m (1 : Nat)) : Int))
                      (Int.toNat (↑(limb m (2 : Nat)) : Int)) (Int.toNat (↑(limb m (3 : Nat)) : Int))),
                Value.bool
                  (decide
                    (nv (Int.toNat (↑(limb ((2 : Nat) * r + bitOf h n) (0 : Nat)) : Int))
                        (Int.toNat (↑(limb ((2 : Nat) * r + bitOf h n) (1 : Nat)) : Int))
                        (Int.toNat (↑(limb ((2 : Nat) * r + bitOf h n) (2 : Nat)) : Int))
                        (Int.toNat (↑(limb ((2 : Nat) * r + bitOf h n) (3 : Nat)) : Int)) <
                      nv (Int.toNat (↑(limb m (0 : Nat)) : Int)) (Int.toNat (↑(limb m (1 : Nat)) : Int))
                        (Int.toNat (↑(limb m (2 : Nat)) : Int)) (Int.toNat (↑(limb m (3 : Nat)) : Int))))]) =
          Value.tuple
            (Array.mk
              [el
                  (((2 : Nat) * r + bitOf h n) %
                        (115792089237316195423570985008687907853269984665640564039457584007913129639936 : Nat) +
                      (115792089237316195423570985008687907853269984665640564039457584007913129639936 : Nat) -
                    m),
                Value.bool
                  (decide
                    (((2 : Nat) * r + bitOf h n) %
                        (115792089237316195423570985008687907853269984665640564039457584007913129639936 : Nat) <
                      m))]),
        fun _ => (0 : Nat) + (4 : Nat) ≤ (4 : Nat), fun _ =>
        (!(↑(limb r (3 : Nat) / (9223372036854775808 : Nat)) : Int) == (0 : Int)) = false, fun _ =>
        (!decide
              (((2 : Nat) * r + bitOf h n) %
                  (115792089237316195423570985008687907853269984665640564039457584007913129639936 : Nat) <
                m)) =
          false]
      (It.rnd
          [(0 : Nat), (0 : Nat), (1 : Nat), (1 : Nat), (0 : Nat), (0 : Nat), (1 : Nat), (1 : Nat), (0 : Nat), (0 : Nat),
            (1 : Nat), (0 : Nat), (1 : Nat), (1 : Nat), (1 : Nat)]
          (M + (1 : Nat)) ::
        kt)
      (St.mk
        [((11 : Nat), SV.v (Value.int IntKind.i64 (IntKind.wrap IntKind.i64 ((↑n : Int) - (1 : Int))))),
          ((28 : Nat), SV.v (Value.int IntKind.i64 (IntKind.wrap IntKind.i64 ((↑n : Int) - (1 : Int))))),
          ((27 : Nat), SV.v (Value.int IntKind.i64 (↑n : Int))),
          ((53 : Nat),
            SV.v
              (Value.bool
                !decide
                    (((2 : Nat) * r + bitOf h n) %
                        (115792089237316195423570985008687907853269984665640564039457584007913129639936 : Nat) <
                      m))),
          ((52 : Nat),
            SV.v
              (Value.bool
                !decide
                    (((2 : Nat) * r + bitOf h n) %
                        (115792089237316195423570985008687907853269984665640564039457584007913129639936 : Nat) <
                      m))),
          ((51 : Nat),
            SV.v
              (Value.bool
                (decide
                  (((2 : Nat) * r + bitOf h n) %
                      (115792089237316195423570985008687907853269984665640564039457584007913129639936 : Nat) <
                    m)))),
          ((50 : Nat), SV.bl false),
          ((49 : Nat), SV.v (Value.bool !(↑(limb r (3 : Nat) / (9223372036854775808 : Nat)) : Int) == (0 : Int))),
          ((48 : Nat), SV.v (Value.int IntKind.u64 (↑(limb r (3 : Nat) / (9223372036854775808 : Nat)) : Int))),
          ((14 : Nat),
            SV.v
              (Value.bool
                (decide
                  (((2 : Nat) * r + bitOf h n) %
                      (115792089237316195423570985008687907853269984665640564039457584007913129639936 : Nat) <
                    m)))),
          ((13 : Nat), SV.p (6 : Nat) (0 : Nat)),
          ((47 : Nat),
            SV.v
              (Value.bool
                (decide
                  (((2 : Nat) * r + bitOf h n) %
                      (115792089237316195423570985008687907853269984665640564039457584007913129639936 : Nat) <
                    m)))),
          ((46 : Nat),
            SV.v
              (Value.agg
                (Array.mk
                  [Value.int IntKind.u64
                      (↑(limb
                            (((2 : Nat) * r + bitOf h n) %
                                  (115792089237316195423570985008687907853269984665640564039457584007913129639936 :
                                    Nat) +
                                (115792089237316195423570985008687907853269984665640564039457584007913129639936 : Nat) -
                              m)
                            (0 : Nat)) :
                        Int),
                    Value.int IntKind.u64
                      (↑(limb
                            (((2 : Nat) * r + bitOf h n) %
                                  (115792089237316195423570985008687907853269984665640564039457584007913129639936 :
                                    Nat) +
                                (115792089237316195423570985008687907853269984665640564039457584007913129639936 : Nat) -
                              m)
                            (1 : Nat)) :
                        Int),
                    Value.int IntKind.u64
                      (↑(limb
                            (((2 : Nat) * r + bitOf h n) %
                                  (115792089237316195423570985008687907853269984665640564039457584007913129639936 :
                                    Nat) +
                                (115792089237316195423570985008687907853269984665640564039457584007913129639936 : Nat) -
                              m)
                            (2 : Nat)) :
                        Int),
                    Value.int IntKind.u64
                      (↑(limb
                            (((2 : Nat) * r + bitOf h n) %
                                  (115792089237316195423570985008687907853269984665640564039457584007913129639936 :
                                    Nat) +
                                (115792089237316195423570985008687907853269984665640564039457584007913129639936 : Nat) -
                              m)
                            (3 : Nat)) :
                        Int)]))),
          ((42 : Nat),
            SV.v
              (Value.tuple
                (Array.mk
                  [el
                      (((2 : Nat) * r + bitOf h n) %
                            (115792089237316195423570985008687907853269984665640564039457584007913129639936 : Nat) +
                          (115792089237316195423570985008687907853269984665640564039457584007913129639936 : Nat) -
                        m),
                    Value.bool
                      (decide
                        (((2 : Nat) * r + bitOf h n) %
                            (115792089237316195423570985008687907853269984665640564039457584007913129639936 : Nat) <
                          m))]))),
          ((45 : Nat),
            SV.v
              (Value.tuple
                (Array.mk
                  [el
                      (((2 : Nat) * r + bitOf h n) %
                            (115792089237316195423570985008687907853269984665640564039457584007913129639936 : Nat) +
                          (115792089237316195423570985008687907853269984665640564039457584007913129639936 : Nat) -
                        m),
                    Value.bool
                      (decide
                        (((2 : Nat) * r + bitOf h n) %
                            (115792089237316195423570985008687907853269984665640564039457584007913129639936 : Nat) <
                          m))]))),
          ((44 : Nat),
            SV.agg
              [SV.v (Value.int IntKind.u64 (↑(limb m (0 : Nat)) : Int)),
                SV.v (Value.int IntKind.u64 (↑(limb m (1 : Nat)) : Int)),
                SV.v (Value.int IntKind.u64 (↑(limb m (2 : Nat)) : Int)),
                SV.v (Value.int IntKind.u64 (↑(limb m (3 : Nat)) : Int))]),
          ((43 : Nat),
            SV.agg
              [SV.v (Value.int IntKind.u64 (↑(limb ((2 : Nat) * r + bitOf h n) (0 : Nat)) : Int)),
                SV.v (Value.int IntKind.u64 (↑(limb ((2 : Nat) * r + bitOf h n) (1 : Nat)) : Int)),
                SV.v (Value.int IntKind.u64 (↑(limb ((2 : Nat) * r + bitOf h n) (2 : Nat)) : Int)),
                SV.v (Value.int IntKind.u64 (↑(limb ((2 : Nat) * r + bitOf h n) (3 : Nat)) : Int))]),
          ((12 : Nat), SV.v (Value.int IntKind.u64 (↑(limb r (3 : Nat) / (9223372036854775808 : Nat)) : Int))),
          ((41 : Nat), SV.v (Value.int IntKind.u64 (↑(limb r (3 : Nat) / (9223372036854775808 : Nat)) : Int))),
          ((40 : Nat),
            SV.v
              (Value.agg
                (Array.mk
                  [Value.int IntKind.u64 (↑(limb ((2 : Nat) * r + bitOf h n) (0 : Nat)) : Int),
                    Value.int IntKind.u64 (↑(limb ((2 : Nat) * r + bitOf h n) (1 : Nat)) : Int),
                    Value.int IntKind.u64 (↑(limb ((2 : Nat) * r + bitOf h n) (2 : Nat)) : Int),
                    Value.int IntKind.u64 (↑(limb ((2 : Nat) * r + bitOf h n) (3 : Nat)) : Int)]))),
          ((29 : Nat),
            SV.v
              (Value.tuple
                (Array.mk
                  [el ((2 : Nat) * r + bitOf h n),
                    Value.int IntKind.u64 (↑(limb r (3 : Nat) / (9223372036854775808 : Nat)) : Int)]))),
          ((39 : Nat),
            SV.v
              (Value.tuple
                (Array.mk
                  [el ((2 : Nat) * r + bitOf h n),
                    Value.int IntKind.u64 (↑(limb r (3 : Nat) / (9223372036854775808 : Nat)) : Int)]))),
          ((38 : Nat),
            SV.v
              (Value.int IntKind.u64
                (IntKind.wrap IntKind.u64
                  (↑(Int.toNat
                          (Int.fdiv (↑(limb h (n / (64 : Nat))) : Int)
                              ((2 : Int) ^
                                if Int.toNat (Int.tmod (↑n : Int) (64 : Int)) ≤ (64 : Nat) then
                                  Int.toNat (Int.tmod (↑n : Int) (64 : Int))
                                else (64 : Nat)) %
                            (18446744073709551616 : Int)) &&&
                        (1 : Nat)) :
                    Int)))),
          ((37 : Nat),
            SV.v
              (Value.int IntKind.u64
                (Int.fdiv (↑(limb h (n / (64 : Nat))) : Int)
                  ((2 : Int) ^
                    if Int.toNat (Int.tmod (↑n : Int) (64 : Int)) ≤ (64 : Nat) then
                      Int.toNat (Int.tmod (↑n : Int) (64 : Int))
                    else (64 : Nat))))),
          ((36 : Nat), SV.v (Value.int IntKind.i64 (Int.tmod (↑n : Int) (64 : Int)))),
          ((35 : Nat), SV.v (Value.int IntKind.i64 (↑n : Int))),
          ((34 : Nat), SV.v (Value.int IntKind.u64 (↑(limb h (n / (64 : Nat))) : Int))),
          ((33 : Nat),
            SV.p (5 : Nat)
              ((0 : Nat) + Int.toNat (IntKind.wrap IntKind.i64 (Int.tdiv (↑n : Int) (64 : Int))) * (1 : Nat))),
          ((32 : Nat), SV.v (Value.int IntKind.i64 (IntKind.wrap IntKind.i64 (Int.tdiv (↑n : Int) (64 : Int))))),
          ((31 : Nat), SV.v (Value.int IntKind.i64 (↑n : Int))),
          ((30 : Nat),
            SV.agg
              [SV.v (Value.int IntKind.u64 (↑(limb r (0 : Nat)) : Int)),
                SV.v (Value.int IntKind.u64 (↑(limb r (1 : Nat)) : Int)),
                SV.v (Value.int IntKind.u64 (↑(limb r (2 : Nat)) : Int)),
                SV.v (Value.int IntKind.u64 (↑(limb r (3 : Nat)) : Int))]),
          ((26 : Nat), SV.v (Value.bool (decide ((0 : Int) ≤ (↑n : Int))))),
          ((25 : Nat), SV.v (Value.int IntKind.i64 (↑n : Int))), ((10 : Nat), SV.p (5 : Nat) (0 : Nat)),
          ((8 : Nat), SV.p (4 : Nat) (0 : Nat)), ((6 : Nat), SV.p (3 : Nat) (0 : Nat)),
          ((7 : Nat), SV.v (Value.int IntKind.i64 (0 : Int))), ((5 : Nat), SV.p (2 : Nat) (0 : Nat)),
          ((22 : Nat), SV.v (Value.int IntKind.i64 j)),
          ((21 : Nat),
            SV.agg
              [SV.v (Value.int IntKind.u64 (↑(limb b (0 : Nat)) : Int)),
                SV.v (Value.int IntKind.u64 (↑(limb b (1 : Nat)) : Int)),
                SV.v (Value.int IntKind.u64 (↑(limb b (2 : Nat)) : Int)),
                SV.v (Value.int IntKind.u64 (↑(limb b (3 : Nat)) : Int)),
                SV.v (Value.int IntKind.u64 (↑(limb a (0 : Nat)) : Int)),
                SV.v (Value.int IntKind.u64 (↑(limb a (1 : Nat)) : Int)),
                SV.v (Value.int IntKind.u64 (↑(limb a (2 : Nat)) : Int)),
                SV.v (Value.int IntKind.u64 (↑(limb a (3 : Nat)) : Int))])]
        [HO.cells
            [SV.v (Value.int IntKind.u64 (↑(limb a (0 : Nat)) : Int)),
              SV.v (Value.int IntKind.u64 (↑(limb a (1 : Nat)) : Int)),
              SV.v (Value.int IntKind.u64 (↑(limb a (2 : Nat)) : Int)),
              SV.v (Value.int IntKind.u64 (↑(limb a (3 : Nat)) : Int))]
            (24 : Nat),
          HO.cells
            [SV.v (Value.int IntKind.u64 (↑(limb b (0 : Nat)) : Int)),
              SV.v (Value.int IntKind.u64 (↑(limb b (1 : Nat)) : Int)),
              SV.v (Value.int IntKind.u64 (↑(limb b (2 : Nat)) : Int)),
              SV.v (Value.int IntKind.u64 (↑(limb b (3 : Nat)) : Int))]
            (24 : Nat),
          HO.cells
            [SV.v (Value.int IntKind.u64 (↑(limb m (0 : Nat)) : Int)),
              SV.v (Value.int IntKind.u64 (↑(limb m (1 : Nat)) : Int)),
              SV.v (Value.int IntKind.u64 (↑(limb m (2 : Nat)) : Int)),
              SV.v (Value.int IntKind.u64 (↑(limb m (3 : Nat)) : Int))]
            (24 : Nat),
          HO.cells
            [SV.v (Value.int IntKind.u64 (↑(limb (0 : Nat) (0 : Nat)) : Int)),
              SV.v (Value.int IntKind.u64 (↑(limb (0 : Nat) (1 : Nat)) : Int)),
              SV.v (Value.int IntKind.u64 (↑(limb (0 : Nat) (2 : Nat)) : Int)),
              SV.v (Value.int IntKind.u64 (↑(limb (0 : Nat) (3 : Nat)) : Int))]
            (24 : Nat),
          HO.cells
            [SV.v (Value.int IntKind.u64 (↑(limb ((2 : Nat) * r + bitOf h n) (0 : Nat)) : Int)),
              SV.v (Value.int IntKind.u64 (↑(limb ((2 : Nat) * r + bitOf h n) (1 : Nat)) : Int)),
              SV.v (Value.int IntKind.u64 (↑(limb ((2 : Nat) * r + bitOf h n) (2 : Nat)) : Int)),
              SV.v (Value.int IntKind.u64 (↑(limb ((2 : Nat) * r + bitOf h n) (3 : Nat)) : Int))]
            (24 : Nat),
          HO.cells
            [SV.v (Value.int IntKind.u64 (↑(limb h (0 : Nat)) : Int)),
              SV.v (Value.int IntKind.u64 (↑(limb h (1 : Nat)) : Int)),
              SV.v (Value.int IntKind.u64 (↑(limb h (2 : Nat)) : Int)),
              SV.v (Value.int IntKind.u64 (↑(limb h (3 : Nat)) : Int))]
            (24 : Nat),
          HO.cells
            [SV.v
                (Value.int IntKind.u64
                  (↑(limb
                        (((2 : Nat) * r + bitOf h n) %
                              (115792089237316195423570985008687907853269984665640564039457584007913129639936 : Nat) +
                            (115792089237316195423570985008687907853269984665640564039457584007913129639936 : Nat) -
                          m)
                        (0 : Nat)) :
                    Int)),
              SV.v
                (Value.int IntKind.u64
                  (↑(limb
                        (((2 : Nat) * r + bitOf h n) %
                              (115792089237316195423570985008687907853269984665640564039457584007913129639936 : Nat) +
                            (115792089237316195423570985008687907853269984665640564039457584007913129639936 : Nat) -
                          m)
                        (1 : Nat)) :
                    Int)),
              SV.v
                (Value.int IntKind.u64
                  (↑(limb
                        (((2 : Nat) * r + bitOf h n) %
                              (115792089237316195423570985008687907853269984665640564039457584007913129639936 : Nat) +
                            (115792089237316195423570985008687907853269984665640564039457584007913129639936 : Nat) -
                          m)
                        (2 : Nat)) :
                    Int)),
              SV.v
                (Value.int IntKind.u64
                  (↑(limb
                        (((2 : Nat) * r + bitOf h n) %
                              (115792089237316195423570985008687907853269984665640564039457584007913129639936 : Nat) +
                            (115792089237316195423570985008687907853269984665640564039457584007913129639936 : Nat) -
                          m)
                        (3 : Nat)) :
                    Int))]
            (24 : Nat)])] := by kernel_rfl
theorem paid_nil {B : Code} {n : Nat} {F : Mem → Prop} {w0 : World} {fin : Exit → Act → World → Prop} : Paid2 Try.prog B n F w0 fin [] := fun l hl => by cases hl
theorem paid_cons {B : Code} {n : Nat} {F : Mem → Prop} {w0 : World} {fin : Exit → Act → World → Prop} {l : Leaf2} {L : List Leaf2} (h : (∀ a ∈ l.as, a) → hold F l.sd ∧ Ok Try.prog B n F w0 fin l.k l.st) (hL : Paid2 Try.prog B n F w0 fin L) :
    Paid2 Try.prog B n F w0 fin (l :: L) := fun x hx => by
  rcases List.mem_cons.1 hx with rfl | hx
  · exact h
  · exact hL x hx
theorem limb_top (n : Nat) : limb (n + top) 0 = limb n 0 ∧ limb (n + top) 1 = limb n 1 ∧ limb (n + top) 2 = limb n 2 ∧ limb (n + top) 3 = limb n 3 := by
  simp only [limb0, limb1, limb2, limb3, top]; omega
theorem getLimb (h n : Nat) (hn : n < 256) : (ec h)[0 + Int.toNat (IntKind.wrap IntKind.i64 (Int.tdiv (n : Int) 64)) * 1]? = some (SV.v (Value.int IntKind.u64 (limb h (n / 64) : Nat))) ∧
    0 ≤ IntKind.wrap IntKind.i64 (Int.tdiv (n : Int) 64) ∧ IntKind.wrap IntKind.i64 (Int.tdiv (n : Int) 64) < 4 ∧ ¬ Int.tmod (n : Int) 64 < 0 := by
  have e1 : Int.tmod (n : Int) (64 : Int) = ((n % 64 : Nat) : Int) := tmodNat n 64
  have e2 : Int.tdiv (n : Int) (64 : Int) = ((n / 64 : Nat) : Int) := tdivNat n 64
  have e3 : IntKind.wrap IntKind.i64 ((n / 64 : Nat) : Int) = ((n / 64 : Nat) : Int) := by
    simp [IntKind.wrap, IntKind.bits, IntKind.signed]
    omega
  rw [e1, e2, e3, Int.toNat_natCast]
  refine ⟨?_, by omega, by omega, by omega⟩
  have h4 : n / 64 = 0 ∨ n / 64 = 1 ∨ n / 64 = 2 ∨ n / 64 = 3 := by omega
  rcases h4 with h | h | h | h <;> rw [h] <;> rfl
end Go.Proofs.Ytcipmpamhffclaa
