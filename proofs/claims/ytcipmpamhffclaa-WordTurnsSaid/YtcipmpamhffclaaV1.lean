/- Products of words, and comparisons: for callers. -/
import Derived.Test.YtcipmpamhffclaaW12
import Derived.Lib.Mul64
import Derived.Laws.Bits64b
namespace Go.Pl
noncomputable def mulLo (x y : Nat) : Nat := hide (x * y % 18446744073709551616)
noncomputable def mulHi (x y : Nat) : Nat := hide (x * y / 18446744073709551616)
end Go.Pl
namespace Go.Proofs.Ytcipmpamhffclaa
open Go.Sx Go.Pl Go.RowKit
theorem run34 (x y : Nat) : (((xgo Try.prog X (bodyOf Try.f34) 51 CC [] 50 [] (Tree.nil) [.at []] ⟨argsTm 0 [.int .u64 (x : Int), .int .u64 (y : Int)], []⟩ [] []).bind (ends Try.prog Try.f34.results.toList)).bind plainE) =
  some
  [EndP.mk []
      [fun _ => ¬(32 : Int) < (0 : Int), fun _ => ¬(32 : Int) < (0 : Int), fun _ => ¬(32 : Int) < (0 : Int), fun _ =>
        ¬(32 : Int) < (0 : Int), fun _ => ¬(32 : Int) < (0 : Int)]
      (Res.v
        (Value.tuple
          (Array.mk
            [Value.int IntKind.u64
                (IntKind.wrap IntKind.u64
                  (IntKind.wrap IntKind.u64
                      (IntKind.wrap IntKind.u64
                          (Int.fdiv (↑x : Int) (4294967296 : Int) * Int.fdiv (↑y : Int) (4294967296 : Int)) +
                        Int.fdiv
                          (IntKind.wrap IntKind.u64
                            (IntKind.wrap IntKind.u64
                                (Int.fdiv (↑x : Int) (4294967296 : Int) *
                                  IntKind.wrap IntKind.u64
                                    (↑(Int.toNat ((↑y : Int) % (18446744073709551616 : Int)) &&& (4294967295 : Nat)) :
                                      Int)) +
                              Int.fdiv
                                (IntKind.wrap IntKind.u64
                                  (IntKind.wrap IntKind.u64
                                      (↑(Int.toNat ((↑x : Int) % (18446744073709551616 : Int)) &&& (4294967295 : Nat)) :
                                        Int) *
                                    IntKind.wrap IntKind.u64
                                      (↑(Int.toNat ((↑y : Int) % (18446744073709551616 : Int)) &&& (4294967295 : Nat)) :
                                        Int)))
                                (4294967296 : Int)))
                          (4294967296 : Int)) +
                    Int.fdiv
                      (IntKind.wrap IntKind.u64
                        (IntKind.wrap IntKind.u64
                            (↑(Int.toNat
                                    (IntKind.wrap IntKind.u64
                                        (IntKind.wrap IntKind.u64
                                            (Int.fdiv (↑x : Int) (4294967296 : Int) *
                                              IntKind.wrap IntKind.u64
                                                (↑(Int.toNat ((↑y : Int) % (18446744073709551616 : Int)) &&&
                                                      (4294967295 : Nat)) :
                                                  Int)) +
                                          Int.fdiv
                                            (IntKind.wrap IntKind.u64
                                              (IntKind.wrap IntKind.u64
                                                  (↑(Int.toNat ((↑x : Int) % (18446744073709551616 : Int)) &&&
                                                        (4294967295 : Nat)) :
                                                    Int) *
                                                IntKind.wrap IntKind.u64
                                                  (↑(Int.toNat ((↑y : Int) % (18446744073709551616 : Int)) &&&
                                                        (4294967295 : Nat)) :
                                                    Int)))
                                            (4294967296 : Int)) %
                                      (18446744073709551616 : Int)) &&&
                                  (4294967295 : Nat)) :
                              Int) +
                          IntKind.wrap IntKind.u64
                            (IntKind.wrap IntKind.u64
                                (↑(Int.toNat ((↑x : Int) % (18446744073709551616 : Int)) &&& (4294967295 : Nat)) :
                                  Int) *
                              Int.fdiv (↑y : Int) (4294967296 : Int))))
                      (4294967296 : Int))),
              Value.int IntKind.u64 (IntKind.wrap IntKind.u64 ((↑x : Int) * (↑y : Int)))])))]
 := by kernel_rfl

theorem run16 (a b : Nat) : (((xgo Try.prog X (bodyOf Try.f16) 14 CC [] 50 [] (Tree.nil) [.at []] ⟨argsTm 0 [el a, el b], []⟩ [] []).bind (ends Try.prog Try.f16.results.toList)).bind plainE) =
  some
  [EndP.mk []
      [fun _ =>
        Value.agg
              (Array.mk
                [Value.int IntKind.u64 (↑(limb a (0 : Nat)) : Int), Value.int IntKind.u64 (↑(limb a (1 : Nat)) : Int),
                  Value.int IntKind.u64 (↑(limb a (2 : Nat)) : Int),
                  Value.int IntKind.u64 (↑(limb a (3 : Nat)) : Int)]) =
            el
              (nv (Int.toNat (↑(limb a (0 : Nat)) : Int)) (Int.toNat (↑(limb a (1 : Nat)) : Int))
                (Int.toNat (↑(limb a (2 : Nat)) : Int)) (Int.toNat (↑(limb a (3 : Nat)) : Int))) ∧
          Value.agg
                (Array.mk
                  [Value.int IntKind.u64 (↑(limb b (0 : Nat)) : Int), Value.int IntKind.u64 (↑(limb b (1 : Nat)) : Int),
                    Value.int IntKind.u64 (↑(limb b (2 : Nat)) : Int),
                    Value.int IntKind.u64 (↑(limb b (3 : Nat)) : Int)]) =
              el
                (nv (Int.toNat (↑(limb b (0 : Nat)) : Int)) (Int.toNat (↑(limb b (1 : Nat)) : Int))
                  (Int.toNat (↑(limb b (2 : Nat)) : Int)) (Int.toNat (↑(limb b (3 : Nat)) : Int))) ∧
            nv (Int.toNat (↑(limb a (0 : Nat)) : Int)) (Int.toNat (↑(limb a (1 : Nat)) : Int))
                  (Int.toNat (↑(limb a (2 : Nat)) : Int)) (Int.toNat (↑(limb a (3 : Nat)) : Int)) <
                (115792089237316195423570985008687907853269984665640564039457584007913129639936 : Nat) ∧
              nv (Int.toNat (↑(limb b (0 : Nat)) : Int)) (Int.toNat (↑(limb b (1 : Nat)) : Int))
                  (Int.toNat (↑(limb b (2 : Nat)) : Int)) (Int.toNat (↑(limb b (3 : Nat)) : Int)) <
                (115792089237316195423570985008687907853269984665640564039457584007913129639936 : Nat),
        fun _ => (0 : Nat) + (4 : Nat) ≤ (4 : Nat)]
      (Res.v
        (Value.bool
          (decide
            (nv (Int.toNat (↑(limb a (0 : Nat)) : Int)) (Int.toNat (↑(limb a (1 : Nat)) : Int))
                (Int.toNat (↑(limb a (2 : Nat)) : Int)) (Int.toNat (↑(limb a (3 : Nat)) : Int)) <
              nv (Int.toNat (↑(limb b (0 : Nat)) : Int)) (Int.toNat (↑(limb b (1 : Nat)) : Int))
                (Int.toNat (↑(limb b (2 : Nat)) : Int)) (Int.toNat (↑(limb b (3 : Nat)) : Int))))))]
 := by kernel_rfl

theorem maskN (a : Nat) (ha : a < 18446744073709551616) : IntKind.wrap IntKind.u64 (↑(Int.toNat ((a : Int) % (18446744073709551616 : Int)) &&& (4294967295 : Nat)) : Int) = ((a % 4294967296 : Nat) : Int) := by
  have h1 : Int.toNat ((a : Int) % (18446744073709551616 : Int)) = a := by omega
  have e : a &&& 4294967295 = a % 4294967296 := Nat.and_two_pow_sub_one_eq_mod a 32
  rw [h1, e, wrap_u64]
  omega
theorem fdivN (a : Nat) : Int.fdiv (a : Int) 4294967296 = ((a / 4294967296 : Nat) : Int) := by
  rw [Int.fdiv_eq_ediv_of_nonneg _ (by omega)]; omega
theorem mulN (a b : Nat) : (a : Int) * (b : Int) = ((a * b : Nat) : Int) := (Int.natCast_mul a b).symm
theorem addN (a b : Nat) : (a : Int) + (b : Int) = ((a + b : Nat) : Int) := (Int.natCast_add a b).symm
theorem wrapN (a : Nat) (ha : a < 18446744073709551616) : IntKind.wrap .u64 (a : Int) = (a : Int) := by rw [wrap_u64]; omega
theorem wrapM (a : Nat) : IntKind.wrap .u64 (a : Int) = ((a % 18446744073709551616 : Nat) : Int) := by rw [wrap_u64]; omega
theorem mul64_ok (x y : Nat) (hx : x < 18446744073709551616) (hy : y < 18446744073709551616) (w : World) : Calls Try.prog 34 [.int .u64 (x : Int), .int .u64 (y : Int)].toArray w (fun E w' => ∃ v, E = .returned v ∧ Res.ok w w' (.v (.tuple #[.int .u64 ((mulHi x y : Nat) : Int), .int .u64 ((mulLo x y : Nat) : Int)])) v ∧ Below w.heap.size w w') := by
  refine con_end (calls_plain hm Try.func34 (by kernel_rfl) rfl rfl 50 _ _ (run34 x y) ⟨fun _ => ⟨?_, ?_⟩, trivial⟩)
  · simp only [hold_cons, hold_nil, and_true]
    exact ⟨fun _ _ => by omega, fun _ _ => by omega, fun _ _ => by omega, fun _ _ => by omega, fun _ _ => by omega⟩
  · obtain ⟨bd, bt, bw, hhi⟩ := Lib.mul64_hi x y hx hy
    have ba := Lib.half_mul_le (a := x / 4294967296) (b := y / 4294967296) (by omega) (by omega)
    have bb := Lib.half_mul_le (a := x / 4294967296) (b := y % 4294967296) (by omega) (by omega)
    have bc := Lib.half_mul_le (a := x % 4294967296) (b := y / 4294967296) (by omega) (by omega)
    have ba' : x / 4294967296 * (y / 4294967296) < 18446744073709551616 := by omega
    have bb' : x / 4294967296 * (y % 4294967296) < 18446744073709551616 := by omega
    have bc' : x % 4294967296 * (y / 4294967296) < 18446744073709551616 := by omega
    have bh1 : x / 4294967296 * (y / 4294967296) + (x / 4294967296 * (y % 4294967296) + x % 4294967296 * (y % 4294967296) / 4294967296) / 4294967296 < 18446744073709551616 := by omega
    have bh : x / 4294967296 * (y / 4294967296) + (x / 4294967296 * (y % 4294967296) + x % 4294967296 * (y % 4294967296) / 4294967296) / 4294967296 + ((x / 4294967296 * (y % 4294967296) + x % 4294967296 * (y % 4294967296) / 4294967296) % 4294967296 + x % 4294967296 * (y / 4294967296)) / 4294967296 < 18446744073709551616 := by omega
    simp only [maskN x hx, maskN y hy, fdivN, mulN, addN, wrapN _ bd, wrapN _ bb', wrapN _ bt, maskN _ bt, wrapN _ bc', wrapN _ bw, wrapN _ ba', wrapN _ bh1, wrapN _ bh, wrapM (x * y)]
    rw [hhi, mulHi, mulLo, hide_eq, hide_eq]
noncomputable def gMul64 : List RV → Option (Res × Prop)
  | [.v x, .v y] => match unU x, unU y with
    | some a, some b => some (.v (.tuple #[.int .u64 ((mulHi a b : Nat) : Int), .int .u64 ((mulLo a b : Nat) : Int)]), x = .int .u64 (a : Int) ∧ y = .int .u64 (b : Int) ∧ a < 18446744073709551616 ∧ b < 18446744073709551616)
    | _, _ => none
  | _ => none
theorem gMul64_ok (rvs : List RV) (r : Res) (p : Prop) (vs : List Value) (w : World) (hg : gMul64 rvs = some (r, p)) (hp : p) (hv : RVs (wmem w) rvs vs) : Calls Try.prog 34 vs.toArray w (fun E w' => ∃ v, E = .returned v ∧ r.ok w w' v ∧ Below w.heap.size w w') := by
  unfold gMul64 at hg
  split at hg
  · split at hg
    · simp only [Option.some.injEq, Prod.mk.injEq] at hg
      obtain ⟨rfl, rfl⟩ := hg
      obtain ⟨h1, h2, h3, h4⟩ := hp
      rw [rvs2 hv, h1, h2]
      exact mul64_ok _ _ h3 h4 w
    · cases hg
  · cases hg
theorem less_ok (a b : Nat) (ha : a < top) (hb : b < top) (w : World) : Calls Try.prog 16 [el a, el b].toArray w (fun E w' => ∃ v, E = .returned v ∧ Res.ok w w' (.v (.bool (decide (a < b)))) v ∧ Below w.heap.size w w') := by
  have ea := unEl_pay a ha
  have eb := unEl_pay b hb
  refine con_end (calls_plain hm Try.func16 (by kernel_rfl) rfl rfl 50 _ _ (run16 a b) ⟨fun _ => ⟨?_, ?_⟩, trivial⟩)
  · simp only [hold_cons, hold_nil, and_true]
    exact ⟨fun _ _ => ⟨ea.1, eb.1, by rw [ea.2]; exact ha, by rw [eb.2]; exact hb⟩, fun _ _ => by omega⟩
  · rw [ea.2, eb.2]
noncomputable def gLess : List RV → Option (Res × Prop)
  | [.v x, .v y] => match unEl x, unEl y with
    | some a, some b => some (.v (.bool (decide (a < b))), x = el a ∧ y = el b ∧ a < top ∧ b < top)
    | _, _ => none
  | _ => none
theorem gLess_ok (rvs : List RV) (r : Res) (p : Prop) (vs : List Value) (w : World) (hg : gLess rvs = some (r, p)) (hp : p) (hv : RVs (wmem w) rvs vs) : Calls Try.prog 16 vs.toArray w (fun E w' => ∃ v, E = .returned v ∧ r.ok w w' v ∧ Below w.heap.size w w') := by
  unfold gLess at hg
  split at hg
  · split at hg
    · simp only [Option.some.injEq, Prod.mk.injEq] at hg
      obtain ⟨rfl, rfl⟩ := hg
      obtain ⟨h1, h2, h3, h4⟩ := hp
      rw [rvs2 hv, h1, h2]
      exact less_ok _ _ h3 h4 w
    · cases hg
  · cases hg
noncomputable def CF : Con Try.prog := (CC.add 34 gMul64 gMul64_ok).add 16 gLess gLess_ok
end Go.Proofs.Ytcipmpamhffclaa
