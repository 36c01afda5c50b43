/- Products of words, and comparisons: for callers. -/
import Derived.Test.YtcipmpamhffclaaW12
import Derived.Lib.Mul64
import Derived.Laws.Bits64b
namespace Go.Pl
noncomputable def mulLo (x y : Nat) : Nat := hide (x * y % 18446744073709551616)
noncomputable def mulHi (x y : Nat) : Nat := hide (x * y / 18446744073709551616)
end Go.Pl
namespace Go.Proofs.Ytcipmpamhffclaa
open Go.Sx Go.Pl Go.RowKit
theorem run34 (x y : Nat) : (((xgo Try.prog X (bodyOf Try.f34) 51 CC [] 50 [] (Tree.nil) [.at []] ⟨argsTm 0 [.int .u64 (x : Int), .int .u64 (y : Int)], []⟩ [] []).bind (ends Try.prog Try.f34.results.toList)).bind plainE) =
  some
  [EndP.mk []
      [fun _ => ¬(32 : Int) < (0 : Int), fun _ => ¬(32 : Int) < (0 : Int), fun _ => ¬(32 : Int) < (0 : Int), fun _ =>
        ¬(32 : Int) < (0 : Int), fun _ => ¬(32 : Int) < (0 : Int)]
      (Res.v
        (Value.tuple
          (Array.mk
            [Value.int IntKind.u64
                (IntKind.wrap IntKind.u64
                  (IntKind.wrap IntKind.u64
                      (IntKind.wrap IntKind.u64
                          (Int.fdiv (↑x : Int) (4294967296 : Int) * Int.fdiv (↑y : Int) (4294967296 : Int)) +
                        Int.fdiv
                          (IntKind.wrap IntKind.u64
                            (IntKind.wrap IntKind.u64
                                (Int.fdiv (↑x : Int) (4294967296 : Int) *
                                  IntKind.wrap IntKind.u64
                                    (↑(Int.toNat ((↑y : Int) % (18446744073709551616 : Int)) &&& (4294967295 : Nat)) :
                                      Int)) +
                              Int.fdiv
                                (IntKind.wrap IntKind.u64
                                  (IntKind.wrap IntKind.u64
                                      (↑(Int.toNat ((↑x : Int) % (18446744073709551616 : Int)) &&& (4294967295 : Nat)) :
                                        Int) *
                                    IntKind.wrap IntKind.u64
                                      (↑(Int.toNat ((↑y : Int) % (18446744073709551616 : Int)) &&& (4294967295 : Nat)) :
                                        Int)))
                                (4294967296 : Int)))
                          (4294967296 : Int)) +
                    Int.fdiv
                      (IntKind.wrap IntKind.u64
                        (IntKind.wrap IntKind.u64
                            (↑(Int.toNat
                                    (IntKind.wrap IntKind.u64
                                        (IntKind.wrap IntKind.u64
                                            (Int.fdiv (↑x : Int) (4294967296 : Int) *
                                              IntKind.wrap IntKind.u64
                                                (↑(Int.toNat ((↑y : Int) % (18446744073709551616 : Int)) &&&
                                                      (4294967295 : Nat)) :
                                                  Int)) +
                                          Int.fdiv
                                            (IntKind.wrap IntKind.u64
                                              (IntKind.wrap IntKind.u64
                                                  (↑(Int.toNat ((↑x : Int) % (18446744073709551616 : Int)) &&&
                                                        (4294967295 : Nat)) :
                                                    Int) *
                                                IntKind.wrap IntKind.u64
                                                  (↑(Int.toNat ((↑y : Int) % (18446744073709551616 : Int)) &&&
                                                        (4294967295 : Nat)) :
                                                    Int)))
                                            (4294967296 : Int)) %
                                      (18446744073709551616 : Int)) &&&
                                  (4294967295 : Nat)) :
                              Int) +
                          IntKind.wrap IntKind.u64
                            (IntKind.wrap IntKind.u64
                                (↑(Int.toNat ((↑x : Int) % (18446744073709551616 : Int)) &&& (4294967295 : Nat)) :
                                  Int) *
                              Int.fdiv (↑y : Int) (4294967296 : Int))))
                      (4294967296 : Int))),
              Value.int IntKind.u64 (IntKind.wrap IntKind.u64 ((↑x : Int) * (↑y : Int)))])))]
 := by kernel_rfl

theorem run16 (a b : Nat) : (((xgo Try.prog X (bodyOf Try.f16) 14 CC [] 50 [] (Tree.nil) [.at []] ⟨argsTm 0 [el a, el b], []⟩ [] []).bind (ends Try.prog Try.f16.results.toList)).bind plainE) =
  some
  [EndP.mk []
      [fun _ =>
        Value.agg
              (Array.mk
                [Value.int IntKind.u64 (↑(limb a (0 : Nat)) : Int), Value.int IntKind.u64 (↑(limb a (1 : Nat)) : Int),
                  Value.int IntKind.u64 (↑(limb a (2 : Nat)) : Int),
                  Value.int IntKind.u64 (↑(limb a (3 : Nat)) : Int)]) =
            el
              (nv (Int.toNat (↑(limb a (0 : Nat)) : Int)) (Int.toNat (↑(limb a (1 : Nat)) : Int))
                (Int.toNat (↑(limb a (2 : Nat)) : Int)) (Int.toNat (↑(limb a (3 : Nat)) : Int))) ∧
          Value.agg
                (Array.mk
                  [Value.int IntKind.u64 (↑(limb b (0 : Nat)) : Int), Value.int IntKind.u64 (↑(limb b (1 : Nat)) : Int),
                    Value.int IntKind.u64 (↑(limb b (2 : Nat)) : Int),
                    Value.int IntKind.u64 (↑(limb b (3 : Nat)) : Int)]) =
              el
                (nv (Int.toNat (↑(limb b (0 : Nat)) : Int)) (Int.toNat (↑(limb b (1 : Nat)) : Int))
                  (Int.toNat (↑(limb b (2 : Nat)) : Int)) (Int.toNat (↑(limb b (3 : Nat)) : Int))) ∧
            nv (Int.toNat (↑(limb a (0 : Nat)) : Int)) (Int.toNat (↑(limb a (1 : Nat)) : Int))
                  (Int.toNat (↑(limb a (2 : Nat)) : Int)) (Int.toNat (↑(limb a (3 : Nat)) : Int)) <
                (115792089237316195423570985008687907853269984665640564039457584007913129639936 : Nat) ∧
              nv (Int.toNat (↑(limb b (0 : Nat)) : Int)) (Int.toNat (↑(limb b (1 : Nat)) : Int))
                  (Int.toNat (↑(limb b (2 : Nat)) : Int)) (Int.toNat (↑(limb b (3 : Nat)) : Int)) <
                (115792089237316195423570985008687907853269984665640564039457584007913129639936 : Nat),
        fun _ => (0 : Nat) + (4 : Nat) ≤ (4 : Nat)]
      (Res.v
        (Value.bool
          (decide
            (nv (Int.toNat (↑(limb a (0 : Nat)) : Int)) (Int.toNat (↑(limb a (1 : Nat)) : Int))
                (Int.toNat (↑(limb a (2 : Nat)) : Int)) (Int.toNat (↑(limb a (3 : Nat)) : Int)) <
              nv (Int.toNat (↑(limb b (0 : Nat)) : Int)) (Int.toNat (↑(limb b (1 : Nat)) : Int))
                (Int.toNat (↑(limb b (2 : Nat)) : Int)) (Int.toNat (↑(limb b (3 : Nat)) : Int))))))]
 := by kernel_rfl

theorem maskN (a : Nat) (ha : a < 18446744073709551616) : IntKind.wrap IntKind.u64 (↑(Int.toNat ((a : Int) % (18446744073709551616 : Int)) &&& (4294967295 : Nat)) : Int) = ((a % 4294967296 : Nat) : Int) := by
  have h1 : Int.toNat ((a : Int) % (18446744073709551616 : Int)) = a := by omega
  have e : a &&& 4294967295 = a % 4294967296 := Nat.and_two_pow_sub_one_eq_mod a 32
  rw [h1, e, wrap_u64]
  omega
theorem fdivN (a : Nat) : Int.fdiv (a : Int) 4294967296 = ((a / 4294967296 : Nat) : Int) := by
  rw [Int.fdiv_eq_ediv_of_nonneg _ (by omega)]; omega
theorem mulN (a b : Nat) : (a : Int) * (b : Int) = ((a * b : Nat) : Int) := (Int.natCast_mul a b).symm
theorem addN (a b : Nat) : (a : Int) + (b : Int) = ((a + b : Nat) : Int) := (Int.natCast_add a b).symm
theorem wrapN (a : Nat) (ha : a < 18446744073709551616) : IntKind.wrap .u64 (a : Int) = (a : Int) := by rw [wrap_u64]; omega
theorem wrapM (a : Nat) : IntKind.wrap .u64 (a : Int) = ((a % 18446744073709551616 : Nat) : Int) := by rw [wrap_u64]; omega
theorem mul64_ok (x y : Nat) (hx : x < 18446744073709551616) (hy : y < 18446744073709551616) (w : World) : Calls Try.prog 34 [.int .u64 (x : Int), .int .u64 (y : Int)].toArray w (fun E w' => ∃ v, E = .returned v ∧ Res.ok w w' (.v (.tuple #[.int .u64 ((mulHi x y : Nat) : Int), .int .u64 ((mulLo x y : Nat) : Int)])) v ∧ Below w.heap.size w w') := by
  refine con_end (calls_plain hm Try.func34 (by kernel_rfl) rfl rfl 50 _ _ (run34 x y) ⟨fun _ => ⟨?_, ?_⟩, trivial⟩)
  · simp only [hold_cons, hold_nil, and_true]
    exact ⟨fun _ _ => by omega, fun _ _ => by omega, fun _ _ => by omega, fun _ _ => by omega, fun _ _ => by omega⟩
  · obtain ⟨bd, bt, bw, hhi⟩ := Lib.mul64_hi x y hx hy
    have ba := Lib.half_mul_le (a := x / 4294967296) (b := y / 4294967296) (by omega) (by omega)
    have bb := Lib.half_mul_le (a := x / 4294967296) (b := y % 4294967296) (by omega) (by omega)
    have bc := Lib.half_mul_le (a := x % 4294967296) (b := y / 4294967296) (by omega) (by omega)
    have ba' : x / 4294967296 * (y / 4294967296) < 18446744073709551616 := by omega
    have bb' : x / 4294967296 * (y % 4294967296) < 18446744073709551616 := by omega
    have bc' : x % 4294967296 * (y / 4294967296) < 18446744073709551616 := by omega
    have bh1 : x / 4294967296 * (y / 4294967296) + (x / 4294967296 * (y % 4294967296) + x % 4294967296 * (y % 4294967296) / 4294967296) / 4294967296 < 18446744073709551616 := by omega
    have bh : x / 4294967296 * (y / 4294967296) + (x / 4294967296 * (y % 4294967296) + x % 4294967296 * (y % 4294967296) / 4294967296) / 4294967296 + ((x / 4294967296 * (y % 4294967296) + x % 4294967296 * (y % 4294967296) / 4294967296) % 4294967296 + x % 4294967296 * (y / 4294967296)) / 4294967296 < 18446744073709551616 := by omega
    simp only [maskN x hx, maskN y hy, fdivN, mulN, addN, wrapN _ bd, wrapN _ bb', wrapN _ bt, maskN _ bt, wrapN _ bc', wrapN _ bw, wrapN _ ba', wrapN _ bh1, wrapN _ bh, wrapM (x * y)]
    rw [hhi, mulHi, mulLo, hide_eq, hide_eq]
noncomputable def gMul64 : List RV → Option (Res × Prop)
  | [.v x, .v y] => match unU x, unU y with
    | some a, some b => some (.v (.tuple #[.int .u64 ((mulHi a b : Nat) : Int), .int .u64 ((mulLo a b : Nat) : Int)]), x = .int .u64 (a : Int) ∧ y = .int .u64 (b : Int) ∧ a < 18446744073709551616 ∧ b < 18446744073709551616)
    | _, _ => none
  | _ => none
theorem gMul64_ok (rvs : List RV) (r : Res) (p : Prop) (vs : List Value) (w : World) (hg : gMul64 rvs = some (r, p)) (hp : p) (hv : RVs (wmem w) rvs vs) : Calls Try.prog 34 vs.toArray w (fun E w' => ∃ v, E = .returned v ∧ r.ok w w' v ∧ Below w.heap.size w w') := by
  unfold gMul64 at hg
  split at hg
  · split at hg
    · simp only [Option.some.injEq, Prod.mk.injEq] at hg
      obtain ⟨rfl, rfl⟩ := hg
      obtain ⟨h1, h2, h3, h4⟩ := hp
      rw [rvs2 hv, h1, h2]
      exact mul64_ok _ _ h3 h4 w
    · cases hg
  · cases hg
theorem less_ok (a b : Nat) (ha : a < top) (hb : b < top) (w : World) : Calls Try.prog 16 [el a, el b].toArray w (fun E w' => ∃ v, E = .returned v ∧ Res.ok w w' (.v (.bool (decide (a < b)))) v ∧ Below w.heap.size w w') := by
  have ea := unEl_pay a ha
  have eb := unEl_pay b hb
  refine con_end (calls_plain hm Try.func16 (by kernel_rfl) rfl rfl 50 _ _ (run16 a b) ⟨fun _ => ⟨?_, ?_⟩, trivial⟩)
  · simp only [hold_cons, hold_nil, and_true]
    exact ⟨fun _ _ => ⟨ea.1, eb.1, by rw [ea.2]; exact ha, by rw [eb.2]; exact hb⟩, fun _ _ => by omega⟩
  · rw [ea.2, eb.2]
noncomputable def gLess : List RV → Option (Res × Prop)
  | [.v x, .v y] => match unEl x, unEl y with
    | some a, some b => some (.v (.bool (decide (a < b))), x = el a ∧ y = el b ∧ a < top ∧ b < top)
    | _, _ => none
  | _ => none
theorem gLess_ok (rvs : List RV) (r : Res) (p : Prop) (vs : List Value) (w : World) (hg : gLess rvs = some (r, p)) (hp : p) (hv : RVs (wmem w) rvs vs) : Calls Try.prog 16 vs.toArray w (fun E w' => ∃ v, E = .returned v ∧ r.ok w w' v ∧ Below w.heap.size w w') := by
  unfold gLess at hg
  split at hg
  · split at hg
    · simp only [Option.some.injEq, Prod.mk.injEq] at hg
      obtain ⟨rfl, rfl⟩ := hg
      obtain ⟨h1, h2, h3, h4⟩ := hp
      rw [rvs2 hv, h1, h2]
      exact less_ok _ _ h3 h4 w
    · cases hg
  · cases hg
noncomputable def CF : Con Try.prog := (CC.add 34 gMul64 gMul64_ok).add 16 gLess gLess_ok
end Go.Proofs.Ytcipmpamhffclaa

namespace Go.Pl
/-- A product of words and two words more: the lower word, the upper word (as the code reckons them). -/
noncomputable def kLo (x y w : Nat) (c : Int) : Nat := adLo (adLo (mulLo x y) w 0) c.toNat 0
noncomputable def kHi (x y w : Nat) (c : Int) : Int :=
  IntKind.wrap .u64 (IntKind.wrap .u64 (((mulHi x y : Nat) : Int) + ((adHi (mulLo x y) w 0 : Nat) : Int)) + ((adHi (adLo (mulLo x y) w 0) c.toNat 0 : Nat) : Int))
theorem wrap64 (z : Int) : IntKind.wrap .u64 z = z % 18446744073709551616 := by
  simp [IntKind.wrap, IntKind.bits, IntKind.signed]
theorem kHi_nonneg (x y w : Nat) (c : Int) : 0 ≤ kHi x y w c := by
  rw [kHi, wrap64]; omega
theorem k_eq (x y w : Nat) (c : Int) (hx : x < 18446744073709551616) (hy : y < 18446744073709551616) (hw : w < 18446744073709551616) (h0 : 0 ≤ c) (hc : c < 18446744073709551616) :
    x * y + w + c.toNat = kLo x y w c + 18446744073709551616 * (kHi x y w c).toNat ∧ kLo x y w c < 18446744073709551616 ∧ kHi x y w c < 18446744073709551616 := by
  have h : x * y ≤ 18446744073709551615 * 18446744073709551615 := Nat.mul_le_mul (by omega) (by omega)
  rw [kHi, kLo, wrap64, wrap64, adLo_eq, adLo_eq, adHi_eq, adHi_eq, mulLo, mulHi, hide_eq, hide_eq]
  generalize x * y = p at *
  omega
end Go.Pl
namespace Go.Proofs.Ytcipmpamhffclaa
open Go.Sx Go.Pl Go.RowKit
def qM : List Nat := [0,0,1,0,1,1]
noncomputable def stM (a b : Nat) (i : Int) (w0 w1 w2 w3 w4 w5 w6 w7 : Nat) : St :=
  ⟨[(13, .v (.int .i64 i)), (6, .p 4 0), (5, .p 3 0), (4, .p 2 0), (3, .p 1 0), (2, .p 0 0)],
    [.cells (ec a) 24, .cells (ec b) 24, .cells (ec 0) 24, .cells (ec 0) 24, .cells [.v (.int .u64 (w0 : Int)), .v (.int .u64 (w1 : Int)), .v (.int .u64 (w2 : Int)), .v (.int .u64 (w3 : Int)), .v (.int .u64 (w4 : Int)), .v (.int .u64 (w5 : Int)), .v (.int .u64 (w6 : Int)), .v (.int .u64 (w7 : Int))] 48]⟩
end Go.Proofs.Ytcipmpamhffclaa

namespace Go.Proofs.Ytcipmpamhffclaa
open Go.Sx Go.Pl Go.RowKit
theorem mulRow0 (a b w0 w1 w2 w3 w4 w5 w6 w7 M : Nat) (kt : List It) : ((xgo Try.prog X (bodyOf Try.f18) 69 CF [([0,1,0,1,1,0,0,1,1,0,0,1,0,1,1],5)] 50 [Dec.t, Dec.t, Dec.t, Dec.t, Dec.t, Dec.f] (Tree.nil) (.at qM :: .rnd qM (M+1) :: kt) (stM a b 0 w0 w1 w2 w3 w4 w5 w6 w7) [] []).map (trims [13, 6, 5, 4, 3, 2])) =
  some [Leaf2.mk [] [fun _ => true = true,
    fun _ => true = true,
    fun _ => (0 : Int) ≤ (0 : Int) ∧ (0 : Int) < (4 : Int),
    fun _ => (0 : Int) ≤ (0 : Int) ∧ (0 : Int) < (4 : Int),
    fun _ => Value.int IntKind.u64 (↑(limb a (0 : Nat)) : Int) = Value.int IntKind.u64 (↑(Int.toNat (↑(limb a (0 : Nat)) : Int)) : Int) ∧ Value.int IntKind.u64 (↑(limb b (0 : Nat)) : Int) = Value.int IntKind.u64 (↑(Int.toNat (↑(limb b (0 : Nat)) : Int)) : Int) ∧ Int.toNat (↑(limb a (0 : Nat)) : Int) < (18446744073709551616 : Nat) ∧ Int.toNat (↑(limb b (0 : Nat)) : Int) < (18446744073709551616 : Nat),
    fun _ => (0 : Int) ≤ (0 : Int) ∧ (0 : Int) < (8 : Int),
    fun _ => (0 : Int) ≤ (↑(mulLo (Int.toNat (↑(limb a (0 : Nat)) : Int)) (Int.toNat (↑(limb b (0 : Nat)) : Int))) : Int) ∧ (0 : Int) ≤ (↑w0 : Int) ∧ (0 : Int) ≤ (0 : Int) ∧ (0 : Nat) ≤ (1 : Nat),
    fun _ => (0 : Int) ≤ (↑(adLo (Int.toNat (↑(mulLo (Int.toNat (↑(limb a (0 : Nat)) : Int)) (Int.toNat (↑(limb b (0 : Nat)) : Int))) : Int)) (Int.toNat (↑w0 : Int)) (0 : Nat)) : Int) ∧ (0 : Int) ≤ (0 : Int) ∧ (0 : Int) ≤ (0 : Int) ∧ (0 : Nat) ≤ (1 : Nat),
    fun _ => (0 : Int) ≤ (0 : Int) ∧ (0 : Int) < (8 : Int),
    fun _ => (0 : Nat) + (1 : Nat) ≤ (8 : Nat),
    fun _ => true = true,
    fun _ => (0 : Int) ≤ (0 : Int) ∧ (0 : Int) < (4 : Int),
    fun _ => (0 : Int) ≤ (1 : Int) ∧ (1 : Int) < (4 : Int),
    fun _ => Value.int IntKind.u64 (↑(limb a (0 : Nat)) : Int) = Value.int IntKind.u64 (↑(Int.toNat (↑(limb a (0 : Nat)) : Int)) : Int) ∧ Value.int IntKind.u64 (↑(limb b (1 : Nat)) : Int) = Value.int IntKind.u64 (↑(Int.toNat (↑(limb b (1 : Nat)) : Int)) : Int) ∧ Int.toNat (↑(limb a (0 : Nat)) : Int) < (18446744073709551616 : Nat) ∧ Int.toNat (↑(limb b (1 : Nat)) : Int) < (18446744073709551616 : Nat),
    fun _ => (0 : Int) ≤ (1 : Int) ∧ (1 : Int) < (8 : Int),
    fun _ => (0 : Int) ≤ (↑(mulLo (Int.toNat (↑(limb a (0 : Nat)) : Int)) (Int.toNat (↑(limb b (1 : Nat)) : Int))) : Int) ∧ (0 : Int) ≤ (↑w1 : Int) ∧ (0 : Int) ≤ (0 : Int) ∧ (0 : Nat) ≤ (1 : Nat),
    fun _ => (0 : Int) ≤ (↑(adLo (Int.toNat (↑(mulLo (Int.toNat (↑(limb a (0 : Nat)) : Int)) (Int.toNat (↑(limb b (1 : Nat)) : Int))) : Int)) (Int.toNat (↑w1 : Int)) (0 : Nat)) : Int) ∧ (0 : Int) ≤ kHi (limb a 0) (limb b 0) w0 0 ∧ (0 : Int) ≤ (0 : Int) ∧ (0 : Nat) ≤ (1 : Nat),
    fun _ => (0 : Int) ≤ (1 : Int) ∧ (1 : Int) < (8 : Int),
    fun _ => (1 : Nat) + (1 : Nat) ≤ (8 : Nat),
    fun _ => true = true,
    fun _ => (0 : Int) ≤ (0 : Int) ∧ (0 : Int) < (4 : Int),
    fun _ => (0 : Int) ≤ (2 : Int) ∧ (2 : Int) < (4 : Int),
    fun _ => Value.int IntKind.u64 (↑(limb a (0 : Nat)) : Int) = Value.int IntKind.u64 (↑(Int.toNat (↑(limb a (0 : Nat)) : Int)) : Int) ∧ Value.int IntKind.u64 (↑(limb b (2 : Nat)) : Int) = Value.int IntKind.u64 (↑(Int.toNat (↑(limb b (2 : Nat)) : Int)) : Int) ∧ Int.toNat (↑(limb a (0 : Nat)) : Int) < (18446744073709551616 : Nat) ∧ Int.toNat (↑(limb b (2 : Nat)) : Int) < (18446744073709551616 : Nat),
    fun _ => (0 : Int) ≤ (2 : Int) ∧ (2 : Int) < (8 : Int),
    fun _ => (0 : Int) ≤ (↑(mulLo (Int.toNat (↑(limb a (0 : Nat)) : Int)) (Int.toNat (↑(limb b (2 : Nat)) : Int))) : Int) ∧ (0 : Int) ≤ (↑w2 : Int) ∧ (0 : Int) ≤ (0 : Int) ∧ (0 : Nat) ≤ (1 : Nat),
    fun _ => (0 : Int) ≤ (↑(adLo (Int.toNat (↑(mulLo (Int.toNat (↑(limb a (0 : Nat)) : Int)) (Int.toNat (↑(limb b (2 : Nat)) : Int))) : Int)) (Int.toNat (↑w2 : Int)) (0 : Nat)) : Int) ∧ (0 : Int) ≤ kHi (limb a 0) (limb b 1) w1 (kHi (limb a 0) (limb b 0) w0 0) ∧ (0 : Int) ≤ (0 : Int) ∧ (0 : Nat) ≤ (1 : Nat),
    fun _ => (0 : Int) ≤ (2 : Int) ∧ (2 : Int) < (8 : Int),
    fun _ => (2 : Nat) + (1 : Nat) ≤ (8 : Nat),
    fun _ => true = true,
    fun _ => (0 : Int) ≤ (0 : Int) ∧ (0 : Int) < (4 : Int),
    fun _ => (0 : Int) ≤ (3 : Int) ∧ (3 : Int) < (4 : Int),
    fun _ => Value.int IntKind.u64 (↑(limb a (0 : Nat)) : Int) = Value.int IntKind.u64 (↑(Int.toNat (↑(limb a (0 : Nat)) : Int)) : Int) ∧ Value.int IntKind.u64 (↑(limb b (3 : Nat)) : Int) = Value.int IntKind.u64 (↑(Int.toNat (↑(limb b (3 : Nat)) : Int)) : Int) ∧ Int.toNat (↑(limb a (0 : Nat)) : Int) < (18446744073709551616 : Nat) ∧ Int.toNat (↑(limb b (3 : Nat)) : Int) < (18446744073709551616 : Nat),
    fun _ => (0 : Int) ≤ (3 : Int) ∧ (3 : Int) < (8 : Int),
    fun _ => (0 : Int) ≤ (↑(mulLo (Int.toNat (↑(limb a (0 : Nat)) : Int)) (Int.toNat (↑(limb b (3 : Nat)) : Int))) : Int) ∧ (0 : Int) ≤ (↑w3 : Int) ∧ (0 : Int) ≤ (0 : Int) ∧ (0 : Nat) ≤ (1 : Nat),
    fun _ => (0 : Int) ≤ (↑(adLo (Int.toNat (↑(mulLo (Int.toNat (↑(limb a (0 : Nat)) : Int)) (Int.toNat (↑(limb b (3 : Nat)) : Int))) : Int)) (Int.toNat (↑w3 : Int)) (0 : Nat)) : Int) ∧ (0 : Int) ≤ kHi (limb a 0) (limb b 2) w2 (kHi (limb a 0) (limb b 1) w1 (kHi (limb a 0) (limb b 0) w0 0)) ∧ (0 : Int) ≤ (0 : Int) ∧ (0 : Nat) ≤ (1 : Nat),
    fun _ => (0 : Int) ≤ (3 : Int) ∧ (3 : Int) < (8 : Int),
    fun _ => (3 : Nat) + (1 : Nat) ≤ (8 : Nat),
    fun _ => false = false,
    fun _ => (0 : Int) ≤ (4 : Int) ∧ (4 : Int) < (8 : Int),
    fun _ => (4 : Nat) + (1 : Nat) ≤ (8 : Nat)] (It.rnd [(0 : Nat), (0 : Nat), (1 : Nat), (0 : Nat), (1 : Nat), (1 : Nat)] (M + (1 : Nat)) :: kt) (St.mk [((13 : Nat), SV.v (Value.int IntKind.i64 (1 : Int))), ((6 : Nat), SV.p (4 : Nat) (0 : Nat)), ((5 : Nat), SV.p (3 : Nat) (0 : Nat)), ((4 : Nat), SV.p (2 : Nat) (0 : Nat)), ((3 : Nat), SV.p (1 : Nat) (0 : Nat)), ((2 : Nat), SV.p (0 : Nat) (0 : Nat))] [HO.cells [SV.v (Value.int IntKind.u64 (↑(limb a (0 : Nat)) : Int)), SV.v (Value.int IntKind.u64 (↑(limb a (1 : Nat)) : Int)), SV.v (Value.int IntKind.u64 (↑(limb a (2 : Nat)) : Int)), SV.v (Value.int IntKind.u64 (↑(limb a (3 : Nat)) : Int))] (24 : Nat), HO.cells [SV.v (Value.int IntKind.u64 (↑(limb b (0 : Nat)) : Int)), SV.v (Value.int IntKind.u64 (↑(limb b (1 : Nat)) : Int)), SV.v (Value.int IntKind.u64 (↑(limb b (2 : Nat)) : Int)), SV.v (Value.int IntKind.u64 (↑(limb b (3 : Nat)) : Int))] (24 : Nat), HO.cells [SV.v (Value.int IntKind.u64 (↑(limb (0 : Nat) (0 : Nat)) : Int)), SV.v (Value.int IntKind.u64 (↑(limb (0 : Nat) (1 : Nat)) : Int)), SV.v (Value.int IntKind.u64 (↑(limb (0 : Nat) (2 : Nat)) : Int)), SV.v (Value.int IntKind.u64 (↑(limb (0 : Nat) (3 : Nat)) : Int))] (24 : Nat), HO.cells [SV.v (Value.int IntKind.u64 (↑(limb (0 : Nat) (0 : Nat)) : Int)), SV.v (Value.int IntKind.u64 (↑(limb (0 : Nat) (1 : Nat)) : Int)), SV.v (Value.int IntKind.u64 (↑(limb (0 : Nat) (2 : Nat)) : Int)), SV.v (Value.int IntKind.u64 (↑(limb (0 : Nat) (3 : Nat)) : Int))] (24 : Nat), HO.cells [SV.v (Value.int IntKind.u64 (↑(kLo (limb a 0) (limb b 0) w0 0) : Int)), SV.v (Value.int IntKind.u64 (↑(kLo (limb a 0) (limb b 1) w1 (kHi (limb a 0) (limb b 0) w0 0)) : Int)), SV.v (Value.int IntKind.u64 (↑(kLo (limb a 0) (limb b 2) w2 (kHi (limb a 0) (limb b 1) w1 (kHi (limb a 0) (limb b 0) w0 0))) : Int)), SV.v (Value.int IntKind.u64 (↑(kLo (limb a 0) (limb b 3) w3 (kHi (limb a 0) (limb b 2) w2 (kHi (limb a 0) (limb b 1) w1 (kHi (limb a 0) (limb b 0) w0 0)))) : Int)), SV.v (Value.int IntKind.u64 (kHi (limb a 0) (limb b 3) w3 (kHi (limb a 0) (limb b 2) w2 (kHi (limb a 0) (limb b 1) w1 (kHi (limb a 0) (limb b 0) w0 0))))), SV.v (Value.int IntKind.u64 (↑w5 : Int)), SV.v (Value.int IntKind.u64 (↑w6 : Int)), SV.v (Value.int IntKind.u64 (↑w7 : Int))] (48 : Nat)])] 
  := by kernel_rfl 

theorem mulRow1 (a b w0 w1 w2 w3 w4 w5 w6 w7 M : Nat) (kt : List It) : ((xgo Try.prog X (bodyOf Try.f18) 69 CF [([0,1,0,1,1,0,0,1,1,0,0,1,0,1,1],5)] 50 [Dec.t, Dec.t, Dec.t, Dec.t, Dec.t, Dec.f] (Tree.nil) (.at qM :: .rnd qM (M+1) :: kt) (stM a b 1 w0 w1 w2 w3 w4 w5 w6 w7) [] []).map (trims [13, 6, 5, 4, 3, 2])) =
  some [Leaf2.mk [] [fun _ => true = true,
    fun _ => true = true,
    fun _ => (0 : Int) ≤ (1 : Int) ∧ (1 : Int) < (4 : Int),
    fun _ => (0 : Int) ≤ (0 : Int) ∧ (0 : Int) < (4 : Int),
    fun _ => Value.int IntKind.u64 (↑(limb a (1 : Nat)) : Int) = Value.int IntKind.u64 (↑(Int.toNat (↑(limb a (1 : Nat)) : Int)) : Int) ∧ Value.int IntKind.u64 (↑(limb b (0 : Nat)) : Int) = Value.int IntKind.u64 (↑(Int.toNat (↑(limb b (0 : Nat)) : Int)) : Int) ∧ Int.toNat (↑(limb a (1 : Nat)) : Int) < (18446744073709551616 : Nat) ∧ Int.toNat (↑(limb b (0 : Nat)) : Int) < (18446744073709551616 : Nat),
    fun _ => (0 : Int) ≤ (1 : Int) ∧ (1 : Int) < (8 : Int),
    fun _ => (0 : Int) ≤ (↑(mulLo (Int.toNat (↑(limb a (1 : Nat)) : Int)) (Int.toNat (↑(limb b (0 : Nat)) : Int))) : Int) ∧ (0 : Int) ≤ (↑w1 : Int) ∧ (0 : Int) ≤ (0 : Int) ∧ (0 : Nat) ≤ (1 : Nat),
    fun _ => (0 : Int) ≤ (↑(adLo (Int.toNat (↑(mulLo (Int.toNat (↑(limb a (1 : Nat)) : Int)) (Int.toNat (↑(limb b (0 : Nat)) : Int))) : Int)) (Int.toNat (↑w1 : Int)) (0 : Nat)) : Int) ∧ (0 : Int) ≤ (0 : Int) ∧ (0 : Int) ≤ (0 : Int) ∧ (0 : Nat) ≤ (1 : Nat),
    fun _ => (0 : Int) ≤ (1 : Int) ∧ (1 : Int) < (8 : Int),
    fun _ => (1 : Nat) + (1 : Nat) ≤ (8 : Nat),
    fun _ => true = true,
    fun _ => (0 : Int) ≤ (1 : Int) ∧ (1 : Int) < (4 : Int),
    fun _ => (0 : Int) ≤ (1 : Int) ∧ (1 : Int) < (4 : Int),
    fun _ => Value.int IntKind.u64 (↑(limb a (1 : Nat)) : Int) = Value.int IntKind.u64 (↑(Int.toNat (↑(limb a (1 : Nat)) : Int)) : Int) ∧ Value.int IntKind.u64 (↑(limb b (1 : Nat)) : Int) = Value.int IntKind.u64 (↑(Int.toNat (↑(limb b (1 : Nat)) : Int)) : Int) ∧ Int.toNat (↑(limb a (1 : Nat)) : Int) < (18446744073709551616 : Nat) ∧ Int.toNat (↑(limb b (1 : Nat)) : Int) < (18446744073709551616 : Nat),
    fun _ => (0 : Int) ≤ (2 : Int) ∧ (2 : Int) < (8 : Int),
    fun _ => (0 : Int) ≤ (↑(mulLo (Int.toNat (↑(limb a (1 : Nat)) : Int)) (Int.toNat (↑(limb b (1 : Nat)) : Int))) : Int) ∧ (0 : Int) ≤ (↑w2 : Int) ∧ (0 : Int) ≤ (0 : Int) ∧ (0 : Nat) ≤ (1 : Nat),
    fun _ => (0 : Int) ≤ (↑(adLo (Int.toNat (↑(mulLo (Int.toNat (↑(limb a (1 : Nat)) : Int)) (Int.toNat (↑(limb b (1 : Nat)) : Int))) : Int)) (Int.toNat (↑w2 : Int)) (0 : Nat)) : Int) ∧ (0 : Int) ≤ kHi (limb a 1) (limb b 0) w1 0 ∧ (0 : Int) ≤ (0 : Int) ∧ (0 : Nat) ≤ (1 : Nat),
    fun _ => (0 : Int) ≤ (2 : Int) ∧ (2 : Int) < (8 : Int),
    fun _ => (2 : Nat) + (1 : Nat) ≤ (8 : Nat),
    fun _ => true = true,
    fun _ => (0 : Int) ≤ (1 : Int) ∧ (1 : Int) < (4 : Int),
    fun _ => (0 : Int) ≤ (2 : Int) ∧ (2 : Int) < (4 : Int),
    fun _ => Value.int IntKind.u64 (↑(limb a (1 : Nat)) : Int) = Value.int IntKind.u64 (↑(Int.toNat (↑(limb a (1 : Nat)) : Int)) : Int) ∧ Value.int IntKind.u64 (↑(limb b (2 : Nat)) : Int) = Value.int IntKind.u64 (↑(Int.toNat (↑(limb b (2 : Nat)) : Int)) : Int) ∧ Int.toNat (↑(limb a (1 : Nat)) : Int) < (18446744073709551616 : Nat) ∧ Int.toNat (↑(limb b (2 : Nat)) : Int) < (18446744073709551616 : Nat),
    fun _ => (0 : Int) ≤ (3 : Int) ∧ (3 : Int) < (8 : Int),
    fun _ => (0 : Int) ≤ (↑(mulLo (Int.toNat (↑(limb a (1 : Nat)) : Int)) (Int.toNat (↑(limb b (2 : Nat)) : Int))) : Int) ∧ (0 : Int) ≤ (↑w3 : Int) ∧ (0 : Int) ≤ (0 : Int) ∧ (0 : Nat) ≤ (1 : Nat),
    fun _ => (0 : Int) ≤ (↑(adLo (Int.toNat (↑(mulLo (Int.toNat (↑(limb a (1 : Nat)) : Int)) (Int.toNat (↑(limb b (2 : Nat)) : Int))) : Int)) (Int.toNat (↑w3 : Int)) (0 : Nat)) : Int) ∧ (0 : Int) ≤ kHi (limb a 1) (limb b 1) w2 (kHi (limb a 1) (limb b 0) w1 0) ∧ (0 : Int) ≤ (0 : Int) ∧ (0 : Nat) ≤ (1 : Nat),
    fun _ => (0 : Int) ≤ (3 : Int) ∧ (3 : Int) < (8 : Int),
    fun _ => (3 : Nat) + (1 : Nat) ≤ (8 : Nat),
    fun _ => true = true,
    fun _ => (0 : Int) ≤ (1 : Int) ∧ (1 : Int) < (4 : Int),
    fun _ => (0 : Int) ≤ (3 : Int) ∧ (3 : Int) < (4 : Int),
    fun _ => Value.int IntKind.u64 (↑(limb a (1 : Nat)) : Int) = Value.int IntKind.u64 (↑(Int.toNat (↑(limb a (1 : Nat)) : Int)) : Int) ∧ Value.int IntKind.u64 (↑(limb b (3 : Nat)) : Int) = Value.int IntKind.u64 (↑(Int.toNat (↑(limb b (3 : Nat)) : Int)) : Int) ∧ Int.toNat (↑(limb a (1 : Nat)) : Int) < (18446744073709551616 : Nat) ∧ Int.toNat (↑(limb b (3 : Nat)) : Int) < (18446744073709551616 : Nat),
    fun _ => (0 : Int) ≤ (4 : Int) ∧ (4 : Int) < (8 : Int),
    fun _ => (0 : Int) ≤ (↑(mulLo (Int.toNat (↑(limb a (1 : Nat)) : Int)) (Int.toNat (↑(limb b (3 : Nat)) : Int))) : Int) ∧ (0 : Int) ≤ (↑w4 : Int) ∧ (0 : Int) ≤ (0 : Int) ∧ (0 : Nat) ≤ (1 : Nat),
    fun _ => (0 : Int) ≤ (↑(adLo (Int.toNat (↑(mulLo (Int.toNat (↑(limb a (1 : Nat)) : Int)) (Int.toNat (↑(limb b (3 : Nat)) : Int))) : Int)) (Int.toNat (↑w4 : Int)) (0 : Nat)) : Int) ∧ (0 : Int) ≤ kHi (limb a 1) (limb b 2) w3 (kHi (limb a 1) (limb b 1) w2 (kHi (limb a 1) (limb b 0) w1 0)) ∧ (0 : Int) ≤ (0 : Int) ∧ (0 : Nat) ≤ (1 : Nat),
    fun _ => (0 : Int) ≤ (4 : Int) ∧ (4 : Int) < (8 : Int),
    fun _ => (4 : Nat) + (1 : Nat) ≤ (8 : Nat),
    fun _ => false = false,
    fun _ => (0 : Int) ≤ (5 : Int) ∧ (5 : Int) < (8 : Int),
    fun _ => (5 : Nat) + (1 : Nat) ≤ (8 : Nat)] (It.rnd [(0 : Nat), (0 : Nat), (1 : Nat), (0 : Nat), (1 : Nat), (1 : Nat)] (M + (1 : Nat)) :: kt) (St.mk [((13 : Nat), SV.v (Value.int IntKind.i64 (2 : Int))), ((6 : Nat), SV.p (4 : Nat) (0 : Nat)), ((5 : Nat), SV.p (3 : Nat) (0 : Nat)), ((4 : Nat), SV.p (2 : Nat) (0 : Nat)), ((3 : Nat), SV.p (1 : Nat) (0 : Nat)), ((2 : Nat), SV.p (0 : Nat) (0 : Nat))] [HO.cells [SV.v (Value.int IntKind.u64 (↑(limb a (0 : Nat)) : Int)), SV.v (Value.int IntKind.u64 (↑(limb a (1 : Nat)) : Int)), SV.v (Value.int IntKind.u64 (↑(limb a (2 : Nat)) : Int)), SV.v (Value.int IntKind.u64 (↑(limb a (3 : Nat)) : Int))] (24 : Nat), HO.cells [SV.v (Value.int IntKind.u64 (↑(limb b (0 : Nat)) : Int)), SV.v (Value.int IntKind.u64 (↑(limb b (1 : Nat)) : Int)), SV.v (Value.int IntKind.u64 (↑(limb b (2 : Nat)) : Int)), SV.v (Value.int IntKind.u64 (↑(limb b (3 : Nat)) : Int))] (24 : Nat), HO.cells [SV.v (Value.int IntKind.u64 (↑(limb (0 : Nat) (0 : Nat)) : Int)), SV.v (Value.int IntKind.u64 (↑(limb (0 : Nat) (1 : Nat)) : Int)), SV.v (Value.int IntKind.u64 (↑(limb (0 : Nat) (2 : Nat)) : Int)), SV.v (Value.int IntKind.u64 (↑(limb (0 : Nat) (3 : Nat)) : Int))] (24 : Nat), HO.cells [SV.v (Value.int IntKind.u64 (↑(limb (0 : Nat) (0 : Nat)) : Int)), SV.v (Value.int IntKind.u64 (↑(limb (0 : Nat) (1 : Nat)) : Int)), SV.v (Value.int IntKind.u64 (↑(limb (0 : Nat) (2 : Nat)) : Int)), SV.v (Value.int IntKind.u64 (↑(limb (0 : Nat) (3 : Nat)) : Int))] (24 : Nat), HO.cells [SV.v (Value.int IntKind.u64 (↑w0 : Int)), SV.v (Value.int IntKind.u64 (↑(kLo (limb a 1) (limb b 0) w1 0) : Int)), SV.v (Value.int IntKind.u64 (↑(kLo (limb a 1) (limb b 1) w2 (kHi (limb a 1) (limb b 0) w1 0)) : Int)), SV.v (Value.int IntKind.u64 (↑(kLo (limb a 1) (limb b 2) w3 (kHi (limb a 1) (limb b 1) w2 (kHi (limb a 1) (limb b 0) w1 0))) : Int)), SV.v (Value.int IntKind.u64 (↑(kLo (limb a 1) (limb b 3) w4 (kHi (limb a 1) (limb b 2) w3 (kHi (limb a 1) (limb b 1) w2 (kHi (limb a 1) (limb b 0) w1 0)))) : Int)), SV.v (Value.int IntKind.u64 (kHi (limb a 1) (limb b 3) w4 (kHi (limb a 1) (limb b 2) w3 (kHi (limb a 1) (limb b 1) w2 (kHi (limb a 1) (limb b 0) w1 0))))), SV.v (Value.int IntKind.u64 (↑w6 : Int)), SV.v (Value.int IntKind.u64 (↑w7 : Int))] (48 : Nat)])] 
  := by kernel_rfl 

theorem mulRow2 (a b w0 w1 w2 w3 w4 w5 w6 w7 M : Nat) (kt : List It) : ((xgo Try.prog X (bodyOf Try.f18) 69 CF [([0,1,0,1,1,0,0,1,1,0,0,1,0,1,1],5)] 50 [Dec.t, Dec.t, Dec.t, Dec.t, Dec.t, Dec.f] (Tree.nil) (.at qM :: .rnd qM (M+1) :: kt) (stM a b 2 w0 w1 w2 w3 w4 w5 w6 w7) [] []).map (trims [13, 6, 5, 4, 3, 2])) =
  some [Leaf2.mk [] [fun _ => true = true,
    fun _ => true = true,
    fun _ => (0 : Int) ≤ (2 : Int) ∧ (2 : Int) < (4 : Int),
    fun _ => (0 : Int) ≤ (0 : Int) ∧ (0 : Int) < (4 : Int),
    fun _ => Value.int IntKind.u64 (↑(limb a (2 : Nat)) : Int) = Value.int IntKind.u64 (↑(Int.toNat (↑(limb a (2 : Nat)) : Int)) : Int) ∧ Value.int IntKind.u64 (↑(limb b (0 : Nat)) : Int) = Value.int IntKind.u64 (↑(Int.toNat (↑(limb b (0 : Nat)) : Int)) : Int) ∧ Int.toNat (↑(limb a (2 : Nat)) : Int) < (18446744073709551616 : Nat) ∧ Int.toNat (↑(limb b (0 : Nat)) : Int) < (18446744073709551616 : Nat),
    fun _ => (0 : Int) ≤ (2 : Int) ∧ (2 : Int) < (8 : Int),
    fun _ => (0 : Int) ≤ (↑(mulLo (Int.toNat (↑(limb a (2 : Nat)) : Int)) (Int.toNat (↑(limb b (0 : Nat)) : Int))) : Int) ∧ (0 : Int) ≤ (↑w2 : Int) ∧ (0 : Int) ≤ (0 : Int) ∧ (0 : Nat) ≤ (1 : Nat),
    fun _ => (0 : Int) ≤ (↑(adLo (Int.toNat (↑(mulLo (Int.toNat (↑(limb a (2 : Nat)) : Int)) (Int.toNat (↑(limb b (0 : Nat)) : Int))) : Int)) (Int.toNat (↑w2 : Int)) (0 : Nat)) : Int) ∧ (0 : Int) ≤ (0 : Int) ∧ (0 : Int) ≤ (0 : Int) ∧ (0 : Nat) ≤ (1 : Nat),
    fun _ => (0 : Int) ≤ (2 : Int) ∧ (2 : Int) < (8 : Int),
    fun _ => (2 : Nat) + (1 : Nat) ≤ (8 : Nat),
    fun _ => true = true,
    fun _ => (0 : Int) ≤ (2 : Int) ∧ (2 : Int) < (4 : Int),
    fun _ => (0 : Int) ≤ (1 : Int) ∧ (1 : Int) < (4 : Int),
    fun _ => Value.int IntKind.u64 (↑(limb a (2 : Nat)) : Int) = Value.int IntKind.u64 (↑(Int.toNat (↑(limb a (2 : Nat)) : Int)) : Int) ∧ Value.int IntKind.u64 (↑(limb b (1 : Nat)) : Int) = Value.int IntKind.u64 (↑(Int.toNat (↑(limb b (1 : Nat)) : Int)) : Int) ∧ Int.toNat (↑(limb a (2 : Nat)) : Int) < (18446744073709551616 : Nat) ∧ Int.toNat (↑(limb b (1 : Nat)) : Int) < (18446744073709551616 : Nat),
    fun _ => (0 : Int) ≤ (3 : Int) ∧ (3 : Int) < (8 : Int),
    fun _ => (0 : Int) ≤ (↑(mulLo (Int.toNat (↑(limb a (2 : Nat)) : Int)) (Int.toNat (↑(limb b (1 : Nat)) : Int))) : Int) ∧ (0 : Int) ≤ (↑w3 : Int) ∧ (0 : Int) ≤ (0 : Int) ∧ (0 : Nat) ≤ (1 : Nat),
    fun _ => (0 : Int) ≤ (↑(adLo (Int.toNat (↑(mulLo (Int.toNat (↑(limb a (2 : Nat)) : Int)) (Int.toNat (↑(limb b (1 : Nat)) : Int))) : Int)) (Int.toNat (↑w3 : Int)) (0 : Nat)) : Int) ∧ (0 : Int) ≤ kHi (limb a 2) (limb b 0) w2 0 ∧ (0 : Int) ≤ (0 : Int) ∧ (0 : Nat) ≤ (1 : Nat),
    fun _ => (0 : Int) ≤ (3 : Int) ∧ (3 : Int) < (8 : Int),
    fun _ => (3 : Nat) + (1 : Nat) ≤ (8 : Nat),
    fun _ => true = true,
    fun _ => (0 : Int) ≤ (2 : Int) ∧ (2 : Int) < (4 : Int),
    fun _ => (0 : Int) ≤ (2 : Int) ∧ (2 : Int) < (4 : Int),
    fun _ => Value.int IntKind.u64 (↑(limb a (2 : Nat)) : Int) = Value.int IntKind.u64 (↑(Int.toNat (↑(limb a (2 : Nat)) : Int)) : Int) ∧ Value.int IntKind.u64 (↑(limb b (2 : Nat)) : Int) = Value.int IntKind.u64 (↑(Int.toNat (↑(limb b (2 : Nat)) : Int)) : Int) ∧ Int.toNat (↑(limb a (2 : Nat)) : Int) < (18446744073709551616 : Nat) ∧ Int.toNat (↑(limb b (2 : Nat)) : Int) < (18446744073709551616 : Nat),
    fun _ => (0 : Int) ≤ (4 : Int) ∧ (4 : Int) < (8 : Int),
    fun _ => (0 : Int) ≤ (↑(mulLo (Int.toNat (↑(limb a (2 : Nat)) : Int)) (Int.toNat (↑(limb b (2 : Nat)) : Int))) : Int) ∧ (0 : Int) ≤ (↑w4 : Int) ∧ (0 : Int) ≤ (0 : Int) ∧ (0 : Nat) ≤ (1 : Nat),
    fun _ => (0 : Int) ≤ (↑(adLo (Int.toNat (↑(mulLo (Int.toNat (↑(limb a (2 : Nat)) : Int)) (Int.toNat (↑(limb b (2 : Nat)) : Int))) : Int)) (Int.toNat (↑w4 : Int)) (0 : Nat)) : Int) ∧ (0 : Int) ≤ kHi (limb a 2) (limb b 1) w3 (kHi (limb a 2) (limb b 0) w2 0) ∧ (0 : Int) ≤ (0 : Int) ∧ (0 : Nat) ≤ (1 : Nat),
    fun _ => (0 : Int) ≤ (4 : Int) ∧ (4 : Int) < (8 : Int),
    fun _ => (4 : Nat) + (1 : Nat) ≤ (8 : Nat),
    fun _ => true = true,
    fun _ => (0 : Int) ≤ (2 : Int) ∧ (2 : Int) < (4 : Int),
    fun _ => (0 : Int) ≤ (3 : Int) ∧ (3 : Int) < (4 : Int),
    fun _ => Value.int IntKind.u64 (↑(limb a (2 : Nat)) : Int) = Value.int IntKind.u64 (↑(Int.toNat (↑(limb a (2 : Nat)) : Int)) : Int) ∧ Value.int IntKind.u64 (↑(limb b (3 : Nat)) : Int) = Value.int IntKind.u64 (↑(Int.toNat (↑(limb b (3 : Nat)) : Int)) : Int) ∧ Int.toNat (↑(limb a (2 : Nat)) : Int) < (18446744073709551616 : Nat) ∧ Int.toNat (↑(limb b (3 : Nat)) : Int) < (18446744073709551616 : Nat),
    fun _ => (0 : Int) ≤ (5 : Int) ∧ (5 : Int) < (8 : Int),
    fun _ => (0 : Int) ≤ (↑(mulLo (Int.toNat (↑(limb a (2 : Nat)) : Int)) (Int.toNat (↑(limb b (3 : Nat)) : Int))) : Int) ∧ (0 : Int) ≤ (↑w5 : Int) ∧ (0 : Int) ≤ (0 : Int) ∧ (0 : Nat) ≤ (1 : Nat),
    fun _ => (0 : Int) ≤ (↑(adLo (Int.toNat (↑(mulLo (Int.toNat (↑(limb a (2 : Nat)) : Int)) (Int.toNat (↑(limb b (3 : Nat)) : Int))) : Int)) (Int.toNat (↑w5 : Int)) (0 : Nat)) : Int) ∧ (0 : Int) ≤ kHi (limb a 2) (limb b 2) w4 (kHi (limb a 2) (limb b 1) w3 (kHi (limb a 2) (limb b 0) w2 0)) ∧ (0 : Int) ≤ (0 : Int) ∧ (0 : Nat) ≤ (1 : Nat),
    fun _ => (0 : Int) ≤ (5 : Int) ∧ (5 : Int) < (8 : Int),
    fun _ => (5 : Nat) + (1 : Nat) ≤ (8 : Nat),
    fun _ => false = false,
    fun _ => (0 : Int) ≤ (6 : Int) ∧ (6 : Int) < (8 : Int),
    fun _ => (6 : Nat) + (1 : Nat) ≤ (8 : Nat)] (It.rnd [(0 : Nat), (0 : Nat), (1 : Nat), (0 : Nat), (1 : Nat), (1 : Nat)] (M + (1 : Nat)) :: kt) (St.mk [((13 : Nat), SV.v (Value.int IntKind.i64 (3 : Int))), ((6 : Nat), SV.p (4 : Nat) (0 : Nat)), ((5 : Nat), SV.p (3 : Nat) (0 : Nat)), ((4 : Nat), SV.p (2 : Nat) (0 : Nat)), ((3 : Nat), SV.p (1 : Nat) (0 : Nat)), ((2 : Nat), SV.p (0 : Nat) (0 : Nat))] [HO.cells [SV.v (Value.int IntKind.u64 (↑(limb a (0 : Nat)) : Int)), SV.v (Value.int IntKind.u64 (↑(limb a (1 : Nat)) : Int)), SV.v (Value.int IntKind.u64 (↑(limb a (2 : Nat)) : Int)), SV.v (Value.int IntKind.u64 (↑(limb a (3 : Nat)) : Int))] (24 : Nat), HO.cells [SV.v (Value.int IntKind.u64 (↑(limb b (0 : Nat)) : Int)), SV.v (Value.int IntKind.u64 (↑(limb b (1 : Nat)) : Int)), SV.v (Value.int IntKind.u64 (↑(limb b (2 : Nat)) : Int)), SV.v (Value.int IntKind.u64 (↑(limb b (3 : Nat)) : Int))] (24 : Nat), HO.cells [SV.v (Value.int IntKind.u64 (↑(limb (0 : Nat) (0 : Nat)) : Int)), SV.v (Value.int IntKind.u64 (↑(limb (0 : Nat) (1 : Nat)) : Int)), SV.v (Value.int IntKind.u64 (↑(limb (0 : Nat) (2 : Nat)) : Int)), SV.v (Value.int IntKind.u64 (↑(limb (0 : Nat) (3 : Nat)) : Int))] (24 : Nat), HO.cells [SV.v (Value.int IntKind.u64 (↑(limb (0 : Nat) (0 : Nat)) : Int)), SV.v (Value.int IntKind.u64 (↑(limb (0 : Nat) (1 : Nat)) : Int)), SV.v (Value.int IntKind.u64 (↑(limb (0 : Nat) (2 : Nat)) : Int)), SV.v (Value.int IntKind.u64 (↑(limb (0 : Nat) (3 : Nat)) : Int))] (24 : Nat), HO.cells [SV.v (Value.int IntKind.u64 (↑w0 : Int)), SV.v (Value.int IntKind.u64 (↑w1 : Int)), SV.v (Value.int IntKind.u64 (↑(kLo (limb a 2) (limb b 0) w2 0) : Int)), SV.v (Value.int IntKind.u64 (↑(kLo (limb a 2) (limb b 1) w3 (kHi (limb a 2) (limb b 0) w2 0)) : Int)), SV.v (Value.int IntKind.u64 (↑(kLo (limb a 2) (limb b 2) w4 (kHi (limb a 2) (limb b 1) w3 (kHi (limb a 2) (limb b 0) w2 0))) : Int)), SV.v (Value.int IntKind.u64 (↑(kLo (limb a 2) (limb b 3) w5 (kHi (limb a 2) (limb b 2) w4 (kHi (limb a 2) (limb b 1) w3 (kHi (limb a 2) (limb b 0) w2 0)))) : Int)), SV.v (Value.int IntKind.u64 (kHi (limb a 2) (limb b 3) w5 (kHi (limb a 2) (limb b 2) w4 (kHi (limb a 2) (limb b 1) w3 (kHi (limb a 2) (limb b 0) w2 0))))), SV.v (Value.int IntKind.u64 (↑w7 : Int))] (48 : Nat)])] 
  := by kernel_rfl 

theorem mulRow3 (a b w0 w1 w2 w3 w4 w5 w6 w7 M : Nat) (kt : List It) : ((xgo Try.prog X (bodyOf Try.f18) 69 CF [([0,1,0,1,1,0,0,1,1,0,0,1,0,1,1],5)] 50 [Dec.t, Dec.t, Dec.t, Dec.t, Dec.t, Dec.f] (Tree.nil) (.at qM :: .rnd qM (M+1) :: kt) (stM a b 3 w0 w1 w2 w3 w4 w5 w6 w7) [] []).map (trims [13, 6, 5, 4, 3, 2])) =
  some [Leaf2.mk [] [fun _ => true = true,
    fun _ => true = true,
    fun _ => (0 : Int) ≤ (3 : Int) ∧ (3 : Int) < (4 : Int),
    fun _ => (0 : Int) ≤ (0 : Int) ∧ (0 : Int) < (4 : Int),
    fun _ => Value.int IntKind.u64 (↑(limb a (3 : Nat)) : Int) = Value.int IntKind.u64 (↑(Int.toNat (↑(limb a (3 : Nat)) : Int)) : Int) ∧ Value.int IntKind.u64 (↑(limb b (0 : Nat)) : Int) = Value.int IntKind.u64 (↑(Int.toNat (↑(limb b (0 : Nat)) : Int)) : Int) ∧ Int.toNat (↑(limb a (3 : Nat)) : Int) < (18446744073709551616 : Nat) ∧ Int.toNat (↑(limb b (0 : Nat)) : Int) < (18446744073709551616 : Nat),
    fun _ => (0 : Int) ≤ (3 : Int) ∧ (3 : Int) < (8 : Int),
    fun _ => (0 : Int) ≤ (↑(mulLo (Int.toNat (↑(limb a (3 : Nat)) : Int)) (Int.toNat (↑(limb b (0 : Nat)) : Int))) : Int) ∧ (0 : Int) ≤ (↑w3 : Int) ∧ (0 : Int) ≤ (0 : Int) ∧ (0 : Nat) ≤ (1 : Nat),
    fun _ => (0 : Int) ≤ (↑(adLo (Int.toNat (↑(mulLo (Int.toNat (↑(limb a (3 : Nat)) : Int)) (Int.toNat (↑(limb b (0 : Nat)) : Int))) : Int)) (Int.toNat (↑w3 : Int)) (0 : Nat)) : Int) ∧ (0 : Int) ≤ (0 : Int) ∧ (0 : Int) ≤ (0 : Int) ∧ (0 : Nat) ≤ (1 : Nat),
    fun _ => (0 : Int) ≤ (3 : Int) ∧ (3 : Int) < (8 : Int),
    fun _ => (3 : Nat) + (1 : Nat) ≤ (8 : Nat),
    fun _ => true = true,
    fun _ => (0 : Int) ≤ (3 : Int) ∧ (3 : Int) < (4 : Int),
    fun _ => (0 : Int) ≤ (1 : Int) ∧ (1 : Int) < (4 : Int),
    fun _ => Value.int IntKind.u64 (↑(limb a (3 : Nat)) : Int) = Value.int IntKind.u64 (↑(Int.toNat (↑(limb a (3 : Nat)) : Int)) : Int) ∧ Value.int IntKind.u64 (↑(limb b (1 : Nat)) : Int) = Value.int IntKind.u64 (↑(Int.toNat (↑(limb b (1 : Nat)) : Int)) : Int) ∧ Int.toNat (↑(limb a (3 : Nat)) : Int) < (18446744073709551616 : Nat) ∧ Int.toNat (↑(limb b (1 : Nat)) : Int) < (18446744073709551616 : Nat),
    fun _ => (0 : Int) ≤ (4 : Int) ∧ (4 : Int) < (8 : Int),
    fun _ => (0 : Int) ≤ (↑(mulLo (Int.toNat (↑(limb a (3 : Nat)) : Int)) (Int.toNat (↑(limb b (1 : Nat)) : Int))) : Int) ∧ (0 : Int) ≤ (↑w4 : Int) ∧ (0 : Int) ≤ (0 : Int) ∧ (0 : Nat) ≤ (1 : Nat),
    fun _ => (0 : Int) ≤ (↑(adLo (Int.toNat (↑(mulLo (Int.toNat (↑(limb a (3 : Nat)) : Int)) (Int.toNat (↑(limb b (1 : Nat)) : Int))) : Int)) (Int.toNat (↑w4 : Int)) (0 : Nat)) : Int) ∧ (0 : Int) ≤ kHi (limb a 3) (limb b 0) w3 0 ∧ (0 : Int) ≤ (0 : Int) ∧ (0 : Nat) ≤ (1 : Nat),
    fun _ => (0 : Int) ≤ (4 : Int) ∧ (4 : Int) < (8 : Int),
    fun _ => (4 : Nat) + (1 : Nat) ≤ (8 : Nat),
    fun _ => true = true,
    fun _ => (0 : Int) ≤ (3 : Int) ∧ (3 : Int) < (4 : Int),
    fun _ => (0 : Int) ≤ (2 : Int) ∧ (2 : Int) < (4 : Int),
    fun _ => Value.int IntKind.u64 (↑(limb a (3 : Nat)) : Int) = Value.int IntKind.u64 (↑(Int.toNat (↑(limb a (3 : Nat)) : Int)) : Int) ∧ Value.int IntKind.u64 (↑(limb b (2 : Nat)) : Int) = Value.int IntKind.u64 (↑(Int.toNat (↑(limb b (2 : Nat)) : Int)) : Int) ∧ Int.toNat (↑(limb a (3 : Nat)) : Int) < (18446744073709551616 : Nat) ∧ Int.toNat (↑(limb b (2 : Nat)) : Int) < (18446744073709551616 : Nat),
    fun _ => (0 : Int) ≤ (5 : Int) ∧ (5 : Int) < (8 : Int),
    fun _ => (0 : Int) ≤ (↑(mulLo (Int.toNat (↑(limb a (3 : Nat)) : Int)) (Int.toNat (↑(limb b (2 : Nat)) : Int))) : Int) ∧ (0 : Int) ≤ (↑w5 : Int) ∧ (0 : Int) ≤ (0 : Int) ∧ (0 : Nat) ≤ (1 : Nat),
    fun _ => (0 : Int) ≤ (↑(adLo (Int.toNat (↑(mulLo (Int.toNat (↑(limb a (3 : Nat)) : Int)) (Int.toNat (↑(limb b (2 : Nat)) : Int))) : Int)) (Int.toNat (↑w5 : Int)) (0 : Nat)) : Int) ∧ (0 : Int) ≤ kHi (limb a 3) (limb b 1) w4 (kHi (limb a 3) (limb b 0) w3 0) ∧ (0 : Int) ≤ (0 : Int) ∧ (0 : Nat) ≤ (1 : Nat),
    fun _ => (0 : Int) ≤ (5 : Int) ∧ (5 : Int) < (8 : Int),
    fun _ => (5 : Nat) + (1 : Nat) ≤ (8 : Nat),
    fun _ => true = true,
    fun _ => (0 : Int) ≤ (3 : Int) ∧ (3 : Int) < (4 : Int),
    fun _ => (0 : Int) ≤ (3 : Int) ∧ (3 : Int) < (4 : Int),
    fun _ => Value.int IntKind.u64 (↑(limb a (3 : Nat)) : Int) = Value.int IntKind.u64 (↑(Int.toNat (↑(limb a (3 : Nat)) : Int)) : Int) ∧ Value.int IntKind.u64 (↑(limb b (3 : Nat)) : Int) = Value.int IntKind.u64 (↑(Int.toNat (↑(limb b (3 : Nat)) : Int)) : Int) ∧ Int.toNat (↑(limb a (3 : Nat)) : Int) < (18446744073709551616 : Nat) ∧ Int.toNat (↑(limb b (3 : Nat)) : Int) < (18446744073709551616 : Nat),
    fun _ => (0 : Int) ≤ (6 : Int) ∧ (6 : Int) < (8 : Int),
    fun _ => (0 : Int) ≤ (↑(mulLo (Int.toNat (↑(limb a (3 : Nat)) : Int)) (Int.toNat (↑(limb b (3 : Nat)) : Int))) : Int) ∧ (0 : Int) ≤ (↑w6 : Int) ∧ (0 : Int) ≤ (0 : Int) ∧ (0 : Nat) ≤ (1 : Nat),
    fun _ => (0 : Int) ≤ (↑(adLo (Int.toNat (↑(mulLo (Int.toNat (↑(limb a (3 : Nat)) : Int)) (Int.toNat (↑(limb b (3 : Nat)) : Int))) : Int)) (Int.toNat (↑w6 : Int)) (0 : Nat)) : Int) ∧ (0 : Int) ≤ kHi (limb a 3) (limb b 2) w5 (kHi (limb a 3) (limb b 1) w4 (kHi (limb a 3) (limb b 0) w3 0)) ∧ (0 : Int) ≤ (0 : Int) ∧ (0 : Nat) ≤ (1 : Nat),
    fun _ => (0 : Int) ≤ (6 : Int) ∧ (6 : Int) < (8 : Int),
    fun _ => (6 : Nat) + (1 : Nat) ≤ (8 : Nat),
    fun _ => false = false,
    fun _ => (0 : Int) ≤ (7 : Int) ∧ (7 : Int) < (8 : Int),
    fun _ => (7 : Nat) + (1 : Nat) ≤ (8 : Nat)] (It.rnd [(0 : Nat), (0 : Nat), (1 : Nat), (0 : Nat), (1 : Nat), (1 : Nat)] (M + (1 : Nat)) :: kt) (St.mk [((13 : Nat), SV.v (Value.int IntKind.i64 (4 : Int))), ((6 : Nat), SV.p (4 : Nat) (0 : Nat)), ((5 : Nat), SV.p (3 : Nat) (0 : Nat)), ((4 : Nat), SV.p (2 : Nat) (0 : Nat)), ((3 : Nat), SV.p (1 : Nat) (0 : Nat)), ((2 : Nat), SV.p (0 : Nat) (0 : Nat))] [HO.cells [SV.v (Value.int IntKind.u64 (↑(limb a (0 : Nat)) : Int)), SV.v (Value.int IntKind.u64 (↑(limb a (1 : Nat)) : Int)), SV.v (Value.int IntKind.u64 (↑(limb a (2 : Nat)) : Int)), SV.v (Value.int IntKind.u64 (↑(limb a (3 : Nat)) : Int))] (24 : Nat), HO.cells [SV.v (Value.int IntKind.u64 (↑(limb b (0 : Nat)) : Int)), SV.v (Value.int IntKind.u64 (↑(limb b (1 : Nat)) : Int)), SV.v (Value.int IntKind.u64 (↑(limb b (2 : Nat)) : Int)), SV.v (Value.int IntKind.u64 (↑(limb b (3 : Nat)) : Int))] (24 : Nat), HO.cells [SV.v (Value.int IntKind.u64 (↑(limb (0 : Nat) (0 : Nat)) : Int)), SV.v (Value.int IntKind.u64 (↑(limb (0 : Nat) (1 : Nat)) : Int)), SV.v (Value.int IntKind.u64 (↑(limb (0 : Nat) (2 : Nat)) : Int)), SV.v (Value.int IntKind.u64 (↑(limb (0 : Nat) (3 : Nat)) : Int))] (24 : Nat), HO.cells [SV.v (Value.int IntKind.u64 (↑(limb (0 : Nat) (0 : Nat)) : Int)), SV.v (Value.int IntKind.u64 (↑(limb (0 : Nat) (1 : Nat)) : Int)), SV.v (Value.int IntKind.u64 (↑(limb (0 : Nat) (2 : Nat)) : Int)), SV.v (Value.int IntKind.u64 (↑(limb (0 : Nat) (3 : Nat)) : Int))] (24 : Nat), HO.cells [SV.v (Value.int IntKind.u64 (↑w0 : Int)), SV.v (Value.int IntKind.u64 (↑w1 : Int)), SV.v (Value.int IntKind.u64 (↑w2 : Int)), SV.v (Value.int IntKind.u64 (↑(kLo (limb a 3) (limb b 0) w3 0) : Int)), SV.v (Value.int IntKind.u64 (↑(kLo (limb a 3) (limb b 1) w4 (kHi (limb a 3) (limb b 0) w3 0)) : Int)), SV.v (Value.int IntKind.u64 (↑(kLo (limb a 3) (limb b 2) w5 (kHi (limb a 3) (limb b 1) w4 (kHi (limb a 3) (limb b 0) w3 0))) : Int)), SV.v (Value.int IntKind.u64 (↑(kLo (limb a 3) (limb b 3) w6 (kHi (limb a 3) (limb b 2) w5 (kHi (limb a 3) (limb b 1) w4 (kHi (limb a 3) (limb b 0) w3 0)))) : Int)), SV.v (Value.int IntKind.u64 (kHi (limb a 3) (limb b 3) w6 (kHi (limb a 3) (limb b 2) w5 (kHi (limb a 3) (limb b 1) w4 (kHi (limb a 3) (limb b 0) w3 0)))))] (48 : Nat)])] 
  := by kernel_rfl 

end Go.Proofs.Ytcipmpamhffclaa

namespace Go.Pl
theorem nat_kHi (x y w : Nat) (c : Int) : ((kHi x y w c).toNat : Int) = kHi x y w c := Int.toNat_of_nonneg (kHi_nonneg x y w c)
theorem mul_nv (x b0 b1 b2 b3 : Nat) : x * nv b0 b1 b2 b3 = x * b0 + 18446744073709551616 * (x * b1) + 340282366920938463463374607431768211456 * (x * b2) + 6277101735386680763835789423207666416102355444464034512896 * (x * b3) := by
  simp only [nv, Nat.mul_add, Nat.mul_left_comm x]
theorem nv_mul (q a0 a1 a2 a3 : Nat) : nv a0 a1 a2 a3 * q = a0 * q + 18446744073709551616 * (a1 * q) + 340282366920938463463374607431768211456 * (a2 * q) + 6277101735386680763835789423207666416102355444464034512896 * (a3 * q) := by
  simp only [nv, Nat.add_mul, Nat.mul_assoc]
/-- A row of the product. -/
theorem row_num (x b0 b1 b2 b3 w0 w1 w2 w3 : Nat) (hx : x < 18446744073709551616) (h0 : b0 < 18446744073709551616) (h1 : b1 < 18446744073709551616) (h2 : b2 < 18446744073709551616) (h3 : b3 < 18446744073709551616)
    (v0 : w0 < 18446744073709551616) (v1 : w1 < 18446744073709551616) (v2 : w2 < 18446744073709551616) (v3 : w3 < 18446744073709551616) :
    ∃ l0 l1 l2 l3 c : Nat, l0 = kLo x b0 w0 0 ∧ l1 = kLo x b1 w1 (kHi x b0 w0 0) ∧ l2 = kLo x b2 w2 (kHi x b1 w1 (kHi x b0 w0 0)) ∧ l3 = kLo x b3 w3 (kHi x b2 w2 (kHi x b1 w1 (kHi x b0 w0 0))) ∧
      c = (kHi x b3 w3 (kHi x b2 w2 (kHi x b1 w1 (kHi x b0 w0 0)))).toNat ∧
      l0 < 18446744073709551616 ∧ l1 < 18446744073709551616 ∧ l2 < 18446744073709551616 ∧ l3 < 18446744073709551616 ∧ c < 18446744073709551616 ∧
      x * nv b0 b1 b2 b3 + nv w0 w1 w2 w3 = nv l0 l1 l2 l3 + 115792089237316195423570985008687907853269984665640564039457584007913129639936 * c := by
  have n0 := kHi_nonneg x b0 w0 0
  obtain ⟨e0, u0, t0⟩ := k_eq x b0 w0 0 hx h0 v0 (by omega) (by omega)
  have n1 := kHi_nonneg x b1 w1 (kHi x b0 w0 0)
  obtain ⟨e1, u1, t1⟩ := k_eq x b1 w1 (kHi x b0 w0 0) hx h1 v1 n0 t0
  have n2 := kHi_nonneg x b2 w2 (kHi x b1 w1 (kHi x b0 w0 0))
  obtain ⟨e2, u2, t2⟩ := k_eq x b2 w2 (kHi x b1 w1 (kHi x b0 w0 0)) hx h2 v2 n1 t1
  have n3 := kHi_nonneg x b3 w3 (kHi x b2 w2 (kHi x b1 w1 (kHi x b0 w0 0)))
  obtain ⟨e3, u3, t3⟩ := k_eq x b3 w3 (kHi x b2 w2 (kHi x b1 w1 (kHi x b0 w0 0))) hx h3 v3 n2 t2
  refine ⟨_, _, _, _, _, rfl, rfl, rfl, rfl, rfl, u0, u1, u2, u3, by omega, ?_⟩
  rw [mul_nv]
  simp only [nv]
  generalize kLo x b3 w3 (kHi x b2 w2 (kHi x b1 w1 (kHi x b0 w0 0))) = l3 at *
  generalize kHi x b3 w3 (kHi x b2 w2 (kHi x b1 w1 (kHi x b0 w0 0))) = c3 at *
  generalize kLo x b2 w2 (kHi x b1 w1 (kHi x b0 w0 0)) = l2 at *
  generalize kHi x b2 w2 (kHi x b1 w1 (kHi x b0 w0 0)) = c2 at *
  generalize kLo x b1 w1 (kHi x b0 w0 0) = l1 at *
  generalize kHi x b1 w1 (kHi x b0 w0 0) = c1 at *
  generalize kLo x b0 w0 0 = l0 at *
  generalize kHi x b0 w0 0 = c0 at *
  generalize x * b0 = p0 at *
  generalize x * b1 = p1 at *
  generalize x * b2 = p2 at *
  generalize x * b3 = p3 at *
  simp only [Int.toNat_zero, Nat.add_zero] at e0
  omega
end Go.Pl
namespace Go.Proofs.Ytcipmpamhffclaa
open Go.Sx Go.Pl Go.RowKit
theorem mul_row0 {w0' : World} {fin : Exit → Act → World → Prop} (hfin : ∀ c (a : Act) (d : Option Tmp) (v : Value) (w : World), fin (.panic c) (a.put d v) w → fin (.panic c) a w)
    (a b w0 w1 w2 w3 w4 w5 w6 w7 M : Nat) (kt : List It) (next : Ok Try.prog (bodyOf Try.f18) 69 (F0 w0') w0' fin (.rnd qM (M + 1) :: kt) (stM a b 1 (kLo (limb a 0) (limb b 0) w0 0) (kLo (limb a 0) (limb b 1) w1 (kHi (limb a 0) (limb b 0) w0 0)) (kLo (limb a 0) (limb b 2) w2 (kHi (limb a 0) (limb b 1) w1 (kHi (limb a 0) (limb b 0) w0 0))) (kLo (limb a 0) (limb b 3) w3 (kHi (limb a 0) (limb b 2) w2 (kHi (limb a 0) (limb b 1) w1 (kHi (limb a 0) (limb b 0) w0 0)))) (kHi (limb a 0) (limb b 3) w3 (kHi (limb a 0) (limb b 2) w2 (kHi (limb a 0) (limb b 1) w1 (kHi (limb a 0) (limb b 0) w0 0)))).toNat w5 w6 w7)) :
    Ok Try.prog (bodyOf Try.f18) 69 (F0 w0') w0' fin (.at qM :: .rnd qM (M + 1) :: kt) (stM a b 0 w0 w1 w2 w3 w4 w5 w6 w7) := by
  refine xgo_trim hm (F0.mono w0') hfin 50 _ _ _ _ _ _ (mulRow0 a b w0 w1 w2 w3 w4 w5 w6 w7 M kt) (paidCons (fun _ => ⟨?_, ?_⟩) paidNil)
  · simp only [hold_cons, hold_nil, and_true, Int.toNat_natCast]
    repeat' apply And.intro
    all_goals (intro _ _; first | trivial | exact ⟨trivial, trivial, limb_lt _ _, limb_lt _ _⟩ | exact ⟨rfl, rfl, limb_lt _ _, limb_lt _ _⟩ | exact ⟨Int.natCast_nonneg _, Int.natCast_nonneg _, by omega, by omega⟩ | exact ⟨Int.natCast_nonneg _, kHi_nonneg _ _ _ _, by omega, by omega⟩ | omega)
  · refine ok_mono ?_ next
    simp only [stM, nat_kHi]
    rfl
theorem mul_row1 {w0' : World} {fin : Exit → Act → World → Prop} (hfin : ∀ c (a : Act) (d : Option Tmp) (v : Value) (w : World), fin (.panic c) (a.put d v) w → fin (.panic c) a w)
    (a b w0 w1 w2 w3 w4 w5 w6 w7 M : Nat) (kt : List It) (next : Ok Try.prog (bodyOf Try.f18) 69 (F0 w0') w0' fin (.rnd qM (M + 1) :: kt) (stM a b 2 w0 (kLo (limb a 1) (limb b 0) w1 0) (kLo (limb a 1) (limb b 1) w2 (kHi (limb a 1) (limb b 0) w1 0)) (kLo (limb a 1) (limb b 2) w3 (kHi (limb a 1) (limb b 1) w2 (kHi (limb a 1) (limb b 0) w1 0))) (kLo (limb a 1) (limb b 3) w4 (kHi (limb a 1) (limb b 2) w3 (kHi (limb a 1) (limb b 1) w2 (kHi (limb a 1) (limb b 0) w1 0)))) (kHi (limb a 1) (limb b 3) w4 (kHi (limb a 1) (limb b 2) w3 (kHi (limb a 1) (limb b 1) w2 (kHi (limb a 1) (limb b 0) w1 0)))).toNat w6 w7)) :
    Ok Try.prog (bodyOf Try.f18) 69 (F0 w0') w0' fin (.at qM :: .rnd qM (M + 1) :: kt) (stM a b 1 w0 w1 w2 w3 w4 w5 w6 w7) := by
  refine xgo_trim hm (F0.mono w0') hfin 50 _ _ _ _ _ _ (mulRow1 a b w0 w1 w2 w3 w4 w5 w6 w7 M kt) (paidCons (fun _ => ⟨?_, ?_⟩) paidNil)
  · simp only [hold_cons, hold_nil, and_true, Int.toNat_natCast]
    repeat' apply And.intro
    all_goals (intro _ _; first | trivial | exact ⟨trivial, trivial, limb_lt _ _, limb_lt _ _⟩ | exact ⟨rfl, rfl, limb_lt _ _, limb_lt _ _⟩ | exact ⟨Int.natCast_nonneg _, Int.natCast_nonneg _, by omega, by omega⟩ | exact ⟨Int.natCast_nonneg _, kHi_nonneg _ _ _ _, by omega, by omega⟩ | omega)
  · refine ok_mono ?_ next
    simp only [stM, nat_kHi]
    rfl
theorem mul_row2 {w0' : World} {fin : Exit → Act → World → Prop} (hfin : ∀ c (a : Act) (d : Option Tmp) (v : Value) (w : World), fin (.panic c) (a.put d v) w → fin (.panic c) a w)
    (a b w0 w1 w2 w3 w4 w5 w6 w7 M : Nat) (kt : List It) (next : Ok Try.prog (bodyOf Try.f18) 69 (F0 w0') w0' fin (.rnd qM (M + 1) :: kt) (stM a b 3 w0 w1 (kLo (limb a 2) (limb b 0) w2 0) (kLo (limb a 2) (limb b 1) w3 (kHi (limb a 2) (limb b 0) w2 0)) (kLo (limb a 2) (limb b 2) w4 (kHi (limb a 2) (limb b 1) w3 (kHi (limb a 2) (limb b 0) w2 0))) (kLo (limb a 2) (limb b 3) w5 (kHi (limb a 2) (limb b 2) w4 (kHi (limb a 2) (limb b 1) w3 (kHi (limb a 2) (limb b 0) w2 0)))) (kHi (limb a 2) (limb b 3) w5 (kHi (limb a 2) (limb b 2) w4 (kHi (limb a 2) (limb b 1) w3 (kHi (limb a 2) (limb b 0) w2 0)))).toNat w7)) :
    Ok Try.prog (bodyOf Try.f18) 69 (F0 w0') w0' fin (.at qM :: .rnd qM (M + 1) :: kt) (stM a b 2 w0 w1 w2 w3 w4 w5 w6 w7) := by
  refine xgo_trim hm (F0.mono w0') hfin 50 _ _ _ _ _ _ (mulRow2 a b w0 w1 w2 w3 w4 w5 w6 w7 M kt) (paidCons (fun _ => ⟨?_, ?_⟩) paidNil)
  · simp only [hold_cons, hold_nil, and_true, Int.toNat_natCast]
    repeat' apply And.intro
    all_goals (intro _ _; first | trivial | exact ⟨trivial, trivial, limb_lt _ _, limb_lt _ _⟩ | exact ⟨rfl, rfl, limb_lt _ _, limb_lt _ _⟩ | exact ⟨Int.natCast_nonneg _, Int.natCast_nonneg _, by omega, by omega⟩ | exact ⟨Int.natCast_nonneg _, kHi_nonneg _ _ _ _, by omega, by omega⟩ | omega)
  · refine ok_mono ?_ next
    simp only [stM, nat_kHi]
    rfl
theorem mul_row3 {w0' : World} {fin : Exit → Act → World → Prop} (hfin : ∀ c (a : Act) (d : Option Tmp) (v : Value) (w : World), fin (.panic c) (a.put d v) w → fin (.panic c) a w)
    (a b w0 w1 w2 w3 w4 w5 w6 w7 M : Nat) (kt : List It) (next : Ok Try.prog (bodyOf Try.f18) 69 (F0 w0') w0' fin (.rnd qM (M + 1) :: kt) (stM a b 4 w0 w1 w2 (kLo (limb a 3) (limb b 0) w3 0) (kLo (limb a 3) (limb b 1) w4 (kHi (limb a 3) (limb b 0) w3 0)) (kLo (limb a 3) (limb b 2) w5 (kHi (limb a 3) (limb b 1) w4 (kHi (limb a 3) (limb b 0) w3 0))) (kLo (limb a 3) (limb b 3) w6 (kHi (limb a 3) (limb b 2) w5 (kHi (limb a 3) (limb b 1) w4 (kHi (limb a 3) (limb b 0) w3 0)))) (kHi (limb a 3) (limb b 3) w6 (kHi (limb a 3) (limb b 2) w5 (kHi (limb a 3) (limb b 1) w4 (kHi (limb a 3) (limb b 0) w3 0)))).toNat)) :
    Ok Try.prog (bodyOf Try.f18) 69 (F0 w0') w0' fin (.at qM :: .rnd qM (M + 1) :: kt) (stM a b 3 w0 w1 w2 w3 w4 w5 w6 w7) := by
  refine xgo_trim hm (F0.mono w0') hfin 50 _ _ _ _ _ _ (mulRow3 a b w0 w1 w2 w3 w4 w5 w6 w7 M kt) (paidCons (fun _ => ⟨?_, ?_⟩) paidNil)
  · simp only [hold_cons, hold_nil, and_true, Int.toNat_natCast]
    repeat' apply And.intro
    all_goals (intro _ _; first | trivial | exact ⟨trivial, trivial, limb_lt _ _, limb_lt _ _⟩ | exact ⟨rfl, rfl, limb_lt _ _, limb_lt _ _⟩ | exact ⟨Int.natCast_nonneg _, Int.natCast_nonneg _, by omega, by omega⟩ | exact ⟨Int.natCast_nonneg _, kHi_nonneg _ _ _ _, by omega, by omega⟩ | omega)
  · refine ok_mono ?_ next
    simp only [stM, nat_kHi]
    rfl
theorem mulStart (a b : Nat) : ((xgo Try.prog X (bodyOf Try.f18) 69 CF [] 50 [] (Tree.nil) [.at []] ⟨argsTm 0 [el a, el b], []⟩ [] []).map (trims [13, 6, 5, 4, 3, 2])) =
  some
  [Leaf2.mk [] []
      [It.at [(0 : Nat), (1 : Nat), (0 : Nat), (1 : Nat), (1 : Nat)], It.blk (0 : Nat),
        It.at [(1 : Nat), (1 : Nat), (1 : Nat)]]
      (St.mk
        [((13 : Nat), SV.v (Value.int IntKind.i64 (0 : Int))), ((6 : Nat), SV.p (4 : Nat) (0 : Nat)),
          ((5 : Nat), SV.p (3 : Nat) (0 : Nat)), ((4 : Nat), SV.p (2 : Nat) (0 : Nat)),
          ((3 : Nat), SV.p (1 : Nat) (0 : Nat)), ((2 : Nat), SV.p (0 : Nat) (0 : Nat))]
        [HO.cells
            [SV.v (Value.int IntKind.u64 (↑(limb a (0 : Nat)) : Int)),
              SV.v (Value.int IntKind.u64 (↑(limb a (1 : Nat)) : Int)),
              SV.v (Value.int IntKind.u64 (↑(limb a (2 : Nat)) : Int)),
              SV.v (Value.int IntKind.u64 (↑(limb a (3 : Nat)) : Int))]
            (24 : Nat),
          HO.cells
            [SV.v (Value.int IntKind.u64 (↑(limb b (0 : Nat)) : Int)),
              SV.v (Value.int IntKind.u64 (↑(limb b (1 : Nat)) : Int)),
              SV.v (Value.int IntKind.u64 (↑(limb b (2 : Nat)) : Int)),
              SV.v (Value.int IntKind.u64 (↑(limb b (3 : Nat)) : Int))]
            (24 : Nat),
          HO.cells
            [SV.v (Value.int IntKind.u64 (0 : Int)), SV.v (Value.int IntKind.u64 (0 : Int)),
              SV.v (Value.int IntKind.u64 (0 : Int)), SV.v (Value.int IntKind.u64 (0 : Int))]
            (24 : Nat),
          HO.cells
            [SV.v (Value.int IntKind.u64 (0 : Int)), SV.v (Value.int IntKind.u64 (0 : Int)),
              SV.v (Value.int IntKind.u64 (0 : Int)), SV.v (Value.int IntKind.u64 (0 : Int))]
            (24 : Nat),
          HO.cells
            [SV.v (Value.int IntKind.u64 (0 : Int)), SV.v (Value.int IntKind.u64 (0 : Int)),
              SV.v (Value.int IntKind.u64 (0 : Int)), SV.v (Value.int IntKind.u64 (0 : Int)),
              SV.v (Value.int IntKind.u64 (0 : Int)), SV.v (Value.int IntKind.u64 (0 : Int)),
              SV.v (Value.int IntKind.u64 (0 : Int)), SV.v (Value.int IntKind.u64 (0 : Int))]
            (48 : Nat)])]
 := by kernel_rfl

theorem mulEnd (a b w0 w1 w2 w3 w4 w5 w6 w7 : Nat) : (((xgo Try.prog X (bodyOf Try.f18) 69 CF [] 50 [Dec.f] (Tree.nil) [.at qM, .rnd qM 0, .blk 0, .at [1,1,1]] (stM a b 4 w0 w1 w2 w3 w4 w5 w6 w7) [] []).bind (ends Try.prog Try.f18.results.toList)).bind plainE) =
  some
  [EndP.mk []
      [fun _ => false = false, fun _ => (0 : Int) ≤ (4 : Int) ∧ (4 : Int) ≤ (8 : Int), fun _ => (4 : Nat) ≤ (4 : Nat),
        fun _ => (0 : Int) ≤ (4 : Int) ∧ (4 : Int) ≤ (8 : Int), fun _ => (4 : Nat) ≤ (4 : Nat), fun _ =>
        (0 : Nat) + (4 : Nat) ≤ (4 : Nat), fun _ => (0 : Nat) + (4 : Nat) ≤ (4 : Nat)]
      (Res.v
        (Value.tuple
          (Array.mk
            [Value.agg
                (Array.mk
                  [Value.int IntKind.u64 (↑w0 : Int), Value.int IntKind.u64 (↑w1 : Int),
                    Value.int IntKind.u64 (↑w2 : Int), Value.int IntKind.u64 (↑w3 : Int)]),
              Value.agg
                (Array.mk
                  [Value.int IntKind.u64 (↑w4 : Int), Value.int IntKind.u64 (↑w5 : Int),
                    Value.int IntKind.u64 (↑w6 : Int), Value.int IntKind.u64 (↑w7 : Int)])]))),
    EndP.mk []
      [fun _ => false = false, fun _ => (0 : Int) ≤ (4 : Int) ∧ (4 : Int) ≤ (8 : Int), fun _ => (4 : Nat) ≤ (4 : Nat),
        fun _ => (0 : Int) ≤ (4 : Int) ∧ (4 : Int) ≤ (8 : Int), fun _ => (4 : Nat) ≤ (4 : Nat), fun _ =>
        (0 : Nat) + (4 : Nat) ≤ (4 : Nat), fun _ => (0 : Nat) + (4 : Nat) ≤ (4 : Nat)]
      (Res.v
        (Value.tuple
          (Array.mk
            [Value.agg
                (Array.mk
                  [Value.int IntKind.u64 (↑w0 : Int), Value.int IntKind.u64 (↑w1 : Int),
                    Value.int IntKind.u64 (↑w2 : Int), Value.int IntKind.u64 (↑w3 : Int)]),
              Value.agg
                (Array.mk
                  [Value.int IntKind.u64 (↑w4 : Int), Value.int IntKind.u64 (↑w5 : Int),
                    Value.int IntKind.u64 (↑w6 : Int), Value.int IntKind.u64 (↑w7 : Int)])]))),
    EndP.mk []
      [fun _ => false = false, fun _ => (0 : Int) ≤ (4 : Int) ∧ (4 : Int) ≤ (8 : Int), fun _ => (4 : Nat) ≤ (4 : Nat),
        fun _ => (0 : Int) ≤ (4 : Int) ∧ (4 : Int) ≤ (8 : Int), fun _ => (4 : Nat) ≤ (4 : Nat), fun _ =>
        (0 : Nat) + (4 : Nat) ≤ (4 : Nat), fun _ => (0 : Nat) + (4 : Nat) ≤ (4 : Nat)]
      (Res.v
        (Value.tuple
          (Array.mk
            [Value.agg
                (Array.mk
                  [Value.int IntKind.u64 (↑w0 : Int), Value.int IntKind.u64 (↑w1 : Int),
                    Value.int IntKind.u64 (↑w2 : Int), Value.int IntKind.u64 (↑w3 : Int)]),
              Value.agg
                (Array.mk
                  [Value.int IntKind.u64 (↑w4 : Int), Value.int IntKind.u64 (↑w5 : Int),
                    Value.int IntKind.u64 (↑w6 : Int), Value.int IntKind.u64 (↑w7 : Int)])])))]
 := by kernel_rfl

theorem mul_ok (a b : Nat) (ha : a < top) (hb : b < top) (w : World) : Calls Try.prog 18 [el a, el b].toArray w (fun E w' => ∃ v, E = .returned v ∧ Res.ok w w' (.v (.tuple #[el (a * b % top), el (a * b / top)])) v ∧ Below w.heap.size w w') := by
  refine con_end (calls_of_ok (B := bodyOf Try.f18) (n := 69) Try.func18 (by kernel_rfl) rfl rfl (F := F0 w) (fun _ _ h => h) ?_)
  have hF := F0.mono w
  refine xgo_trim hm hF finB 50 _ _ _ _ _ _ (mulStart a b) (paidCons (fun _ => ⟨?_, ?_⟩) paidNil)
  · simp only [hold_nil]
  · have hz : (stM a b 0 0 0 0 0 0 0 0 0) = stM a b 0 0 0 0 0 0 0 0 0 := rfl
    have a0 := limb_lt a 0; have a1 := limb_lt a 1; have a2 := limb_lt a 2; have a3 := limb_lt a 3
    have b0 := limb_lt b 0; have b1 := limb_lt b 1; have b2 := limb_lt b 2; have b3 := limb_lt b 3
    obtain ⟨p0, p1, p2, p3, p4, q0, q1, q2, q3, q4, r0, r1, r2, r3, r4, E0⟩ := row_num (limb a 0) (limb b 0) (limb b 1) (limb b 2) (limb b 3) 0 0 0 0 a0 b0 b1 b2 b3 (by omega) (by omega) (by omega) (by omega)
    obtain ⟨p1', p2', p3', p4', p5, q1', q2', q3', q4', q5, r1', r2', r3', r4', r5, E1⟩ := row_num (limb a 1) (limb b 0) (limb b 1) (limb b 2) (limb b 3) p1 p2 p3 p4 a1 b0 b1 b2 b3 r1 r2 r3 r4
    obtain ⟨s2, s3, s4, s5, s6, t2, t3, t4, t5, t6, v2, v3, v4, v5, v6, E2⟩ := row_num (limb a 2) (limb b 0) (limb b 1) (limb b 2) (limb b 3) p2' p3' p4' p5 a2 b0 b1 b2 b3 r2' r3' r4' r5
    obtain ⟨m3, m4, m5, m6, m7, n3, n4, n5, n6, n7, o3, o4, o5, o6, o7, E3⟩ := row_num (limb a 3) (limb b 0) (limb b 1) (limb b 2) (limb b 3) s3 s4 s5 s6 a3 b0 b1 b2 b3 v3 v4 v5 v6
    refine ok_mono (st := stM a b 0 0 0 0 0 0 0 0 0) ?_ (Ok.loop 5 (by kernel_rfl) (Ok.rnd (mul_row0 finB a b 0 0 0 0 0 0 0 0 3 _ (Ok.rnd ?_))))
    · simp only [stM, ec_zero]
      rfl
    rw [← q0, ← q1, ← q2, ← q3, ← q4]
    refine mul_row1 finB a b _ _ _ _ _ _ _ _ 2 _ (Ok.rnd ?_)
    rw [← q1', ← q2', ← q3', ← q4', ← q5]
    refine mul_row2 finB a b _ _ _ _ _ _ _ _ 1 _ (Ok.rnd ?_)
    rw [← t2, ← t3, ← t4, ← t5, ← t6]
    refine mul_row3 finB a b _ _ _ _ _ _ _ _ 0 _ (Ok.rnd ?_)
    rw [← n3, ← n4, ← n5, ← n6, ← n7]
    have hab : a * b = nv p0 p1' s2 m3 + top * nv m4 m5 m6 m7 := by
      have e1 : a = nv (limb a 0) (limb a 1) (limb a 2) (limb a 3) := (nv_self a ha).symm
      have e2 : b = nv (limb b 0) (limb b 1) (limb b 2) (limb b 3) := (nv_self b hb).symm
      rw [← e2] at E0 E1 E2 E3
      have e3 : a * b = nv (limb a 0) (limb a 1) (limb a 2) (limb a 3) * b := congrArg (· * b) e1
      rw [e3, nv_mul]
      generalize limb a 0 * b = P0 at *
      generalize limb a 1 * b = P1 at *
      generalize limb a 2 * b = P2 at *
      generalize limb a 3 * b = P3 at *
      simp only [nv, top] at *
      omega
    have hlo := nv_lt r0 r1' v2 o3
    have h1 : a * b % top = nv p0 p1' s2 m3 := by rw [hab, Nat.add_mul_mod_self_left, Nat.mod_eq_of_lt hlo]
    have h2 : a * b / top = nv m4 m5 m6 m7 := by rw [hab, Nat.add_mul_div_left _ _ top_pos, Nat.div_eq_of_lt hlo, Nat.zero_add]
    have h3 : Res.v (Value.tuple #[.agg #[.int .u64 (p0 : Int), .int .u64 (p1' : Int), .int .u64 (s2 : Int), .int .u64 (m3 : Int)], .agg #[.int .u64 (m4 : Int), .int .u64 (m5 : Int), .int .u64 (m6 : Int), .int .u64 (m7 : Int)]]) = Res.v (.tuple #[el (a * b % top), el (a * b / top)]) := by
      rw [h1, h2, el_nv r0 r1' v2 o3, el_nv o4 o5 o6 o7]
    refine ok_plain hm hF (fun _ h => h) 50 _ _ _ _ (mulEnd a b p0 p1' s2 m3 m4 m5 m6 m7) ⟨fun _ => ⟨?_, h3⟩, ⟨fun _ => ⟨?_, h3⟩, ⟨fun _ => ⟨?_, h3⟩, trivial⟩⟩⟩
    all_goals
      simp only [hold_cons, hold_nil, and_true]
      exact ⟨fun _ _ => trivial, fun _ _ => by omega, fun _ _ => by omega, fun _ _ => by omega, fun _ _ => by omega, fun _ _ => by omega, fun _ _ => by omega⟩
end Go.Proofs.Ytcipmpamhffclaa

namespace Go.Pl
noncomputable def elN (n : Nat) : Nat := nv (Int.toNat (limb n 0 : Nat)) (Int.toNat (limb n 1 : Nat)) (Int.toNat (limb n 2 : Nat)) (Int.toNat (limb n 3 : Nat))
noncomputable def elL (n : Nat) : List Int := [((limb n 0 : Nat) : Int), ((limb n 1 : Nat) : Int), ((limb n 2 : Nat) : Int), ((limb n 3 : Nat) : Int)]
theorem elN_eq {n : Nat} (h : n < top) : elN n = n := by
  simp only [elN, Int.toNat_natCast]
  rw [nv_limb, Nat.mod_eq_of_lt h]
theorem elL_inj {a b : Nat} (ha : a < top) (hb : b < top) (h : elL a = elL b) : a = b := by
  simp only [elL, List.cons.injEq, and_true] at h
  exact eq_of_limbs ha hb (by omega) (by omega) (by omega) (by omega)
theorem elL_zero : elL 0 = [(0 : Int), (0 : Int), (0 : Int), (0 : Int)] := by
  simp [elL, limb0, limb1, limb2, limb3]
theorem elL_isZero {a : Nat} (ha : a < top) (h : elL a = [(0 : Int), (0 : Int), (0 : Int), (0 : Int)]) : a = 0 :=
  elL_inj ha (by simp only [top]; omega) (h.trans elL_zero.symm)
end Go.Pl
namespace Go.Proofs.Ytcipmpamhffclaa
open Go.Sx Go.Pl Go.RowKit
noncomputable def gMul : List RV → Option (Res × Prop)
  | [.v x, .v y] => match unEl x, unEl y with
    | some a, some b => some (.v (.tuple #[el (a * b % top), el (a * b / top)]), x = el a ∧ y = el b ∧ a < top ∧ b < top)
    | _, _ => none
  | _ => none
theorem gMul_ok (rvs : List RV) (r : Res) (p : Prop) (vs : List Value) (w : World) (hg : gMul rvs = some (r, p)) (hp : p) (hv : RVs (wmem w) rvs vs) : Calls Try.prog 18 vs.toArray w (fun E w' => ∃ v, E = .returned v ∧ r.ok w w' v ∧ Below w.heap.size w w') := by
  unfold gMul at hg
  split at hg
  · split at hg
    · simp only [Option.some.injEq, Prod.mk.injEq] at hg
      obtain ⟨rfl, rfl⟩ := hg
      obtain ⟨h1, h2, h3, h4⟩ := hp
      rw [rvs2 hv, h1, h2]
      exact mul_ok _ _ h3 h4 w
    · cases hg
  · cases hg
noncomputable def CG : Con Try.prog := CF.add 18 gMul gMul_ok
end Go.Proofs.Ytcipmpamhffclaa
