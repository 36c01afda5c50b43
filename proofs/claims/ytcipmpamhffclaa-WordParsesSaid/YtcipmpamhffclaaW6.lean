/- Shifts of words by one place. -/
import Derived.Test.YtcipmpamhffclaaW1
namespace Go.Proofs.Ytcipmpamhffclaa
open Go.Sx Go.Pl Go.RowKit
theorem run35 (a : Nat) (b : Nat) : (((xgo Try.prog X (bodyOf Try.f35) 25 C0 [([0,1,0,1],5)] 50 [Dec.t, Dec.t, Dec.t, Dec.t, Dec.f] (Tree.nil) [.at []] ⟨argsTm 0 [el a, .int .u64 (b : Int)], []⟩ [] []).bind (ends Try.prog Try.f35.results.toList)).bind plainE) =
  some
  [EndP.mk []
      [fun _ => true = true, fun _ => (0 : Int) ≤ (0 : Int) ∧ (0 : Int) < (4 : Int), fun _ => ¬(1 : Int) < (0 : Int),
        fun _ => (0 : Int) ≤ (0 : Int) ∧ (0 : Int) < (4 : Int), fun _ => ¬(63 : Int) < (0 : Int), fun _ =>
        (0 : Int) ≤ (0 : Int) ∧ (0 : Int) < (4 : Int), fun _ => (1 : Nat) ≤ (4 : Nat), fun _ => true = true, fun _ =>
        (0 : Int) ≤ (1 : Int) ∧ (1 : Int) < (4 : Int), fun _ => ¬(1 : Int) < (0 : Int), fun _ =>
        (0 : Int) ≤ (1 : Int) ∧ (1 : Int) < (4 : Int), fun _ => ¬(63 : Int) < (0 : Int), fun _ =>
        (0 : Int) ≤ (1 : Int) ∧ (1 : Int) < (4 : Int), fun _ => (2 : Nat) ≤ (4 : Nat), fun _ => true = true, fun _ =>
        (0 : Int) ≤ (2 : Int) ∧ (2 : Int) < (4 : Int), fun _ => ¬(1 : Int) < (0 : Int), fun _ =>
        (0 : Int) ≤ (2 : Int) ∧ (2 : Int) < (4 : Int), fun _ => ¬(63 : Int) < (0 : Int), fun _ =>
        (0 : Int) ≤ (2 : Int) ∧ (2 : Int) < (4 : Int), fun _ => (3 : Nat) ≤ (4 : Nat), fun _ => true = true, fun _ =>
        (0 : Int) ≤ (3 : Int) ∧ (3 : Int) < (4 : Int), fun _ => ¬(1 : Int) < (0 : Int), fun _ =>
        (0 : Int) ≤ (3 : Int) ∧ (3 : Int) < (4 : Int), fun _ => ¬(63 : Int) < (0 : Int), fun _ =>
        (0 : Int) ≤ (3 : Int) ∧ (3 : Int) < (4 : Int), fun _ => (4 : Nat) ≤ (4 : Nat), fun _ => false = false, fun _ =>
        (4 : Nat) ≤ (4 : Nat)]
      (Res.v
        (Value.tuple
          (Array.mk
            [Value.agg
                (Array.mk
                  [Value.int IntKind.u64
                      (IntKind.wrap IntKind.u64
                        (↑(Int.toNat
                                (IntKind.wrap IntKind.u64 ((↑(limb a (0 : Nat)) : Int) * (2 : Int)) %
                                  (18446744073709551616 : Int)) |||
                              Int.toNat ((↑b : Int) % (18446744073709551616 : Int))) :
                          Int)),
                    Value.int IntKind.u64
                      (IntKind.wrap IntKind.u64
                        (↑(Int.toNat
                                (IntKind.wrap IntKind.u64 ((↑(limb a (1 : Nat)) : Int) * (2 : Int)) %
                                  (18446744073709551616 : Int)) |||
                              Int.toNat
                                (Int.fdiv (↑(limb a (0 : Nat)) : Int) (9223372036854775808 : Int) %
                                  (18446744073709551616 : Int))) :
                          Int)),
                    Value.int IntKind.u64
                      (IntKind.wrap IntKind.u64
                        (↑(Int.toNat
                                (IntKind.wrap IntKind.u64 ((↑(limb a (2 : Nat)) : Int) * (2 : Int)) %
                                  (18446744073709551616 : Int)) |||
                              Int.toNat
                                (Int.fdiv (↑(limb a (1 : Nat)) : Int) (9223372036854775808 : Int) %
                                  (18446744073709551616 : Int))) :
                          Int)),
                    Value.int IntKind.u64
                      (IntKind.wrap IntKind.u64
                        (↑(Int.toNat
                                (IntKind.wrap IntKind.u64 ((↑(limb a (3 : Nat)) : Int) * (2 : Int)) %
                                  (18446744073709551616 : Int)) |||
                              Int.toNat
                                (Int.fdiv (↑(limb a (2 : Nat)) : Int) (9223372036854775808 : Int) %
                                  (18446744073709551616 : Int))) :
                          Int))]),
              Value.int IntKind.u64 (Int.fdiv (↑(limb a (3 : Nat)) : Int) (9223372036854775808 : Int))])))]
 := by kernel_rfl

theorem wrap_u64 (z : Int) : IntKind.wrap .u64 z = z % 18446744073709551616 := by
  simp [IntKind.wrap, IntKind.bits, IntKind.signed]
theorem shl1 (x c : Nat) (hc : c ≤ 1) (z : Int) (hz : z = c) : IntKind.wrap .u64 (↑(Int.toNat (IntKind.wrap .u64 ((x : Int) * 2) % 18446744073709551616) ||| Int.toNat (z % 18446744073709551616)) : Int) = (((2 * x + c) % 18446744073709551616 : Nat) : Int) := by
  subst hz
  rw [wrap_u64, wrap_u64]
  have h1 : Int.toNat ((x : Int) * 2 % 18446744073709551616 % 18446744073709551616) = 2 ^ 1 * (x % 9223372036854775808) := by omega
  have h2 : Int.toNat ((c : Int) % 18446744073709551616) = c := by omega
  rw [h1, h2, ← Nat.two_pow_add_eq_or_of_lt (by omega : c < 2 ^ 1)]
  omega
theorem fd63 (x : Nat) (hx : x < 18446744073709551616) : Int.fdiv (x : Int) 9223372036854775808 = ((x / 9223372036854775808 : Nat) : Int) ∧ x / 9223372036854775808 ≤ 1 := by
  constructor
  · rw [Int.fdiv_eq_ediv_of_nonneg _ (by omega)]; omega
  · omega
theorem shift_ok (a b : Nat) (ha : a < top) (hb : b ≤ 1) (w : World) : Calls Try.prog 35 [el a, .int .u64 (b : Int)].toArray w (fun E w' => ∃ v, E = .returned v ∧ Res.ok w w' (.v (.tuple #[el (2 * a + b), .int .u64 ((limb a 3 / 9223372036854775808 : Nat) : Int)])) v ∧ Below w.heap.size w w') := by
  refine con_end (calls_plain hm Try.func35 (by kernel_rfl) rfl rfl 50 _ _ (run35 a b) ⟨fun _ => ⟨?_, ?_⟩, trivial⟩)
  · simp only [hold_cons, hold_nil, and_true]
    repeat' apply And.intro
    all_goals (intro _ _; first | trivial | omega)
  · obtain ⟨f0, g0⟩ := fd63 (limb a 0) (limb_lt a 0)
    obtain ⟨f1, g1⟩ := fd63 (limb a 1) (limb_lt a 1)
    obtain ⟨f2, g2⟩ := fd63 (limb a 2) (limb_lt a 2)
    obtain ⟨f3, g3⟩ := fd63 (limb a 3) (limb_lt a 3)
    rw [shl1 (limb a 0) b hb _ rfl, shl1 (limb a 1) _ g0 _ f0, shl1 (limb a 2) _ g1 _ f1, shl1 (limb a 3) _ g2 _ f2, f3]
    have h0 := limb_lt a 0
    have h1 := limb_lt a 1
    have h2 := limb_lt a 2
    have h3 := limb_lt a 3
    have hs := nv_self a ha
    generalize limb a 0 = a0 at *
    generalize limb a 1 = a1 at *
    generalize limb a 2 = a2 at *
    generalize limb a 3 = a3 at *
    have h : el (2 * a + b) = el (nv ((2 * a0 + b) % 18446744073709551616) ((2 * a1 + a0 / 9223372036854775808) % 18446744073709551616) ((2 * a2 + a1 / 9223372036854775808) % 18446744073709551616) ((2 * a3 + a2 / 9223372036854775808) % 18446744073709551616)) := by
      rw [← el_add_top (nv _ _ _ _) (a3 / 9223372036854775808)]
      congr 1
      subst hs
      simp only [nv, top]
      omega
    rw [h, el_nv (Nat.mod_lt _ (by omega)) (Nat.mod_lt _ (by omega)) (Nat.mod_lt _ (by omega)) (Nat.mod_lt _ (by omega))]
end Go.Proofs.Ytcipmpamhffclaa

namespace Go.Proofs.Ytcipmpamhffclaa
open Go.Sx Go.Pl Go.RowKit
noncomputable def gAdd : List RV → Option (Res × Prop)
  | [.v x, .v y] => match unEl x, unEl y with
    | some a, some b => some (.v (.tuple #[el (a + b), .bool (decide (top ≤ a + b))]), x = el a ∧ y = el b ∧ a < top ∧ b < top)
    | _, _ => none
  | _ => none
noncomputable def gSub : List RV → Option (Res × Prop)
  | [.v x, .v y] => match unEl x, unEl y with
    | some a, some b => some (.v (.tuple #[el (a + top - b), .bool (decide (a < b))]), x = el a ∧ y = el b ∧ a < top ∧ b < top)
    | _, _ => none
  | _ => none
noncomputable def gShift : List RV → Option (Res × Prop)
  | [.v x, .v y] => match unEl x, unU y with
    | some a, some b => some (.v (.tuple #[el (2 * a + b), .int .u64 ((limb a 3 / 9223372036854775808 : Nat) : Int)]), x = el a ∧ y = .int .u64 (b : Int) ∧ a < top ∧ b ≤ 1)
    | _, _ => none
  | _ => none
theorem rvs2 {M : Mem} {x y : Value} {vs : List Value} (h : RVs M [.v x, .v y] vs) : vs = [x, y] := by
  match vs, h with
  | [a, b], ⟨h1, h2, _⟩ => rw [h1, h2]
theorem gAdd_ok (rvs : List RV) (r : Res) (p : Prop) (vs : List Value) (w : World) (hg : gAdd rvs = some (r, p)) (hp : p) (hv : RVs (wmem w) rvs vs) : Calls Try.prog 12 vs.toArray w (fun E w' => ∃ v, E = .returned v ∧ r.ok w w' v ∧ Below w.heap.size w w') := by
  unfold gAdd at hg
  split at hg
  · split at hg
    · simp only [Option.some.injEq, Prod.mk.injEq] at hg
      obtain ⟨rfl, rfl⟩ := hg
      obtain ⟨h1, h2, h3, h4⟩ := hp
      rw [rvs2 hv, h1, h2]
      exact add_ok _ _ h3 h4 w
    · cases hg
  · cases hg
theorem gSub_ok (rvs : List RV) (r : Res) (p : Prop) (vs : List Value) (w : World) (hg : gSub rvs = some (r, p)) (hp : p) (hv : RVs (wmem w) rvs vs) : Calls Try.prog 14 vs.toArray w (fun E w' => ∃ v, E = .returned v ∧ r.ok w w' v ∧ Below w.heap.size w w') := by
  unfold gSub at hg
  split at hg
  · split at hg
    · simp only [Option.some.injEq, Prod.mk.injEq] at hg
      obtain ⟨rfl, rfl⟩ := hg
      obtain ⟨h1, h2, h3, h4⟩ := hp
      rw [rvs2 hv, h1, h2]
      exact sub_ok _ _ h3 h4 w
    · cases hg
  · cases hg
theorem gShift_ok (rvs : List RV) (r : Res) (p : Prop) (vs : List Value) (w : World) (hg : gShift rvs = some (r, p)) (hp : p) (hv : RVs (wmem w) rvs vs) : Calls Try.prog 35 vs.toArray w (fun E w' => ∃ v, E = .returned v ∧ r.ok w w' v ∧ Below w.heap.size w w') := by
  unfold gShift at hg
  split at hg
  · split at hg
    · simp only [Option.some.injEq, Prod.mk.injEq] at hg
      obtain ⟨rfl, rfl⟩ := hg
      obtain ⟨h1, h2, h3, h4⟩ := hp
      rw [rvs2 hv, h1, h2]
      exact shift_ok _ _ h3 h4 w
    · cases hg
  · cases hg
noncomputable def CA : Con Try.prog := ((C0.add 12 gAdd gAdd_ok).add 14 gSub gSub_ok).add 35 gShift gShift_ok
/-- What a caller pays: its numbers are words. -/
theorem unEl_pay (a : Nat) (ha : a < top) : el a = el (nv (Int.toNat (limb a 0 : Nat)) (Int.toNat (limb a 1 : Nat)) (Int.toNat (limb a 2 : Nat)) (Int.toNat (limb a 3 : Nat))) ∧ nv (Int.toNat (limb a 0 : Nat)) (Int.toNat (limb a 1 : Nat)) (Int.toNat (limb a 2 : Nat)) (Int.toNat (limb a 3 : Nat)) = a := by
  simp only [Int.toNat_natCast]
  rw [nv_self a ha]
  exact ⟨rfl, rfl⟩
end Go.Proofs.Ytcipmpamhffclaa
