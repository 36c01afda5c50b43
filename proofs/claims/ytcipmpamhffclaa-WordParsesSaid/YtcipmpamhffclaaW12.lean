/- The call that all laws of words make first: it answers true. -/
import Derived.Test.YtcipmpamhffclaaW11
import Derived.Test.YtcipmpamhffclaaW2
namespace Go.Proofs.Ytcipmpamhffclaa
open Go.Sx Go.Pl Go.RowKit
noncomputable def gRem : List RV → Option (Res × Prop)
  | [.v x, .v y, .v z] => match unEl x, unEl y, unEl z with
    | some a, some b, some m => some (.v (remV a b m), x = el a ∧ y = el b ∧ z = el m ∧ a < top ∧ b < top ∧ m < top)
    | _, _, _ => none
  | _ => none
theorem rvs3 {M : Mem} {x y z : Value} {vs : List Value} (h : RVs M [.v x, .v y, .v z] vs) : vs = [x, y, z] := by
  match vs, h with
  | [a, b, c], ⟨h1, h2, h3, _⟩ => rw [h1, h2, h3]
theorem gRem_ok (rvs : List RV) (r : Res) (p : Prop) (vs : List Value) (w : World) (hg : gRem rvs = some (r, p)) (hp : p) (hv : RVs (wmem w) rvs vs) : Calls Try.prog 20 vs.toArray w (fun E w' => ∃ v, E = .returned v ∧ r.ok w w' v ∧ Below w.heap.size w w') := by
  unfold gRem at hg
  split at hg
  · split at hg
    · simp only [Option.some.injEq, Prod.mk.injEq] at hg
      obtain ⟨rfl, rfl⟩ := hg
      obtain ⟨h1, h2, h3, h4, h5, h6⟩ := hp
      rw [rvs3 hv, h1, h2, h3]
      exact rem_ok _ _ _ h4 h5 h6 w
    · cases hg
  · cases hg
noncomputable def CB : Con Try.prog := CA.add 20 gRem gRem_ok
theorem run11  : (((xgo Try.prog X (bodyOf Try.f11) 17 CB [] 50 [Dec.ld
    (SV.v
      (Value.tuple
        (Array.mk
          [Value.agg
              (Array.mk
                [Value.int IntKind.u64 (3 : Int), Value.int IntKind.u64 (0 : Int), Value.int IntKind.u64 (0 : Int),
                  Value.int IntKind.u64 (0 : Int)]),
            Value.int IntKind.i64 (0 : Int)]))),
  Dec.t] (Tree.nil) [.at []] ⟨argsTm 0 [], []⟩ [] []).bind (ends Try.prog Try.f11.results.toList)).bind plainE) =
  some
  [EndP.mk []
      [fun _ =>
        Value.agg
              (Array.mk
                [Value.int IntKind.u64 (7 : Int), Value.int IntKind.u64 (0 : Int), Value.int IntKind.u64 (0 : Int),
                  Value.int IntKind.u64 (0 : Int)]) =
            Value.agg
              (Array.mk
                [Value.int IntKind.u64 (↑(limb (7 : Nat) (0 : Nat)) : Int),
                  Value.int IntKind.u64 (↑(limb (7 : Nat) (1 : Nat)) : Int),
                  Value.int IntKind.u64 (↑(limb (7 : Nat) (2 : Nat)) : Int),
                  Value.int IntKind.u64 (↑(limb (7 : Nat) (3 : Nat)) : Int)]) ∧
          Value.agg
                (Array.mk
                  [Value.int IntKind.u64 (1 : Int), Value.int IntKind.u64 (0 : Int), Value.int IntKind.u64 (0 : Int),
                    Value.int IntKind.u64 (0 : Int)]) =
              Value.agg
                (Array.mk
                  [Value.int IntKind.u64 (↑(limb (1 : Nat) (0 : Nat)) : Int),
                    Value.int IntKind.u64 (↑(limb (1 : Nat) (1 : Nat)) : Int),
                    Value.int IntKind.u64 (↑(limb (1 : Nat) (2 : Nat)) : Int),
                    Value.int IntKind.u64 (↑(limb (1 : Nat) (3 : Nat)) : Int)]) ∧
            Value.agg
                  (Array.mk
                    [Value.int IntKind.u64 (10 : Int), Value.int IntKind.u64 (0 : Int), Value.int IntKind.u64 (0 : Int),
                      Value.int IntKind.u64 (0 : Int)]) =
                Value.agg
                  (Array.mk
                    [Value.int IntKind.u64 (↑(limb (10 : Nat) (0 : Nat)) : Int),
                      Value.int IntKind.u64 (↑(limb (10 : Nat) (1 : Nat)) : Int),
                      Value.int IntKind.u64 (↑(limb (10 : Nat) (2 : Nat)) : Int),
                      Value.int IntKind.u64 (↑(limb (10 : Nat) (3 : Nat)) : Int)]) ∧
              (7 : Nat) < (115792089237316195423570985008687907853269984665640564039457584007913129639936 : Nat) ∧
                (1 : Nat) < (115792089237316195423570985008687907853269984665640564039457584007913129639936 : Nat) ∧
                  (10 : Nat) < (115792089237316195423570985008687907853269984665640564039457584007913129639936 : Nat),
        fun _ =>
        Value.tuple
            (Array.mk
              [Value.agg
                  (Array.mk
                    [Value.int IntKind.u64 (↑(limb (3 : Nat) (0 : Nat)) : Int),
                      Value.int IntKind.u64 (↑(limb (3 : Nat) (1 : Nat)) : Int),
                      Value.int IntKind.u64 (↑(limb (3 : Nat) (2 : Nat)) : Int),
                      Value.int IntKind.u64 (↑(limb (3 : Nat) (3 : Nat)) : Int)]),
                Value.int IntKind.i64 (0 : Int)]) =
          Value.tuple
            (Array.mk
              [Value.agg
                  (Array.mk
                    [Value.int IntKind.u64 (3 : Int), Value.int IntKind.u64 (0 : Int), Value.int IntKind.u64 (0 : Int),
                      Value.int IntKind.u64 (0 : Int)]),
                Value.int IntKind.i64 (0 : Int)]),
        fun _ => (4 : Nat) ≤ (4 : Nat), fun _ => true = true]
      (Res.v (Value.bool true))]
 := by kernel_rfl

theorem limb_small (n : Nat) (h : n < 18446744073709551616) : limb n 0 = n ∧ limb n 1 = 0 ∧ limb n 2 = 0 ∧ limb n 3 = 0 := by
  simp only [limb0, limb1, limb2, limb3]; omega
theorem alive_ok (w : World) : Calls Try.prog 11 ([] : List Value).toArray w (fun E w' => ∃ v, E = .returned v ∧ Res.ok w w' (.v (.bool true)) v ∧ Below w.heap.size w w') := by
  obtain ⟨a0, a1, a2, a3⟩ := limb_small 7 (by omega)
  obtain ⟨b0, b1, b2, b3⟩ := limb_small 1 (by omega)
  obtain ⟨c0, c1, c2, c3⟩ := limb_small 10 (by omega)
  obtain ⟨d0, d1, d2, d3⟩ := limb_small 3 (by omega)
  refine con_end (calls_plain hm Try.func11 (by kernel_rfl) rfl rfl 50 _ _ run11 ⟨fun _ => ⟨?_, rfl⟩, trivial⟩)
  simp only [hold_cons, hold_nil, and_true, a0, a1, a2, a3, b0, b1, b2, b3, c0, c1, c2, c3, d0, d1, d2, d3]
  repeat' apply And.intro
  all_goals (intro _ _; first | trivial | exact ⟨rfl, rfl, rfl, by omega, by omega, by omega⟩ | rfl | omega)
noncomputable def CC : Con Try.prog := CB.add 11 (konst [] (.v (.bool true))) (konst_ok alive_ok)
end Go.Proofs.Ytcipmpamhffclaa
