/- The law of the names, walked: it answers true. -/
import Derived.Test.YtcipmpamhffclaaW3
namespace Go.Proofs.Ytcipmpamhffclaa
open Go.Sx Go.Pl Go.RowKit
set_option maxRecDepth 100000
theorem run7 : (((xgo Try.prog X (bodyOf Try.f7) 61 C5 [([0,1,0,1,1,1,1,1],33),([0,1,0,1,1,1,1,1,1,1,1],12)] 150 [.f,.t,.f,.f,.t,.f,.f,.t,.f,.f,.t,.f,.f,.t,.f,.f,.t,.f,.f,.t,.f,.f,.t,.f,.f,.t,.f,.f,.t,.f,.f,.t,.f,.f,.t,.f,.f,.t,.f,.f,.t,.f,.f,.t,.f,.f,.t,.f,.f,.t,.f,.f,.t,.f,.f,.t,.f,.f,.t,.f,.f,.t,.f,.f,.t,.f,.f,.t,.f,.f,.t,.f,.f,.t,.f,.f,.t,.f,.f,.t,.f,.f,.t,.f,.f,.t,.f,.f,.t,.f,.f,.t,.f,.f,.t,.f,.f,.f,.t,.f,.f,.t,.f,.f,.t,.f,.f,.t,.f,.f,.t,.f,.f,.t,.f,.f,.t,.f,.f,.t,.f,.f,.t,.f,.f,.t,.f,.f,.t,.f,.f,.f] (.nil) [.at []] ⟨argsTm 0 [], []⟩ [] []).bind (ends Try.prog Try.f7.results.toList)).bind plainE) =
  some
  [EndP.mk []
      [fun _ =>
        [RV.v (Value.string (ByteArray.mk (Array.mk [OfNat.ofNat (120 : Nat)])))] =
          [RV.v (Value.string (ByteArray.mk (Array.mk [OfNat.ofNat (120 : Nat)])))],
        fun _ => (4 : Nat) ≤ (4 : Nat), fun _ => false = false, fun _ => true = true, fun _ => false = false, fun _ =>
        (0 : Int) ≤ (0 : Int) ∧ (0 : Int) < (32 : Int), fun _ => (0 : Nat) < (32 : Nat), fun _ =>
        (0 : Int) ≤ (0 : Int) ∧ (0 : Int) < (32 : Int), fun _ => (0 : Nat) < (32 : Nat), fun _ => false = false,
        fun _ => true = true, fun _ => false = false, fun _ => (0 : Int) ≤ (1 : Int) ∧ (1 : Int) < (32 : Int), fun _ =>
        (0 : Nat) < (32 : Nat), fun _ => (0 : Int) ≤ (1 : Int) ∧ (1 : Int) < (32 : Int), fun _ =>
        (0 : Nat) < (32 : Nat), fun _ => false = false, fun _ => true = true, fun _ => false = false, fun _ =>
        (0 : Int) ≤ (2 : Int) ∧ (2 : Int) < (32 : Int), fun _ => (0 : Nat) < (32 : Nat), fun _ =>
        (0 : Int) ≤ (2 : Int) ∧ (2 : Int) < (32 : Int), fun _ => (0 : Nat) < (32 : Nat), fun _ => false = false,
        fun _ => true = true, fun _ => false = false, fun _ => (0 : Int) ≤ (3 : Int) ∧ (3 : Int) < (32 : Int), fun _ =>
        (0 : Nat) < (32 : Nat), fun _ => (0 : Int) ≤ (3 : Int) ∧ (3 : Int) < (32 : Int), fun _ =>
        (0 : Nat) < (32 : Nat), fun _ => false = false, fun _ => true = true, fun _ => false = false, fun _ =>
        (0 : Int) ≤ (4 : Int) ∧ (4 : Int) < (32 : Int), fun _ => (0 : Nat) < (32 : Nat), fun _ =>
        (0 : Int) ≤ (4 : Int) ∧ (4 : Int) < (32 : Int), fun _ => (0 : Nat) < (32 : Nat), fun _ => false = false,
        fun _ => true = true, fun _ => false = false, fun _ => (0 : Int) ≤ (5 : Int) ∧ (5 : Int) < (32 : Int), fun _ =>
        (0 : Nat) < (32 : Nat), fun _ => (0 : Int) ≤ (5 : Int) ∧ (5 : Int) < (32 : Int), fun _ =>
        (0 : Nat) < (32 : Nat), fun _ => false = false, fun _ => true = true, fun _ => false = false, fun _ =>
        (0 : Int) ≤ (6 : Int) ∧ (6 : Int) < (32 : Int), fun _ => (0 : Nat) < (32 : Nat), fun _ =>
        (0 : Int) ≤ (6 : Int) ∧ (6 : Int) < (32 : Int), fun _ => (0 : Nat) < (32 : Nat), fun _ => false = false,
        fun _ => true = true, fun _ => false = false, fun _ => (0 : Int) ≤ (7 : Int) ∧ (7 : Int) < (32 : Int), fun _ =>
        (0 : Nat) < (32 : Nat), fun _ => (0 : Int) ≤ (7 : Int) ∧ (7 : Int) < (32 : Int), fun _ =>
        (0 : Nat) < (32 : Nat), fun _ => false = false, fun _ => true = true, fun _ => false = false, fun _ =>
        (0 : Int) ≤ (8 : Int) ∧ (8 : Int) < (32 : Int), fun _ => (0 : Nat) < (32 : Nat), fun _ =>
        (0 : Int) ≤ (8 : Int) ∧ (8 : Int) < (32 : Int), fun _ => (0 : Nat) < (32 : Nat), fun _ => false = false,
        fun _ => true = true, fun _ => false = false, fun _ => (0 : Int) ≤ (9 : Int) ∧ (9 : Int) < (32 : Int), fun _ =>
        (0 : Nat) < (32 : Nat), fun _ => (0 : Int) ≤ (9 : Int) ∧ (9 : Int) < (32 : Int), fun _ =>
        (0 : Nat) < (32 : Nat), fun _ => false = false, fun _ => true = true, fun _ => false = false, fun _ =>
        (0 : Int) ≤ (10 : Int) ∧ (10 : Int) < (32 : Int), fun _ => (0 : Nat) < (32 : Nat), fun _ =>
        (0 : Int) ≤ (10 : Int) ∧ (10 : Int) < (32 : Int), fun _ => (0 : Nat) < (32 : Nat), fun _ => false = false,
        fun _ => true = true, fun _ => false = false, fun _ => (0 : Int) ≤ (11 : Int) ∧ (11 : Int) < (32 : Int),
        fun _ => (0 : Nat) < (32 : Nat), fun _ => (0 : Int) ≤ (11 : Int) ∧ (11 : Int) < (32 : Int), fun _ =>
        (0 : Nat) < (32 : Nat), fun _ => false = false, fun _ => true = true, fun _ => false = false, fun _ =>
        (0 : Int) ≤ (12 : Int) ∧ (12 : Int) < (32 : Int), fun _ => (0 : Nat) < (32 : Nat), fun _ =>
        (0 : Int) ≤ (12 : Int) ∧ (12 : Int) < (32 : Int), fun _ => (0 : Nat) < (32 : Nat), fun _ => false = false,
        fun _ => true = true, fun _ => false = false, fun _ => (0 : Int) ≤ (13 : Int) ∧ (13 : Int) < (32 : Int),
        fun _ => (0 : Nat) < (32 : Nat), fun _ => (0 : Int) ≤ (13 : Int) ∧ (13 : Int) < (32 : Int), fun _ =>
        (0 : Nat) < (32 : Nat), fun _ => false = false, fun _ => true = true, fun _ => false = false, fun _ =>
        (0 : Int) ≤ (14 : Int) ∧ (14 : Int) < (32 : Int), fun _ => (0 : Nat) < (32 : Nat), fun _ =>
        (0 : Int) ≤ (14 : Int) ∧ (14 : Int) < (32 : Int), fun _ => (0 : Nat) < (32 : Nat), fun _ => false = false,
        fun _ => true = true, fun _ => false = false, fun _ => (0 : Int) ≤ (15 : Int) ∧ (15 : Int) < (32 : Int),
        fun _ => (0 : Nat) < (32 : Nat), fun _ => (0 : Int) ≤ (15 : Int) ∧ (15 : Int) < (32 : Int), fun _ =>
        (0 : Nat) < (32 : Nat), fun _ => false = false, fun _ => true = true, fun _ => false = false, fun _ =>
        (0 : Int) ≤ (16 : Int) ∧ (16 : Int) < (32 : Int), fun _ => (0 : Nat) < (32 : Nat), fun _ =>
        (0 : Int) ≤ (16 : Int) ∧ (16 : Int) < (32 : Int), fun _ => (0 : Nat) < (32 : Nat), fun _ => false = false,
        fun _ => true = true, fun _ => false = false, fun _ => (0 : Int) ≤ (17 : Int) ∧ (17 : Int) < (32 : Int),
        fun _ => (0 : Nat) < (32 : Nat), fun _ => (0 : Int) ≤ (17 : Int) ∧ (17 : Int) < (32 : Int), fun _ =>
        (0 : Nat) < (32 : Nat), fun _ => false = false, fun _ => true = true, fun _ => false = false, fun _ =>
        (0 : Int) ≤ (18 : Int) ∧ (18 : Int) < (32 : Int), fun _ => (0 : Nat) < (32 : Nat), fun _ =>
        (0 : Int) ≤ (18 : Int) ∧ (18 : Int) < (32 : Int), fun _ => (0 : Nat) < (32 : Nat), fun _ => false = false,
        fun _ => true = true, fun _ => false = false, fun _ => (0 : Int) ≤ (19 : Int) ∧ (19 : Int) < (32 : Int),
        fun _ => (0 : Nat) < (32 : Nat), fun _ => (0 : Int) ≤ (19 : Int) ∧ (19 : Int) < (32 : Int), fun _ =>
        (0 : Nat) < (32 : Nat), fun _ => false = false, fun _ => true = true, fun _ => false = false, fun _ =>
        (0 : Int) ≤ (20 : Int) ∧ (20 : Int) < (32 : Int), fun _ => (0 : Nat) < (32 : Nat), fun _ =>
        (0 : Int) ≤ (20 : Int) ∧ (20 : Int) < (32 : Int), fun _ => (0 : Nat) < (32 : Nat), fun _ => false = false,
        fun _ => true = true, fun _ => false = false, fun _ => (0 : Int) ≤ (21 : Int) ∧ (21 : Int) < (32 : Int),
        fun _ => (0 : Nat) < (32 : Nat), fun _ => (0 : Int) ≤ (21 : Int) ∧ (21 : Int) < (32 : Int), fun _ =>
        (0 : Nat) < (32 : Nat), fun _ => false = false, fun _ => true = true, fun _ => false = false, fun _ =>
        (0 : Int) ≤ (22 : Int) ∧ (22 : Int) < (32 : Int), fun _ => (0 : Nat) < (32 : Nat), fun _ =>
        (0 : Int) ≤ (22 : Int) ∧ (22 : Int) < (32 : Int), fun _ => (0 : Nat) < (32 : Nat), fun _ => false = false,
        fun _ => true = true, fun _ => false = false, fun _ => (0 : Int) ≤ (23 : Int) ∧ (23 : Int) < (32 : Int),
        fun _ => (0 : Nat) < (32 : Nat), fun _ => (0 : Int) ≤ (23 : Int) ∧ (23 : Int) < (32 : Int), fun _ =>
        (0 : Nat) < (32 : Nat), fun _ => false = false, fun _ => true = true, fun _ => false = false, fun _ =>
        (0 : Int) ≤ (24 : Int) ∧ (24 : Int) < (32 : Int), fun _ => (0 : Nat) < (32 : Nat), fun _ =>
        (0 : Int) ≤ (24 : Int) ∧ (24 : Int) < (32 : Int), fun _ => (0 : Nat) < (32 : Nat), fun _ => false = false,
        fun _ => true = true, fun _ => false = false, fun _ => (0 : Int) ≤ (25 : Int) ∧ (25 : Int) < (32 : Int),
        fun _ => (0 : Nat) < (32 : Nat), fun _ => (0 : Int) ≤ (25 : Int) ∧ (25 : Int) < (32 : Int), fun _ =>
        (0 : Nat) < (32 : Nat), fun _ => false = false, fun _ => true = true, fun _ => false = false, fun _ =>
        (0 : Int) ≤ (26 : Int) ∧ (26 : Int) < (32 : Int), fun _ => (0 : Nat) < (32 : Nat), fun _ =>
        (0 : Int) ≤ (26 : Int) ∧ (26 : Int) < (32 : Int), fun _ => (0 : Nat) < (32 : Nat), fun _ => false = false,
        fun _ => true = true, fun _ => false = false, fun _ => (0 : Int) ≤ (27 : Int) ∧ (27 : Int) < (32 : Int),
        fun _ => (0 : Nat) < (32 : Nat), fun _ => (0 : Int) ≤ (27 : Int) ∧ (27 : Int) < (32 : Int), fun _ =>
        (0 : Nat) < (32 : Nat), fun _ => false = false, fun _ => true = true, fun _ => false = false, fun _ =>
        (0 : Int) ≤ (28 : Int) ∧ (28 : Int) < (32 : Int), fun _ => (0 : Nat) < (32 : Nat), fun _ =>
        (0 : Int) ≤ (28 : Int) ∧ (28 : Int) < (32 : Int), fun _ => (0 : Nat) < (32 : Nat), fun _ => false = false,
        fun _ => true = true, fun _ => false = false, fun _ => (0 : Int) ≤ (29 : Int) ∧ (29 : Int) < (32 : Int),
        fun _ => (0 : Nat) < (32 : Nat), fun _ => (0 : Int) ≤ (29 : Int) ∧ (29 : Int) < (32 : Int), fun _ =>
        (0 : Nat) < (32 : Nat), fun _ => false = false, fun _ => true = true, fun _ => false = false, fun _ =>
        (0 : Int) ≤ (30 : Int) ∧ (30 : Int) < (32 : Int), fun _ => (0 : Nat) < (32 : Nat), fun _ =>
        (0 : Int) ≤ (30 : Int) ∧ (30 : Int) < (32 : Int), fun _ => (0 : Nat) < (32 : Nat), fun _ => false = false,
        fun _ => true = true, fun _ => false = false, fun _ => (0 : Int) ≤ (31 : Int) ∧ (31 : Int) < (32 : Int),
        fun _ => (0 : Nat) < (32 : Nat), fun _ => (0 : Int) ≤ (31 : Int) ∧ (31 : Int) < (32 : Int), fun _ =>
        (0 : Nat) < (32 : Nat), fun _ => false = false, fun _ => false = false, fun _ => true = true, fun _ =>
        false = false, fun _ => (0 : Int) ≤ (0 : Int) ∧ (0 : Int) < (11 : Int), fun _ => (0 : Nat) < (11 : Nat),
        fun _ => (0 : Int) ≤ (0 : Int) ∧ (0 : Int) < (11 : Int), fun _ => (0 : Nat) < (11 : Nat), fun _ =>
        false = false, fun _ => true = true, fun _ => false = false, fun _ =>
        (0 : Int) ≤ (1 : Int) ∧ (1 : Int) < (11 : Int), fun _ => (0 : Nat) < (11 : Nat), fun _ =>
        (0 : Int) ≤ (1 : Int) ∧ (1 : Int) < (11 : Int), fun _ => (0 : Nat) < (11 : Nat), fun _ => false = false,
        fun _ => true = true, fun _ => false = false, fun _ => (0 : Int) ≤ (2 : Int) ∧ (2 : Int) < (11 : Int), fun _ =>
        (0 : Nat) < (11 : Nat), fun _ => (0 : Int) ≤ (2 : Int) ∧ (2 : Int) < (11 : Int), fun _ =>
        (0 : Nat) < (11 : Nat), fun _ => false = false, fun _ => true = true, fun _ => false = false, fun _ =>
        (0 : Int) ≤ (3 : Int) ∧ (3 : Int) < (11 : Int), fun _ => (0 : Nat) < (11 : Nat), fun _ =>
        (0 : Int) ≤ (3 : Int) ∧ (3 : Int) < (11 : Int), fun _ => (0 : Nat) < (11 : Nat), fun _ => false = false,
        fun _ => true = true, fun _ => false = false, fun _ => (0 : Int) ≤ (4 : Int) ∧ (4 : Int) < (11 : Int), fun _ =>
        (0 : Nat) < (11 : Nat), fun _ => (0 : Int) ≤ (4 : Int) ∧ (4 : Int) < (11 : Int), fun _ =>
        (0 : Nat) < (11 : Nat), fun _ => false = false, fun _ => true = true, fun _ => false = false, fun _ =>
        (0 : Int) ≤ (5 : Int) ∧ (5 : Int) < (11 : Int), fun _ => (0 : Nat) < (11 : Nat), fun _ =>
        (0 : Int) ≤ (5 : Int) ∧ (5 : Int) < (11 : Int), fun _ => (0 : Nat) < (11 : Nat), fun _ => false = false,
        fun _ => true = true, fun _ => false = false, fun _ => (0 : Int) ≤ (6 : Int) ∧ (6 : Int) < (11 : Int), fun _ =>
        (0 : Nat) < (11 : Nat), fun _ => (0 : Int) ≤ (6 : Int) ∧ (6 : Int) < (11 : Int), fun _ =>
        (0 : Nat) < (11 : Nat), fun _ => false = false, fun _ => true = true, fun _ => false = false, fun _ =>
        (0 : Int) ≤ (7 : Int) ∧ (7 : Int) < (11 : Int), fun _ => (0 : Nat) < (11 : Nat), fun _ =>
        (0 : Int) ≤ (7 : Int) ∧ (7 : Int) < (11 : Int), fun _ => (0 : Nat) < (11 : Nat), fun _ => false = false,
        fun _ => true = true, fun _ => false = false, fun _ => (0 : Int) ≤ (8 : Int) ∧ (8 : Int) < (11 : Int), fun _ =>
        (0 : Nat) < (11 : Nat), fun _ => (0 : Int) ≤ (8 : Int) ∧ (8 : Int) < (11 : Int), fun _ =>
        (0 : Nat) < (11 : Nat), fun _ => false = false, fun _ => true = true, fun _ => false = false, fun _ =>
        (0 : Int) ≤ (9 : Int) ∧ (9 : Int) < (11 : Int), fun _ => (0 : Nat) < (11 : Nat), fun _ =>
        (0 : Int) ≤ (9 : Int) ∧ (9 : Int) < (11 : Int), fun _ => (0 : Nat) < (11 : Nat), fun _ => false = false,
        fun _ => true = true, fun _ => false = false, fun _ => (0 : Int) ≤ (10 : Int) ∧ (10 : Int) < (11 : Int),
        fun _ => (0 : Nat) < (11 : Nat), fun _ => (0 : Int) ≤ (10 : Int) ∧ (10 : Int) < (11 : Int), fun _ =>
        (0 : Nat) < (11 : Nat), fun _ => false = false, fun _ => false = false]
      (Res.v (Value.bool true))]
 := by kernel_rfl

theorem names_ok (w : World) : Calls Try.prog 7 ([] : List Value).toArray w (fun E w' => ∃ v, E = .returned v ∧ Res.ok w w' (.v (.bool true)) v ∧ Below w.heap.size w w') :=
  con_end (calls_plain hm Try.func7 (by kernel_rfl) rfl rfl 150 _ _ run7 ⟨fun _ => ⟨by
    simp only [hold_cons, hold_nil, and_true]
    repeat' apply And.intro
    all_goals (intro _ _; first | trivial | omega), rfl⟩, trivial⟩)
theorem law_end {f : FuncId} {args : List Value} {w : World} (h : Calls Try.prog f args.toArray w (fun E w' => ∃ v, E = .returned v ∧ Res.ok w w' (.v (.bool true)) v ∧ Below w.heap.size w w')) :
    Calls Try.prog f args.toArray w (fun E w' => E = .returned (.bool true) ∧ Below w.heap.size w w') :=
  h.mono fun _ _ ⟨_, h1, h2, h3⟩ => ⟨by rw [h1]; exact congrArg _ h2, h3⟩
end Go.Proofs.Ytcipmpamhffclaa
