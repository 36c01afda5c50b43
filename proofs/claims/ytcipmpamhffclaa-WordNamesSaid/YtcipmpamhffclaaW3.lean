/- The names of the errors and limits: one text that is refused, and the lists. -/
import Derived.Test.YtcipmpamhffclaaW2
namespace Go.Proofs.Ytcipmpamhffclaa
open Go.Sx Go.Pl Go.RowKit
theorem run40x  : (((xgo Try.prog X (bodyOf Try.f40) 56 C3 [] 50 [Dec.t, Dec.f, Dec.f, Dec.f, Dec.f, Dec.f, Dec.f, Dec.f, Dec.f, Dec.f] (Tree.nil) [.at []] ⟨argsTm 0 [.int .i32 120, .int .u64 10], []⟩ [] []).bind (ends Try.prog Try.f40.results.toList)).bind plainE) =
  some
  [EndP.mk []
      [fun _ => true = true, fun _ => false = false, fun _ => false = false, fun _ => false = false, fun _ =>
        false = false, fun _ => false = false, fun _ => false = false, fun _ => false = false, fun _ => false = false,
        fun _ => false = false]
      (Res.v (Value.tuple (Array.mk [Value.int IntKind.u64 (0 : Int), Value.bool false])))]
 := by kernel_rfl

theorem digitx_ok (w : World) : Calls Try.prog 40 [.int .i32 120, .int .u64 10].toArray w (fun E w' => ∃ v, E = .returned v ∧ Res.ok w w' (.v (.tuple #[.int .u64 0, .bool false])) v ∧ Below w.heap.size w w') :=
  con_end (calls_plain hm Try.func40 (by kernel_rfl) rfl rfl 50 _ _ run40x ⟨fun _ => ⟨by
    simp only [hold_cons, hold_nil, and_true]
    repeat' apply And.intro
    all_goals (intro _ _; first | trivial | omega), rfl⟩, trivial⟩)
noncomputable def C4 : Con Try.prog := C3.add 40 (konst [.int .i32 120, .int .u64 10] (.v (.tuple #[.int .u64 0, .bool false]))) (konst_ok digitx_ok)
theorem run22x  : (((xgo Try.prog X (bodyOf Try.f22) 71 C4 [([0,1,0,1,1,1,1,1,1,1],3)] 50 [Dec.f, Dec.f, Dec.t, Dec.f, Dec.f, Dec.t, Dec.t] (Tree.nil) [.at []] ⟨argsTm 0 [.string ⟨#[120]⟩], []⟩ [] []).bind (ends Try.prog Try.f22.results.toList)).bind plainE) =
  some
  [EndP.mk []
      [fun _ => false = false, fun _ => True, fun _ => false = false, fun _ => (0 : Nat) < (1 : Nat), fun _ =>
        false = false, fun _ => false = false, fun _ =>
        [RV.v (Value.int IntKind.i32 (120 : Int)), RV.v (Value.int IntKind.u64 (10 : Int))] =
          [RV.v (Value.int IntKind.i32 (120 : Int)), RV.v (Value.int IntKind.u64 (10 : Int))],
        fun _ => true = true, fun _ => true = true, fun _ => (4 : Nat) ≤ (4 : Nat)]
      (Res.v
        (Value.tuple
          (Array.mk
            [Value.agg
                (Array.mk
                  [Value.int IntKind.u64 (0 : Int), Value.int IntKind.u64 (0 : Int), Value.int IntKind.u64 (0 : Int),
                    Value.int IntKind.u64 (0 : Int)]),
              Value.int IntKind.i64 (11 : Int)])))]
 := by kernel_rfl

theorem parsex_ok (w : World) : Calls Try.prog 22 [.string ⟨#[120]⟩].toArray w (fun E w' => ∃ v, E = .returned v ∧ Res.ok w w' (.v (.tuple #[.agg #[.int .u64 0, .int .u64 0, .int .u64 0, .int .u64 0], .int .i64 11])) v ∧ Below w.heap.size w w') :=
  con_end (calls_plain hm Try.func22 (by kernel_rfl) rfl rfl 50 _ _ run22x ⟨fun _ => ⟨by
    simp only [hold_cons, hold_nil, and_true]
    repeat' apply And.intro
    all_goals (intro _ _; first | trivial | omega), rfl⟩, trivial⟩)
noncomputable def C5 : Con Try.prog := C4.add 22 (konst [.string ⟨#[120]⟩] (.v (.tuple #[.agg #[.int .u64 0, .int .u64 0, .int .u64 0, .int .u64 0], .int .i64 11]))) (konst_ok parsex_ok)
end Go.Proofs.Ytcipmpamhffclaa
