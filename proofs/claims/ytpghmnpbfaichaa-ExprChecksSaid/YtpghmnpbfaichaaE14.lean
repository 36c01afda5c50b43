/- The document's side: are the nodes right? -/
import Derived.Test.YtpghmnpbfaichaaE12
namespace Go.Proofs.Ytpghmnpbfaichaa
open Go.Sx Go.Pl Go.RowKit
set_option linter.unusedVariables false
set_option hygiene false in
macro "sidesk" : tactic => `(tactic| (simp only [hold_cons, hold_nil, and_true]; repeat' apply And.intro
                                      all_goals first | exact hold_cells hx | exact hold_cells hx2 | (intro _ _; side1)))
theorem kd0 (ad : Addr) (n cap k M : Nat) (f a i : Int) (op x y z0 z1 z2 z3 : Int) (kt : List It) : ((xgo Try.prog X (bodyOf Try.f45) 61 K13 [] 60 [.t, .ld (.agg [.v (.int .i64 op), .v (.int .i64 x), .v (.int .i64 y), .v (.int .u64 z0), .v (.int .u64 z1), .v (.int .u64 z2), .v (.int .u64 z3)]), .f, .f] ((.nil)) (.at [0,0,1,0,1,1,1] :: .rnd [0,0,1,0,1,1,1] (M + 1) :: kt) ⟨[(10, .v (.int .i64 (k : Int))), (9, .p 0 0), (8, .v (.int .i64 0)), (0, .v (.slice (some ad) n cap))], [.cells [.v (.int .i64 f), .v (.int .i64 a), .v (.int .i64 i)] 94]⟩ [] []).map (trims [10, 9, 8, 0])) =
  some [Leaf2.mk [] [fun _ => decide ((↑k : Int) < (↑n : Int)) = true,
    fun _ => (0 : Int) ≤ (↑k : Int) ∧ (↑k : Int) < (↑n : Int),
    fun _ => true = true, fun M => MCells (fun a => M a) (some (if Int.toNat (↑k : Int) * (7 : Nat) = (0 : Nat) then ad else Addr.mk ad.1 (ad.2 + Int.toNat (↑k : Int) * (7 : Nat)) none)) [Value.int IntKind.i64 op, Value.int IntKind.i64 x, Value.int IntKind.i64 y, Value.int IntKind.u64 z0, Value.int IntKind.u64 z1, Value.int IntKind.u64 z2, Value.int IntKind.u64 z3],
    fun _ => (0 : Nat) + (7 : Nat) ≤ (7 : Nat),
    fun _ => True,
    fun _ => qyB op = false,
    fun _ => false = false] (It.rnd [(0 : Nat), (0 : Nat), (1 : Nat), (0 : Nat), (1 : Nat), (1 : Nat), (1 : Nat)] (M + (1 : Nat)) :: kt) (St.mk [((10 : Nat), SV.v (Value.int IntKind.i64 (IntKind.wrap IntKind.i64 ((↑k : Int) + (1 : Int))))), ((9 : Nat), SV.p (0 : Nat) (0 : Nat)), ((8 : Nat), SV.v (Value.int IntKind.i64 (0 : Int))), ((0 : Nat), SV.v (Value.slice (some ad) n cap))] [HO.cells [SV.v (Value.int IntKind.i64 f), SV.v (Value.int IntKind.i64 a), SV.v (Value.int IntKind.i64 i)] (94 : Nat), HO.cells [SV.v (Value.int IntKind.i64 op), SV.v (Value.int IntKind.i64 x), SV.v (Value.int IntKind.i64 y), SV.v (Value.int IntKind.u64 z0), SV.v (Value.int IntKind.u64 z1), SV.v (Value.int IntKind.u64 z2), SV.v (Value.int IntKind.u64 z3)] (43 : Nat)])]
  := by kernel_rfl

theorem kd2 (ad : Addr) (n cap k M : Nat) (f a i : Int) (x y z0 z1 z2 z3 : Int) (kt : List It) : ((xgo Try.prog X (bodyOf Try.f45) 61 K13 [] 60 [.t, .ld (.agg [.v (.int .i64 2), .v (.int .i64 x), .v (.int .i64 y), .v (.int .u64 z0), .v (.int .u64 z1), .v (.int .u64 z2), .v (.int .u64 z3)]), .t, .f, .f, .f, .f] ((.nil)) (.at [0,0,1,0,1,1,1] :: .rnd [0,0,1,0,1,1,1] (M + 1) :: kt) ⟨[(10, .v (.int .i64 (k : Int))), (9, .p 0 0), (8, .v (.int .i64 0)), (0, .v (.slice (some ad) n cap))], [.cells [.v (.int .i64 f), .v (.int .i64 a), .v (.int .i64 i)] 94]⟩ [] []).map (trims [10, 9, 8, 0])) =
  some [Leaf2.mk [] [fun _ => decide ((↑k : Int) < (↑n : Int)) = true,
    fun _ => (0 : Int) ≤ (↑k : Int) ∧ (↑k : Int) < (↑n : Int),
    fun _ => true = true, fun M => MCells (fun a => M a) (some (if Int.toNat (↑k : Int) * (7 : Nat) = (0 : Nat) then ad else Addr.mk ad.1 (ad.2 + Int.toNat (↑k : Int) * (7 : Nat)) none)) [Value.int IntKind.i64 (2 : Int), Value.int IntKind.i64 x, Value.int IntKind.i64 y, Value.int IntKind.u64 z0, Value.int IntKind.u64 z1, Value.int IntKind.u64 z2, Value.int IntKind.u64 z3],
    fun _ => (0 : Nat) + (7 : Nat) ≤ (7 : Nat),
    fun _ => True,
    fun _ => qyB (2 : Int) = true,
    fun _ => decide (x < (0 : Int)) = false,
    fun _ => (0 : Int) ≤ (0 : Int) ∧ (0 : Int) < (3 : Int),
    fun _ => decide (f ≤ x) = false,
    fun _ => decide (y < (-3 : Int)) = false,
    fun _ => decide ((3 : Int) < y) = false] (It.rnd [(0 : Nat), (0 : Nat), (1 : Nat), (0 : Nat), (1 : Nat), (1 : Nat), (1 : Nat)] (M + (1 : Nat)) :: kt) (St.mk [((10 : Nat), SV.v (Value.int IntKind.i64 (IntKind.wrap IntKind.i64 ((↑k : Int) + (1 : Int))))), ((9 : Nat), SV.p (0 : Nat) (0 : Nat)), ((8 : Nat), SV.v (Value.int IntKind.i64 (0 : Int))), ((0 : Nat), SV.v (Value.slice (some ad) n cap))] [HO.cells [SV.v (Value.int IntKind.i64 f), SV.v (Value.int IntKind.i64 a), SV.v (Value.int IntKind.i64 i)] (94 : Nat), HO.cells [SV.v (Value.int IntKind.i64 (2 : Int)), SV.v (Value.int IntKind.i64 x), SV.v (Value.int IntKind.i64 y), SV.v (Value.int IntKind.u64 z0), SV.v (Value.int IntKind.u64 z1), SV.v (Value.int IntKind.u64 z2), SV.v (Value.int IntKind.u64 z3)] (43 : Nat)])]
  := by kernel_rfl

theorem ke2a (ad : Addr) (n cap k M : Nat) (f a i : Int) (x y z0 z1 z2 z3 : Int) : (((xgo Try.prog X (bodyOf Try.f45) 61 K13 [] 60 [.t, .ld (.agg [.v (.int .i64 2), .v (.int .i64 x), .v (.int .i64 y), .v (.int .u64 z0), .v (.int .u64 z1), .v (.int .u64 z2), .v (.int .u64 z3)]), .t, .t, .t, .t, .t] ((.nil)) [.at [0,0,1,0,1,1,1], .rnd [0,0,1,0,1,1,1] (M + 1), .blk 0, .at [1,1,1,1]] ⟨[(10, .v (.int .i64 (k : Int))), (9, .p 0 0), (8, .v (.int .i64 0)), (0, .v (.slice (some ad) n cap))], [.cells [.v (.int .i64 f), .v (.int .i64 a), .v (.int .i64 i)] 94]⟩ [] []).bind (ends Try.prog Try.f45.results.toList)).bind plainE) =
  some [EndP.mk [] [fun _ => decide ((↑k : Int) < (↑n : Int)) = true,
    fun _ => (0 : Int) ≤ (↑k : Int) ∧ (↑k : Int) < (↑n : Int),
    fun _ => true = true, fun M => MCells (fun a => M a) (some (if Int.toNat (↑k : Int) * (7 : Nat) = (0 : Nat) then ad else Addr.mk ad.1 (ad.2 + Int.toNat (↑k : Int) * (7 : Nat)) none)) [Value.int IntKind.i64 (2 : Int), Value.int IntKind.i64 x, Value.int IntKind.i64 y, Value.int IntKind.u64 z0, Value.int IntKind.u64 z1, Value.int IntKind.u64 z2, Value.int IntKind.u64 z3],
    fun _ => (0 : Nat) + (7 : Nat) ≤ (7 : Nat),
    fun _ => True,
    fun _ => qyB (2 : Int) = true,
    fun _ => decide (x < (0 : Int)) = true,
    fun _ => true = true,
    fun _ => true = true,
    fun _ => true = true] (Res.v (Value.int IntKind.i64 (110 : Int)))]
  := by kernel_rfl

theorem ke2b (ad : Addr) (n cap k M : Nat) (f a i : Int) (x y z0 z1 z2 z3 : Int) : (((xgo Try.prog X (bodyOf Try.f45) 61 K13 [] 60 [.t, .ld (.agg [.v (.int .i64 2), .v (.int .i64 x), .v (.int .i64 y), .v (.int .u64 z0), .v (.int .u64 z1), .v (.int .u64 z2), .v (.int .u64 z3)]), .t, .f, .t, .t, .t] ((.nil)) [.at [0,0,1,0,1,1,1], .rnd [0,0,1,0,1,1,1] (M + 1), .blk 0, .at [1,1,1,1]] ⟨[(10, .v (.int .i64 (k : Int))), (9, .p 0 0), (8, .v (.int .i64 0)), (0, .v (.slice (some ad) n cap))], [.cells [.v (.int .i64 f), .v (.int .i64 a), .v (.int .i64 i)] 94]⟩ [] []).bind (ends Try.prog Try.f45.results.toList)).bind plainE) =
  some [EndP.mk [] [fun _ => decide ((↑k : Int) < (↑n : Int)) = true,
    fun _ => (0 : Int) ≤ (↑k : Int) ∧ (↑k : Int) < (↑n : Int),
    fun _ => true = true, fun M => MCells (fun a => M a) (some (if Int.toNat (↑k : Int) * (7 : Nat) = (0 : Nat) then ad else Addr.mk ad.1 (ad.2 + Int.toNat (↑k : Int) * (7 : Nat)) none)) [Value.int IntKind.i64 (2 : Int), Value.int IntKind.i64 x, Value.int IntKind.i64 y, Value.int IntKind.u64 z0, Value.int IntKind.u64 z1, Value.int IntKind.u64 z2, Value.int IntKind.u64 z3],
    fun _ => (0 : Nat) + (7 : Nat) ≤ (7 : Nat),
    fun _ => True,
    fun _ => qyB (2 : Int) = true,
    fun _ => decide (x < (0 : Int)) = false,
    fun _ => (0 : Int) ≤ (0 : Int) ∧ (0 : Int) < (3 : Int),
    fun _ => decide (f ≤ x) = true,
    fun _ => true = true,
    fun _ => true = true] (Res.v (Value.int IntKind.i64 (110 : Int)))]
  := by kernel_rfl

theorem ke2c (ad : Addr) (n cap k M : Nat) (f a i : Int) (x y z0 z1 z2 z3 : Int) : (((xgo Try.prog X (bodyOf Try.f45) 61 K13 [] 60 [.t, .ld (.agg [.v (.int .i64 2), .v (.int .i64 x), .v (.int .i64 y), .v (.int .u64 z0), .v (.int .u64 z1), .v (.int .u64 z2), .v (.int .u64 z3)]), .t, .f, .f, .t, .t] ((.nil)) [.at [0,0,1,0,1,1,1], .rnd [0,0,1,0,1,1,1] (M + 1), .blk 0, .at [1,1,1,1]] ⟨[(10, .v (.int .i64 (k : Int))), (9, .p 0 0), (8, .v (.int .i64 0)), (0, .v (.slice (some ad) n cap))], [.cells [.v (.int .i64 f), .v (.int .i64 a), .v (.int .i64 i)] 94]⟩ [] []).bind (ends Try.prog Try.f45.results.toList)).bind plainE) =
  some [EndP.mk [] [fun _ => decide ((↑k : Int) < (↑n : Int)) = true,
    fun _ => (0 : Int) ≤ (↑k : Int) ∧ (↑k : Int) < (↑n : Int),
    fun _ => true = true, fun M => MCells (fun a => M a) (some (if Int.toNat (↑k : Int) * (7 : Nat) = (0 : Nat) then ad else Addr.mk ad.1 (ad.2 + Int.toNat (↑k : Int) * (7 : Nat)) none)) [Value.int IntKind.i64 (2 : Int), Value.int IntKind.i64 x, Value.int IntKind.i64 y, Value.int IntKind.u64 z0, Value.int IntKind.u64 z1, Value.int IntKind.u64 z2, Value.int IntKind.u64 z3],
    fun _ => (0 : Nat) + (7 : Nat) ≤ (7 : Nat),
    fun _ => True,
    fun _ => qyB (2 : Int) = true,
    fun _ => decide (x < (0 : Int)) = false,
    fun _ => (0 : Int) ≤ (0 : Int) ∧ (0 : Int) < (3 : Int),
    fun _ => decide (f ≤ x) = false,
    fun _ => decide (y < (-3 : Int)) = true,
    fun _ => true = true] (Res.v (Value.int IntKind.i64 (110 : Int)))]
  := by kernel_rfl

theorem ke2d (ad : Addr) (n cap k M : Nat) (f a i : Int) (x y z0 z1 z2 z3 : Int) : (((xgo Try.prog X (bodyOf Try.f45) 61 K13 [] 60 [.t, .ld (.agg [.v (.int .i64 2), .v (.int .i64 x), .v (.int .i64 y), .v (.int .u64 z0), .v (.int .u64 z1), .v (.int .u64 z2), .v (.int .u64 z3)]), .t, .f, .f, .f, .t] ((.nil)) [.at [0,0,1,0,1,1,1], .rnd [0,0,1,0,1,1,1] (M + 1), .blk 0, .at [1,1,1,1]] ⟨[(10, .v (.int .i64 (k : Int))), (9, .p 0 0), (8, .v (.int .i64 0)), (0, .v (.slice (some ad) n cap))], [.cells [.v (.int .i64 f), .v (.int .i64 a), .v (.int .i64 i)] 94]⟩ [] []).bind (ends Try.prog Try.f45.results.toList)).bind plainE) =
  some [EndP.mk [] [fun _ => decide ((↑k : Int) < (↑n : Int)) = true,
    fun _ => (0 : Int) ≤ (↑k : Int) ∧ (↑k : Int) < (↑n : Int),
    fun _ => true = true, fun M => MCells (fun a => M a) (some (if Int.toNat (↑k : Int) * (7 : Nat) = (0 : Nat) then ad else Addr.mk ad.1 (ad.2 + Int.toNat (↑k : Int) * (7 : Nat)) none)) [Value.int IntKind.i64 (2 : Int), Value.int IntKind.i64 x, Value.int IntKind.i64 y, Value.int IntKind.u64 z0, Value.int IntKind.u64 z1, Value.int IntKind.u64 z2, Value.int IntKind.u64 z3],
    fun _ => (0 : Nat) + (7 : Nat) ≤ (7 : Nat),
    fun _ => True,
    fun _ => qyB (2 : Int) = true,
    fun _ => decide (x < (0 : Int)) = false,
    fun _ => (0 : Int) ≤ (0 : Int) ∧ (0 : Int) < (3 : Int),
    fun _ => decide (f ≤ x) = false,
    fun _ => decide (y < (-3 : Int)) = false,
    fun _ => decide ((3 : Int) < y) = true] (Res.v (Value.int IntKind.i64 (110 : Int)))]
  := by kernel_rfl

theorem kd3 (ad : Addr) (n cap k M : Nat) (f a i : Int) (x y z0 z1 z2 z3 : Int) (kt : List It) : ((xgo Try.prog X (bodyOf Try.f45) 61 K13 [] 60 [.t, .ld (.agg [.v (.int .i64 3), .v (.int .i64 x), .v (.int .i64 y), .v (.int .u64 z0), .v (.int .u64 z1), .v (.int .u64 z2), .v (.int .u64 z3)]), .t, .f, .f, .f, .f] ((.nil)) (.at [0,0,1,0,1,1,1] :: .rnd [0,0,1,0,1,1,1] (M + 1) :: kt) ⟨[(10, .v (.int .i64 (k : Int))), (9, .p 0 0), (8, .v (.int .i64 0)), (0, .v (.slice (some ad) n cap))], [.cells [.v (.int .i64 f), .v (.int .i64 a), .v (.int .i64 i)] 94]⟩ [] []).map (trims [10, 9, 8, 0])) =
  some [Leaf2.mk [] [fun _ => decide ((↑k : Int) < (↑n : Int)) = true,
    fun _ => (0 : Int) ≤ (↑k : Int) ∧ (↑k : Int) < (↑n : Int),
    fun _ => true = true, fun M => MCells (fun a => M a) (some (if Int.toNat (↑k : Int) * (7 : Nat) = (0 : Nat) then ad else Addr.mk ad.1 (ad.2 + Int.toNat (↑k : Int) * (7 : Nat)) none)) [Value.int IntKind.i64 (3 : Int), Value.int IntKind.i64 x, Value.int IntKind.i64 y, Value.int IntKind.u64 z0, Value.int IntKind.u64 z1, Value.int IntKind.u64 z2, Value.int IntKind.u64 z3],
    fun _ => (0 : Nat) + (7 : Nat) ≤ (7 : Nat),
    fun _ => True,
    fun _ => qyB (3 : Int) = true,
    fun _ => decide (x < (0 : Int)) = false,
    fun _ => (0 : Int) ≤ (1 : Int) ∧ (1 : Int) < (3 : Int),
    fun _ => decide (a ≤ x) = false,
    fun _ => decide (y < (-3 : Int)) = false,
    fun _ => decide ((3 : Int) < y) = false] (It.rnd [(0 : Nat), (0 : Nat), (1 : Nat), (0 : Nat), (1 : Nat), (1 : Nat), (1 : Nat)] (M + (1 : Nat)) :: kt) (St.mk [((10 : Nat), SV.v (Value.int IntKind.i64 (IntKind.wrap IntKind.i64 ((↑k : Int) + (1 : Int))))), ((9 : Nat), SV.p (0 : Nat) (0 : Nat)), ((8 : Nat), SV.v (Value.int IntKind.i64 (0 : Int))), ((0 : Nat), SV.v (Value.slice (some ad) n cap))] [HO.cells [SV.v (Value.int IntKind.i64 f), SV.v (Value.int IntKind.i64 a), SV.v (Value.int IntKind.i64 i)] (94 : Nat), HO.cells [SV.v (Value.int IntKind.i64 (3 : Int)), SV.v (Value.int IntKind.i64 x), SV.v (Value.int IntKind.i64 y), SV.v (Value.int IntKind.u64 z0), SV.v (Value.int IntKind.u64 z1), SV.v (Value.int IntKind.u64 z2), SV.v (Value.int IntKind.u64 z3)] (43 : Nat)])]
  := by kernel_rfl

theorem ke3a (ad : Addr) (n cap k M : Nat) (f a i : Int) (x y z0 z1 z2 z3 : Int) : (((xgo Try.prog X (bodyOf Try.f45) 61 K13 [] 60 [.t, .ld (.agg [.v (.int .i64 3), .v (.int .i64 x), .v (.int .i64 y), .v (.int .u64 z0), .v (.int .u64 z1), .v (.int .u64 z2), .v (.int .u64 z3)]), .t, .t, .t, .t, .t] ((.nil)) [.at [0,0,1,0,1,1,1], .rnd [0,0,1,0,1,1,1] (M + 1), .blk 0, .at [1,1,1,1]] ⟨[(10, .v (.int .i64 (k : Int))), (9, .p 0 0), (8, .v (.int .i64 0)), (0, .v (.slice (some ad) n cap))], [.cells [.v (.int .i64 f), .v (.int .i64 a), .v (.int .i64 i)] 94]⟩ [] []).bind (ends Try.prog Try.f45.results.toList)).bind plainE) =
  some [EndP.mk [] [fun _ => decide ((↑k : Int) < (↑n : Int)) = true,
    fun _ => (0 : Int) ≤ (↑k : Int) ∧ (↑k : Int) < (↑n : Int),
    fun _ => true = true, fun M => MCells (fun a => M a) (some (if Int.toNat (↑k : Int) * (7 : Nat) = (0 : Nat) then ad else Addr.mk ad.1 (ad.2 + Int.toNat (↑k : Int) * (7 : Nat)) none)) [Value.int IntKind.i64 (3 : Int), Value.int IntKind.i64 x, Value.int IntKind.i64 y, Value.int IntKind.u64 z0, Value.int IntKind.u64 z1, Value.int IntKind.u64 z2, Value.int IntKind.u64 z3],
    fun _ => (0 : Nat) + (7 : Nat) ≤ (7 : Nat),
    fun _ => True,
    fun _ => qyB (3 : Int) = true,
    fun _ => decide (x < (0 : Int)) = true,
    fun _ => true = true,
    fun _ => true = true,
    fun _ => true = true] (Res.v (Value.int IntKind.i64 (110 : Int)))]
  := by kernel_rfl

theorem ke3b (ad : Addr) (n cap k M : Nat) (f a i : Int) (x y z0 z1 z2 z3 : Int) : (((xgo Try.prog X (bodyOf Try.f45) 61 K13 [] 60 [.t, .ld (.agg [.v (.int .i64 3), .v (.int .i64 x), .v (.int .i64 y), .v (.int .u64 z0), .v (.int .u64 z1), .v (.int .u64 z2), .v (.int .u64 z3)]), .t, .f, .t, .t, .t] ((.nil)) [.at [0,0,1,0,1,1,1], .rnd [0,0,1,0,1,1,1] (M + 1), .blk 0, .at [1,1,1,1]] ⟨[(10, .v (.int .i64 (k : Int))), (9, .p 0 0), (8, .v (.int .i64 0)), (0, .v (.slice (some ad) n cap))], [.cells [.v (.int .i64 f), .v (.int .i64 a), .v (.int .i64 i)] 94]⟩ [] []).bind (ends Try.prog Try.f45.results.toList)).bind plainE) =
  some [EndP.mk [] [fun _ => decide ((↑k : Int) < (↑n : Int)) = true,
    fun _ => (0 : Int) ≤ (↑k : Int) ∧ (↑k : Int) < (↑n : Int),
    fun _ => true = true, fun M => MCells (fun a => M a) (some (if Int.toNat (↑k : Int) * (7 : Nat) = (0 : Nat) then ad else Addr.mk ad.1 (ad.2 + Int.toNat (↑k : Int) * (7 : Nat)) none)) [Value.int IntKind.i64 (3 : Int), Value.int IntKind.i64 x, Value.int IntKind.i64 y, Value.int IntKind.u64 z0, Value.int IntKind.u64 z1, Value.int IntKind.u64 z2, Value.int IntKind.u64 z3],
    fun _ => (0 : Nat) + (7 : Nat) ≤ (7 : Nat),
    fun _ => True,
    fun _ => qyB (3 : Int) = true,
    fun _ => decide (x < (0 : Int)) = false,
    fun _ => (0 : Int) ≤ (1 : Int) ∧ (1 : Int) < (3 : Int),
    fun _ => decide (a ≤ x) = true,
    fun _ => true = true,
    fun _ => true = true] (Res.v (Value.int IntKind.i64 (110 : Int)))]
  := by kernel_rfl

theorem ke3c (ad : Addr) (n cap k M : Nat) (f a i : Int) (x y z0 z1 z2 z3 : Int) : (((xgo Try.prog X (bodyOf Try.f45) 61 K13 [] 60 [.t, .ld (.agg [.v (.int .i64 3), .v (.int .i64 x), .v (.int .i64 y), .v (.int .u64 z0), .v (.int .u64 z1), .v (.int .u64 z2), .v (.int .u64 z3)]), .t, .f, .f, .t, .t] ((.nil)) [.at [0,0,1,0,1,1,1], .rnd [0,0,1,0,1,1,1] (M + 1), .blk 0, .at [1,1,1,1]] ⟨[(10, .v (.int .i64 (k : Int))), (9, .p 0 0), (8, .v (.int .i64 0)), (0, .v (.slice (some ad) n cap))], [.cells [.v (.int .i64 f), .v (.int .i64 a), .v (.int .i64 i)] 94]⟩ [] []).bind (ends Try.prog Try.f45.results.toList)).bind plainE) =
  some [EndP.mk [] [fun _ => decide ((↑k : Int) < (↑n : Int)) = true,
    fun _ => (0 : Int) ≤ (↑k : Int) ∧ (↑k : Int) < (↑n : Int),
    fun _ => true = true, fun M => MCells (fun a => M a) (some (if Int.toNat (↑k : Int) * (7 : Nat) = (0 : Nat) then ad else Addr.mk ad.1 (ad.2 + Int.toNat (↑k : Int) * (7 : Nat)) none)) [Value.int IntKind.i64 (3 : Int), Value.int IntKind.i64 x, Value.int IntKind.i64 y, Value.int IntKind.u64 z0, Value.int IntKind.u64 z1, Value.int IntKind.u64 z2, Value.int IntKind.u64 z3],
    fun _ => (0 : Nat) + (7 : Nat) ≤ (7 : Nat),
    fun _ => True,
    fun _ => qyB (3 : Int) = true,
    fun _ => decide (x < (0 : Int)) = false,
    fun _ => (0 : Int) ≤ (1 : Int) ∧ (1 : Int) < (3 : Int),
    fun _ => decide (a ≤ x) = false,
    fun _ => decide (y < (-3 : Int)) = true,
    fun _ => true = true] (Res.v (Value.int IntKind.i64 (110 : Int)))]
  := by kernel_rfl

theorem ke3d (ad : Addr) (n cap k M : Nat) (f a i : Int) (x y z0 z1 z2 z3 : Int) : (((xgo Try.prog X (bodyOf Try.f45) 61 K13 [] 60 [.t, .ld (.agg [.v (.int .i64 3), .v (.int .i64 x), .v (.int .i64 y), .v (.int .u64 z0), .v (.int .u64 z1), .v (.int .u64 z2), .v (.int .u64 z3)]), .t, .f, .f, .f, .t] ((.nil)) [.at [0,0,1,0,1,1,1], .rnd [0,0,1,0,1,1,1] (M + 1), .blk 0, .at [1,1,1,1]] ⟨[(10, .v (.int .i64 (k : Int))), (9, .p 0 0), (8, .v (.int .i64 0)), (0, .v (.slice (some ad) n cap))], [.cells [.v (.int .i64 f), .v (.int .i64 a), .v (.int .i64 i)] 94]⟩ [] []).bind (ends Try.prog Try.f45.results.toList)).bind plainE) =
  some [EndP.mk [] [fun _ => decide ((↑k : Int) < (↑n : Int)) = true,
    fun _ => (0 : Int) ≤ (↑k : Int) ∧ (↑k : Int) < (↑n : Int),
    fun _ => true = true, fun M => MCells (fun a => M a) (some (if Int.toNat (↑k : Int) * (7 : Nat) = (0 : Nat) then ad else Addr.mk ad.1 (ad.2 + Int.toNat (↑k : Int) * (7 : Nat)) none)) [Value.int IntKind.i64 (3 : Int), Value.int IntKind.i64 x, Value.int IntKind.i64 y, Value.int IntKind.u64 z0, Value.int IntKind.u64 z1, Value.int IntKind.u64 z2, Value.int IntKind.u64 z3],
    fun _ => (0 : Nat) + (7 : Nat) ≤ (7 : Nat),
    fun _ => True,
    fun _ => qyB (3 : Int) = true,
    fun _ => decide (x < (0 : Int)) = false,
    fun _ => (0 : Int) ≤ (1 : Int) ∧ (1 : Int) < (3 : Int),
    fun _ => decide (a ≤ x) = false,
    fun _ => decide (y < (-3 : Int)) = false,
    fun _ => decide ((3 : Int) < y) = true] (Res.v (Value.int IntKind.i64 (110 : Int)))]
  := by kernel_rfl

theorem kd4 (ad : Addr) (n cap k M : Nat) (f a i : Int) (x y z0 z1 z2 z3 : Int) (kt : List It) : ((xgo Try.prog X (bodyOf Try.f45) 61 K13 [] 60 [.t, .ld (.agg [.v (.int .i64 4), .v (.int .i64 x), .v (.int .i64 y), .v (.int .u64 z0), .v (.int .u64 z1), .v (.int .u64 z2), .v (.int .u64 z3)]), .t, .f, .f, .f, .f] ((.nil)) (.at [0,0,1,0,1,1,1] :: .rnd [0,0,1,0,1,1,1] (M + 1) :: kt) ⟨[(10, .v (.int .i64 (k : Int))), (9, .p 0 0), (8, .v (.int .i64 0)), (0, .v (.slice (some ad) n cap))], [.cells [.v (.int .i64 f), .v (.int .i64 a), .v (.int .i64 i)] 94]⟩ [] []).map (trims [10, 9, 8, 0])) =
  some [Leaf2.mk [] [fun _ => decide ((↑k : Int) < (↑n : Int)) = true,
    fun _ => (0 : Int) ≤ (↑k : Int) ∧ (↑k : Int) < (↑n : Int),
    fun _ => true = true, fun M => MCells (fun a => M a) (some (if Int.toNat (↑k : Int) * (7 : Nat) = (0 : Nat) then ad else Addr.mk ad.1 (ad.2 + Int.toNat (↑k : Int) * (7 : Nat)) none)) [Value.int IntKind.i64 (4 : Int), Value.int IntKind.i64 x, Value.int IntKind.i64 y, Value.int IntKind.u64 z0, Value.int IntKind.u64 z1, Value.int IntKind.u64 z2, Value.int IntKind.u64 z3],
    fun _ => (0 : Nat) + (7 : Nat) ≤ (7 : Nat),
    fun _ => True,
    fun _ => qyB (4 : Int) = true,
    fun _ => decide (x < (0 : Int)) = false,
    fun _ => (0 : Int) ≤ (2 : Int) ∧ (2 : Int) < (3 : Int),
    fun _ => decide (i ≤ x) = false,
    fun _ => decide (y < (-3 : Int)) = false,
    fun _ => decide ((3 : Int) < y) = false] (It.rnd [(0 : Nat), (0 : Nat), (1 : Nat), (0 : Nat), (1 : Nat), (1 : Nat), (1 : Nat)] (M + (1 : Nat)) :: kt) (St.mk [((10 : Nat), SV.v (Value.int IntKind.i64 (IntKind.wrap IntKind.i64 ((↑k : Int) + (1 : Int))))), ((9 : Nat), SV.p (0 : Nat) (0 : Nat)), ((8 : Nat), SV.v (Value.int IntKind.i64 (0 : Int))), ((0 : Nat), SV.v (Value.slice (some ad) n cap))] [HO.cells [SV.v (Value.int IntKind.i64 f), SV.v (Value.int IntKind.i64 a), SV.v (Value.int IntKind.i64 i)] (94 : Nat), HO.cells [SV.v (Value.int IntKind.i64 (4 : Int)), SV.v (Value.int IntKind.i64 x), SV.v (Value.int IntKind.i64 y), SV.v (Value.int IntKind.u64 z0), SV.v (Value.int IntKind.u64 z1), SV.v (Value.int IntKind.u64 z2), SV.v (Value.int IntKind.u64 z3)] (43 : Nat)])]
  := by kernel_rfl

theorem ke4a (ad : Addr) (n cap k M : Nat) (f a i : Int) (x y z0 z1 z2 z3 : Int) : (((xgo Try.prog X (bodyOf Try.f45) 61 K13 [] 60 [.t, .ld (.agg [.v (.int .i64 4), .v (.int .i64 x), .v (.int .i64 y), .v (.int .u64 z0), .v (.int .u64 z1), .v (.int .u64 z2), .v (.int .u64 z3)]), .t, .t, .t, .t, .t] ((.nil)) [.at [0,0,1,0,1,1,1], .rnd [0,0,1,0,1,1,1] (M + 1), .blk 0, .at [1,1,1,1]] ⟨[(10, .v (.int .i64 (k : Int))), (9, .p 0 0), (8, .v (.int .i64 0)), (0, .v (.slice (some ad) n cap))], [.cells [.v (.int .i64 f), .v (.int .i64 a), .v (.int .i64 i)] 94]⟩ [] []).bind (ends Try.prog Try.f45.results.toList)).bind plainE) =
  some [EndP.mk [] [fun _ => decide ((↑k : Int) < (↑n : Int)) = true,
    fun _ => (0 : Int) ≤ (↑k : Int) ∧ (↑k : Int) < (↑n : Int),
    fun _ => true = true, fun M => MCells (fun a => M a) (some (if Int.toNat (↑k : Int) * (7 : Nat) = (0 : Nat) then ad else Addr.mk ad.1 (ad.2 + Int.toNat (↑k : Int) * (7 : Nat)) none)) [Value.int IntKind.i64 (4 : Int), Value.int IntKind.i64 x, Value.int IntKind.i64 y, Value.int IntKind.u64 z0, Value.int IntKind.u64 z1, Value.int IntKind.u64 z2, Value.int IntKind.u64 z3],
    fun _ => (0 : Nat) + (7 : Nat) ≤ (7 : Nat),
    fun _ => True,
    fun _ => qyB (4 : Int) = true,
    fun _ => decide (x < (0 : Int)) = true,
    fun _ => true = true,
    fun _ => true = true,
    fun _ => true = true] (Res.v (Value.int IntKind.i64 (110 : Int)))]
  := by kernel_rfl

theorem ke4b (ad : Addr) (n cap k M : Nat) (f a i : Int) (x y z0 z1 z2 z3 : Int) : (((xgo Try.prog X (bodyOf Try.f45) 61 K13 [] 60 [.t, .ld (.agg [.v (.int .i64 4), .v (.int .i64 x), .v (.int .i64 y), .v (.int .u64 z0), .v (.int .u64 z1), .v (.int .u64 z2), .v (.int .u64 z3)]), .t, .f, .t, .t, .t] ((.nil)) [.at [0,0,1,0,1,1,1], .rnd [0,0,1,0,1,1,1] (M + 1), .blk 0, .at [1,1,1,1]] ⟨[(10, .v (.int .i64 (k : Int))), (9, .p 0 0), (8, .v (.int .i64 0)), (0, .v (.slice (some ad) n cap))], [.cells [.v (.int .i64 f), .v (.int .i64 a), .v (.int .i64 i)] 94]⟩ [] []).bind (ends Try.prog Try.f45.results.toList)).bind plainE) =
  some [EndP.mk [] [fun _ => decide ((↑k : Int) < (↑n : Int)) = true,
    fun _ => (0 : Int) ≤ (↑k : Int) ∧ (↑k : Int) < (↑n : Int),
    fun _ => true = true, fun M => MCells (fun a => M a) (some (if Int.toNat (↑k : Int) * (7 : Nat) = (0 : Nat) then ad else Addr.mk ad.1 (ad.2 + Int.toNat (↑k : Int) * (7 : Nat)) none)) [Value.int IntKind.i64 (4 : Int), Value.int IntKind.i64 x, Value.int IntKind.i64 y, Value.int IntKind.u64 z0, Value.int IntKind.u64 z1, Value.int IntKind.u64 z2, Value.int IntKind.u64 z3],
    fun _ => (0 : Nat) + (7 : Nat) ≤ (7 : Nat),
    fun _ => True,
    fun _ => qyB (4 : Int) = true,
    fun _ => decide (x < (0 : Int)) = false,
    fun _ => (0 : Int) ≤ (2 : Int) ∧ (2 : Int) < (3 : Int),
    fun _ => decide (i ≤ x) = true,
    fun _ => true = true,
    fun _ => true = true] (Res.v (Value.int IntKind.i64 (110 : Int)))]
  := by kernel_rfl

theorem ke4c (ad : Addr) (n cap k M : Nat) (f a i : Int) (x y z0 z1 z2 z3 : Int) : (((xgo Try.prog X (bodyOf Try.f45) 61 K13 [] 60 [.t, .ld (.agg [.v (.int .i64 4), .v (.int .i64 x), .v (.int .i64 y), .v (.int .u64 z0), .v (.int .u64 z1), .v (.int .u64 z2), .v (.int .u64 z3)]), .t, .f, .f, .t, .t] ((.nil)) [.at [0,0,1,0,1,1,1], .rnd [0,0,1,0,1,1,1] (M + 1), .blk 0, .at [1,1,1,1]] ⟨[(10, .v (.int .i64 (k : Int))), (9, .p 0 0), (8, .v (.int .i64 0)), (0, .v (.slice (some ad) n cap))], [.cells [.v (.int .i64 f), .v (.int .i64 a), .v (.int .i64 i)] 94]⟩ [] []).bind (ends Try.prog Try.f45.results.toList)).bind plainE) =
  some [EndP.mk [] [fun _ => decide ((↑k : Int) < (↑n : Int)) = true,
    fun _ => (0 : Int) ≤ (↑k : Int) ∧ (↑k : Int) < (↑n : Int),
    fun _ => true = true, fun M => MCells (fun a => M a) (some (if Int.toNat (↑k : Int) * (7 : Nat) = (0 : Nat) then ad else Addr.mk ad.1 (ad.2 + Int.toNat (↑k : Int) * (7 : Nat)) none)) [Value.int IntKind.i64 (4 : Int), Value.int IntKind.i64 x, Value.int IntKind.i64 y, Value.int IntKind.u64 z0, Value.int IntKind.u64 z1, Value.int IntKind.u64 z2, Value.int IntKind.u64 z3],
    fun _ => (0 : Nat) + (7 : Nat) ≤ (7 : Nat),
    fun _ => True,
    fun _ => qyB (4 : Int) = true,
    fun _ => decide (x < (0 : Int)) = false,
    fun _ => (0 : Int) ≤ (2 : Int) ∧ (2 : Int) < (3 : Int),
    fun _ => decide (i ≤ x) = false,
    fun _ => decide (y < (-3 : Int)) = true,
    fun _ => true = true] (Res.v (Value.int IntKind.i64 (110 : Int)))]
  := by kernel_rfl

theorem ke4d (ad : Addr) (n cap k M : Nat) (f a i : Int) (x y z0 z1 z2 z3 : Int) : (((xgo Try.prog X (bodyOf Try.f45) 61 K13 [] 60 [.t, .ld (.agg [.v (.int .i64 4), .v (.int .i64 x), .v (.int .i64 y), .v (.int .u64 z0), .v (.int .u64 z1), .v (.int .u64 z2), .v (.int .u64 z3)]), .t, .f, .f, .f, .t] ((.nil)) [.at [0,0,1,0,1,1,1], .rnd [0,0,1,0,1,1,1] (M + 1), .blk 0, .at [1,1,1,1]] ⟨[(10, .v (.int .i64 (k : Int))), (9, .p 0 0), (8, .v (.int .i64 0)), (0, .v (.slice (some ad) n cap))], [.cells [.v (.int .i64 f), .v (.int .i64 a), .v (.int .i64 i)] 94]⟩ [] []).bind (ends Try.prog Try.f45.results.toList)).bind plainE) =
  some [EndP.mk [] [fun _ => decide ((↑k : Int) < (↑n : Int)) = true,
    fun _ => (0 : Int) ≤ (↑k : Int) ∧ (↑k : Int) < (↑n : Int),
    fun _ => true = true, fun M => MCells (fun a => M a) (some (if Int.toNat (↑k : Int) * (7 : Nat) = (0 : Nat) then ad else Addr.mk ad.1 (ad.2 + Int.toNat (↑k : Int) * (7 : Nat)) none)) [Value.int IntKind.i64 (4 : Int), Value.int IntKind.i64 x, Value.int IntKind.i64 y, Value.int IntKind.u64 z0, Value.int IntKind.u64 z1, Value.int IntKind.u64 z2, Value.int IntKind.u64 z3],
    fun _ => (0 : Nat) + (7 : Nat) ≤ (7 : Nat),
    fun _ => True,
    fun _ => qyB (4 : Int) = true,
    fun _ => decide (x < (0 : Int)) = false,
    fun _ => (0 : Int) ≤ (2 : Int) ∧ (2 : Int) < (3 : Int),
    fun _ => decide (i ≤ x) = false,
    fun _ => decide (y < (-3 : Int)) = false,
    fun _ => decide ((3 : Int) < y) = true] (Res.v (Value.int IntKind.i64 (110 : Int)))]
  := by kernel_rfl

theorem kdE (oa : Option Addr) (n cap k M : Nat) (f a i : Int) : (((xgo Try.prog X (bodyOf Try.f45) 61 K13 [] 60 [.f] ((.nil)) [.at [0,0,1,0,1,1,1], .rnd [0,0,1,0,1,1,1] (M + 1), .blk 0, .at [1,1,1,1]] ⟨[(10, .v (.int .i64 (k : Int))), (9, .p 0 0), (8, .v (.int .i64 0)), (0, .v (.slice oa n cap))], [.cells [.v (.int .i64 f), .v (.int .i64 a), .v (.int .i64 i)] 94]⟩ [] []).bind (ends Try.prog Try.f45.results.toList)).bind plainE) =
  some [EndP.mk [] [fun _ => decide ((↑k : Int) < (↑n : Int)) = false] (Res.v (Value.int IntKind.i64 (0 : Int)))]
  := by kernel_rfl

theorem kdS (oa : Option Addr) (n cap : Nat) (f a i : Int) (l : List Nd) : ((xgo Try.prog X (bodyOf Try.f45) 61 K13 [] 60 [.f, .lx (nodesC l), .f] ((.nil)) [.at []] ⟨argsTm 0 [.slice oa n cap, .int .i64 f, .int .i64 a, .int .i64 i], []⟩ [] []).map (trims [10, 9, 8, 0])) =
  some [Leaf2.mk [] [fun _ => decide ((64 : Int) < (↑n : Int)) = false, fun M => nodesC l = [] ∨ MCells (fun a => M a) oa (nodesC l),
    fun _ => nodesC l = nodesC (unNds (nodesC l)) ∧ List.length (unNds (nodesC l)) = n ∧ n ≤ (4398046511104 : Nat),
    fun _ => (!stB (nodesC l)) = false,
    fun _ => (0 : Nat) + (3 : Nat) ≤ (3 : Nat)] [It.at [(0 : Nat), (1 : Nat), (0 : Nat), (1 : Nat), (1 : Nat), (1 : Nat)], It.blk (0 : Nat), It.at [(1 : Nat), (1 : Nat), (1 : Nat), (1 : Nat)]] (St.mk [((10 : Nat), SV.v (Value.int IntKind.i64 (0 : Int))), ((9 : Nat), SV.p (0 : Nat) (0 : Nat)), ((8 : Nat), SV.v (Value.int IntKind.i64 (0 : Int))), ((0 : Nat), SV.v (Value.slice oa n cap))] [HO.cells [SV.v (Value.int IntKind.i64 f), SV.v (Value.int IntKind.i64 a), SV.v (Value.int IntKind.i64 i)] (94 : Nat)])]
  := by kernel_rfl

theorem kdX (oa : Option Addr) (n cap : Nat) (f a i : Int) (l : List Nd) : (((xgo Try.prog X (bodyOf Try.f45) 61 K13 [] 60 [.t, .t] ((.nil)) [.at []] ⟨argsTm 0 [.slice oa n cap, .int .i64 f, .int .i64 a, .int .i64 i], []⟩ [] []).bind (ends Try.prog Try.f45.results.toList)).bind plainE) =
  some [EndP.mk [] [fun _ => decide ((64 : Int) < (↑n : Int)) = true,
    fun _ => true = true] (Res.v (Value.int IntKind.i64 (110 : Int)))]
  := by kernel_rfl

theorem kdY (oa : Option Addr) (n cap : Nat) (f a i : Int) (l : List Nd) : (((xgo Try.prog X (bodyOf Try.f45) 61 K13 [] 60 [.f, .lx (nodesC l), .t] ((.nil)) [.at []] ⟨argsTm 0 [.slice oa n cap, .int .i64 f, .int .i64 a, .int .i64 i], []⟩ [] []).bind (ends Try.prog Try.f45.results.toList)).bind plainE) =
  some [EndP.mk [] [fun _ => decide ((64 : Int) < (↑n : Int)) = false, fun M => nodesC l = [] ∨ MCells (fun a => M a) oa (nodesC l),
    fun _ => nodesC l = nodesC (unNds (nodesC l)) ∧ List.length (unNds (nodesC l)) = n ∧ n ≤ (4398046511104 : Nat),
    fun _ => (!stB (nodesC l)) = true] (Res.v (Value.int IntKind.i64 (110 : Int)))]
  := by kernel_rfl

noncomputable def stKd (oa : Option Addr) (n cap : Nat) (f a i : Int) (k : Nat) : St := ⟨[(10, .v (.int .i64 (k : Int))), (9, .p 0 0), (8, .v (.int .i64 0)), (0, .v (.slice oa n cap))], [.cells [.v (.int .i64 f), .v (.int .i64 a), .v (.int .i64 i)] 94]⟩
theorem kd_weak {w : World} {fin : Exit → Act → World → Prop} (oa : Option Addr) (n cap : Nat) (f a i : Int) (k : Nat) (kt : List It) (tm : List (Nat × SV)) (hp : List HO) (h1 : RenT [0] tm (stKd oa n cap f a i k).tm) (h2 : hp[0]? = some (.cells [.v (.int .i64 f), .v (.int .i64 a), .v (.int .i64 i)] 94))
    (next : Ok Try.prog (bodyOf Try.f45) 61 (F0 w) w fin kt (stKd oa n cap f a i k)) : Ok Try.prog (bodyOf Try.f45) 61 (F0 w) w fin kt ⟨tm, hp⟩ :=
  Ok.weaken (st' := stKd oa n cap f a i k) (F0.mono w) [0] h1 ⟨by rw [h2]; rfl, trivial⟩ rfl ⟨by simp [stKd, wsAllT, ws], by simp only [stKd, wsAllH, HO.ws, and_true]; simp [wsL, ws]⟩ next
theorem kd_loop {w : World} (oa : Option Addr) (n cap : Nat) (all : List Nd) (hn : all.length = n) (hb : n ≤ 4398046511104) (ha : nodesC all = [] ∨ MCells (wmem w) oa (nodesC all)) (ho : ordN 0 all = true) (f a i : Int) (R : Res → Prop) :
    ∀ (l pre : List Nd), all = pre ++ l → R (.v (.int .i64 (if l.any (badN f a i) then 110 else 0))) →
    Ok Try.prog (bodyOf Try.f45) 61 (F0 w) w (bodyPost Try.prog Try.f45 fun E w' => ∃ v r, E = .returned v ∧ R r ∧ r.ok w w' v ∧ Below w.heap.size w w') (.rnd [0,0,1,0,1,1,1] (l.length + 2) :: [.blk 0, .at [1,1,1,1]]) (stKd oa n cap f a i pre.length)
  | [], pre, he, hR => by
    have hl : pre.length = n := by rw [← hn, he]; simp
    refine Ok.rnd (ok_plain hm (F0.mono w) (fun _ h => h) 60 _ _ _ _ (kdE oa n cap pre.length 0 f a i) ⟨fun _ => ⟨?_, hR⟩, trivial⟩)
    simp only [hold_cons, hold_nil, and_true]
    exact fun _ _ => decide_eq_false (by omega)
  | x :: l, pre, he, hR => by
    have hl : pre.length + (l.length + 1) = n := by rw [← hn, he]; simp
    have hne : MCells (wmem w) oa (nodesC all) := by
      rcases ha with h | h
      · rw [he, nodesC_append, nodesC_cons] at h; simp [ndC] at h
      · exact h
    obtain ⟨ad, rfl, hcells⟩ := hne
    have hx : MCells (wmem w) (some (ad.add (pre.length * 7))) (ndC x) := nodes_at pre l x (by rw [← he]; exact ⟨ad, rfl, hcells⟩)
    have hop := ordN_op all 0 ho x (by rw [he]; simp)
    have hlen : (pre ++ [x]).length = pre.length + 1 := by simp
    have next : R (.v (.int .i64 (if l.any (badN f a i) then 110 else 0))) → Ok Try.prog (bodyOf Try.f45) 61 (F0 w) w (bodyPost Try.prog Try.f45 fun E w' => ∃ v r, E = .returned v ∧ R r ∧ r.ok w w' v ∧ Below w.heap.size w w') (.rnd [0,0,1,0,1,1,1] (l.length + 2) :: [.blk 0, .at [1,1,1,1]]) (stKd (some ad) n cap f a i (pre.length + 1)) := fun h => by
      have := kd_loop (some ad) n cap all hn hb ha ho f a i R l (pre ++ [x]) (by rw [he]; simp) h
      rw [hlen] at this
      exact this
    rw [List.any_cons] at hR
    by_cases hq : 2 ≤ x.op ∧ x.op ≤ 4
    rotate_left
    · have hqy : qyB x.op = false := by rw [qyB_eq]; exact decide_eq_false hq
      rw [badN, qryN, decide_eq_false hq, Bool.false_and, Bool.false_or] at hR
      refine Ok.rnd (xgo_trim hm (F0.mono w) finB 60 _ _ _ _ _ _ (kd0 ad n cap pre.length (l.length + 1) f a i x.op x.a x.b (limb x.v 0 : Nat) (limb x.v 1 : Nat) (limb x.v 2 : Nat) (limb x.v 3 : Nat) _) (paidCons (fun _ => ⟨?_, ?_⟩) paidNil))
      · sidesk
      · simp only [wrap_inc pre.length (by omega)]
        exact kd_weak _ _ _ _ _ _ _ _ _ _ ⟨rfl, rfl, rfl, rfl, trivial⟩ rfl (next hR)
    by_cases hk2 : x.op = 2
    · have hqy : qyB 2 = true := by rw [qyB_eq]; rfl
      have hx2 := hx
      rw [ndC, hk2] at hx2
      have hbad : badN f a i x = decide (x.a < 0 ∨ f ≤ x.a ∨ x.b < -3 ∨ 3 < x.b) := by
        rw [badN, qryN, decide_eq_true (by omega), Bool.true_and, mostN, hk2]
        rfl
      rw [hbad] at hR
      by_cases e1 : x.a < 0 ∨ f ≤ x.a ∨ x.b < -3 ∨ 3 < x.b
      · rw [decide_eq_true e1, Bool.true_or, if_pos rfl] at hR
        by_cases e2 : x.a < 0
        · skip
          refine Ok.rnd (ok_plain hm (F0.mono w) (fun _ h => h) 60 _ _ _ _ (ke2a ad n cap pre.length (l.length + 1) f a i x.a x.b (limb x.v 0 : Nat) (limb x.v 1 : Nat) (limb x.v 2 : Nat) (limb x.v 3 : Nat)) ⟨fun _ => ⟨?_, hR⟩, trivial⟩)
          sidesk
        by_cases e3 : f ≤ x.a
        · skip
          refine Ok.rnd (ok_plain hm (F0.mono w) (fun _ h => h) 60 _ _ _ _ (ke2b ad n cap pre.length (l.length + 1) f a i x.a x.b (limb x.v 0 : Nat) (limb x.v 1 : Nat) (limb x.v 2 : Nat) (limb x.v 3 : Nat)) ⟨fun _ => ⟨?_, hR⟩, trivial⟩)
          sidesk
        by_cases e4 : x.b < -3
        · skip
          refine Ok.rnd (ok_plain hm (F0.mono w) (fun _ h => h) 60 _ _ _ _ (ke2c ad n cap pre.length (l.length + 1) f a i x.a x.b (limb x.v 0 : Nat) (limb x.v 1 : Nat) (limb x.v 2 : Nat) (limb x.v 3 : Nat)) ⟨fun _ => ⟨?_, hR⟩, trivial⟩)
          sidesk
        refine Ok.rnd (ok_plain hm (F0.mono w) (fun _ h => h) 60 _ _ _ _ (ke2d ad n cap pre.length (l.length + 1) f a i x.a x.b (limb x.v 0 : Nat) (limb x.v 1 : Nat) (limb x.v 2 : Nat) (limb x.v 3 : Nat)) ⟨fun _ => ⟨?_, hR⟩, trivial⟩)
        sidesk
      rw [decide_eq_false e1, Bool.false_or] at hR
      refine Ok.rnd (xgo_trim hm (F0.mono w) finB 60 _ _ _ _ _ _ (kd2 ad n cap pre.length (l.length + 1) f a i x.a x.b (limb x.v 0 : Nat) (limb x.v 1 : Nat) (limb x.v 2 : Nat) (limb x.v 3 : Nat) _) (paidCons (fun _ => ⟨?_, ?_⟩) paidNil))
      · sidesk
      · simp only [wrap_inc pre.length (by omega)]
        exact kd_weak _ _ _ _ _ _ _ _ _ _ ⟨rfl, rfl, rfl, rfl, trivial⟩ rfl (next hR)
    by_cases hk3 : x.op = 3
    · have hqy : qyB 3 = true := by rw [qyB_eq]; rfl
      have hx2 := hx
      rw [ndC, hk3] at hx2
      have hbad : badN f a i x = decide (x.a < 0 ∨ a ≤ x.a ∨ x.b < -3 ∨ 3 < x.b) := by
        rw [badN, qryN, decide_eq_true (by omega), Bool.true_and, mostN, hk3]
        rfl
      rw [hbad] at hR
      by_cases e1 : x.a < 0 ∨ a ≤ x.a ∨ x.b < -3 ∨ 3 < x.b
      · rw [decide_eq_true e1, Bool.true_or, if_pos rfl] at hR
        by_cases e2 : x.a < 0
        · skip
          refine Ok.rnd (ok_plain hm (F0.mono w) (fun _ h => h) 60 _ _ _ _ (ke3a ad n cap pre.length (l.length + 1) f a i x.a x.b (limb x.v 0 : Nat) (limb x.v 1 : Nat) (limb x.v 2 : Nat) (limb x.v 3 : Nat)) ⟨fun _ => ⟨?_, hR⟩, trivial⟩)
          sidesk
        by_cases e3 : a ≤ x.a
        · skip
          refine Ok.rnd (ok_plain hm (F0.mono w) (fun _ h => h) 60 _ _ _ _ (ke3b ad n cap pre.length (l.length + 1) f a i x.a x.b (limb x.v 0 : Nat) (limb x.v 1 : Nat) (limb x.v 2 : Nat) (limb x.v 3 : Nat)) ⟨fun _ => ⟨?_, hR⟩, trivial⟩)
          sidesk
        by_cases e4 : x.b < -3
        · skip
          refine Ok.rnd (ok_plain hm (F0.mono w) (fun _ h => h) 60 _ _ _ _ (ke3c ad n cap pre.length (l.length + 1) f a i x.a x.b (limb x.v 0 : Nat) (limb x.v 1 : Nat) (limb x.v 2 : Nat) (limb x.v 3 : Nat)) ⟨fun _ => ⟨?_, hR⟩, trivial⟩)
          sidesk
        refine Ok.rnd (ok_plain hm (F0.mono w) (fun _ h => h) 60 _ _ _ _ (ke3d ad n cap pre.length (l.length + 1) f a i x.a x.b (limb x.v 0 : Nat) (limb x.v 1 : Nat) (limb x.v 2 : Nat) (limb x.v 3 : Nat)) ⟨fun _ => ⟨?_, hR⟩, trivial⟩)
        sidesk
      rw [decide_eq_false e1, Bool.false_or] at hR
      refine Ok.rnd (xgo_trim hm (F0.mono w) finB 60 _ _ _ _ _ _ (kd3 ad n cap pre.length (l.length + 1) f a i x.a x.b (limb x.v 0 : Nat) (limb x.v 1 : Nat) (limb x.v 2 : Nat) (limb x.v 3 : Nat) _) (paidCons (fun _ => ⟨?_, ?_⟩) paidNil))
      · sidesk
      · simp only [wrap_inc pre.length (by omega)]
        exact kd_weak _ _ _ _ _ _ _ _ _ _ ⟨rfl, rfl, rfl, rfl, trivial⟩ rfl (next hR)
    by_cases hk4 : x.op = 4
    · have hqy : qyB 4 = true := by rw [qyB_eq]; rfl
      have hx2 := hx
      rw [ndC, hk4] at hx2
      have hbad : badN f a i x = decide (x.a < 0 ∨ i ≤ x.a ∨ x.b < -3 ∨ 3 < x.b) := by
        rw [badN, qryN, decide_eq_true (by omega), Bool.true_and, mostN, hk4]
        rfl
      rw [hbad] at hR
      by_cases e1 : x.a < 0 ∨ i ≤ x.a ∨ x.b < -3 ∨ 3 < x.b
      · rw [decide_eq_true e1, Bool.true_or, if_pos rfl] at hR
        by_cases e2 : x.a < 0
        · skip
          refine Ok.rnd (ok_plain hm (F0.mono w) (fun _ h => h) 60 _ _ _ _ (ke4a ad n cap pre.length (l.length + 1) f a i x.a x.b (limb x.v 0 : Nat) (limb x.v 1 : Nat) (limb x.v 2 : Nat) (limb x.v 3 : Nat)) ⟨fun _ => ⟨?_, hR⟩, trivial⟩)
          sidesk
        by_cases e3 : i ≤ x.a
        · skip
          refine Ok.rnd (ok_plain hm (F0.mono w) (fun _ h => h) 60 _ _ _ _ (ke4b ad n cap pre.length (l.length + 1) f a i x.a x.b (limb x.v 0 : Nat) (limb x.v 1 : Nat) (limb x.v 2 : Nat) (limb x.v 3 : Nat)) ⟨fun _ => ⟨?_, hR⟩, trivial⟩)
          sidesk
        by_cases e4 : x.b < -3
        · skip
          refine Ok.rnd (ok_plain hm (F0.mono w) (fun _ h => h) 60 _ _ _ _ (ke4c ad n cap pre.length (l.length + 1) f a i x.a x.b (limb x.v 0 : Nat) (limb x.v 1 : Nat) (limb x.v 2 : Nat) (limb x.v 3 : Nat)) ⟨fun _ => ⟨?_, hR⟩, trivial⟩)
          sidesk
        refine Ok.rnd (ok_plain hm (F0.mono w) (fun _ h => h) 60 _ _ _ _ (ke4d ad n cap pre.length (l.length + 1) f a i x.a x.b (limb x.v 0 : Nat) (limb x.v 1 : Nat) (limb x.v 2 : Nat) (limb x.v 3 : Nat)) ⟨fun _ => ⟨?_, hR⟩, trivial⟩)
        sidesk
      rw [decide_eq_false e1, Bool.false_or] at hR
      refine Ok.rnd (xgo_trim hm (F0.mono w) finB 60 _ _ _ _ _ _ (kd4 ad n cap pre.length (l.length + 1) f a i x.a x.b (limb x.v 0 : Nat) (limb x.v 1 : Nat) (limb x.v 2 : Nat) (limb x.v 3 : Nat) _) (paidCons (fun _ => ⟨?_, ?_⟩) paidNil))
      · sidesk
      · simp only [wrap_inc pre.length (by omega)]
        exact kd_weak _ _ _ _ _ _ _ _ _ _ ⟨rfl, rfl, rfl, rfl, trivial⟩ rfl (next hR)
    exfalso; omega
theorem rcheck_ok (oa : Option Addr) (n cap : Nat) (f a i : Int) (all : List Nd) (hw : ∀ x ∈ all, x.v < top) (hn : all.length = n) (hb : n ≤ 4398046511104) (w : World) (ha : nodesC all = [] ∨ MCells (wmem w) oa (nodesC all)) :
    Calls Try.prog 45 [.slice oa n cap, .int .i64 f, .int .i64 a, .int .i64 i].toArray w (fun E w' => ∃ v, E = .returned v ∧ Res.ok w w' (.v (.int .i64 (chkN all f a i))) v ∧ Below w.heap.size w w') := by
  have hun := unNds_nodesC all hw
  have hmem : ∀ M, F0 w M → nodesC all = [] ∨ MCells (fun a => M a) oa (nodesC all) := fun _ hM => ha.imp id fun h => h.mono hM
  have hst : stB (nodesC all) = ordN 0 all := by rw [stB, hidQ_eq, hun]
  have hside : nodesC all = nodesC (unNds (nodesC all)) ∧ (unNds (nodesC all)).length = n ∧ n ≤ 4398046511104 := by rw [hun]; exact ⟨rfl, hn, hb⟩
  by_cases h64 : 64 < all.length
  · rw [chkN, if_pos (.inl h64)]
    refine con_end (calls_plain hm Try.func45 (by kernel_rfl) rfl rfl 60 _ _ (kdX oa n cap f a i all) ⟨fun _ => ⟨?_, rfl⟩, trivial⟩)
    simp only [hold_cons, hold_nil, and_true]
    exact ⟨fun _ _ => decide_eq_true (by omega), fun _ _ => trivial⟩
  cases ho : ordN 0 all with
  | false =>
    rw [chkN, if_pos (.inr (.inl ho))]
    refine con_end (calls_plain hm Try.func45 (by kernel_rfl) rfl rfl 60 _ _ (kdY oa n cap f a i all) ⟨fun _ => ⟨?_, rfl⟩, trivial⟩)
    simp only [hold_cons, hold_nil, and_true, hst, ho]
    exact ⟨fun _ _ => decide_eq_false (by omega), hmem, fun _ _ => hside, fun _ _ => rfl⟩
  | true =>
    have hres : chkN all f a i = if all.any (badN f a i) then 110 else 0 := by
      rw [chkN]
      cases all.any (badN f a i) with
      | true => rw [if_pos (.inr (.inr rfl)), if_pos rfl]
      | false => rw [if_neg (by rw [ho]; simp; omega), if_neg (by simp)]
    rw [hres]
    refine con_end (calls_of_ok (B := bodyOf Try.f45) (n := 61) Try.func45 (by kernel_rfl) rfl rfl (F := F0 w) (fun _ _ h => h) ?_)
    refine xgo_trim hm (F0.mono w) finB 60 _ _ _ _ _ _ (kdS oa n cap f a i all) (paidCons (fun _ => ⟨?_, ?_⟩) paidNil)
    · simp only [hold_cons, hold_nil, and_true, hst, ho]
      exact ⟨fun _ _ => decide_eq_false (by omega), hmem, fun _ _ => hside, fun _ _ => rfl, fun _ _ => by omega⟩
    · exact ok_mono (st := stKd oa n cap f a i 0) rfl (Ok.loop (all.length + 2) (by kernel_rfl) (kd_loop oa n cap all hn hb ha ho f a i (fun r => r = .v (.int .i64 (if all.any (badN f a i) then 110 else 0))) all [] rfl rfl))
noncomputable def gRCheck : List RV → Option (Res × Prop)
  | [.r n cs, .v (.int .i64 f), .v (.int .i64 a), .v (.int .i64 i)] => some (.v (.int .i64 (chkV cs f a i)), cs = nodesC (unNds cs) ∧ (unNds cs).length = n ∧ n ≤ 4398046511104 ∧ ∀ x ∈ unNds cs, x.v < top)
  | _ => none
theorem gRCheck_ok (rvs : List RV) (r : Res) (p : Prop) (vs : List Value) (w : World) (hg : gRCheck rvs = some (r, p)) (hp : p) (hv : RVs (wmem w) rvs vs) : Calls Try.prog 45 vs.toArray w (fun E w' => ∃ v, E = .returned v ∧ r.ok w w' v ∧ Below w.heap.size w w') := by
  unfold gRCheck at hg
  split at hg
  · simp only [Option.some.injEq, Prod.mk.injEq] at hg
    obtain ⟨rfl, rfl⟩ := hg
    obtain ⟨hc, hn, hb, hw⟩ := hp
    match vs, hv with
    | [x, y, z, u], ⟨⟨oa, cap, h1, h2⟩, h3, h4, h5, _⟩ =>
      rw [h1, h3, h4, h5, chkV, hidZ_eq]
      rw [hc] at h2
      exact rcheck_ok oa _ cap _ _ _ _ hw hn hb w h2
  · cases hg
noncomputable def K14 : Con Try.prog := K13.add 45 gRCheck gRCheck_ok
end Go.Proofs.Ytpghmnpbfaichaa
