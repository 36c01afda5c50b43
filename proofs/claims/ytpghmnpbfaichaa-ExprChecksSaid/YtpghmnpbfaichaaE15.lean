/- The document's side: the degrees of nodes. -/
import Derived.Test.YtpghmnpbfaichaaE14
namespace Go.Proofs.Ytpghmnpbfaichaa
open Go.Sx Go.Pl Go.RowKit
set_option linter.unusedVariables false
theorem rg1 (ad : Addr) (n cap k M : Nat) (ds : List Value) (g h x y z0 z1 z2 z3 : Int) (kt : List It) : ((xgo Try.prog X (bodyOf Try.f42) 75 K13 [] 60 [.t, .ld (.agg [.v (.int .i64 1), .v (.int .i64 x), .v (.int .i64 y), .v (.int .u64 z0), .v (.int .u64 z1), .v (.int .u64 z2), .v (.int .u64 z3)]), .f, .f, .f, .f, .f, .f, .f, .f] ((.nil)) (.at [0,0,1,0,1,1,1] :: .rnd [0,0,1,0,1,1,1] (M + 1) :: kt) ⟨[(4, .v (.int .i64 (k : Int))), (3, .o 0), (2, .v (.slice none 0 0)), (0, .v (.slice (some ad) n cap))], [.row 3 1 k (mapv ds)]⟩ [] []).map (trims [4, 3, 2, 0])) =
  some [Leaf2.mk [] [fun _ => decide ((↑k : Int) < (↑n : Int)) = true,
    fun _ => (0 : Int) ≤ (↑k : Int) ∧ (↑k : Int) < (↑n : Int),
    fun _ => true = true, fun M => MCells (fun a => M a) (some (if Int.toNat (↑k : Int) * (7 : Nat) = (0 : Nat) then ad else Addr.mk ad.1 (ad.2 + Int.toNat (↑k : Int) * (7 : Nat)) none)) [Value.int IntKind.i64 (1 : Int), Value.int IntKind.i64 x, Value.int IntKind.i64 y, Value.int IntKind.u64 z0, Value.int IntKind.u64 z1, Value.int IntKind.u64 z2, Value.int IntKind.u64 z3],
    fun _ => (0 : Nat) + (7 : Nat) ≤ (7 : Nat),
    fun _ => false = false,
    fun _ => false = false,
    fun _ => false = false,
    fun _ => false = false,
    fun _ => false = false,
    fun _ => false = false,
    fun _ => false = false,
    fun _ => false = false,
    fun _ => (k + (1 : Nat)) * (8 : Nat) ≤ (140737488355328 : Nat) ∧ k + (1 : Nat) ≤ (140737488355328 : Nat)] (It.rnd [(0 : Nat), (0 : Nat), (1 : Nat), (0 : Nat), (1 : Nat), (1 : Nat), (1 : Nat)] (M + (1 : Nat)) :: kt) (St.mk [((4 : Nat), SV.v (Value.int IntKind.i64 (IntKind.wrap IntKind.i64 ((↑k : Int) + (1 : Int))))), ((3 : Nat), SV.o (3 : Nat)), ((2 : Nat), SV.v (Value.slice none (0 : Nat) (0 : Nat))), ((0 : Nat), SV.v (Value.slice (some ad) n cap))] [HO.gone, HO.cells [SV.v (Value.int IntKind.i64 (1 : Int)), SV.v (Value.int IntKind.i64 x), SV.v (Value.int IntKind.i64 y), SV.v (Value.int IntKind.u64 z0), SV.v (Value.int IntKind.u64 z1), SV.v (Value.int IntKind.u64 z2), SV.v (Value.int IntKind.u64 z3)] (43 : Nat), HO.row (3 : Nat) (1 : Nat) (1 : Nat) [SV.v (Value.int IntKind.i64 (0 : Int))], HO.row (3 : Nat) (1 : Nat) (k + (1 : Nat)) (mapv ds ++ [SV.v (Value.int IntKind.i64 (0 : Int))])])]
  := by kernel_rfl

theorem rg2 (ad : Addr) (n cap k M : Nat) (ds : List Value) (g h x y z0 z1 z2 z3 : Int) (kt : List It) : ((xgo Try.prog X (bodyOf Try.f42) 75 K13 [] 60 [.t, .ld (.agg [.v (.int .i64 2), .v (.int .i64 x), .v (.int .i64 y), .v (.int .u64 z0), .v (.int .u64 z1), .v (.int .u64 z2), .v (.int .u64 z3)]), .t, .t, .f] ((.nil)) (.at [0,0,1,0,1,1,1] :: .rnd [0,0,1,0,1,1,1] (M + 1) :: kt) ⟨[(4, .v (.int .i64 (k : Int))), (3, .o 0), (2, .v (.slice none 0 0)), (0, .v (.slice (some ad) n cap))], [.row 3 1 k (mapv ds)]⟩ [] []).map (trims [4, 3, 2, 0])) =
  some [Leaf2.mk [] [fun _ => decide ((↑k : Int) < (↑n : Int)) = true,
    fun _ => (0 : Int) ≤ (↑k : Int) ∧ (↑k : Int) < (↑n : Int),
    fun _ => true = true, fun M => MCells (fun a => M a) (some (if Int.toNat (↑k : Int) * (7 : Nat) = (0 : Nat) then ad else Addr.mk ad.1 (ad.2 + Int.toNat (↑k : Int) * (7 : Nat)) none)) [Value.int IntKind.i64 (2 : Int), Value.int IntKind.i64 x, Value.int IntKind.i64 y, Value.int IntKind.u64 z0, Value.int IntKind.u64 z1, Value.int IntKind.u64 z2, Value.int IntKind.u64 z3],
    fun _ => (0 : Nat) + (7 : Nat) ≤ (7 : Nat),
    fun _ => true = true,
    fun _ => true = true,
    fun _ => false = false,
    fun _ => (k + (1 : Nat)) * (8 : Nat) ≤ (140737488355328 : Nat) ∧ k + (1 : Nat) ≤ (140737488355328 : Nat)] (It.rnd [(0 : Nat), (0 : Nat), (1 : Nat), (0 : Nat), (1 : Nat), (1 : Nat), (1 : Nat)] (M + (1 : Nat)) :: kt) (St.mk [((4 : Nat), SV.v (Value.int IntKind.i64 (IntKind.wrap IntKind.i64 ((↑k : Int) + (1 : Int))))), ((3 : Nat), SV.o (3 : Nat)), ((2 : Nat), SV.v (Value.slice none (0 : Nat) (0 : Nat))), ((0 : Nat), SV.v (Value.slice (some ad) n cap))] [HO.gone, HO.cells [SV.v (Value.int IntKind.i64 (2 : Int)), SV.v (Value.int IntKind.i64 x), SV.v (Value.int IntKind.i64 y), SV.v (Value.int IntKind.u64 z0), SV.v (Value.int IntKind.u64 z1), SV.v (Value.int IntKind.u64 z2), SV.v (Value.int IntKind.u64 z3)] (43 : Nat), HO.row (3 : Nat) (1 : Nat) (1 : Nat) [SV.v (Value.int IntKind.i64 (1 : Int))], HO.row (3 : Nat) (1 : Nat) (k + (1 : Nat)) (mapv ds ++ [SV.v (Value.int IntKind.i64 (1 : Int))])])]
  := by kernel_rfl

theorem rg3 (ad : Addr) (n cap k M : Nat) (ds : List Value) (g h x y z0 z1 z2 z3 : Int) (kt : List It) : ((xgo Try.prog X (bodyOf Try.f42) 75 K13 [] 60 [.t, .ld (.agg [.v (.int .i64 3), .v (.int .i64 x), .v (.int .i64 y), .v (.int .u64 z0), .v (.int .u64 z1), .v (.int .u64 z2), .v (.int .u64 z3)]), .f, .t, .t, .f] ((.nil)) (.at [0,0,1,0,1,1,1] :: .rnd [0,0,1,0,1,1,1] (M + 1) :: kt) ⟨[(4, .v (.int .i64 (k : Int))), (3, .o 0), (2, .v (.slice none 0 0)), (0, .v (.slice (some ad) n cap))], [.row 3 1 k (mapv ds)]⟩ [] []).map (trims [4, 3, 2, 0])) =
  some [Leaf2.mk [] [fun _ => decide ((↑k : Int) < (↑n : Int)) = true,
    fun _ => (0 : Int) ≤ (↑k : Int) ∧ (↑k : Int) < (↑n : Int),
    fun _ => true = true, fun M => MCells (fun a => M a) (some (if Int.toNat (↑k : Int) * (7 : Nat) = (0 : Nat) then ad else Addr.mk ad.1 (ad.2 + Int.toNat (↑k : Int) * (7 : Nat)) none)) [Value.int IntKind.i64 (3 : Int), Value.int IntKind.i64 x, Value.int IntKind.i64 y, Value.int IntKind.u64 z0, Value.int IntKind.u64 z1, Value.int IntKind.u64 z2, Value.int IntKind.u64 z3],
    fun _ => (0 : Nat) + (7 : Nat) ≤ (7 : Nat),
    fun _ => false = false,
    fun _ => true = true,
    fun _ => true = true,
    fun _ => false = false,
    fun _ => (k + (1 : Nat)) * (8 : Nat) ≤ (140737488355328 : Nat) ∧ k + (1 : Nat) ≤ (140737488355328 : Nat)] (It.rnd [(0 : Nat), (0 : Nat), (1 : Nat), (0 : Nat), (1 : Nat), (1 : Nat), (1 : Nat)] (M + (1 : Nat)) :: kt) (St.mk [((4 : Nat), SV.v (Value.int IntKind.i64 (IntKind.wrap IntKind.i64 ((↑k : Int) + (1 : Int))))), ((3 : Nat), SV.o (3 : Nat)), ((2 : Nat), SV.v (Value.slice none (0 : Nat) (0 : Nat))), ((0 : Nat), SV.v (Value.slice (some ad) n cap))] [HO.gone, HO.cells [SV.v (Value.int IntKind.i64 (3 : Int)), SV.v (Value.int IntKind.i64 x), SV.v (Value.int IntKind.i64 y), SV.v (Value.int IntKind.u64 z0), SV.v (Value.int IntKind.u64 z1), SV.v (Value.int IntKind.u64 z2), SV.v (Value.int IntKind.u64 z3)] (43 : Nat), HO.row (3 : Nat) (1 : Nat) (1 : Nat) [SV.v (Value.int IntKind.i64 (1 : Int))], HO.row (3 : Nat) (1 : Nat) (k + (1 : Nat)) (mapv ds ++ [SV.v (Value.int IntKind.i64 (1 : Int))])])]
  := by kernel_rfl

theorem rg4 (ad : Addr) (n cap k M : Nat) (ds : List Value) (g h x y z0 z1 z2 z3 : Int) (kt : List It) : ((xgo Try.prog X (bodyOf Try.f42) 75 K13 [] 60 [.t, .ld (.agg [.v (.int .i64 4), .v (.int .i64 x), .v (.int .i64 y), .v (.int .u64 z0), .v (.int .u64 z1), .v (.int .u64 z2), .v (.int .u64 z3)]), .f, .f, .t, .f] ((.nil)) (.at [0,0,1,0,1,1,1] :: .rnd [0,0,1,0,1,1,1] (M + 1) :: kt) ⟨[(4, .v (.int .i64 (k : Int))), (3, .o 0), (2, .v (.slice none 0 0)), (0, .v (.slice (some ad) n cap))], [.row 3 1 k (mapv ds)]⟩ [] []).map (trims [4, 3, 2, 0])) =
  some [Leaf2.mk [] [fun _ => decide ((↑k : Int) < (↑n : Int)) = true,
    fun _ => (0 : Int) ≤ (↑k : Int) ∧ (↑k : Int) < (↑n : Int),
    fun _ => true = true, fun M => MCells (fun a => M a) (some (if Int.toNat (↑k : Int) * (7 : Nat) = (0 : Nat) then ad else Addr.mk ad.1 (ad.2 + Int.toNat (↑k : Int) * (7 : Nat)) none)) [Value.int IntKind.i64 (4 : Int), Value.int IntKind.i64 x, Value.int IntKind.i64 y, Value.int IntKind.u64 z0, Value.int IntKind.u64 z1, Value.int IntKind.u64 z2, Value.int IntKind.u64 z3],
    fun _ => (0 : Nat) + (7 : Nat) ≤ (7 : Nat),
    fun _ => false = false,
    fun _ => false = false,
    fun _ => true = true,
    fun _ => false = false,
    fun _ => (k + (1 : Nat)) * (8 : Nat) ≤ (140737488355328 : Nat) ∧ k + (1 : Nat) ≤ (140737488355328 : Nat)] (It.rnd [(0 : Nat), (0 : Nat), (1 : Nat), (0 : Nat), (1 : Nat), (1 : Nat), (1 : Nat)] (M + (1 : Nat)) :: kt) (St.mk [((4 : Nat), SV.v (Value.int IntKind.i64 (IntKind.wrap IntKind.i64 ((↑k : Int) + (1 : Int))))), ((3 : Nat), SV.o (3 : Nat)), ((2 : Nat), SV.v (Value.slice none (0 : Nat) (0 : Nat))), ((0 : Nat), SV.v (Value.slice (some ad) n cap))] [HO.gone, HO.cells [SV.v (Value.int IntKind.i64 (4 : Int)), SV.v (Value.int IntKind.i64 x), SV.v (Value.int IntKind.i64 y), SV.v (Value.int IntKind.u64 z0), SV.v (Value.int IntKind.u64 z1), SV.v (Value.int IntKind.u64 z2), SV.v (Value.int IntKind.u64 z3)] (43 : Nat), HO.row (3 : Nat) (1 : Nat) (1 : Nat) [SV.v (Value.int IntKind.i64 (1 : Int))], HO.row (3 : Nat) (1 : Nat) (k + (1 : Nat)) (mapv ds ++ [SV.v (Value.int IntKind.i64 (1 : Int))])])]
  := by kernel_rfl

theorem rg5 (ad : Addr) (n cap k M : Nat) (ds : List Value) (g h x y z0 z1 z2 z3 : Int) (kt : List It) : ((xgo Try.prog X (bodyOf Try.f42) 75 K13 [] 60 [.t, .ld (.agg [.v (.int .i64 5), .v (.int .i64 x), .v (.int .i64 y), .v (.int .u64 z0), .v (.int .u64 z1), .v (.int .u64 z2), .v (.int .u64 z3)]), .f, .f, .f, .t, .t, .lo 0 (.v (.int .i64 g)), .f] ((.nil)) (.at [0,0,1,0,1,1,1] :: .rnd [0,0,1,0,1,1,1] (M + 1) :: kt) ⟨[(4, .v (.int .i64 (k : Int))), (3, .o 0), (2, .v (.slice none 0 0)), (0, .v (.slice (some ad) n cap))], [.row 3 1 k (mapv ds)]⟩ [] []).map (trims [4, 3, 2, 0])) =
  some [Leaf2.mk [] [fun _ => decide ((↑k : Int) < (↑n : Int)) = true,
    fun _ => (0 : Int) ≤ (↑k : Int) ∧ (↑k : Int) < (↑n : Int),
    fun _ => true = true, fun M => MCells (fun a => M a) (some (if Int.toNat (↑k : Int) * (7 : Nat) = (0 : Nat) then ad else Addr.mk ad.1 (ad.2 + Int.toNat (↑k : Int) * (7 : Nat)) none)) [Value.int IntKind.i64 (5 : Int), Value.int IntKind.i64 x, Value.int IntKind.i64 y, Value.int IntKind.u64 z0, Value.int IntKind.u64 z1, Value.int IntKind.u64 z2, Value.int IntKind.u64 z3],
    fun _ => (0 : Nat) + (7 : Nat) ≤ (7 : Nat),
    fun _ => false = false,
    fun _ => false = false,
    fun _ => false = false,
    fun _ => true = true,
    fun _ => true = true,
    fun _ => (0 : Int) ≤ x ∧ x < (↑k : Int),
    fun _ => (0 : Nat) < List.length (mapv ds),
    fun _ => (mapv ds)[Int.toNat x * (1 : Nat)]? = some (SV.v (Value.int IntKind.i64 g)),
    fun _ => decide ((1000 : Int) < g) = false,
    fun _ => (k + (1 : Nat)) * (8 : Nat) ≤ (140737488355328 : Nat) ∧ k + (1 : Nat) ≤ (140737488355328 : Nat)] (It.rnd [(0 : Nat), (0 : Nat), (1 : Nat), (0 : Nat), (1 : Nat), (1 : Nat), (1 : Nat)] (M + (1 : Nat)) :: kt) (St.mk [((4 : Nat), SV.v (Value.int IntKind.i64 (IntKind.wrap IntKind.i64 ((↑k : Int) + (1 : Int))))), ((3 : Nat), SV.o (3 : Nat)), ((2 : Nat), SV.v (Value.slice none (0 : Nat) (0 : Nat))), ((0 : Nat), SV.v (Value.slice (some ad) n cap))] [HO.gone, HO.cells [SV.v (Value.int IntKind.i64 (5 : Int)), SV.v (Value.int IntKind.i64 x), SV.v (Value.int IntKind.i64 y), SV.v (Value.int IntKind.u64 z0), SV.v (Value.int IntKind.u64 z1), SV.v (Value.int IntKind.u64 z2), SV.v (Value.int IntKind.u64 z3)] (43 : Nat), HO.row (3 : Nat) (1 : Nat) (1 : Nat) [SV.v (Value.int IntKind.i64 g)], HO.row (3 : Nat) (1 : Nat) (k + (1 : Nat)) (mapv ds ++ [SV.v (Value.int IntKind.i64 g)])])]
  := by kernel_rfl

theorem rg8 (ad : Addr) (n cap k M : Nat) (ds : List Value) (g h x y z0 z1 z2 z3 : Int) (kt : List It) : ((xgo Try.prog X (bodyOf Try.f42) 75 K13 [] 60 [.t, .ld (.agg [.v (.int .i64 8), .v (.int .i64 x), .v (.int .i64 y), .v (.int .u64 z0), .v (.int .u64 z1), .v (.int .u64 z2), .v (.int .u64 z3)]), .f, .f, .f, .f, .t, .lo 0 (.v (.int .i64 g)), .f] ((.nil)) (.at [0,0,1,0,1,1,1] :: .rnd [0,0,1,0,1,1,1] (M + 1) :: kt) ⟨[(4, .v (.int .i64 (k : Int))), (3, .o 0), (2, .v (.slice none 0 0)), (0, .v (.slice (some ad) n cap))], [.row 3 1 k (mapv ds)]⟩ [] []).map (trims [4, 3, 2, 0])) =
  some [Leaf2.mk [] [fun _ => decide ((↑k : Int) < (↑n : Int)) = true,
    fun _ => (0 : Int) ≤ (↑k : Int) ∧ (↑k : Int) < (↑n : Int),
    fun _ => true = true, fun M => MCells (fun a => M a) (some (if Int.toNat (↑k : Int) * (7 : Nat) = (0 : Nat) then ad else Addr.mk ad.1 (ad.2 + Int.toNat (↑k : Int) * (7 : Nat)) none)) [Value.int IntKind.i64 (8 : Int), Value.int IntKind.i64 x, Value.int IntKind.i64 y, Value.int IntKind.u64 z0, Value.int IntKind.u64 z1, Value.int IntKind.u64 z2, Value.int IntKind.u64 z3],
    fun _ => (0 : Nat) + (7 : Nat) ≤ (7 : Nat),
    fun _ => false = false,
    fun _ => false = false,
    fun _ => false = false,
    fun _ => false = false,
    fun _ => true = true,
    fun _ => (0 : Int) ≤ x ∧ x < (↑k : Int),
    fun _ => (0 : Nat) < List.length (mapv ds),
    fun _ => (mapv ds)[Int.toNat x * (1 : Nat)]? = some (SV.v (Value.int IntKind.i64 g)),
    fun _ => decide ((1000 : Int) < g) = false,
    fun _ => (k + (1 : Nat)) * (8 : Nat) ≤ (140737488355328 : Nat) ∧ k + (1 : Nat) ≤ (140737488355328 : Nat)] (It.rnd [(0 : Nat), (0 : Nat), (1 : Nat), (0 : Nat), (1 : Nat), (1 : Nat), (1 : Nat)] (M + (1 : Nat)) :: kt) (St.mk [((4 : Nat), SV.v (Value.int IntKind.i64 (IntKind.wrap IntKind.i64 ((↑k : Int) + (1 : Int))))), ((3 : Nat), SV.o (3 : Nat)), ((2 : Nat), SV.v (Value.slice none (0 : Nat) (0 : Nat))), ((0 : Nat), SV.v (Value.slice (some ad) n cap))] [HO.gone, HO.cells [SV.v (Value.int IntKind.i64 (8 : Int)), SV.v (Value.int IntKind.i64 x), SV.v (Value.int IntKind.i64 y), SV.v (Value.int IntKind.u64 z0), SV.v (Value.int IntKind.u64 z1), SV.v (Value.int IntKind.u64 z2), SV.v (Value.int IntKind.u64 z3)] (43 : Nat), HO.row (3 : Nat) (1 : Nat) (1 : Nat) [SV.v (Value.int IntKind.i64 g)], HO.row (3 : Nat) (1 : Nat) (k + (1 : Nat)) (mapv ds ++ [SV.v (Value.int IntKind.i64 g)])])]
  := by kernel_rfl

theorem rg6t (ad : Addr) (n cap k M : Nat) (ds : List Value) (g h x y z0 z1 z2 z3 : Int) (kt : List It) : ((xgo Try.prog X (bodyOf Try.f42) 75 K13 [] 60 [.t, .ld (.agg [.v (.int .i64 6), .v (.int .i64 x), .v (.int .i64 y), .v (.int .u64 z0), .v (.int .u64 z1), .v (.int .u64 z2), .v (.int .u64 z3)]), .f, .f, .f, .f, .f, .t, .lo 0 (.v (.int .i64 g)), .lo 0 (.v (.int .i64 h)), .t, .lo 0 (.v (.int .i64 h)), .f] ((.nil)) (.at [0,0,1,0,1,1,1] :: .rnd [0,0,1,0,1,1,1] (M + 1) :: kt) ⟨[(4, .v (.int .i64 (k : Int))), (3, .o 0), (2, .v (.slice none 0 0)), (0, .v (.slice (some ad) n cap))], [.row 3 1 k (mapv ds)]⟩ [] []).map (trims [4, 3, 2, 0])) =
  some [Leaf2.mk [] [fun _ => decide ((↑k : Int) < (↑n : Int)) = true,
    fun _ => (0 : Int) ≤ (↑k : Int) ∧ (↑k : Int) < (↑n : Int),
    fun _ => true = true, fun M => MCells (fun a => M a) (some (if Int.toNat (↑k : Int) * (7 : Nat) = (0 : Nat) then ad else Addr.mk ad.1 (ad.2 + Int.toNat (↑k : Int) * (7 : Nat)) none)) [Value.int IntKind.i64 (6 : Int), Value.int IntKind.i64 x, Value.int IntKind.i64 y, Value.int IntKind.u64 z0, Value.int IntKind.u64 z1, Value.int IntKind.u64 z2, Value.int IntKind.u64 z3],
    fun _ => (0 : Nat) + (7 : Nat) ≤ (7 : Nat),
    fun _ => false = false,
    fun _ => false = false,
    fun _ => false = false,
    fun _ => false = false,
    fun _ => false = false,
    fun _ => true = true,
    fun _ => (0 : Int) ≤ x ∧ x < (↑k : Int),
    fun _ => (0 : Nat) < List.length (mapv ds),
    fun _ => (mapv ds)[Int.toNat x * (1 : Nat)]? = some (SV.v (Value.int IntKind.i64 g)),
    fun _ => (0 : Int) ≤ y ∧ y < (↑k : Int),
    fun _ => (0 : Nat) < List.length (mapv ds),
    fun _ => (mapv ds)[Int.toNat y * (1 : Nat)]? = some (SV.v (Value.int IntKind.i64 h)),
    fun _ => decide (g < h) = true,
    fun _ => (0 : Int) ≤ y ∧ y < (↑k : Int),
    fun _ => (0 : Nat) < List.length (mapv ds),
    fun _ => (mapv ds)[Int.toNat y * (1 : Nat)]? = some (SV.v (Value.int IntKind.i64 h)),
    fun _ => decide ((1000 : Int) < h) = false,
    fun _ => (k + (1 : Nat)) * (8 : Nat) ≤ (140737488355328 : Nat) ∧ k + (1 : Nat) ≤ (140737488355328 : Nat)] (It.rnd [(0 : Nat), (0 : Nat), (1 : Nat), (0 : Nat), (1 : Nat), (1 : Nat), (1 : Nat)] (M + (1 : Nat)) :: kt) (St.mk [((4 : Nat), SV.v (Value.int IntKind.i64 (IntKind.wrap IntKind.i64 ((↑k : Int) + (1 : Int))))), ((3 : Nat), SV.o (3 : Nat)), ((2 : Nat), SV.v (Value.slice none (0 : Nat) (0 : Nat))), ((0 : Nat), SV.v (Value.slice (some ad) n cap))] [HO.gone, HO.cells [SV.v (Value.int IntKind.i64 (6 : Int)), SV.v (Value.int IntKind.i64 x), SV.v (Value.int IntKind.i64 y), SV.v (Value.int IntKind.u64 z0), SV.v (Value.int IntKind.u64 z1), SV.v (Value.int IntKind.u64 z2), SV.v (Value.int IntKind.u64 z3)] (43 : Nat), HO.row (3 : Nat) (1 : Nat) (1 : Nat) [SV.v (Value.int IntKind.i64 h)], HO.row (3 : Nat) (1 : Nat) (k + (1 : Nat)) (mapv ds ++ [SV.v (Value.int IntKind.i64 h)])])]
  := by kernel_rfl

theorem rg6f (ad : Addr) (n cap k M : Nat) (ds : List Value) (g h x y z0 z1 z2 z3 : Int) (kt : List It) : ((xgo Try.prog X (bodyOf Try.f42) 75 K13 [] 60 [.t, .ld (.agg [.v (.int .i64 6), .v (.int .i64 x), .v (.int .i64 y), .v (.int .u64 z0), .v (.int .u64 z1), .v (.int .u64 z2), .v (.int .u64 z3)]), .f, .f, .f, .f, .f, .t, .lo 0 (.v (.int .i64 g)), .lo 0 (.v (.int .i64 h)), .f, .f] ((.nil)) (.at [0,0,1,0,1,1,1] :: .rnd [0,0,1,0,1,1,1] (M + 1) :: kt) ⟨[(4, .v (.int .i64 (k : Int))), (3, .o 0), (2, .v (.slice none 0 0)), (0, .v (.slice (some ad) n cap))], [.row 3 1 k (mapv ds)]⟩ [] []).map (trims [4, 3, 2, 0])) =
  some [Leaf2.mk [] [fun _ => decide ((↑k : Int) < (↑n : Int)) = true,
    fun _ => (0 : Int) ≤ (↑k : Int) ∧ (↑k : Int) < (↑n : Int),
    fun _ => true = true, fun M => MCells (fun a => M a) (some (if Int.toNat (↑k : Int) * (7 : Nat) = (0 : Nat) then ad else Addr.mk ad.1 (ad.2 + Int.toNat (↑k : Int) * (7 : Nat)) none)) [Value.int IntKind.i64 (6 : Int), Value.int IntKind.i64 x, Value.int IntKind.i64 y, Value.int IntKind.u64 z0, Value.int IntKind.u64 z1, Value.int IntKind.u64 z2, Value.int IntKind.u64 z3],
    fun _ => (0 : Nat) + (7 : Nat) ≤ (7 : Nat),
    fun _ => false = false,
    fun _ => false = false,
    fun _ => false = false,
    fun _ => false = false,
    fun _ => false = false,
    fun _ => true = true,
    fun _ => (0 : Int) ≤ x ∧ x < (↑k : Int),
    fun _ => (0 : Nat) < List.length (mapv ds),
    fun _ => (mapv ds)[Int.toNat x * (1 : Nat)]? = some (SV.v (Value.int IntKind.i64 g)),
    fun _ => (0 : Int) ≤ y ∧ y < (↑k : Int),
    fun _ => (0 : Nat) < List.length (mapv ds),
    fun _ => (mapv ds)[Int.toNat y * (1 : Nat)]? = some (SV.v (Value.int IntKind.i64 h)),
    fun _ => decide (g < h) = false,
    fun _ => decide ((1000 : Int) < g) = false,
    fun _ => (k + (1 : Nat)) * (8 : Nat) ≤ (140737488355328 : Nat) ∧ k + (1 : Nat) ≤ (140737488355328 : Nat)] (It.rnd [(0 : Nat), (0 : Nat), (1 : Nat), (0 : Nat), (1 : Nat), (1 : Nat), (1 : Nat)] (M + (1 : Nat)) :: kt) (St.mk [((4 : Nat), SV.v (Value.int IntKind.i64 (IntKind.wrap IntKind.i64 ((↑k : Int) + (1 : Int))))), ((3 : Nat), SV.o (3 : Nat)), ((2 : Nat), SV.v (Value.slice none (0 : Nat) (0 : Nat))), ((0 : Nat), SV.v (Value.slice (some ad) n cap))] [HO.gone, HO.cells [SV.v (Value.int IntKind.i64 (6 : Int)), SV.v (Value.int IntKind.i64 x), SV.v (Value.int IntKind.i64 y), SV.v (Value.int IntKind.u64 z0), SV.v (Value.int IntKind.u64 z1), SV.v (Value.int IntKind.u64 z2), SV.v (Value.int IntKind.u64 z3)] (43 : Nat), HO.row (3 : Nat) (1 : Nat) (1 : Nat) [SV.v (Value.int IntKind.i64 g)], HO.row (3 : Nat) (1 : Nat) (k + (1 : Nat)) (mapv ds ++ [SV.v (Value.int IntKind.i64 g)])])]
  := by kernel_rfl

theorem rg7f (ad : Addr) (n cap k M : Nat) (ds : List Value) (g h x y z0 z1 z2 z3 : Int) (kt : List It) : ((xgo Try.prog X (bodyOf Try.f42) 75 K13 [] 60 [.t, .ld (.agg [.v (.int .i64 7), .v (.int .i64 x), .v (.int .i64 y), .v (.int .u64 z0), .v (.int .u64 z1), .v (.int .u64 z2), .v (.int .u64 z3)]), .f, .f, .f, .f, .f, .f, .t, .lo 0 (.v (.int .i64 g)), .lo 0 (.v (.int .i64 h)), .f] ((.nil)) (.at [0,0,1,0,1,1,1] :: .rnd [0,0,1,0,1,1,1] (M + 1) :: kt) ⟨[(4, .v (.int .i64 (k : Int))), (3, .o 0), (2, .v (.slice none 0 0)), (0, .v (.slice (some ad) n cap))], [.row 3 1 k (mapv ds)]⟩ [] []).map (trims [4, 3, 2, 0])) =
  some [Leaf2.mk [] [fun _ => decide ((↑k : Int) < (↑n : Int)) = true,
    fun _ => (0 : Int) ≤ (↑k : Int) ∧ (↑k : Int) < (↑n : Int),
    fun _ => true = true, fun M => MCells (fun a => M a) (some (if Int.toNat (↑k : Int) * (7 : Nat) = (0 : Nat) then ad else Addr.mk ad.1 (ad.2 + Int.toNat (↑k : Int) * (7 : Nat)) none)) [Value.int IntKind.i64 (7 : Int), Value.int IntKind.i64 x, Value.int IntKind.i64 y, Value.int IntKind.u64 z0, Value.int IntKind.u64 z1, Value.int IntKind.u64 z2, Value.int IntKind.u64 z3],
    fun _ => (0 : Nat) + (7 : Nat) ≤ (7 : Nat),
    fun _ => false = false,
    fun _ => false = false,
    fun _ => false = false,
    fun _ => false = false,
    fun _ => false = false,
    fun _ => false = false,
    fun _ => true = true,
    fun _ => (0 : Int) ≤ x ∧ x < (↑k : Int),
    fun _ => (0 : Nat) < List.length (mapv ds),
    fun _ => (mapv ds)[Int.toNat x * (1 : Nat)]? = some (SV.v (Value.int IntKind.i64 g)),
    fun _ => (0 : Int) ≤ y ∧ y < (↑k : Int),
    fun _ => (0 : Nat) < List.length (mapv ds),
    fun _ => (mapv ds)[Int.toNat y * (1 : Nat)]? = some (SV.v (Value.int IntKind.i64 h)),
    fun _ => decide ((1000 : Int) < IntKind.wrap IntKind.i64 (g + h)) = false,
    fun _ => (k + (1 : Nat)) * (8 : Nat) ≤ (140737488355328 : Nat) ∧ k + (1 : Nat) ≤ (140737488355328 : Nat)] (It.rnd [(0 : Nat), (0 : Nat), (1 : Nat), (0 : Nat), (1 : Nat), (1 : Nat), (1 : Nat)] (M + (1 : Nat)) :: kt) (St.mk [((4 : Nat), SV.v (Value.int IntKind.i64 (IntKind.wrap IntKind.i64 ((↑k : Int) + (1 : Int))))), ((3 : Nat), SV.o (3 : Nat)), ((2 : Nat), SV.v (Value.slice none (0 : Nat) (0 : Nat))), ((0 : Nat), SV.v (Value.slice (some ad) n cap))] [HO.gone, HO.cells [SV.v (Value.int IntKind.i64 (7 : Int)), SV.v (Value.int IntKind.i64 x), SV.v (Value.int IntKind.i64 y), SV.v (Value.int IntKind.u64 z0), SV.v (Value.int IntKind.u64 z1), SV.v (Value.int IntKind.u64 z2), SV.v (Value.int IntKind.u64 z3)] (43 : Nat), HO.row (3 : Nat) (1 : Nat) (1 : Nat) [SV.v (Value.int IntKind.i64 (IntKind.wrap IntKind.i64 (g + h)))], HO.row (3 : Nat) (1 : Nat) (k + (1 : Nat)) (mapv ds ++ [SV.v (Value.int IntKind.i64 (IntKind.wrap IntKind.i64 (g + h)))])])]
  := by kernel_rfl

theorem rg7t (ad : Addr) (n cap k M : Nat) (ds : List Value) (g h x y z0 z1 z2 z3 : Int) (kt : List It) : ((xgo Try.prog X (bodyOf Try.f42) 75 K13 [] 60 [.t, .ld (.agg [.v (.int .i64 7), .v (.int .i64 x), .v (.int .i64 y), .v (.int .u64 z0), .v (.int .u64 z1), .v (.int .u64 z2), .v (.int .u64 z3)]), .f, .f, .f, .f, .f, .f, .t, .lo 0 (.v (.int .i64 g)), .lo 0 (.v (.int .i64 h)), .t] ((.nil)) (.at [0,0,1,0,1,1,1] :: .rnd [0,0,1,0,1,1,1] (M + 1) :: kt) ⟨[(4, .v (.int .i64 (k : Int))), (3, .o 0), (2, .v (.slice none 0 0)), (0, .v (.slice (some ad) n cap))], [.row 3 1 k (mapv ds)]⟩ [] []).map (trims [4, 3, 2, 0])) =
  some [Leaf2.mk [] [fun _ => decide ((↑k : Int) < (↑n : Int)) = true,
    fun _ => (0 : Int) ≤ (↑k : Int) ∧ (↑k : Int) < (↑n : Int),
    fun _ => true = true, fun M => MCells (fun a => M a) (some (if Int.toNat (↑k : Int) * (7 : Nat) = (0 : Nat) then ad else Addr.mk ad.1 (ad.2 + Int.toNat (↑k : Int) * (7 : Nat)) none)) [Value.int IntKind.i64 (7 : Int), Value.int IntKind.i64 x, Value.int IntKind.i64 y, Value.int IntKind.u64 z0, Value.int IntKind.u64 z1, Value.int IntKind.u64 z2, Value.int IntKind.u64 z3],
    fun _ => (0 : Nat) + (7 : Nat) ≤ (7 : Nat),
    fun _ => false = false,
    fun _ => false = false,
    fun _ => false = false,
    fun _ => false = false,
    fun _ => false = false,
    fun _ => false = false,
    fun _ => true = true,
    fun _ => (0 : Int) ≤ x ∧ x < (↑k : Int),
    fun _ => (0 : Nat) < List.length (mapv ds),
    fun _ => (mapv ds)[Int.toNat x * (1 : Nat)]? = some (SV.v (Value.int IntKind.i64 g)),
    fun _ => (0 : Int) ≤ y ∧ y < (↑k : Int),
    fun _ => (0 : Nat) < List.length (mapv ds),
    fun _ => (mapv ds)[Int.toNat y * (1 : Nat)]? = some (SV.v (Value.int IntKind.i64 h)),
    fun _ => decide ((1000 : Int) < IntKind.wrap IntKind.i64 (g + h)) = true,
    fun _ => (k + (1 : Nat)) * (8 : Nat) ≤ (140737488355328 : Nat) ∧ k + (1 : Nat) ≤ (140737488355328 : Nat)] (It.rnd [(0 : Nat), (0 : Nat), (1 : Nat), (0 : Nat), (1 : Nat), (1 : Nat), (1 : Nat)] (M + (1 : Nat)) :: kt) (St.mk [((4 : Nat), SV.v (Value.int IntKind.i64 (IntKind.wrap IntKind.i64 ((↑k : Int) + (1 : Int))))), ((3 : Nat), SV.o (3 : Nat)), ((2 : Nat), SV.v (Value.slice none (0 : Nat) (0 : Nat))), ((0 : Nat), SV.v (Value.slice (some ad) n cap))] [HO.gone, HO.cells [SV.v (Value.int IntKind.i64 (7 : Int)), SV.v (Value.int IntKind.i64 x), SV.v (Value.int IntKind.i64 y), SV.v (Value.int IntKind.u64 z0), SV.v (Value.int IntKind.u64 z1), SV.v (Value.int IntKind.u64 z2), SV.v (Value.int IntKind.u64 z3)] (43 : Nat), HO.row (3 : Nat) (1 : Nat) (1 : Nat) [SV.v (Value.int IntKind.i64 (1000 : Int))], HO.row (3 : Nat) (1 : Nat) (k + (1 : Nat)) (mapv ds ++ [SV.v (Value.int IntKind.i64 (1000 : Int))])])]
  := by kernel_rfl

theorem rgE (oa : Option Addr) (n cap k M : Nat) (ds : List Value) : (((xgo Try.prog X (bodyOf Try.f42) 75 K13 [] 60 [.f] ((.nil)) [.at [0,0,1,0,1,1,1], .rnd [0,0,1,0,1,1,1] (M + 1), .blk 0, .at [1,1,1,1]] ⟨[(4, .v (.int .i64 (k : Int))), (3, .o 0), (2, .v (.slice none 0 0)), (0, .v (.slice oa n cap))], [.row 3 1 k (mapv ds)]⟩ [] []).bind (ends Try.prog Try.f42.results.toList)).bind plainE) =
  some [EndP.mk [] [fun _ => decide ((↑k : Int) < (↑n : Int)) = false,
    fun _ => mapv ds = mapv (unv (mapv ds))] (Res.r (3 : Nat) (1 : Nat) k (unv (mapv ds)))]
  := by kernel_rfl

theorem rgS (oa : Option Addr) (n cap : Nat) (l : List Nd) : ((xgo Try.prog X (bodyOf Try.f42) 75 K13 [] 60 [.lx (nodesC l), .f] ((.nil)) [.at []] ⟨argsTm 0 [.slice oa n cap], []⟩ [] []).map (trims [4, 3, 2, 0])) =
  some [Leaf2.mk [] [fun M => nodesC l = [] ∨ MCells (fun a => M a) oa (nodesC l),
    fun _ => nodesC l = nodesC (unNds (nodesC l)) ∧ List.length (unNds (nodesC l)) = n ∧ n ≤ (4398046511104 : Nat),
    fun _ => (!stB (nodesC l)) = false] [It.at [(0 : Nat), (1 : Nat), (0 : Nat), (1 : Nat), (1 : Nat), (1 : Nat)], It.blk (0 : Nat), It.at [(1 : Nat), (1 : Nat), (1 : Nat), (1 : Nat)]] (St.mk [((4 : Nat), SV.v (Value.int IntKind.i64 (0 : Int))), ((3 : Nat), SV.o (0 : Nat)), ((2 : Nat), SV.v (Value.slice none (0 : Nat) (0 : Nat))), ((0 : Nat), SV.v (Value.slice oa n cap))] [HO.row (3 : Nat) (1 : Nat) (0 : Nat) []])]
  := by kernel_rfl

theorem rgX (oa : Option Addr) (n cap : Nat) (l : List Nd) : (((xgo Try.prog X (bodyOf Try.f42) 75 K13 [] 60 [.lx (nodesC l), .t] ((.nil)) [.at []] ⟨argsTm 0 [.slice oa n cap], []⟩ [] []).bind (ends Try.prog Try.f42.results.toList)).bind plainE) =
  some [EndP.mk [] [fun M => nodesC l = [] ∨ MCells (fun a => M a) oa (nodesC l),
    fun _ => nodesC l = nodesC (unNds (nodesC l)) ∧ List.length (unNds (nodesC l)) = n ∧ n ≤ (4398046511104 : Nat),
    fun _ => (!stB (nodesC l)) = true,
    fun _ => ([] : List SV) = []] (Res.r (3 : Nat) (1 : Nat) (0 : Nat) [])]
  := by kernel_rfl

theorem wrapI (z : Int) (h0 : 0 ≤ z) (h : z < 9223372036854775808) : IntKind.wrap .i64 z = z := by
  obtain ⟨k, rfl⟩ := Int.eq_ofNat_of_zero_le h0
  exact wrap_i64 k (by omega)
theorem out_get (out : List Int) (j : Int) (h : 0 ≤ j ∧ j < (out.length : Int)) : (mapv (intsC out))[j.toNat * 1]? = some (SV.v (.int .i64 (out.getD j.toNat 0))) := by
  rw [Nat.mul_one, mapv_get _ _ (by rw [intsC_length]; omega)]
  have hj : j.toNat < out.length := by omega
  simp [intsC, List.getD_eq_getElem?_getD, hj]
noncomputable def stRg (oa : Option Addr) (n cap k : Nat) (ds : List Value) : St := ⟨[(4, .v (.int .i64 (k : Int))), (3, .o 0), (2, .v (.slice none 0 0)), (0, .v (.slice oa n cap))], [.row 3 1 k (mapv ds)]⟩
theorem rg_weak {w : World} {fin : Exit → Act → World → Prop} (oa : Option Addr) (n cap k : Nat) (ds : List Value) (v : Value) (j : Nat) (hj : nodupB [j] = true) (kt : List It) (tm : List (Nat × SV)) (hp : List HO) (h1 : RenT [j] tm (stRg oa n cap (k + 1) (ds ++ [v])).tm) (h2 : hp[j]? = some (.row 3 1 (k + 1) (mapv ds ++ [SV.v v])))
    (next : Ok Try.prog (bodyOf Try.f42) 75 (F0 w) w fin kt (stRg oa n cap (k + 1) (ds ++ [v]))) : Ok Try.prog (bodyOf Try.f42) 75 (F0 w) w fin kt ⟨tm, hp⟩ := by
  have e : mapv ds ++ [SV.v v] = mapv (ds ++ [v]) := by rw [mapv_append]; rfl
  exact Ok.weaken (st' := stRg oa n cap (k + 1) (ds ++ [v])) (F0.mono w) [j] h1 ⟨by rw [h2, e]; exact ren_row _ _ _ _ _, trivial⟩ hj ⟨by simp [stRg, wsAllT, ws], by simp only [stRg, wsAllH, HO.ws, and_true]; exact wsL_mapv _ _⟩ next
theorem rg_loop {w : World} (oa : Option Addr) (n cap : Nat) (all : List Nd) (hn : all.length = n) (hb : n ≤ 4398046511104) (ha : nodesC all = [] ∨ MCells (wmem w) oa (nodesC all)) (ho : ordN 0 all = true) (R : Res → Prop) :
    ∀ (l pre : List Nd) (out : List Int), all = pre ++ l → out.length = pre.length → (∀ z ∈ out, 0 ≤ z ∧ z ≤ 1000) → R (.r 3 1 all.length (intsC (degsN out l))) →
    Ok Try.prog (bodyOf Try.f42) 75 (F0 w) w (bodyPost Try.prog Try.f42 fun E w' => ∃ v r, E = .returned v ∧ R r ∧ r.ok w w' v ∧ Below w.heap.size w w') (.rnd [0,0,1,0,1,1,1] (l.length + 2) :: [.blk 0, .at [1,1,1,1]]) (stRg oa n cap pre.length (intsC out))
  | [], pre, out, he, hl0, hz, hR => by
    have hl : pre.length = n := by rw [← hn, he]; simp
    refine Ok.rnd (ok_plain hm (F0.mono w) (fun _ h => h) 60 _ _ _ _ (rgE oa n cap pre.length 0 (intsC out)) ⟨fun _ => ⟨?_, ?_⟩, trivial⟩)
    · simp only [hold_cons, hold_nil, and_true, unv_mapv']
      exact ⟨fun _ _ => decide_eq_false (by omega), fun _ _ => trivial⟩
    · rw [unv_mapv', hl, ← hn]
      exact hR
  | x :: l, pre, out, he, hl0, hz, hR => by
    have hl : pre.length + (l.length + 1) = n := by rw [← hn, he]; simp
    have hne : MCells (wmem w) oa (nodesC all) := by
      rcases ha with h | h
      · rw [he, nodesC_append, nodesC_cons] at h; simp [ndC] at h
      · exact h
    obtain ⟨ad, rfl, hcells⟩ := hne
    have hx : MCells (wmem w) (some (ad.add (pre.length * 7))) (ndC x) := nodes_at pre l x (by rw [← he]; exact ⟨ad, rfl, hcells⟩)
    have hop := ordN_op all 0 ho x (by rw [he]; simp)
    have hus := okN_uses (by have := ordN_at pre l x 0 (by rw [← he]; exact ho); rwa [Nat.zero_add] at this)
    have hlen : (pre ++ [x]).length = pre.length + 1 := by simp
    have hml : (mapv (intsC out)).length = pre.length := by rw [mapv_length, intsC_length, hl0]
    have hdb := degN_bound hz x
    have ga := getD_bound hz x.a.toNat
    have gb := getD_bound hz x.b.toNat
    have next := rg_loop (w := w) (some ad) n cap all hn hb ha ho R l (pre ++ [x]) (out ++ [degN out x]) (by rw [he]; simp) (by simp [hl0]) (by
      intro z hz'
      rcases List.mem_append.1 hz' with h | h
      · exact hz z h
      · rw [List.mem_singleton] at h; rw [h]; exact hdb) hR
    rw [hlen, intsC_snoc] at next
    by_cases hk1 : x.op = 1
    · have hx2 := hx
      rw [ndC, hk1] at hx2
      have hdv : degN out x = 0 := by
        rw [degN_c out (by omega)]
        rfl
      rw [hdv] at next
      refine Ok.rnd (xgo_trim hm (F0.mono w) finB 60 _ _ _ _ _ _ (rg1 ad n cap pre.length (l.length + 1) (intsC out) 0 0 x.a x.b (limb x.v 0 : Nat) (limb x.v 1 : Nat) (limb x.v 2 : Nat) (limb x.v 3 : Nat) _) (paidCons (fun _ => ⟨?_, ?_⟩) paidNil))
      · sidesk
      · simp only [wrap_inc pre.length (by omega)]
        exact rg_weak _ _ _ _ _ _ 3 rfl _ _ _ ⟨rfl, rfl, rfl, rfl, trivial⟩ rfl next
    by_cases hk2 : x.op = 2
    · have hx2 := hx
      rw [ndC, hk2] at hx2
      have hdv : degN out x = 1 := by
        rw [degN_q out (by omega)]
        rfl
      rw [hdv] at next
      refine Ok.rnd (xgo_trim hm (F0.mono w) finB 60 _ _ _ _ _ _ (rg2 ad n cap pre.length (l.length + 1) (intsC out) 0 0 x.a x.b (limb x.v 0 : Nat) (limb x.v 1 : Nat) (limb x.v 2 : Nat) (limb x.v 3 : Nat) _) (paidCons (fun _ => ⟨?_, ?_⟩) paidNil))
      · sidesk
      · simp only [wrap_inc pre.length (by omega)]
        exact rg_weak _ _ _ _ _ _ 3 rfl _ _ _ ⟨rfl, rfl, rfl, rfl, trivial⟩ rfl next
    by_cases hk3 : x.op = 3
    · have hx2 := hx
      rw [ndC, hk3] at hx2
      have hdv : degN out x = 1 := by
        rw [degN_q out (by omega)]
        rfl
      rw [hdv] at next
      refine Ok.rnd (xgo_trim hm (F0.mono w) finB 60 _ _ _ _ _ _ (rg3 ad n cap pre.length (l.length + 1) (intsC out) 0 0 x.a x.b (limb x.v 0 : Nat) (limb x.v 1 : Nat) (limb x.v 2 : Nat) (limb x.v 3 : Nat) _) (paidCons (fun _ => ⟨?_, ?_⟩) paidNil))
      · sidesk
      · simp only [wrap_inc pre.length (by omega)]
        exact rg_weak _ _ _ _ _ _ 3 rfl _ _ _ ⟨rfl, rfl, rfl, rfl, trivial⟩ rfl next
    by_cases hk4 : x.op = 4
    · have hx2 := hx
      rw [ndC, hk4] at hx2
      have hdv : degN out x = 1 := by
        rw [degN_q out (by omega)]
        rfl
      rw [hdv] at next
      refine Ok.rnd (xgo_trim hm (F0.mono w) finB 60 _ _ _ _ _ _ (rg4 ad n cap pre.length (l.length + 1) (intsC out) 0 0 x.a x.b (limb x.v 0 : Nat) (limb x.v 1 : Nat) (limb x.v 2 : Nat) (limb x.v 3 : Nat) _) (paidCons (fun _ => ⟨?_, ?_⟩) paidNil))
      · sidesk
      · simp only [wrap_inc pre.length (by omega)]
        exact rg_weak _ _ _ _ _ _ 3 rfl _ _ _ ⟨rfl, rfl, rfl, rfl, trivial⟩ rfl next
    by_cases hk5 : x.op = 5
    · have hx2 := hx
      rw [ndC, hk5] at hx2
      have u1 := hus x.a (by rw [usesN_eq, us_n _ _ (by omega)]; simp)
      have hg := out_get out x.a (by omega)
      have hdv : degN out x = (out.getD x.a.toNat 0) := by
        rw [degN_n out (by omega), if_neg (by omega)]
      rw [hdv] at next
      refine Ok.rnd (xgo_trim hm (F0.mono w) finB 60 _ _ _ _ _ _ (rg5 ad n cap pre.length (l.length + 1) (intsC out) (out.getD x.a.toNat 0) 0 x.a x.b (limb x.v 0 : Nat) (limb x.v 1 : Nat) (limb x.v 2 : Nat) (limb x.v 3 : Nat) _) (paidCons (fun _ => ⟨?_, ?_⟩) paidNil))
      · sidesk
      · simp only [wrap_inc pre.length (by omega)]
        exact rg_weak _ _ _ _ _ _ 3 rfl _ _ _ ⟨rfl, rfl, rfl, rfl, trivial⟩ rfl next
    by_cases hk8 : x.op = 8
    · have hx2 := hx
      rw [ndC, hk8] at hx2
      have u1 := hus x.a (by rw [usesN_eq, us_n _ _ (by omega)]; simp)
      have hg := out_get out x.a (by omega)
      have hdv : degN out x = (out.getD x.a.toNat 0) := by
        rw [degN_s out (by omega), if_neg (by omega)]
      rw [hdv] at next
      refine Ok.rnd (xgo_trim hm (F0.mono w) finB 60 _ _ _ _ _ _ (rg8 ad n cap pre.length (l.length + 1) (intsC out) (out.getD x.a.toNat 0) 0 x.a x.b (limb x.v 0 : Nat) (limb x.v 1 : Nat) (limb x.v 2 : Nat) (limb x.v 3 : Nat) _) (paidCons (fun _ => ⟨?_, ?_⟩) paidNil))
      · sidesk
      · simp only [wrap_inc pre.length (by omega)]
        exact rg_weak _ _ _ _ _ _ 3 rfl _ _ _ ⟨rfl, rfl, rfl, rfl, trivial⟩ rfl next
    by_cases hk6 : x.op = 6
    · have hx2 := hx
      rw [ndC, hk6] at hx2
      have u1 := hus x.a (by rw [usesN_eq, us_a _ _ (by omega)]; simp)
      have u2 := hus x.b (by rw [usesN_eq, us_a _ _ (by omega)]; simp)
      have hg := out_get out x.a (by omega)
      have hh := out_get out x.b (by omega)
      by_cases e1 : (out.getD x.a.toNat 0) < (out.getD x.b.toNat 0)
      · have hdv : degN out x = (out.getD x.b.toNat 0) := by
          rw [degN_a out hk6, if_pos e1, if_neg (by omega)]
        rw [hdv] at next
        refine Ok.rnd (xgo_trim hm (F0.mono w) finB 60 _ _ _ _ _ _ (rg6t ad n cap pre.length (l.length + 1) (intsC out) (out.getD x.a.toNat 0) (out.getD x.b.toNat 0) x.a x.b (limb x.v 0 : Nat) (limb x.v 1 : Nat) (limb x.v 2 : Nat) (limb x.v 3 : Nat) _) (paidCons (fun _ => ⟨?_, ?_⟩) paidNil))
        · sidesk
        · simp only [wrap_inc pre.length (by omega)]
          exact rg_weak _ _ _ _ _ _ 3 rfl _ _ _ ⟨rfl, rfl, rfl, rfl, trivial⟩ rfl next
      have hdv : degN out x = (out.getD x.a.toNat 0) := by
        rw [degN_a out hk6, if_neg e1, if_neg (by omega)]
      rw [hdv] at next
      refine Ok.rnd (xgo_trim hm (F0.mono w) finB 60 _ _ _ _ _ _ (rg6f ad n cap pre.length (l.length + 1) (intsC out) (out.getD x.a.toNat 0) (out.getD x.b.toNat 0) x.a x.b (limb x.v 0 : Nat) (limb x.v 1 : Nat) (limb x.v 2 : Nat) (limb x.v 3 : Nat) _) (paidCons (fun _ => ⟨?_, ?_⟩) paidNil))
      · sidesk
      · simp only [wrap_inc pre.length (by omega)]
        exact rg_weak _ _ _ _ _ _ 3 rfl _ _ _ ⟨rfl, rfl, rfl, rfl, trivial⟩ rfl next
    by_cases hk7 : x.op = 7
    · have hx2 := hx
      rw [ndC, hk7] at hx2
      have u1 := hus x.a (by rw [usesN_eq, us_a _ _ (by omega)]; simp)
      have u2 := hus x.b (by rw [usesN_eq, us_a _ _ (by omega)]; simp)
      have hg := out_get out x.a (by omega)
      have hh := out_get out x.b (by omega)
      have hwr : IntKind.wrap .i64 ((out.getD x.a.toNat 0) + (out.getD x.b.toNat 0)) = (out.getD x.a.toNat 0) + (out.getD x.b.toNat 0) := wrapI _ (by omega) (by omega)
      by_cases e1 : 1000 < (out.getD x.a.toNat 0) + (out.getD x.b.toNat 0)
      · have hdv : degN out x = 1000 := by
          rw [degN_m out hk7, if_pos e1]
        rw [hdv] at next
        refine Ok.rnd (xgo_trim hm (F0.mono w) finB 60 _ _ _ _ _ _ (rg7t ad n cap pre.length (l.length + 1) (intsC out) (out.getD x.a.toNat 0) (out.getD x.b.toNat 0) x.a x.b (limb x.v 0 : Nat) (limb x.v 1 : Nat) (limb x.v 2 : Nat) (limb x.v 3 : Nat) _) (paidCons (fun _ => ⟨?_, ?_⟩) paidNil))
        · rw [hwr]; sidesk
        · simp only [wrap_inc pre.length (by omega)]
          exact rg_weak _ _ _ _ _ _ 3 rfl _ _ _ ⟨rfl, rfl, rfl, rfl, trivial⟩ rfl next
      have hdv : degN out x = (out.getD x.a.toNat 0) + (out.getD x.b.toNat 0) := by
        rw [degN_m out hk7, if_neg e1]
      rw [← hwr] at hdv
      rw [hdv] at next
      refine Ok.rnd (xgo_trim hm (F0.mono w) finB 60 _ _ _ _ _ _ (rg7f ad n cap pre.length (l.length + 1) (intsC out) (out.getD x.a.toNat 0) (out.getD x.b.toNat 0) x.a x.b (limb x.v 0 : Nat) (limb x.v 1 : Nat) (limb x.v 2 : Nat) (limb x.v 3 : Nat) _) (paidCons (fun _ => ⟨?_, ?_⟩) paidNil))
      · skip; sidesk
      · simp only [wrap_inc pre.length (by omega)]
        exact rg_weak _ _ _ _ _ _ 3 rfl _ _ _ ⟨rfl, rfl, rfl, rfl, trivial⟩ rfl next
    exfalso; omega
theorem rdegrees_ok (oa : Option Addr) (n cap : Nat) (all : List Nd) (hw : ∀ x ∈ all, x.v < top) (hn : all.length = n) (hb : n ≤ 4398046511104) (w : World) (ha : nodesC all = [] ∨ MCells (wmem w) oa (nodesC all)) :
    Calls Try.prog 42 [.slice oa n cap].toArray w (fun E w' => ∃ v, E = .returned v ∧ Res.ok w w' (.r 3 1 (degrees all).length (intsC (degrees all))) v ∧ Below w.heap.size w w') := by
  have hun := unNds_nodesC all hw
  have hmem : ∀ M, F0 w M → nodesC all = [] ∨ MCells (fun a => M a) oa (nodesC all) := fun _ hM => ha.imp id fun h => h.mono hM
  have hst : stB (nodesC all) = ordN 0 all := by rw [stB, hidQ_eq, hun]
  have hside : nodesC all = nodesC (unNds (nodesC all)) ∧ (unNds (nodesC all)).length = n ∧ n ≤ 4398046511104 := by rw [hun]; exact ⟨rfl, hn, hb⟩
  cases ho : ordN 0 all with
  | false =>
    rw [degrees, if_neg (by rw [ho]; simp)]
    refine con_end (calls_plain hm Try.func42 (by kernel_rfl) rfl rfl 60 _ _ (rgX oa n cap all) ⟨fun _ => ⟨?_, rfl⟩, trivial⟩)
    simp only [hold_cons, hold_nil, and_true, hst, ho]
    exact ⟨hmem, fun _ _ => hside, fun _ _ => rfl, fun _ _ => trivial⟩
  | true =>
    have hdl : (degsN [] all).length = all.length := by rw [degsN_length]; simp
    rw [degrees, if_pos ho, hdl]
    refine con_end (calls_of_ok (B := bodyOf Try.f42) (n := 75) Try.func42 (by kernel_rfl) rfl rfl (F := F0 w) (fun _ _ h => h) ?_)
    refine xgo_trim hm (F0.mono w) finB 60 _ _ _ _ _ _ (rgS oa n cap all) (paidCons (fun _ => ⟨?_, ?_⟩) paidNil)
    · simp only [hold_cons, hold_nil, and_true, hst, ho]
      exact ⟨hmem, fun _ _ => hside, fun _ _ => rfl⟩
    · exact ok_mono (st := stRg oa n cap 0 (intsC [])) rfl (Ok.loop (all.length + 2) (by kernel_rfl) (rg_loop oa n cap all hn hb ha ho (fun r => r = .r 3 1 all.length (intsC (degsN [] all))) all [] [] rfl rfl (by simp) rfl))
noncomputable def gRDeg : List RV → Option (Res × Prop)
  | [.r n cs] => some (.r 3 1 (dgN cs) (dgL cs), cs = nodesC (unNds cs) ∧ (unNds cs).length = n ∧ n ≤ 4398046511104 ∧ ∀ x ∈ unNds cs, x.v < top)
  | _ => none
theorem gRDeg_ok (rvs : List RV) (r : Res) (p : Prop) (vs : List Value) (w : World) (hg : gRDeg rvs = some (r, p)) (hp : p) (hv : RVs (wmem w) rvs vs) : Calls Try.prog 42 vs.toArray w (fun E w' => ∃ v, E = .returned v ∧ r.ok w w' v ∧ Below w.heap.size w w') := by
  unfold gRDeg at hg
  split at hg
  · simp only [Option.some.injEq, Prod.mk.injEq] at hg
    obtain ⟨rfl, rfl⟩ := hg
    obtain ⟨hc, hn, hb, hw⟩ := hp
    match vs, hv with
    | [x], ⟨⟨oa, cap, h1, h2⟩, _⟩ =>
      rw [h1, dgN, dgL, hide_eq]
      rw [hc] at h2
      exact rdegrees_ok oa _ cap _ hw hn hb w h2
  · cases hg
noncomputable def K15 : Con Try.prog := K14.add 42 gRDeg gRDeg_ok
end Go.Proofs.Ytpghmnpbfaichaa
